/- The law PackReads. -/
import Derived.Test.YtgmcflbbdpbkeaaDoorPkS
namespace Go.Proofs.YtgmcflbbdpbkeaaDoor
open Go Go.VX Go.RowKit
set_option linter.unusedVariables false
set_option linter.unusedSimpArgs false
set_option maxHeartbeats 20000000
set_option maxRecDepth 100000

theorem allK_len {S : List Int} {again : Bool} : ∀ (f : Nat) (l : List PV) (B : List Int) {m : List PV} {C : List Int}, byteL B → allK S again f l B = .ok (m, C) → m.length ≤ l.length + B.length
  | 0, l, B, m, C, hb, h => by simp [allK] at h
  | f + 1, l, B, m, C, hb, h => by
    rw [allK] at h
    split at h
    · split at h
      · cases h
      rename_i x D hv
      have hD : byteL D ∧ D.length < B.length := by
        unfold takeV at hv
        split at hv
        · split at hv
          · cases hv
          rename_i n C' hN
          simp only [Except.ok.injEq, Prod.mk.injEq] at hv
          obtain ⟨_, rfl⟩ := hv
          exact ⟨(takeN_byte hN hb).1, takeN_lt hN hb⟩
        · split at hv
          · cases hv
          rename_i n C' hN
          simp only [Except.ok.injEq, Prod.mk.injEq] at hv
          obtain ⟨_, rfl⟩ := hv
          exact ⟨(takeT_byte hN hb).1, (takeT_byte hN hb).2.1⟩
      have := allK_len f _ D hD.1 h
      simp at this
      omega
    · simp only [Except.ok.injEq, Prod.mk.injEq] at h
      obtain ⟨rfl, _⟩ := h
      omega
theorem readP_200 {f : ByteArray} {B : List Int} : (readP f B).1.length ≤ 200 := by
  unfold readP
  repeat' split
  all_goals first | (simp; done) | (simp only; omega)
theorem law_reads (f : ByteArray) (hf : f.size ≤ 140737488355328) (b : List Int) (hb : byteL b) (hbl : b.length ≤ 140737488355328) : VC P 4 [.str f, sB b] [] (fun r ob' => r = .bool true ∧ ob' = []) := by
  refine VC_of_vwp_k ent_4 Tryd.func4 rfl (by simp) fun R hR => ?_
  refine vwp_sq [0, 1] fun K1 hK1 => vwp_region hT ?_
  simp
  refine hK1 _ ?_
  try clear hK1 K1
  refine vwp_seq_k fun K2 hK2 => ?_
  refine vwp_sq [0, 1] fun K3 hK3 => vwp_region hT ?_
  simp
  refine vcall_k [] (awake_spec) ?_
  rintro r ob' ⟨rfl, rfl⟩
  simp
  refine hK3 _ ?_
  try clear hK3 K3
  refine vwp_cond (by first | rfl | (simp; rfl)) (fun h1 => ?_) fun h1 => ?_
  · simp -failIfUnchanged at h1; all_goals
   refine vwp_seq_k fun K4 hK4 => ?_
   simp at *
  · simp -failIfUnchanged at h1; all_goals
   refine vwp_skip ?_
   refine hK2 _ ?_
   try clear hK2 K2
   refine vwp_seq_k fun K5 hK5 => ?_
   refine vwp_sq [0, 1] fun K6 hK6 => vwp_region hT ?_
   simp
   refine hK6 _ ?_
   try clear hK6 K6
   refine vwp_cond (by first | rfl | (simp; rfl)) (fun h2 => ?_) fun h2 => ?_
   · simp -failIfUnchanged at h2; all_goals
    refine vwp_sq [] fun K7 hK7 => vwp_region hT ?_
    simp
    refine hK7 _ ?_
    try clear hK7 K7
    refine vwp_ret (hR _ _ ?_)
    exact ret_k [4] [] ([]) (.bool true) (⟨rfl, rfl⟩)
   · simp -failIfUnchanged at h2; all_goals
    have q := h2
    have hq : b.length ≤ 21000 ∧ f.size ≤ 40 := by omega
    obtain ⟨hb2, h40⟩ := hq
    have h200 := readP_200 (f := f) (B := b)
    have hr1 := read_spec f (by omega) b hb (by omega)
    have hr2 := refr_spec f (by omega) b hb (by omega)
    obtain ⟨m, hm⟩ : ∃ m, m = (readP f b).1 := ⟨_, rfl⟩
    obtain ⟨g, hg⟩ : ∃ g, g = (readP f b).2 := ⟨_, rfl⟩
    rw [← hm, ← hg] at hr1 hr2
    rw [← hm] at h200
    have htv : List.take (m.length * 2) (vcs m) = vcs m := List.take_of_length_le (by simp; omega)
    refine vwp_skip ?_
    refine hK5 _ ?_
    try clear hK5 K5
    refine vwp_sq [0, 1] fun K8 hK8 => vwp_region hT ?_
    simp
    refine vcall_k [] (hr1) ?_
    rintro r ob' ⟨rfl, rfl⟩
    simp
    refine hK8 _ ?_
    try clear hK8 K8
    refine vwp_sq [0, 1, 5, 6] fun K9 hK9 => vwp_region hT ?_
    simp
    refine vcall_k [] (hr2) ?_
    rintro r ob' ⟨rfl, rfl⟩
    simp
    refine hK9 _ ?_
    try clear hK9 K9
    refine vwp_sq [5, 6, 7, 8] fun K10 hK10 => vwp_region hT ?_
    simp
    refine vcall_freeze 0 (by rfl) (by intro c hc; rcases vcs_mem hc with ⟨n, rfl⟩ | ⟨n, rfl⟩ <;> rfl) ?_
    refine vcall_k [] (own_spec m (by omega)) ?_ (ha := by simp [htv])
    rintro r ob' ⟨rfl, rfl⟩
    simp
    refine vcall_freeze 1 (by rfl) (by intro c hc; rcases vcs_mem hc with ⟨n, rfl⟩ | ⟨n, rfl⟩ <;> rfl) ?_
    refine vcall_freeze 2 (by rfl) (by intro c hc; rcases vcs_mem hc with ⟨n, rfl⟩ | ⟨n, rfl⟩ <;> rfl) ?_
    refine vcall_k [] (sameV_spec m m (by omega) (by omega)) ?_ (ha := by simp [htv])
    rintro r ob' ⟨c2, rfl, hc2, rfl⟩
    obtain rfl : c2 = true := hc2.2 rfl
    simp
    refine hK10 _ ?_
    try clear hK10 K10
    refine vwp_ret (hR _ _ ?_)
    exact ret_k [4] [] ([]) (.bool true) (⟨rfl, rfl⟩)
end Go.Proofs.YtgmcflbbdpbkeaaDoor
