/- The law PackBack. -/
import Derived.Test.YtgmcflbbdpbkeaaDoorPkT0
namespace Go.Proofs.YtgmcflbbdpbkeaaDoor
open Go Go.VX Go.RowKit
set_option linter.unusedVariables false
set_option linter.unusedSimpArgs false
set_option maxHeartbeats 20000000
set_option maxRecDepth 100000
theorem law_back (f : ByteArray) (hf : f.size ≤ 140737488355328) (l : List PV) (hl : l.length ≤ 140737488355328) (ht : ∀ x ∈ l, x.t.size ≤ 140737488355328) (b : List Int) (hb : byteL b) (hbl : b.length ≤ 140737488355328) : VC P 5 [.str f, sV l, sB b] [] (fun r ob' => r = .bool true ∧ ob' = []) := by
  refine VC_of_vwp_k ent_5 Tryd.func5 rfl (by simp) fun R hR => ?_
  refine vwp_sq [0, 1, 2] fun K1 hK1 => vwp_region hT ?_
  simp
  refine hK1 _ ?_
  try clear hK1 K1
  refine vwp_seq_k fun K2 hK2 => ?_
  refine vwp_sq [0, 1, 2] fun K3 hK3 => vwp_region hT ?_
  simp
  refine vcall_k [] (awake_spec) ?_
  rintro r ob' ⟨rfl, rfl⟩
  simp
  refine hK3 _ ?_
  try clear hK3 K3
  refine vwp_cond (by first | rfl | (simp; rfl)) (fun h1 => ?_) fun h1 => ?_
  · simp -failIfUnchanged at h1; all_goals
   refine vwp_seq_k fun K4 hK4 => ?_
   simp at *
  · simp -failIfUnchanged at h1; all_goals
   refine vwp_skip ?_
   refine hK2 _ ?_
   try clear hK2 K2
   refine vwp_seq_k fun K5 hK5 => ?_
   refine vwp_sq [0, 1, 2] fun K6 hK6 => vwp_region hT ?_
   simp
   refine vcall_k [] (large_spec f hf l hl ht) ?_
   rintro r ob' ⟨c, rfl, rfl, hc⟩
   simp
   refine hK6 _ ?_
   try clear hK6 K6
   refine vwp_cond (by first | rfl | (simp; rfl)) (fun h2 => ?_) fun h2 => ?_
   · simp -failIfUnchanged at h2; all_goals
    refine vwp_sq [] fun K7 hK7 => vwp_region hT ?_
    simp
    refine hK7 _ ?_
    try clear hK7 K7
    refine vwp_ret (hR _ _ ?_)
    exact ret_k [6] [] ([]) (.bool true) (⟨rfl, rfl⟩)
   · simp -failIfUnchanged at h2; all_goals
    have q := h2
    have hcf : c = false := by revert q; cases c <;> simp
    subst hcf
    have hb2 : b.length ≤ 21000 := by omega
    obtain ⟨h300, hsum, h40⟩ := hc rfl
    have htt := sumT_small hsum
    have hwl := writeP_len (f := f) h300
    have hwb := writeP_byte (f := f) (l := l)
    have hws := write_spec f (by omega) l (by omega) htt
    obtain ⟨W, hW⟩ : ∃ W, W = (writeP f l).1 := ⟨_, rfl⟩
    obtain ⟨e, he⟩ : ∃ e, e = (writeP f l).2 := ⟨_, rfl⟩
    have hwp : writeP f l = (W, e) := by rw [hW, he]
    rw [← hW] at hwl hwb
    rw [← hW, ← he] at hws
    refine vwp_skip ?_
    refine hK5 _ ?_
    try clear hK5 K5
    refine vwp_sq [0, 1, 2] fun K8 hK8 => vwp_region hT ?_
    simp
    refine vcall_k [] (hws) ?_
    rintro r ob' ⟨rfl, rfl⟩
    simp
    refine hK8 _ ?_
    try clear hK8 K8
    refine vwp_cut_s (fun _ : Unit => ⟨[(0, .str f), (2, sB b)], []⟩) (fun _ => True) (fun K9 hK9 => ?_) ?_
    · refine vwp_sq [0, 1, 2, 7, 8] fun K10 hK10 => vwp_region hT ?_
      simp
      refine hK10 _ ?_
      try clear hK10 K10
      refine vwp_cond (by first | rfl | (simp; rfl)) (fun h3 => ?_) fun h3 => ?_
      · simp -failIfUnchanged at h3; all_goals
       have q := h3
       have he0 : e = 0 := by omega
       have hW2 : W.length ≤ 20000 := by omega
       rw [he0] at hwp
       have hrd := write_read hwp hW2
       have hrs := read_spec f (by omega) W hwb hwl
       rw [hrd] at hrs
       dsimp only at hrs
       have htb : List.take W.length (bts W) = bts W := take_bts _
       have htv : List.take (l.length * 2) (vcs l) = vcs l := List.take_of_length_le (by simp; omega)
       refine vwp_sq [0, 1, 2, 7] fun K11 hK11 => vwp_region hT ?_
       simp
       refine vcall_freeze 0 (by rfl) (by intro c hc; obtain ⟨z, _, rfl⟩ := List.mem_map.1 hc; rfl) ?_
       refine vcall_k [] (hrs) ?_ (ha := by simp [htb])
       rintro r ob' ⟨rfl, rfl⟩
       simp
       refine hK11 _ ?_
       try clear hK11 K11
       refine vwp_sq [0, 1, 2, 9, 10] fun K12 hK12 => vwp_region hT ?_
       simp
       refine vcall_k [] (own_spec l (by omega)) ?_
       rintro r ob' ⟨rfl, rfl⟩
       simp
       refine vcall_freeze 1 (by rfl) (by intro c hc; rcases vcs_mem hc with ⟨n, rfl⟩ | ⟨n, rfl⟩ <;> rfl) ?_
       refine vcall_k [] (own_spec l (by omega)) ?_ (ha := by simp [htv])
       rintro r ob' ⟨rfl, rfl⟩
       simp
       refine vcall_freeze 2 (by rfl) (by intro c hc; rcases vcs_mem hc with ⟨n, rfl⟩ | ⟨n, rfl⟩ <;> rfl) ?_
       refine vcall_freeze 3 (by rfl) (by intro c hc; rcases vcs_mem hc with ⟨n, rfl⟩ | ⟨n, rfl⟩ <;> rfl) ?_
       refine vcall_k [] (sameV_spec l l (by omega) (by omega)) ?_ (ha := by simp [htv])
       rintro r ob' ⟨c2, rfl, hc2, rfl⟩
       obtain rfl : c2 = true := hc2.2 rfl
       simp
       refine hK12 _ ?_
       try clear hK12 K12
       refine vwp_cond (by first | rfl | (simp; rfl)) (fun h4 => ?_) fun h4 => ?_
       · simp -failIfUnchanged at h4; all_goals
        refine vwp_seq_k fun K13 hK13 => ?_
        simp at *
       · simp -failIfUnchanged at h4; all_goals
        refine vwp_skip ?_
        exact hK9 () _ (Gh.to_k [0, 2] []) trivial
      · simp -failIfUnchanged at h3; all_goals
       refine vwp_skip ?_
       exact hK9 () _ (Gh.to_k [0, 2] []) trivial
    · rintro _ _
      have hrs2 := read_spec f (by omega) b hb (by omega)
      obtain ⟨m, hm⟩ : ∃ m, m = (readP f b).1 := ⟨_, rfl⟩
      obtain ⟨g, hg⟩ : ∃ g, g = (readP f b).2 := ⟨_, rfl⟩
      have hrp : readP f b = (m, g) := by rw [hm, hg]
      rw [← hm, ← hg] at hrs2
      refine vwp_sq [0, 2] fun K14 hK14 => vwp_region hT ?_
      simp
      refine vcall_k [] (hrs2) ?_
      rintro r ob' ⟨rfl, rfl⟩
      simp
      refine hK14 _ ?_
      try clear hK14 K14
      refine vwp_seq_k fun K15 hK15 => ?_
      refine vwp_sq [0, 2, 11, 12] fun K16 hK16 => vwp_region hT ?_
      simp
      refine hK16 _ ?_
      try clear hK16 K16
      refine vwp_cond (by first | rfl | (simp; rfl)) (fun h5 => ?_) fun h5 => ?_
      · simp -failIfUnchanged at h5; all_goals
       have q := h5
       have hm0 : m = [] := by rw [hm]; exact readP_e (by rw [← hg]; simpa using q)
       subst hm0
       refine vwp_sq [11] fun K17 hK17 => vwp_region hT ?_
       simp
       refine hK17 _ ?_
       try clear hK17 K17
       refine vwp_ret (hR _ _ ?_)
       exact ret_k [6] [] ([]) (.bool true) (⟨rfl, rfl⟩)
      · simp -failIfUnchanged at h5; all_goals
       have q := h5
       have hg0 : g = 0 := by simpa using q
       rw [hg0] at hrp
       obtain ⟨hwm, h200⟩ := read_write hb hrp
       have hsz := write_size hwm
       have hws2 := write_spec f (by omega) m (by omega) (fun x hx => by have := hsz x hx; omega)
       rw [hwm] at hws2
       dsimp only at hws2
       have htb : List.take b.length (bts b) = bts b := take_bts _
       have htv : List.take (m.length * 2) (vcs m) = vcs m := List.take_of_length_le (by simp; omega)
       refine vwp_skip ?_
       refine hK15 _ ?_
       try clear hK15 K15
       refine vwp_sq [0, 2, 11] fun K18 hK18 => vwp_region hT ?_
       simp
       refine vcall_freeze 0 (by rfl) (by intro c hc; rcases vcs_mem hc with ⟨n, rfl⟩ | ⟨n, rfl⟩ <;> rfl) ?_
       refine vcall_k [] (hws2) ?_ (ha := by simp [htv])
       rintro r ob' ⟨rfl, rfl⟩
       simp
       refine hK18 _ ?_
       try clear hK18 K18
       refine vwp_sq [2, 13, 14] fun K19 hK19 => vwp_region hT ?_
       simp
       refine vcall_freeze 1 (by rfl) (by intro c hc; obtain ⟨z, _, rfl⟩ := List.mem_map.1 hc; rfl) ?_
       refine vcall_k [] (bytes_spec b b (by omega) (by omega)) ?_ (ha := by simp [htb])
       rintro r ob' ⟨c2, rfl, hc2, rfl⟩
       obtain rfl : c2 = true := hc2.2 rfl
       simp
       refine hK19 _ ?_
       try clear hK19 K19
       refine vwp_ret (hR _ _ ?_)
       exact ret_k [6] [] ([]) (.bool true) (⟨rfl, rfl⟩)
end Go.Proofs.YtgmcflbbdpbkeaaDoor
