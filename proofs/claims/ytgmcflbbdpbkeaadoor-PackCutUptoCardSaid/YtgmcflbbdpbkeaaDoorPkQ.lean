/- The law PackWrites. -/
import Derived.Test.YtgmcflbbdpbkeaaDoorPkP
namespace Go.Proofs.YtgmcflbbdpbkeaaDoor
open Go Go.VX Go.RowKit
set_option linter.unusedVariables false
set_option linter.unusedSimpArgs false
set_option maxHeartbeats 20000000
set_option maxRecDepth 100000

theorem writeP_len {f : ByteArray} {l : List PV} (hl : l.length ≤ 300) : (writeP f l).1.length < 1099511627776 := by
  have key : ∀ (S : List Int) (l : List PV) (i : Nat), fitsV S i l = true → (bytesP S i l).length ≤ l.length * 1010 := by
    intro S l
    induction l with
    | nil => intro i _; simp [bytesP]
    | cons x l ih =>
      intro i h
      simp only [fitsV, Bool.and_eq_true] at h
      have h1 := valB_len h.1
      have h2 := ih (i + 1) h.2
      simp only [bytesP, List.length_append, List.length_cons]
      omega
  unfold writeP
  split
  · simp
  split
  · simp
  split
  · simp
  rename_i h3
  split
  · simp
  · have := key _ _ 0 (by simpa using h3)
    simp only
    omega

theorem sumT_small {l : List PV} (h : sumT l ≤ 21000) : ∀ x ∈ l, x.t.size < 1099511627776 := by
  intro x hx
  have : x.t.size ≤ sumT l := by
    clear h
    induction l with
    | nil => cases hx
    | cons y l ih =>
      rw [show sumT (y :: l) = y.t.size + sumT l from by simp [sumT]]
      rcases List.mem_cons.1 hx with rfl | hx
      · omega
      · have := ih hx; omega
  omega
theorem law_writes (f : ByteArray) (hf : f.size ≤ 140737488355328) (l : List PV) (hl : l.length ≤ 140737488355328) (ht : ∀ x ∈ l, x.t.size ≤ 140737488355328) (n : Int) (t : ByteArray) : VC P 3 [.str f, sV l, .int .i64 n, .str t] [] (fun r ob' => r = .bool true ∧ ob' = []) := by
  refine VC_of_vwp_k ent_3 Tryd.func3 rfl (by simp) fun R hR => ?_
  refine vwp_sq [0, 1, 2, 3] fun K1 hK1 => vwp_region hT ?_
  simp
  refine hK1 _ ?_
  try clear hK1 K1
  refine vwp_seq_k fun K2 hK2 => ?_
  refine vwp_sq [0, 1, 2, 3] fun K3 hK3 => vwp_region hT ?_
  simp
  refine vcall_k [] (awake_spec) ?_
  rintro r ob' ⟨rfl, rfl⟩
  simp
  refine hK3 _ ?_
  try clear hK3 K3
  refine vwp_cond (by first | rfl | (simp; rfl)) (fun h1 => ?_) fun h1 => ?_
  · simp -failIfUnchanged at h1; all_goals
   refine vwp_seq_k fun K4 hK4 => ?_
   simp at *
  · simp -failIfUnchanged at h1; all_goals
   refine vwp_skip ?_
   refine hK2 _ ?_
   try clear hK2 K2
   refine vwp_seq_k fun K5 hK5 => ?_
   refine vwp_sq [0, 1, 2, 3] fun K6 hK6 => vwp_region hT ?_
   simp
   refine vcall_k [] (large_spec f hf l hl ht) ?_
   rintro r ob' ⟨c, rfl, rfl, hc⟩
   simp
   refine hK6 _ ?_
   try clear hK6 K6
   refine vwp_cond (by first | rfl | (simp; rfl)) (fun h2 => ?_) fun h2 => ?_
   · simp -failIfUnchanged at h2; all_goals
    refine vwp_sq [] fun K7 hK7 => vwp_region hT ?_
    simp
    refine hK7 _ ?_
    try clear hK7 K7
    refine vwp_ret (hR _ _ ?_)
    exact ret_k [8] [] ([]) (.bool true) (⟨rfl, rfl⟩)
   · simp -failIfUnchanged at h2; all_goals
    have hcf : c = false := by simpa using h2
    obtain ⟨h300, hsum, h40⟩ := hc hcf
    have htt := sumT_small hsum
    have hwl := writeP_len (f := f) h300
    refine vwp_skip ?_
    refine hK5 _ ?_
    try clear hK5 K5
    refine vwp_sq [0, 1, 2, 3] fun K8 hK8 => vwp_region hT ?_
    simp
    refine vcall_k [] (write_spec f (by omega) l (by omega) htt) ?_
    rintro r ob' ⟨rfl, rfl⟩
    simp
    refine hK8 _ ?_
    try clear hK8 K8
    have htv : List.take (l.length * 2) (vcs l) = vcs l := List.take_of_length_le (by simp; omega)
    refine vwp_sq [0, 1, 2, 3, 9, 10] fun K9 hK9 => vwp_region hT ?_
    simp
    refine vcall_k [] (own_spec l (by omega)) ?_
    rintro r ob' ⟨rfl, rfl⟩
    simp
    refine vcall_freeze 1 (by rfl) (by intro c hc; rcases vcs_mem hc with ⟨n, rfl⟩ | ⟨n, rfl⟩ <;> rfl) ?_
    refine vcall_k [] (refw_spec f (by omega) l (by omega) htt) ?_ (ha := by simp [htv])
    rintro r ob' ⟨rfl, rfl⟩
    simp
    refine hK9 _ ?_
    try clear hK9 K9
    have ht1 : List.take (writeP f l).1.length (bts (writeP f l).1) = bts (writeP f l).1 := take_bts _
    refine vwp_sq [2, 3, 9, 10, 11, 12] fun K10 hK10 => vwp_region hT ?_
    simp [ht1]
    refine vcall_freeze 0 (by rfl) (by intro c hc; obtain ⟨z, _, rfl⟩ := List.mem_map.1 hc; rfl) ?_
    refine vcall_freeze 2 (by rfl) (by intro c hc; obtain ⟨z, _, rfl⟩ := List.mem_map.1 hc; rfl) ?_
    refine vcall_k [] (bytes_spec (writeP f l).1 (writeP f l).1 hwl hwl) ?_
    rintro r ob' ⟨c, rfl, hc, rfl⟩
    obtain rfl : c = true := hc.2 rfl
    simp [ht1]
    refine vcall_k [] (Number_spec n) ?_
    rintro r ob' ⟨rfl, rfl⟩
    simp [ht1]
    refine vcall_k [] (Text_spec t) ?_
    rintro r ob' ⟨rfl, rfl⟩
    simp [ht1]
    refine hK10 _ ?_
    try clear hK10 K10
    refine vwp_ret (hR _ _ ?_)
    exact ret_k [8] [] ([]) (.bool true) (⟨rfl, rfl⟩)
end Go.Proofs.YtgmcflbbdpbkeaaDoor
