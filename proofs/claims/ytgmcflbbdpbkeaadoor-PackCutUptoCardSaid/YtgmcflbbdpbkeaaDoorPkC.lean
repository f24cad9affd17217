/- Texts, trimmed; a form's letters. -/
import Derived.Test.YtgmcflbbdpbkeaaDoorPkB
namespace Go.Proofs.YtgmcflbbdpbkeaaDoor
open Go Go.VX Go.RowKit
set_option linter.unusedVariables false
set_option linter.unusedSimpArgs false
set_option maxHeartbeats 20000000
set_option maxRecDepth 100000

theorem ext_size (s : ByteArray) (i j : Nat) : (s.extract i j).size = min j s.size - i := by
  rw [← sL_len, sL_extract, List.length_drop, List.length_take, sL_len]
theorem ext_0 {s : ByteArray} {m k : Nat} (h : k ≤ m) : (s.extract 0 m).extract 0 k = s.extract 0 k := sL_inj (by
  rw [sL_extract, sL_extract, sL_extract]; simp [List.take_take, h])
theorem ext_all (s : ByteArray) : s.extract 0 s.size = s := sL_inj (by rw [sL_extract, ← sL_len]; simp)
theorem ext_1 {s : ByteArray} {i : Nat} : (s.extract i s.size).extract 1 (s.extract i s.size).size = s.extract (i + 1) s.size := sL_inj (by
  rw [sL_extract, sL_extract, sL_extract, ext_size, ← sL_len]
  rw [List.take_length, List.take_of_length_le (by simp), List.drop_drop])
theorem ext_get {s : ByteArray} {i j k : Nat} (h : i + k < j) : (sL (s.extract i j))[k]? = (sL s)[i + k]? := by
  rw [sL_extract, List.getElem?_drop, List.getElem?_take, if_pos h]
theorem trimRight_spec (s : ByteArray) (cs : List Int) (hs : s.size < 1099511627776) : VC P 38 [.str s, .ptr 0 256 0] [.live (setV cs)] (fun r ob' => (∃ m, m ≤ s.size ∧ r = .str (s.extract 0 m) ∧ (∀ (j : Nat) c, m ≤ j → (sL s)[j]? = some c → cs.contains c = true) ∧ (m = 0 ∨ ∃ c, (sL s)[m - 1]? = some c ∧ cs.contains c = false)) ∧ ob' = [.live (setV cs)]) := by
  refine VC_of_vwp_k ent_38 Tryd.func38 rfl (by simp) fun R hR => ?_
  refine vwp_sq [0, 1] fun K1 hK1 => vwp_region hT ?_
  simp
  refine hK1 _ ?_
  try clear hK1 K1
  refine vwp_seq_k fun K2 hK2 => ?_
  refine vwp_block ?_
  refine vwp_loop_s (fun m : Nat => ⟨[(0, .str (s.extract 0 m)), (1, .ptr 0 256 0)], [.live (setV cs)]⟩) (fun m => m ≤ s.size ∧ ∀ (j : Nat) c, m ≤ j → (sL s)[j]? = some c → cs.contains c = true) (fun m => m) (s.size) (Gh.to_k [0, 1] [0] (he := by simp [ext_all])) (⟨Nat.le_refl _, fun j c h1 h2 => by have := (List.getElem?_eq_some_iff.1 h2).1; rw [sL_len] at this; omega⟩) ?_
  rintro m ⟨hm, hall⟩
  intro K3 hK3
  refine vwp_seq_k fun K4 hK4 => ?_
  have hsz : (s.extract 0 m).size = m := by rw [ext_size]; omega
  refine vwp_sq [0, 1] fun K5 hK5 => vwp_region hT ?_
  simp [hsz]
  refine hK5 _ ?_
  try clear hK5 K5
  refine vwp_cond (by first | rfl | (simp; rfl)) (fun h1 => ?_) fun h1 => ?_
  · simp -failIfUnchanged at h1; all_goals
   have q := h1
   have hm0 : 0 < m := by omega
   refine vwp_skip ?_
   refine hK4 _ ?_
   try clear hK4 K4
   refine vwp_block ?_
   refine vwp_seq_k fun K6 hK6 => ?_
   have hsl := sL_len s
   obtain ⟨c, hc⟩ := getI (l := sL s) (i := m - 1) (by omega)
   have hcb := sL_byte s c (List.mem_of_getElem? hc)
   obtain ⟨m1, hm1⟩ : ∃ m1, m1 = m - 1 := ⟨_, rfl⟩
   have w1 : IntKind.i64.wrap ((m : Int) - 1) = (m1 : Int) := (w64 (by omega) (by omega)).trans (by omega)
   have hg : strAt (s.extract 0 m) m1 = c := sL_get (by rw [ext_get (by omega), Nat.zero_add, hm1]; exact hc)
   have hcs := contains_spec cs c hcb
   refine vwp_sq [0, 1] fun K7 hK7 => vwp_region hT ?_
   simp [hsz, w1, hg]
   repeat refine ⟨by first | assumption | omega | (intros; omega), ?_⟩
   refine vcall_k [0] (hcs) ?_
   rintro r ob' ⟨rfl, rfl⟩
   simp [hsz, w1, hg]
   repeat refine ⟨by first | assumption | omega | (intros; omega), ?_⟩
   refine hK7 _ ?_
   try clear hK7 K7
   refine vwp_cond (by first | rfl | (simp; rfl)) (fun h2 => ?_) fun h2 => ?_
   · simp -failIfUnchanged at h2; all_goals
    have q2 := h2
    have hin : cs.contains c = false := by simpa using q2
    refine vwp_exit ?_
    simp only [inBlk, thenQ, if_true]
    refine hK2 _ ?_
    try clear hK2 K2
    refine vwp_sq [0] fun K8 hK8 => vwp_region hT ?_
    simp
    refine hK8 _ ?_
    try clear hK8 K8
    refine vwp_ret (hR _ _ ?_)
    exact ret_k [4] [0] [.live (setV cs)] (.str (s.extract 0 m)) ⟨⟨m, hm, rfl, hall, .inr ⟨c, hc, hin⟩⟩, rfl⟩
   · simp -failIfUnchanged at h2; all_goals
    have q2 := h2
    have hin : cs.contains c = true := by simpa using q2
    refine vwp_skip ?_
    refine hK6 _ ?_
    try clear hK6 K6
    have he0 : (s.extract 0 m).extract 0 m1 = s.extract 0 (m - 1) := by rw [ext_0 (by omega), hm1]
    refine vwp_live [0, 1] (vwp_region hT ?_)
    simp [hsz, w1, he0]
    repeat refine ⟨by first | assumption | omega | (intros; omega), ?_⟩
    exact hK3 (m - 1) _ (Gh.to_k [0, 1] [0]) (⟨by omega, fun j c2 h1 h2 => by
      by_cases e : j = m - 1
      · subst e; rw [hc] at h2; cases h2; exact hin
      · exact hall j c2 (by omega) h2⟩) (by omega)
  · simp -failIfUnchanged at h1; all_goals
   have q := h1
   refine vwp_exit ?_
   simp only [inBlk, thenQ, if_true]
   refine hK2 _ ?_
   try clear hK2 K2
   refine vwp_sq [0] fun K9 hK9 => vwp_region hT ?_
   simp
   refine hK9 _ ?_
   try clear hK9 K9
   refine vwp_ret (hR _ _ ?_)
   exact ret_k [4] [0] [.live (setV cs)] (.str (s.extract 0 m)) ⟨⟨m, hm, rfl, hall, .inl (by omega)⟩, rfl⟩
theorem trimLeft_spec (s : ByteArray) (cs : List Int) (hs : s.size < 1099511627776) : VC P 37 [.str s, .ptr 0 256 0] [.live (setV cs)] (fun r ob' => (∃ m, m ≤ s.size ∧ r = .str (s.extract m s.size) ∧ (∀ (j : Nat) c, j < m → (sL s)[j]? = some c → cs.contains c = true) ∧ (m = s.size ∨ ∃ c, (sL s)[m]? = some c ∧ cs.contains c = false)) ∧ ob' = [.live (setV cs)]) := by
  refine VC_of_vwp_k ent_37 Tryd.func37 rfl (by simp) fun R hR => ?_
  refine vwp_sq [0, 1] fun K1 hK1 => vwp_region hT ?_
  simp
  refine hK1 _ ?_
  try clear hK1 K1
  refine vwp_seq_k fun K2 hK2 => ?_
  refine vwp_block ?_
  refine vwp_loop_s (fun m : Nat => ⟨[(0, .str (s.extract m s.size)), (1, .ptr 0 256 0)], [.live (setV cs)]⟩) (fun m => m ≤ s.size ∧ ∀ (j : Nat) c, j < m → (sL s)[j]? = some c → cs.contains c = true) (fun m => s.size - m) (0) (Gh.to_k [0, 1] [0] (he := by simp [ext_all])) (⟨by omega, fun j c h1 h2 => by omega⟩) ?_
  rintro m ⟨hm, hall⟩
  intro K3 hK3
  refine vwp_seq_k fun K4 hK4 => ?_
  have hsz : (s.extract m s.size).size = s.size - m := by rw [ext_size]; omega
  refine vwp_sq [0, 1] fun K5 hK5 => vwp_region hT ?_
  simp [hsz]
  refine hK5 _ ?_
  try clear hK5 K5
  refine vwp_cond (by first | rfl | (simp; rfl)) (fun h1 => ?_) fun h1 => ?_
  · simp -failIfUnchanged at h1; all_goals
   have q := h1
   have hm0 : m < s.size := by omega
   refine vwp_skip ?_
   refine hK4 _ ?_
   try clear hK4 K4
   refine vwp_block ?_
   refine vwp_seq_k fun K6 hK6 => ?_
   have hsl := sL_len s
   obtain ⟨c, hc⟩ := getI (l := sL s) (i := m) (by omega)
   have hcb := sL_byte s c (List.mem_of_getElem? hc)
   have hg : strAt (s.extract m s.size) 0 = c := sL_get (by rw [ext_get (by omega), Nat.add_zero]; exact hc)
   have hcs := contains_spec cs c hcb
   refine vwp_sq [0, 1] fun K7 hK7 => vwp_region hT ?_
   simp [hsz, hg]
   repeat refine ⟨by first | assumption | omega | (intros; omega), ?_⟩
   refine vcall_k [0] (hcs) ?_
   rintro r ob' ⟨rfl, rfl⟩
   simp [hsz, hg]
   repeat refine ⟨by first | assumption | omega | (intros; omega), ?_⟩
   refine hK7 _ ?_
   try clear hK7 K7
   refine vwp_cond (by first | rfl | (simp; rfl)) (fun h2 => ?_) fun h2 => ?_
   · simp -failIfUnchanged at h2; all_goals
    have q2 := h2
    have hin : cs.contains c = false := by simpa using q2
    refine vwp_exit ?_
    simp only [inBlk, thenQ, if_true]
    refine hK2 _ ?_
    try clear hK2 K2
    refine vwp_sq [0] fun K8 hK8 => vwp_region hT ?_
    simp
    refine hK8 _ ?_
    try clear hK8 K8
    refine vwp_ret (hR _ _ ?_)
    exact ret_k [4] [0] [.live (setV cs)] (.str (s.extract m s.size)) ⟨⟨m, hm, rfl, hall, .inr ⟨c, hc, hin⟩⟩, rfl⟩
   · simp -failIfUnchanged at h2; all_goals
    have q2 := h2
    have hin : cs.contains c = true := by simpa using q2
    refine vwp_skip ?_
    refine hK6 _ ?_
    try clear hK6 K6
    have he0 := ext_1 (s := s) (i := m)
    rw [hsz] at he0
    refine vwp_live [0, 1] (vwp_region hT ?_)
    simp [hsz, he0]
    repeat refine ⟨by first | assumption | omega | (intros; omega), ?_⟩
    exact hK3 (m + 1) _ (Gh.to_k [0, 1] [0]) (⟨by omega, fun j c2 h1 h2 => by
      by_cases e : j = m
      · subst e; rw [hc] at h2; cases h2; exact hin
      · exact hall j c2 (by omega) h2⟩) (by omega)
  · simp -failIfUnchanged at h1; all_goals
   have q := h1
   refine vwp_exit ?_
   simp only [inBlk, thenQ, if_true]
   refine hK2 _ ?_
   try clear hK2 K2
   refine vwp_sq [0] fun K9 hK9 => vwp_region hT ?_
   simp
   refine hK9 _ ?_
   try clear hK9 K9
   refine vwp_ret (hR _ _ ?_)
   exact ret_k [4] [0] [.live (setV cs)] (.str (s.extract m s.size)) ⟨⟨m, hm, rfl, hall, .inl (by omega)⟩, rfl⟩
end Go.Proofs.YtgmcflbbdpbkeaaDoor
