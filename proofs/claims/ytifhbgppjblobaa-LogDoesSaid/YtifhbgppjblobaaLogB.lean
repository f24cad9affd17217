/- Numbers as bytes; blank rows. -/
import Derived.Test.YtifhbgppjblobaaLogA
namespace Go.Proofs.Ytifhbgppjblobaa
open Go Go.VX Go.RowKit
set_option linter.unusedVariables false
set_option linter.unusedSimpArgs false
set_option maxHeartbeats 20000000
set_option maxRecDepth 100000
theorem blank1_spec (c : Int) : VC P 73 [.int .u8 c] [] (fun r ob' => r = .bool (!(c == 0)) ∧ ob' = []) := by
  refine VC_of_vwp_k ent_73 Try.func73 rfl (by simp) fun R hR => ?_
  refine vwp_sq [0] fun K1 hK1 => vwp_region hT ?_
  simp
  refine hK1 _ ?_
  try clear hK1 K1
  refine vwp_sq [0] fun K2 hK2 => vwp_region hT ?_
  simp
  refine hK2 _ ?_
  try clear hK2 K2
  refine vwp_ret (hR _ _ ?_)
  exact ret_k [2] [] ([]) (.bool (!(c == 0))) (⟨rfl, rfl⟩) (hr := by simp [bne])
theorem indexFunc_blank (l : List Int) (hl : l.length < 9223372036854775807)  : VC P 78 [sB l, .fn 73 []] [] (fun r ob' => r = .int .i64 (oI (l.findIdx? (fun c => !(c == 0)))) ∧ ob' = []) := by
  refine VC_of_vwp_k ent_78 Try.func78 rfl (by simp) fun R hR => ?_
  refine vwp_sq [0, 1] fun K1 hK1 => vwp_region hT ?_
  simp
  refine hK1 _ ?_
  try clear hK1 K1
  refine vwp_seq_k fun K2 hK2 => ?_
  refine vwp_sq [0, 1] fun K3 hK3 => vwp_region hT ?_
  simp
  refine hK3 _ ?_
  try clear hK3 K3
  refine vwp_block ?_
  refine vwp_loop_s (fun i : Nat => ⟨[(0, sB l), (1, .fn 73 []), (7, .int .i64 l.length), (8, .int .i64 (i : Int))], []⟩) (fun i => i ≤ l.length ∧ ∀ j y, j < i → l[j]? = some y → (fun c => !(c == 0)) y = false) (fun i => l.length - i) (0) (Gh.to_k [0, 1, 7, 8] []) (⟨by omega, fun j y h => by omega⟩) ?_
  rintro i ⟨hie, hno⟩
  intro K4 hK4
  refine vwp_sq [0, 1, 7, 8] fun K5 hK5 => vwp_region hT ?_
  simp
  refine hK5 _ ?_
  try clear hK5 K5
  refine vwp_seq_k fun K6 hK6 => ?_
  refine vwp_cond (by first | rfl | (simp; rfl)) (fun h1 => ?_) fun h1 => ?_
  · simp -failIfUnchanged at h1; all_goals
   refine vwp_skip ?_
   refine hK6 _ ?_
   try clear hK6 K6
   refine vwp_seq_k fun K7 hK7 => ?_
   refine vwp_block ?_
   refine vwp_sq [0, 1, 7, 8] fun K8 hK8 => vwp_region hT ?_
   simp
   refine hK8 _ ?_
   try clear hK8 K8
   obtain ⟨x, hx⟩ := getI (l := l) (i := i) (by omega)
   refine vwp_sq [0, 1, 5, 7, 8] fun K9 hK9 => vwp_region hT ?_
   simp [hx]
   repeat refine ⟨by first | assumption | omega | (intros; omega), ?_⟩
   refine vcall_k [] (blank1_spec x) ?_
   rintro r ob' ⟨rfl, rfl⟩
   simp [hx]
   repeat refine ⟨by first | assumption | omega | (intros; omega), ?_⟩
   refine hK9 _ ?_
   try clear hK9 K9
   refine vwp_cond (by first | rfl | (simp; rfl)) (fun h2 => ?_) fun h2 => ?_
   · simp -failIfUnchanged at h2; all_goals
    refine vwp_sq [5] fun K10 hK10 => vwp_region hT ?_
    simp
    refine hK10 _ ?_
    try clear hK10 K10
    refine vwp_ret (hR _ _ ?_)
    rw [findIdx_some (p := fun c => !(c == 0)) hx (by simpa using h2) hno]
    exact ret_k [4] [] ([]) (.int .i64 (i : Int)) (⟨rfl, rfl⟩)
   · simp -failIfUnchanged at h2; all_goals
    refine vwp_skip ?_
    refine hK7 _ ?_
    try clear hK7 K7
    have w1 : IntKind.i64.wrap ((i : Int) + 1) = i + 1 := w64 (by omega) (by omega)
    refine vwp_live [0, 1, 7, 8] (vwp_region hT ?_)
    simp [w1]
    exact hK4 (i + 1) _ (Gh.to_k [0, 1, 7, 8] []) (⟨by omega, fun j y hj hy => by
      by_cases e : j = i
      · subst e; rw [hx] at hy; cases hy; simpa using h2
      · exact hno j y (by omega) hy⟩) (by omega)
  · simp -failIfUnchanged at h1; all_goals
   refine vwp_exit ?_
   simp only [inBlk, thenQ, if_true]
   refine hK2 _ ?_
   try clear hK2 K2
   refine vwp_sq [] fun K11 hK11 => vwp_region hT ?_
   simp
   refine hK11 _ ?_
   try clear hK11 K11
   refine vwp_ret (hR _ _ ?_)
   rw [findIdx_none (p := fun c => !(c == 0)) fun j y hj hy => hno j y (by omega) hy]
   exact ret_k [4] [] ([]) (.int .i64 (-1)) (⟨rfl, rfl⟩)

theorem oI_ge {α : Type} (l : List α) (p : α → Bool) : decide (0 ≤ oI (l.findIdx? p)) = l.any p := by
  rcases h : l.findIdx? p with _ | i
  · rw [List.findIdx?_eq_none_iff] at h
    have : l.any p = false := by simpa using h
    rw [this]; rfl
  · have : l.any p = true := by
      obtain ⟨h1, h2, _⟩ := List.findIdx?_eq_some_iff_getElem.1 h
      exact List.any_eq_true.2 ⟨_, List.getElem_mem h1, h2⟩
    rw [this]
    simp [oI]
theorem containsFunc_blank (l : List Int) (hl : l.length < 9223372036854775807)  : VC P 72 [sB l, .fn 73 []] [] (fun r ob' => r = .bool (l.any (fun c => !(c == 0))) ∧ ob' = []) := by
  refine VC_of_vwp_k ent_72 Try.func72 rfl (by simp) fun R hR => ?_
  refine vwp_sq [0, 1] fun K1 hK1 => vwp_region hT ?_
  simp
  refine hK1 _ ?_
  try clear hK1 K1
  refine vwp_sq [0, 1] fun K2 hK2 => vwp_region hT ?_
  simp
  refine vcall_k [] (indexFunc_blank l hl ) ?_
  rintro r ob' ⟨rfl, rfl⟩
  simp
  refine hK2 _ ?_
  try clear hK2 K2
  refine vwp_ret (hR _ _ ?_)
  exact ret_k [4] [] ([]) (.bool (l.any (fun c => !(c == 0)))) (⟨rfl, rfl⟩) (hr := by simp [← oI_ge])

def blankB (l : List Int) : Bool := l.all fun c => c == 0
theorem blankB_any (l : List Int) : (!l.any fun c => !(c == 0)) = blankB l := by
  unfold blankB
  induction l with
  | nil => rfl
  | cons c l ih => simp only [List.any_cons, List.all_cons, Bool.not_or, Bool.not_not, ih]
theorem blank_spec (l : List Int) (hl : l.length < 9223372036854775807) : VC P 60 [sB l] [] (fun r ob' => r = .bool (blankB l) ∧ ob' = []) := by
  refine VC_of_vwp_k ent_60 Try.func60 rfl (by simp) fun R hR => ?_
  refine vwp_sq [0] fun K1 hK1 => vwp_region hT ?_
  simp
  refine hK1 _ ?_
  try clear hK1 K1
  refine vwp_sq [0] fun K2 hK2 => vwp_region hT ?_
  simp
  refine vcall_k [] (containsFunc_blank l hl) ?_
  rintro r ob' ⟨rfl, rfl⟩
  simp
  refine hK2 _ ?_
  try clear hK2 K2
  refine vwp_ret (hR _ _ ?_)
  exact ret_k [2] [] ([]) (.bool (blankB l)) (⟨rfl, rfl⟩) (hr := by simp [← blankB_any])
end Go.Proofs.Ytifhbgppjblobaa
