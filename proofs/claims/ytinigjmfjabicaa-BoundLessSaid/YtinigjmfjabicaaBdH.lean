/- What is fixed of certificates: the walk. -/
import Derived.Test.YtinigjmfjabicaaBdG
namespace Go.Proofs.Ytinigjmfjabicaa
open Go Go.VX Go.RowKit
set_option linter.unusedVariables false
set_option linter.unusedSimpArgs false
set_option maxHeartbeats 20000000
set_option maxRecDepth 100000

theorem nilw2 {k : Nat} {x : V} {ob : List Ob} {Q : V → List Ob → Prop} (h : VC P k [x, .fs 0 []] ob Q) : VC P k [x, .nils] ob Q := by
  refine h.weak fun E vals h => ?_
  obtain ⟨u, r, e1, a1, h1, u2, r2, e2, a2, h2, h3⟩ := h
  exact ⟨u, r, e1, a1, h1, u2, r2, e2, trivial, h2.nil_fs, h3⟩
def w0 : Wd := ⟨2, [0, 5, 6, 0], [0, 0, 0, 0], [⟨7, 0, 1, 1, 1, 0, 0, 0⟩], [⟨3, 1, 1, 0, 0, 4, 2⟩]⟩
def c0 : Ct := ⟨[7], [5], 6, 2, 4, 26⟩
theorem srt_one (x : Int) : srt [x] = [x] := by simp [srt]
theorem srt_nil : srt [] = [] := by simp [srt]
theorem w0_e : w0.e = 0 := by decide +kernel
theorem mk_7 : makeP w0 [7] = (some c0, 0) := by unfold makeP; rw [if_neg (by rw [w0_e]; simp), if_neg (by decide), srt_one]; kernel_rfl
theorem mk_0 : makeP w0 [] = (some ⟨[], [], 0, 0, 0, 0⟩, 0) := by unfold makeP; rw [if_neg (by rw [w0_e]; simp), if_neg (by decide), srt_nil]; rfl
theorem mk_77 : makeP w0 [7, 7] = (none, 6) := by unfold makeP; rw [if_neg (by rw [w0_e]; simp), if_pos (by decide)]
theorem mk_8 : makeP w0 [8] = (none, 5) := by unfold makeP; rw [if_neg (by rw [w0_e]; simp), if_neg (by decide), srt_one]; kernel_rfl
theorem ho_0 : holdsP w0 c0 = true := by unfold holdsP; rw [show c0.ids = [7] from rfl, mk_7]; decide +kernel
theorem ho_1 : holdsP w0 ⟨[], [], 0, 0, 0, 0⟩ = true := by unfold holdsP; rw [mk_0]; decide +kernel
theorem ho_2 : holdsP w0 ⟨[7], [5], 6, 2, 4, 27⟩ = false := by unfold holdsP; rw [mk_7]; decide +kernel
theorem awake12  : VC P 11 [] [] (fun r ob' => r = .bool true ∧ ob' = []) := by
  refine VC_of_vwp_k ent_11 Try.func11 rfl (by simp) fun R hR => ?_
  refine vwp_sq [] fun K1 hK1 => vwp_region hT ?_
  simp [zerosV, spl]
  refine hK1 _ ?_
  try clear hK1 K1
  refine vwp_sq [] fun K2 hK2 => vwp_region hT ?_
  simp [zerosV, spl]
  repeat refine ⟨by first | assumption | omega | (intros; omega), ?_⟩
  refine hK2 _ ?_
  try clear hK2 K2
  refine vwp_sq [1] fun K3 hK3 => vwp_region hT ?_
  simp [zerosV, spl, c0]
  repeat refine ⟨by first | assumption | omega | (intros; omega), ?_⟩
  refine vcall_z [] (make_spec w0 (by decide) (by decide) [7] (by decide)) (by rw [mk_7]; rintro r ob' ⟨rfl, rfl⟩; simp [c0]) ?_ (ha := by simp [w0, rowsV])
  rw [mk_7]
  rintro r ob' ⟨rfl, rfl⟩
  simp [zerosV, spl, c0]
  repeat refine ⟨by first | assumption | omega | (intros; omega), ?_⟩
  refine hK3 _ ?_
  try clear hK3 K3
  refine vwp_sq [1, 2, 3] fun K4 hK4 => vwp_region hT ?_
  simp [zerosV, spl]
  repeat refine ⟨by first | assumption | omega | (intros; omega), ?_⟩
  refine vcall_z [] (nilw2 (make_spec w0 (by decide) (by decide) [] (by decide))) (by rw [mk_0]; rintro r ob' ⟨rfl, rfl⟩; simp [c0]) ?_ (ha := by simp [w0, rowsV])
  rw [mk_0]
  rintro r ob' ⟨rfl, rfl⟩
  simp [zerosV, spl]
  repeat refine ⟨by first | assumption | omega | (intros; omega), ?_⟩
  refine hK4 _ ?_
  try clear hK4 K4
  refine vwp_sq [1, 2, 3, 4, 5] fun K5 hK5 => vwp_region hT ?_
  simp [zerosV, spl]
  repeat refine ⟨by first | assumption | omega | (intros; omega), ?_⟩
  refine vcall_z [] (make_spec w0 (by decide) (by decide) [7, 7] (by decide)) (by rw [mk_77]; rintro r ob' ⟨rfl, rfl⟩; simp [c0]) ?_ (ha := by simp [w0, rowsV])
  rw [mk_77]
  rintro r ob' ⟨rfl, rfl⟩
  simp [zerosV, spl]
  repeat refine ⟨by first | assumption | omega | (intros; omega), ?_⟩
  refine hK5 _ ?_
  try clear hK5 K5
  refine vwp_sq [1, 2, 3, 4, 5, 7] fun K6 hK6 => vwp_region hT ?_
  simp [zerosV, spl]
  repeat refine ⟨by first | assumption | omega | (intros; omega), ?_⟩
  refine vcall_z [] (make_spec w0 (by decide) (by decide) [8] (by decide)) (by rw [mk_8]; rintro r ob' ⟨rfl, rfl⟩; simp [c0]) ?_ (ha := by simp [w0, rowsV])
  rw [mk_8]
  rintro r ob' ⟨rfl, rfl⟩
  simp [zerosV, spl]
  repeat refine ⟨by first | assumption | omega | (intros; omega), ?_⟩
  refine hK6 _ ?_
  try clear hK6 K6
  refine vwp_sq [1, 2, 3, 4, 5, 7, 9] fun K7 hK7 => vwp_region hT ?_
  simp [zerosV, spl]
  repeat refine ⟨by first | assumption | omega | (intros; omega), ?_⟩
  refine hK7 _ ?_
  try clear hK7 K7
  refine vwp_sq [1, 2, 3, 4, 5, 7, 9, 10] fun K8 hK8 => vwp_region hT ?_
  simp [zerosV, spl, show IntKind.i64.wrap 27 = 27 from rfl]
  repeat refine ⟨by first | assumption | omega | (intros; omega), ?_⟩
  refine hK8 _ ?_
  try clear hK8 K8
  refine vwp_sq [1, 2, 3, 4, 5, 7, 9, 10] fun K9 hK9 => vwp_region hT ?_
  simp [zerosV, spl]
  refine vcall_z [] (csame_spec c0 (by decide) (by decide)) (by rintro r ob' ⟨rfl, rfl⟩; simp) ?_ (ha := by simp [c0])
  rintro r ob' ⟨rfl, rfl⟩
  simp [zerosV, spl]
  refine vcall_z [] (holds_spec w0 (by decide) (by decide) (c0) (by decide) (by decide)) (by rw [ho_0]; rintro r ob' ⟨rfl, rfl⟩; simp) ?_ (ha := by simp [w0, c0, rowsV])
  rw [ho_0]
  rintro r ob' ⟨rfl, rfl⟩
  simp [zerosV, spl]
  refine vcall_z [] (holds_spec w0 (by decide) (by decide) (⟨[], [], 0, 0, 0, 0⟩) (by decide) (by decide)) (by rw [ho_1]; rintro r ob' ⟨rfl, rfl⟩; simp) ?_ (ha := by simp [w0, c0, rowsV])
  rw [ho_1]
  rintro r ob' ⟨rfl, rfl⟩
  simp [zerosV, spl]
  refine vcall_z [] (holds_spec w0 (by decide) (by decide) (⟨[7], [5], 6, 2, 4, 27⟩) (by decide) (by decide)) (by rw [ho_2]; rintro r ob' ⟨rfl, rfl⟩; simp) ?_ (ha := by simp [w0, c0, rowsV])
  rw [ho_2]
  rintro r ob' ⟨rfl, rfl⟩
  simp [zerosV, spl]
  refine hK9 _ ?_
  try clear hK9 K9
  refine vwp_ret (hR _ _ ?_)
  exact ret_k [0] [] ([]) (.bool true) (⟨rfl, rfl⟩)
end Go.Proofs.Ytinigjmfjabicaa
