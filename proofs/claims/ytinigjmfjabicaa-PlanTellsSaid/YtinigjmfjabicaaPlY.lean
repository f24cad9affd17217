/- What is fixed of plans: the walk. -/
import Derived.Test.YtinigjmfjabicaaPlX
namespace Go.Proofs.Ytinigjmfjabicaa
open Go Go.VX Go.RowKit
set_option linter.unusedVariables false
set_option linter.unusedSimpArgs false
set_option maxHeartbeats 20000000
set_option maxRecDepth 100000

theorem agg_nil2 {E : Env} {v : Value} (h : VRep E (.agg [.nils, .nils]) v) : VRep E (.agg [.fs 0 [], .fs 0 []]) v := by
  obtain ⟨a, h1, u, r, e1, o1, h2, u2, r2, e2, o2, h3, h4⟩ := h
  exact ⟨a, h1, u, r, e1, rfl, h2.nil_fs, u2, r2, e2, rfl, h3.nil_fs, h4⟩
theorem nilagg2 {k : Nat} {x : V} {ob : List Ob} {Q : V → List Ob → Prop} (h : VC P k [x, .agg [.fs 0 [], .fs 0 []]] ob Q) : VC P k [x, .agg [.nils, .nils]] ob Q := by
  refine h.weak fun E vals h => ?_
  obtain ⟨u, r, e1, a1, h1, u2, r2, e2, a2, h2, h3⟩ := h
  exact ⟨u, r, e1, a1, h1, u2, r2, e2, trivial, agg_nil2 h2, h3⟩
theorem awake9  : VC P 20 [] [] (fun r ob' => r = .bool true ∧ ob' = []) := by
  refine VC_of_vwp_k ent_20 Try.func20 rfl (by simp) fun R hR => ?_
  refine vwp_sq [] fun K1 hK1 => vwp_region hT ?_
  simp [zerosV, spl]
  refine hK1 _ ?_
  try clear hK1 K1
  refine vwp_sq [] fun K2 hK2 => vwp_region hT ?_
  simp [zerosV, spl]
  repeat refine ⟨by first | assumption | omega | (intros; omega), ?_⟩
  refine hK2 _ ?_
  try clear hK2 K2
  refine vwp_sq [1] fun K3 hK3 => vwp_region hT ?_
  simp [zerosV, spl]
  repeat refine ⟨by first | assumption | omega | (intros; omega), ?_⟩
  refine hK3 _ ?_
  try clear hK3 K3
  refine vwp_gh ((Gh.freeze 5 rfl (by simp)).trans (Gh.cellFs 5 6 1 rfl rfl rfl rfl)) ?_
  simp
  refine vwp_sq [1, 2] fun K4 hK4 => vwp_region hT ?_
  simp [zerosV, spl]
  repeat refine ⟨by first | assumption | omega | (intros; omega), ?_⟩
  refine hK4 _ ?_
  try clear hK4 K4
  refine vwp_gh (Gh.nilFs 10 0 rfl rfl) ?_
  simp
  refine vwp_sq [1, 2, 3] fun K5 hK5 => vwp_region hT ?_
  simp [zerosV, spl]
  refine vcall_z [] (check_spec w9 (by decide) (by decide) p9 few_p9.rs few_p9.cat few_p9.un) (by rw [ck_p9]; rintro r ob' ⟨rfl, rfl⟩; simp) ?_ (ha := by simp [w9, p9, n9, rowsV])
  rw [ck_p9]
  rintro r ob' ⟨rfl, rfl⟩
  simp [zerosV, spl]
  refine hK5 _ ?_
  try clear hK5 K5
  refine vwp_sq [1, 2, 3, 4, 5] fun K6 hK6 => vwp_region hT ?_
  simp [zerosV, spl]
  refine vcall_z [] (check_spec w9 (by decide) (by decide) n9 few_n9.rs few_n9.cat few_n9.un) (by rw [ck_n9]; rintro r ob' ⟨rfl, rfl⟩; simp) ?_ (ha := by simp [w9, p9, n9, rowsV])
  rw [ck_n9]
  rintro r ob' ⟨rfl, rfl⟩
  simp [zerosV, spl]
  refine hK6 _ ?_
  try clear hK6 K6
  refine vwp_sq [1, 2, 3, 4, 5, 6, 7] fun K7 hK7 => vwp_region hT ?_
  simp [zerosV, spl]
  refine vcall_z [] (nilagg2 (check_spec w9 (by decide) (by decide) ⟨[], []⟩ few_z9.rs few_z9.cat few_z9.un)) (by rw [ck_z9]; rintro r ob' ⟨rfl, rfl⟩; simp) ?_ (ha := by simp [w9, p9, n9, rowsV])
  rw [ck_z9]
  rintro r ob' ⟨rfl, rfl⟩
  simp [zerosV, spl]
  refine hK7 _ ?_
  try clear hK7 K7
  refine vwp_gh ((((Gh.freeze 6 rfl (by simp)).trans (Gh.cellFs 6 8 0 rfl rfl rfl rfl)).trans (Gh.freeze 7 rfl (by simp))).trans (Gh.cellFs 7 8 1 rfl rfl rfl rfl)) ?_
  simp
  refine vwp_sq [1, 2, 3, 4, 5, 6, 7, 9] fun K8 hK8 => vwp_region hT ?_
  simp [zerosV, spl]
  repeat refine ⟨by first | assumption | omega | (intros; omega), ?_⟩
  refine vcall_k [] (copyf_spec p9 few_p9) ?_ (ha := by simp [p9, rowsV]) (hok := by simp)
  rintro r ob' ⟨rfl, rfl⟩
  simp [zerosV, spl]
  repeat refine ⟨by first | assumption | omega | (intros; omega), ?_⟩
  refine hK8 _ ?_
  try clear hK8 K8
  refine vwp_sq [1, 2, 3, 4, 5, 6, 7, 9, 10] fun K9 hK9 => vwp_region hT ?_
  simp [zerosV, spl]
  refine vcall_z [] (less_pspec w9 (by decide) (by decide) p9 n9 few_p9 few_n9) (by rw [le_pn]; rintro r ob' ⟨rfl, rfl⟩; simp) ?_ (ha := by simp [w9, p9, n9, rowsV])
  rw [le_pn]
  rintro r ob' ⟨rfl, rfl⟩
  simp [zerosV, spl]
  refine vcall_z [] (less_pspec w9 (by decide) (by decide) n9 p9 few_n9 few_p9) (by rw [le_np]; rintro r ob' ⟨rfl, rfl⟩; simp) ?_ (ha := by simp [w9, p9, n9, rowsV])
  rw [le_np]
  rintro r ob' ⟨rfl, rfl⟩
  simp [zerosV, spl]
  refine vcall_z [] (served_spec p9 few_p9.rs few_p9.cat) (by rw [serv_p9, cat_p9]; rintro r ob' ⟨rfl, rfl⟩; simp) ?_ (ha := by simp [w9, p9, n9, rowsV])
  rw [serv_p9, cat_p9]
  rintro r ob' ⟨rfl, rfl⟩
  simp [zerosV, spl]
  refine vcall_z [] (same_spec [7] [7] (by decide) (by decide)) (by rintro r ob' ⟨rfl, rfl⟩; simp) ?_ (ha := by simp [w9, p9, n9, rowsV])
  rintro r ob' ⟨rfl, rfl⟩
  simp [zerosV, spl]
  refine vcall_z [] (rest_spec w9 (by decide) n9 few_n9.rs few_n9.cat) (by rw [rest_n9]; rintro r ob' ⟨rfl, rfl⟩; simp) ?_ (ha := by simp [w9, p9, n9, rowsV])
  rw [rest_n9]
  rintro r ob' ⟨rfl, rfl⟩
  simp [zerosV, spl]
  refine vcall_z [] (same_spec [7, 8] [7, 8] (by decide) (by decide)) (by rintro r ob' ⟨rfl, rfl⟩; simp) ?_ (ha := by simp [w9, p9, n9, rowsV])
  rintro r ob' ⟨rfl, rfl⟩
  simp [zerosV, spl]
  refine vcall_z [] (pequal_spec p9 few_p9) (by rintro r ob' ⟨rfl, rfl⟩; simp) ?_ (ha := by simp [w9, p9, n9, rowsV])
  rintro r ob' ⟨rfl, rfl⟩
  simp [zerosV, spl]
  refine hK9 _ ?_
  try clear hK9 K9
  refine vwp_ret (hR _ _ ?_)
  exact ret_k [0] [] ([]) (.bool true) (⟨rfl, rfl⟩)
end Go.Proofs.Ytinigjmfjabicaa
