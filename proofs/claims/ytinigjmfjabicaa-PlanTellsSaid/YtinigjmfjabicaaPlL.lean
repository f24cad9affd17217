/- A trip: a visit: the walk. -/
import Derived.Test.YtinigjmfjabicaaPlK
namespace Go.Proofs.Ytinigjmfjabicaa
open Go Go.VX Go.RowKit
set_option linter.unusedVariables false
set_option linter.unusedSimpArgs false
set_option maxHeartbeats 20000000
set_option maxRecDepth 100000

structure Rn where (nd tm ds : Int) (vs : List Vs)
abbrev Rn.ob (s : Rn) : List Ob := runO s.nd s.tm s.ds s.vs
/-- When a visit begins. -/
def Rn.beg (n : Int) (T : List Int) (s : Rn) (o : Od) : Int := if s.tm + lg n T s.nd o.nd < o.fr then o.fr else s.tm + lg n T s.nd o.nd
def Rn.step (n : Int) (D T : List Int) (s : Rn) (o : Od) : Rn := ⟨o.nd, s.beg n T o + o.se, s.ds + lg n D s.nd o.nd, s.vs ++ [⟨o.id, s.tm + lg n T s.nd o.nd, s.beg n T o, s.beg n T o + o.se⟩]⟩
/-- What holds of a trip's state behind so many visits. -/
structure Rn.fine (n : Int) (s : Rn) (k : Nat) : Prop where
  nd : 0 ≤ s.nd ∧ s.nd < n
  tm : 0 ≤ s.tm ∧ s.tm ≤ (k + 1) * 3000000
  ds : 0 ≤ s.ds ∧ s.ds ≤ k * 1000000
  vs : s.vs.length = k
theorem ordB_iff {n : Int} {o : Od} : ordB n o = true ↔ (1 ≤ o.id ∧ o.id ≤ 1000000) ∧ (0 ≤ o.ow ∧ o.ow ≤ 31) ∧ (1 ≤ o.nd ∧ o.nd < n) ∧ (1 ≤ o.we ∧ o.we ≤ 1000000) ∧ (1 ≤ o.vo ∧ o.vo ≤ 1000000) ∧ (0 ≤ o.fr ∧ o.fr ≤ o.to) ∧ (0 ≤ o.to ∧ o.to ≤ 1000000) ∧ 0 ≤ o.se ∧ o.se ≤ 10000 := by
  unfold ordB; rw [decide_eq_true_eq]; omega
theorem trkB_iff {t : Tk} : trkB t = true ↔ (1 ≤ t.id ∧ t.id ≤ 1000000) ∧ (1 ≤ t.we ∧ t.we ≤ 1000000) ∧ (1 ≤ t.vo ∧ t.vo ≤ 1000000) ∧ (0 ≤ t.st ∧ t.st ≤ t.en) ∧ (0 ≤ t.en ∧ t.en ≤ 1000000) ∧ (0 ≤ t.fx ∧ t.fx ≤ 1000000) ∧ 0 ≤ t.ra ∧ t.ra ≤ 1000 := by
  unfold trkB; rw [decide_eq_true_eq]; omega
theorem Rn.fine.step {n : Int} {D T : List Int} (hA : areaB n D T = true) {s : Rn} {k : Nat} (h : s.fine n k) {o : Od} (ho : ordB n o = true) : (s.step n D T o).fine n (k + 1) ∧ (0 ≤ lg n T s.nd o.nd ∧ lg n T s.nd o.nd ≤ 1000000) ∧ (0 ≤ lg n D s.nd o.nd ∧ lg n D s.nd o.nd ≤ 1000000) ∧ 0 ≤ s.beg n T o ∧ s.beg n T o ≤ (k + 1) * 3000000 + 1000000 := by
  obtain ⟨a1, a2, a3, a4, a5, a6, a7, a8⟩ := ordB_iff.1 ho
  obtain ⟨_, _, _, _, _, _, _, _, _, _, _, _, _, _, bD, bT⟩ := lg_get hA h.nd (t := o.nd) ⟨by omega, a3.2⟩
  have h1 := h.tm
  have h2 := h.ds
  have hb : 0 ≤ s.beg n T o ∧ s.beg n T o ≤ (k + 1) * 3000000 + 1000000 := by unfold Rn.beg; split <;> omega
  refine ⟨⟨by simp only [Rn.step]; omega, by simp only [Rn.step]; omega, by simp only [Rn.step]; omega, by simp [Rn.step, h.vs]⟩, ⟨bT.1, bT.2.1⟩, ⟨bD.1, bD.2.1⟩, hb⟩
theorem visit_spec {n : Int} {D T : List Int} (hA : areaB n D T = true) (s : Rn) (k : Nat) (hfi : s.fine n k) (hk : k ≤ 1000) (o : Od) (ho : ordB n o = true) : VC P 67 [.ptr 0 4 0, .agg (arC n D T), .agg (Od.cells o)] s.ob (fun r ob' => r = .bool (decide (s.beg n T o ≤ o.to)) ∧ ob' = (s.step n D T o).ob) := by
  obtain ⟨hfs, bT, bD, bB⟩ := hfi.step hA ho
  have hnd : 0 ≤ o.nd ∧ o.nd < n := by have := ordB_iff.1 ho; omega
  have ht1 := hfi.tm
  have hd1 := hfi.ds
  have hse := (ordB_iff.1 ho).2.2.2.2.2.2.2
  refine VC_of_vwp_k ent_67 Try.func67 rfl (by simp) fun R hR => ?_
  refine vwp_sq [0, 1, 2] fun K1 hK1 => vwp_region hT ?_
  simp
  refine hK1 _ ?_
  try clear hK1 K1
  refine vwp_sq [0, 4, 5] fun K2 hK2 => vwp_storm hT hm [.pure, .win 0 0, .win 0 0, .win 0 0, .win 0 0, .win 0 0, .mv] [[], [0], [0, 1], [], [], [4], [0, 1, 2, 3, 4, 5]] (by kernel_rfl) ?_
  simp
  refine ⟨.tup [], [.live [.int .i64 o.nd, .int .i64 (s.tm + lg n T s.nd o.nd), .int .i64 (s.ds + lg n D s.nd o.nd), .sl 1 (s.vs.length * 4) 4 0 s.vs.length], .live (rowsV s.vs), .live (arC n D T), .live (Od.cells o)], fun sl => ?_, ?_⟩
  · refine vcall_k [0, 1] (walk_spec hA s.nd s.tm s.ds o.nd s.vs hfi.nd hnd (by omega) (by omega)) ?_
    rintro r ob' ⟨rfl, rfl⟩
    simp
  simp
  refine hK2 _ ?_
  try clear hK2 K2
  have hbeg : (if s.tm + lg n T s.nd o.nd < o.fr then o.fr else s.tm + lg n T s.nd o.nd) = s.beg n T o := rfl
  obtain ⟨bg, hbg⟩ : ∃ bg, bg = s.beg n T o := ⟨_, rfl⟩
  rw [← hbg] at hbeg bB
  refine vwp_sq [0, 5] fun K3 hK3 => vwp_still hT hm (by kernel_rfl) ?_
  simp [hbeg]
  repeat refine ⟨by first | assumption | omega | (intros; omega), ?_⟩
  refine hK3 _ ?_
  try clear hK3 K3
  have w2 : IntKind.i64.wrap (bg + o.se) = bg + o.se := w64 (by omega) (by omega)
  have hll := lenVs s.vs
  have hvl := hfi.vs
  refine vwp_sq [0, 5, 7] fun K4 hK4 => vwp_storm hT hm [.pure, .pure, .win 0 0, .win 0 0, .win 0 0, .win 0 0, .win 0 0, .pure, .win 0 0, .win 0 0, .win 0 0, .win 0 0, .pure, .pure, .win 0 0, .win 0 0, .win 0 0, .win 0 0, .lit, .mv, .win 1 1, .win 1 1, .mv] [[], [], [1], [1, 2], [1, 2, 3], [], [5], [], [7], [7, 8], [7, 8, 9], [7, 8, 9, 10], [], [], [], [14], [13, 14, 15], [5, 6, 7, 8, 9, 10, 11, 12, 13, 14, 15, 16], [5, 6, 7, 8, 9, 10, 11, 12, 13, 14, 15, 16, 17], [1, 2, 3, 4, 5, 6, 7, 8, 9, 10, 11, 12, 13, 14, 15, 16, 17, 18], [0, 1, 2, 3, 4, 5, 6, 7, 8, 9, 10, 11, 12, 13, 14, 15, 16, 17, 18, 19], [0, 1, 2, 3, 4, 5, 6, 7, 8, 9, 10, 11, 12, 13, 14, 15, 16, 17, 18, 19, 20], [0, 1, 2, 3, 4, 5, 6, 7, 8, 9, 10, 11, 12, 13, 14, 15, 16, 17, 18, 19, 20, 21]] (by kernel_rfl) ?_
  simp [w2, hll, zerosV, spl]
  repeat refine ⟨by first | assumption | omega | (intros; omega), ?_⟩
  refine hK4 _ ?_
  try clear hK4 K4
  refine vwp_sq [0, 5, 7] fun K5 hK5 => vwp_region hT ?_
  simp [w2]
  repeat refine ⟨by first | assumption | omega | (intros; omega), ?_⟩
  refine hK5 _ ?_
  try clear hK5 K5
  refine vwp_sq [5, 7] fun K6 hK6 => vwp_region hT ?_
  simp
  refine hK6 _ ?_
  try clear hK6 K6
  refine vwp_ret (hR _ _ ?_)
  exact ret_k [6] [0, 1] ((s.step n D T o).ob) (.bool (decide (bg ≤ o.to))) (⟨by rw [hbg], rfl⟩) (hh := by simp [Rn.step, ← hbg, rowsV_snoc])
end Go.Proofs.Ytinigjmfjabicaa
