/- All orders, in turn. -/
import Derived.Test.YthjpaongoflgiaaShap9
namespace Go.Proofs.Ythjpaongoflgiaa
open Go Go.VX Go.RowKit
set_option linter.unusedVariables false
set_option linter.unusedSimpArgs false
set_option maxHeartbeats 20000000
set_option maxRecDepth 100000

/-- All orders of what is left, behind what is laid. -/
def layL : Nat → List Int → List Int → List (List Int)
  | 0, l, _ => [l]
  | k + 1, l, rest => (List.range (k + 1)).flatMap fun i => layL k (l ++ [rest.getD i 0]) (rest.eraseIdx i)
theorem layL_len : ∀ (k : Nat) (l rest : List Int), (layL k l rest).length = fct k
  | 0, l, rest => rfl
  | k + 1, l, rest => by
    have : ∀ n, ((List.range n).flatMap fun i => layL k (l ++ [rest.getD i 0]) (rest.eraseIdx i)).length = n * fct k := by
      intro n
      induction n with
      | zero => simp
      | succ n ih => rw [List.range_succ, List.flatMap_append, List.length_append, ih]; simp [layL_len k, Nat.succ_mul]
    rw [layL, this, fct_succ]
def blk (k : Nat) (l rest : List Int) (i : Nat) : List (List Int) := (List.range i).flatMap fun i => layL k (l ++ [rest.getD i 0]) (rest.eraseIdx i)
theorem blk_succ (k : Nat) (l rest : List Int) (i : Nat) : blk k l rest (i + 1) = blk k l rest i ++ layL k (l ++ [rest.getD i 0]) (rest.eraseIdx i) := by
  simp [blk, List.range_succ, List.flatMap_append]
theorem blk_all (k : Nat) (l rest : List Int) : layL (k + 1) l rest = blk k l rest (k + 1) := rfl
theorem blk_len (k : Nat) (l rest : List Int) (i : Nat) : (blk k l rest i).length = i * fct k := by
  induction i with
  | zero => simp [blk]
  | succ i ih => rw [blk_succ, List.length_append, ih, layL_len, Nat.succ_mul]
@[simp] theorem rn1_sI (f : Nat → Nat) : rn1 f ∘ sI = sI := rfl
abbrev cell0 (n : Nat) : Ob := .live [.sl 2 n 1 0 n]
abbrev cell1 : Ob := .live [.fn 51 [.ptr 0 1 0, .ptr 1 1 0]]
theorem lay0_spec (l : List Int) (os : List (List Int)) (ho : os.length < 1099511627776) : VC P 51 [sI l, .fs 0 [], .ptr 0 1 0, .ptr 1 1 0] [cell0 os.length, cell1, .live (os.map sI)] (fun r ob' => r = .tup [] ∧ ob' = [cell0 (os ++ layL 0 l []).length, cell1, .live ((os ++ layL 0 l []).map sI)]) := by
  refine VC_of_vwp_k ent_51 Try.func51 rfl (by simp) fun R hR => ?_
  refine vwp_seq_k fun K1 hK1 => ?_
  refine vwp_sq [0, 1, 2, 3] fun K2 hK2 => vwp_region hT ?_
  simp
  refine hK2 _ ?_
  try clear hK2 K2
  refine vwp_cond (by first | rfl | (simp; rfl)) (fun h1 => ?_) fun h1 => ?_
  · simp -failIfUnchanged at h1; all_goals
   refine vwp_live [0, 1, 2, 3] (vwp_region hT ?_)
   simp
   repeat refine ⟨by first | assumption | omega | (intros; omega), ?_⟩
   refine hK1 _ ?_
   try clear hK1 K1
   refine vwp_sq [0, 1, 3] fun K3 hK3 => vwp_region hT ?_
   simp
   refine hK3 _ ?_
   try clear hK3 K3
   refine vwp_block ?_
   refine vwp_loop_s (fun i : Nat => ⟨[(0, sI l), (1, .fs 0 []), (3, .ptr 1 1 0), (15, .fs 0 []), (16, .int .i64 0), (17, .int .i64 (i : Int))], [cell0 (os ++ [l]).length, cell1, .live ((os ++ [l]).map sI)]⟩) (fun i => i = 0) (fun i => 0 - i) (0) (Gh.to_k [0, 1, 3, 15, 16, 17] [0, 1, 2]) (rfl) ?_
   rintro i rfl
   intro K4 hK4
   refine vwp_sq [0, 1, 3, 15, 16, 17] fun K5 hK5 => vwp_region hT ?_
   simp
   refine hK5 _ ?_
   try clear hK5 K5
   refine vwp_seq_k fun K6 hK6 => ?_
   refine vwp_cond (by first | rfl | (simp; rfl)) (fun h2 => ?_) fun h2 => ?_
   · simp -failIfUnchanged at h2; all_goals
    refine vwp_skip ?_
    refine hK6 _ ?_
    try clear hK6 K6
    refine vwp_seq_k fun K7 hK7 => ?_
    refine vwp_block ?_
    refine vwp_seq_k fun K8 hK8 => ?_
    skip
   · simp -failIfUnchanged at h2; all_goals
    refine vwp_exit ?_
    simp only [inBlk, thenQ, if_true]
    refine hR _ _ ?_
    exact norm_k [] [0, 1, 2] ([cell0 (os ++ [l]).length, cell1, .live ((os ++ [l]).map sI)]) (.tup []) (⟨rfl, rfl⟩)
  · simp -failIfUnchanged at h1; all_goals
   refine vwp_skip ?_
   refine hK1 _ ?_
   try clear hK1 K1
   refine vwp_sq [0, 1, 3] fun K9 hK9 => vwp_region hT ?_
   simp
   refine hK9 _ ?_
   try clear hK9 K9
   refine vwp_block ?_
   refine vwp_loop_s (fun i : Nat => ⟨[(0, sI l), (1, .fs 0 []), (3, .ptr 1 1 0), (15, .fs 0 []), (16, .int .i64 0), (17, .int .i64 (i : Int))], [cell0 (os ++ [l]).length, cell1, .live ((os ++ [l]).map sI)]⟩) (fun i => i = 0) (fun i => 0 - i) (0) (Gh.to_k [0, 1, 3, 15, 16, 17] [0, 1, 2]) (rfl) ?_
   rintro i rfl
   intro K10 hK10
   refine vwp_sq [0, 1, 3, 15, 16, 17] fun K11 hK11 => vwp_region hT ?_
   simp
   refine hK11 _ ?_
   try clear hK11 K11
   refine vwp_seq_k fun K12 hK12 => ?_
   refine vwp_cond (by first | rfl | (simp; rfl)) (fun h3 => ?_) fun h3 => ?_
   · simp -failIfUnchanged at h3; all_goals
    refine vwp_skip ?_
    refine hK12 _ ?_
    try clear hK12 K12
    refine vwp_seq_k fun K13 hK13 => ?_
    refine vwp_block ?_
    refine vwp_seq_k fun K14 hK14 => ?_
    skip
   · simp -failIfUnchanged at h3; all_goals
    refine vwp_exit ?_
    simp only [inBlk, thenQ, if_true]
    refine hR _ _ ?_
    exact norm_k [] [0, 1, 2] ([cell0 (os ++ [l]).length, cell1, .live ((os ++ [l]).map sI)]) (.tup []) (⟨rfl, rfl⟩)

theorem nil_set {os : List (List Int)} : (os.map sI ++ [V.nils]).set os.length (.fs 0 []) = os.map sI ++ [V.fs 0 []] := by
  simp [List.set_append]
theorem lay0_nil (os : List (List Int)) (ho : os.length < 1099511627776) : VC P 51 [.nils, .fs 0 [], .ptr 0 1 0, .ptr 1 1 0] [cell0 os.length, cell1, .live (os.map sI)] (fun r ob' => r = .tup [] ∧ ob' = [cell0 (os ++ layL 0 [] []).length, cell1, .live ((os ++ layL 0 [] []).map sI)]) := by
  refine VC_of_vwp_k ent_51 Try.func51 rfl (by simp) fun R hR => ?_
  refine vwp_seq_k fun K1 hK1 => ?_
  refine vwp_sq [0, 1, 2, 3] fun K2 hK2 => vwp_region hT ?_
  simp
  refine hK2 _ ?_
  try clear hK2 K2
  refine vwp_cond (by first | rfl | (simp; rfl)) (fun h1 => ?_) fun h1 => ?_
  · simp -failIfUnchanged at h1; all_goals
   refine vwp_live [0, 1, 2, 3] (vwp_region hT ?_)
   simp
   repeat refine ⟨by first | assumption | omega | (intros; omega), ?_⟩
   refine hK1 _ ?_
   try clear hK1 K1
   refine vwp_gh (Gh.nilFs 2 os.length (by rfl) (by simp)) ?_
   simp [nil_set]
   refine vwp_sq [0, 1, 3] fun K3 hK3 => vwp_region hT ?_
   simp
   refine hK3 _ ?_
   try clear hK3 K3
   refine vwp_block ?_
   refine vwp_loop_s (fun i : Nat => ⟨[(0, .nils), (1, .fs 0 []), (3, .ptr 1 1 0), (15, .fs 0 []), (16, .int .i64 0), (17, .int .i64 (i : Int))], [cell0 (os ++ [[]]).length, cell1, .live ((os ++ [[]]).map sI)]⟩) (fun i => i = 0) (fun i => 0 - i) (0) (Gh.to_k [0, 1, 3, 15, 16, 17] [0, 1, 2]) (rfl) ?_
   rintro i rfl
   intro K4 hK4
   refine vwp_sq [0, 1, 3, 15, 16, 17] fun K5 hK5 => vwp_region hT ?_
   simp
   refine hK5 _ ?_
   try clear hK5 K5
   refine vwp_seq_k fun K6 hK6 => ?_
   refine vwp_cond (by first | rfl | (simp; rfl)) (fun h2 => ?_) fun h2 => ?_
   · simp -failIfUnchanged at h2; all_goals
    refine vwp_skip ?_
    refine hK6 _ ?_
    try clear hK6 K6
    refine vwp_seq_k fun K7 hK7 => ?_
    refine vwp_block ?_
    refine vwp_seq_k fun K8 hK8 => ?_
    skip
   · simp -failIfUnchanged at h2; all_goals
    refine vwp_exit ?_
    simp only [inBlk, thenQ, if_true]
    refine hR _ _ ?_
    exact norm_k [] [0, 1, 2] ([cell0 (os ++ [[]]).length, cell1, .live ((os ++ [[]]).map sI)]) (.tup []) (⟨rfl, rfl⟩)
  · simp -failIfUnchanged at h1; all_goals
   refine vwp_skip ?_
   refine hK1 _ ?_
   try clear hK1 K1
   refine vwp_sq [0, 1, 3] fun K9 hK9 => vwp_region hT ?_
   simp
   refine hK9 _ ?_
   try clear hK9 K9
   refine vwp_block ?_
   refine vwp_loop_s (fun i : Nat => ⟨[(0, .nils), (1, .fs 0 []), (3, .ptr 1 1 0), (15, .fs 0 []), (16, .int .i64 0), (17, .int .i64 (i : Int))], [cell0 (os ++ [[]]).length, cell1, .live ((os ++ [[]]).map sI)]⟩) (fun i => i = 0) (fun i => 0 - i) (0) (Gh.to_k [0, 1, 3, 15, 16, 17] [0, 1, 2]) (rfl) ?_
   rintro i rfl
   intro K10 hK10
   refine vwp_sq [0, 1, 3, 15, 16, 17] fun K11 hK11 => vwp_region hT ?_
   simp
   refine hK11 _ ?_
   try clear hK11 K11
   refine vwp_seq_k fun K12 hK12 => ?_
   refine vwp_cond (by first | rfl | (simp; rfl)) (fun h3 => ?_) fun h3 => ?_
   · simp -failIfUnchanged at h3; all_goals
    refine vwp_skip ?_
    refine hK12 _ ?_
    try clear hK12 K12
    refine vwp_seq_k fun K13 hK13 => ?_
    refine vwp_block ?_
    refine vwp_seq_k fun K14 hK14 => ?_
    skip
   · simp -failIfUnchanged at h3; all_goals
    refine vwp_exit ?_
    simp only [inBlk, thenQ, if_true]
    refine hR _ _ ?_
    exact norm_k [] [0, 1, 2] ([cell0 (os ++ [[]]).length, cell1, .live ((os ++ [[]]).map sI)]) (.tup []) (⟨rfl, rfl⟩)
theorem layS {k : Nat} (hk : k + 1 ≤ 6) (l rest : List Int) (os : List (List Int)) (hl : l ≠ []) (hlk : l.length + (k + 1) ≤ 6) (hr : rest.length = k + 1) (ho : os.length + fct (k + 1) < 1099511627776) (ih : ∀ (l rest : List Int) (os : List (List Int)), l ≠ [] → l.length + k ≤ 6 → rest.length = k → os.length + fct k < 1099511627776 → VC P 51 [sI l, sI rest, .ptr 0 1 0, .ptr 1 1 0] [cell0 os.length, cell1, .live (os.map sI)] (fun r ob' => r = .tup [] ∧ ob' = [cell0 (os ++ layL k l rest).length, cell1, .live ((os ++ layL k l rest).map sI)])) : VC P 51 [sI l, sI rest, .ptr 0 1 0, .ptr 1 1 0] [cell0 os.length, cell1, .live (os.map sI)] (fun r ob' => r = .tup [] ∧ ob' = [cell0 (os ++ layL (k + 1) l rest).length, cell1, .live ((os ++ layL (k + 1) l rest).map sI)]) := by
  refine VC_of_vwp_k ent_51 Try.func51 rfl (by simp) fun R hR => ?_
  refine vwp_seq_k fun K1 hK1 => ?_
  refine vwp_sq [0, 1, 2, 3] fun K2 hK2 => vwp_region hT ?_
  simp
  refine hK2 _ ?_
  try clear hK2 K2
  refine vwp_cond (by first | rfl | (simp; rfl)) (fun h1 => ?_) fun h1 => ?_
  · simp -failIfUnchanged at h1; all_goals
   simp_all
  · simp -failIfUnchanged at h1; all_goals
   refine vwp_skip ?_
   refine hK1 _ ?_
   try clear hK1 K1
   refine vwp_sq [0, 1, 3] fun K3 hK3 => vwp_region hT ?_
   simp
   refine hK3 _ ?_
   try clear hK3 K3
   refine vwp_block ?_
   refine vwp_loop_s (fun i : Nat => ⟨[(0, sI l), (1, sI rest), (3, .ptr 1 1 0), (15, sI rest), (16, .int .i64 (k + 1 : Nat)), (17, .int .i64 (i : Int))], [cell0 (os ++ blk k (l) rest i).length, cell1, .live ((os ++ blk k (l) rest i).map sI)]⟩) (fun i => i ≤ k + 1) (fun i => k + 1 - i) (0) (Gh.to_k [0, 1, 3, 15, 16, 17] [0, 1, 2] (he := by simp [hr]) (hh := by simp [blk])) (by omega) ?_
   rintro i hi
   intro K4 hK4
   refine vwp_sq [0, 1, 3, 15, 16, 17] fun K5 hK5 => vwp_region hT ?_
   simp
   refine hK5 _ ?_
   try clear hK5 K5
   refine vwp_seq_k fun K6 hK6 => ?_
   refine vwp_cond (by first | rfl | (simp; rfl)) (fun h2 => ?_) fun h2 => ?_
   · simp -failIfUnchanged at h2; all_goals
    refine vwp_skip ?_
    refine hK6 _ ?_
    try clear hK6 K6
    refine vwp_seq_k fun K7 hK7 => ?_
    refine vwp_block ?_
    obtain ⟨p, hp⟩ := getI (l := rest) (i := i) (by omega)
    have hp2 : rest.getD i 0 = p := getD_of hp
    refine vwp_sq [0, 1, 3, 15, 16, 17] fun K8 hK8 => vwp_region hT ?_
    simp [hp, hr]
    repeat refine ⟨by first | assumption | omega | (intros; omega), ?_⟩
    refine hK8 _ ?_
    try clear hK8 K8
    have w1 : IntKind.i64.wrap ((i : Int) + 1) = i + 1 := w64 (by omega) (by omega)
    have hC : catL [rest.take i, rest.drop (i + 1)] = rest.eraseIdx i := by simp [catL, List.eraseIdx_eq_take_drop_succ]
    have hE : (rest.eraseIdx i).length = k := by rw [List.length_eraseIdx, if_pos (by omega)]; omega
    have hb := blk_len k (l) rest i
    have hb2 : (i + 1) * fct k ≤ fct (k + 1) := by rw [fct_succ]; exact Nat.mul_le_mul_right _ (by omega)
    rw [Nat.succ_mul] at hb2
    refine vwp_live [0, 1, 3, 6, 7, 15, 16, 17] (vwp_storm hT hm [.win 0 3, .pure, .mv, .pure, .lit, .mv, .pure, .pure, .win 0 2, .pure, .pure, .win 0 2, .win 0 2, .lit, .mv, .mv] [[], [], [1], [], [3], [1, 2, 3, 4], [], [], [6, 7], [], [], [10], [9, 10, 11], [6, 7, 8, 9, 10, 11, 12], [1, 2, 3, 4, 5, 6, 7, 8, 9, 10, 11, 12, 13], [0, 1, 2, 3, 4, 5, 6, 7, 8, 9, 10, 11, 12, 13, 14]] (by kernel_rfl) ?_)
    simp [w1, hr, hC, hE]
    repeat refine ⟨by first | assumption | omega | (intros; omega), ?_⟩
    refine ⟨.sl 3 l.length 1 0 l.length, [cell0 (os ++ blk k (l) rest i).length, cell1, .live ((os ++ blk k (l) rest i).map sI), .live (l.map (.int .i64))], fun sl => ?_, ?_⟩
    · refine vcall_k [] (clone_spec l hl (by omega)) ?_
      rintro r ob' ⟨rfl, rfl⟩
      simp
    simp [w1, hr, hC, hE]
    repeat refine ⟨by first | assumption | omega | (intros; omega), ?_⟩
    refine ⟨.sl 4 k 1 0 k, [cell0 (os ++ blk k (l) rest i).length, cell1, .live ((os ++ blk k (l) rest i).map sI), .live ((l ++ [p]).map (.int .i64)), .live ((rest.eraseIdx i).map (.int .i64))], fun sl => ?_, ?_⟩
    · refine vcall_k [] (concat_spec [rest.take i, rest.drop (i + 1)] (by simp) (by simp [catL]; omega)) ?_ (ha := by simp; exact ⟨by omega, by omega, List.take_of_length_le (by simp; omega)⟩)
      rintro r ob' ⟨rfl, rfl⟩
      simp [hC, hE]
    simp [w1, hr, hC, hE]
    repeat refine ⟨by first | assumption | omega | (intros; omega), ?_⟩
    refine ⟨.tup [], [cell0 (os ++ blk k (l) rest i ++ layL k (l ++ [p]) (rest.eraseIdx i)).length, cell1, .live ((os ++ blk k (l) rest i ++ layL k (l ++ [p]) (rest.eraseIdx i)).map sI), .frz ((l ++ [p]).map (.int .i64)), .frz ((rest.eraseIdx i).map (.int .i64))], fun sl => ?_, ?_⟩
    · refine vcall_freeze 3 (by rfl) (by first | (simp; done) | (intro c hc; simp at hc; rcases hc with ⟨a, _, rfl⟩ | rfl <;> rfl)) ?_
      refine vcall_freeze 4 (by rfl) (by intro c hc; simp at hc; obtain ⟨a, _, rfl⟩ := hc; rfl) ?_
      refine vcall_k [0, 1, 2] (ih (l ++ [p]) (rest.eraseIdx i) (os ++ blk k (l) rest i) (by simp) (by simp; omega) hE (by simp [hb]; omega)) ?_ (ha := by simp [hE]; exact ⟨List.take_of_length_le (by simp), List.take_of_length_le (by simp [hE])⟩) (hok := by simp [hE])
      rintro r ob' ⟨rfl, rfl⟩
      simp
    simp [w1, hr, hC, hE]
    repeat refine ⟨by first | assumption | omega | (intros; omega), ?_⟩
    refine hK7 _ ?_
    try clear hK7 K7
    have w1 : IntKind.i64.wrap ((i : Int) + 1) = i + 1 := w64 (by omega) (by omega)
    refine vwp_live [0, 1, 3, 15, 16, 17] (vwp_region hT ?_)
    simp [w1]
    exact hK4 (i + 1) _ (Gh.to_k [0, 1, 3, 15, 16, 17] [0, 1, 2] (hh := by simp [blk_succ, hp])) (by omega) (by omega)
   · simp -failIfUnchanged at h2; all_goals
    refine vwp_exit ?_
    simp only [inBlk, thenQ, if_true]
    refine hR _ _ ?_
    have e : i = k + 1 := by omega
    subst e
    rw [← blk_all]
    exact norm_k [] [0, 1, 2] ([cell0 (os ++ layL (k + 1) (l) rest).length, cell1, .live ((os ++ layL (k + 1) (l) rest).map sI)]) (.tup []) (⟨rfl, rfl⟩)

theorem lay_all : ∀ (k : Nat), k ≤ 6 → ∀ (l rest : List Int) (os : List (List Int)), l ≠ [] → l.length + k ≤ 6 → rest.length = k → os.length + fct k < 1099511627776 → VC P 51 [sI l, sI rest, .ptr 0 1 0, .ptr 1 1 0] [cell0 os.length, cell1, .live (os.map sI)] (fun r ob' => r = .tup [] ∧ ob' = [cell0 (os ++ layL k l rest).length, cell1, .live ((os ++ layL k l rest).map sI)])
  | 0, _, l, rest, os, hl, hlk, hr, ho => by
    obtain rfl : rest = [] := List.length_eq_zero_iff.1 hr
    exact lay0_spec l os (by omega)
  | k + 1, hk, l, rest, os, hl, hlk, hr, ho => layS hk l rest os hl hlk hr ho fun l rest os => lay_all k (by omega) l rest os
theorem layN {k : Nat} (hk : k + 1 ≤ 6) (rest : List Int) (os : List (List Int)) (hr : rest.length = k + 1) (ho : os.length + fct (k + 1) < 1099511627776) (ih : ∀ (l rest : List Int) (os : List (List Int)), l ≠ [] → l.length + k ≤ 6 → rest.length = k → os.length + fct k < 1099511627776 → VC P 51 [sI l, sI rest, .ptr 0 1 0, .ptr 1 1 0] [cell0 os.length, cell1, .live (os.map sI)] (fun r ob' => r = .tup [] ∧ ob' = [cell0 (os ++ layL k l rest).length, cell1, .live ((os ++ layL k l rest).map sI)])) : VC P 51 [.nils, sI rest, .ptr 0 1 0, .ptr 1 1 0] [cell0 os.length, cell1, .live (os.map sI)] (fun r ob' => r = .tup [] ∧ ob' = [cell0 (os ++ layL (k + 1) [] rest).length, cell1, .live ((os ++ layL (k + 1) [] rest).map sI)]) := by
  refine VC_of_vwp_k ent_51 Try.func51 rfl (by simp) fun R hR => ?_
  refine vwp_seq_k fun K1 hK1 => ?_
  refine vwp_sq [0, 1, 2, 3] fun K2 hK2 => vwp_region hT ?_
  simp
  refine hK2 _ ?_
  try clear hK2 K2
  refine vwp_cond (by first | rfl | (simp; rfl)) (fun h1 => ?_) fun h1 => ?_
  · simp -failIfUnchanged at h1; all_goals
   simp_all
  · simp -failIfUnchanged at h1; all_goals
   refine vwp_skip ?_
   refine hK1 _ ?_
   try clear hK1 K1
   refine vwp_sq [0, 1, 3] fun K3 hK3 => vwp_region hT ?_
   simp
   refine hK3 _ ?_
   try clear hK3 K3
   refine vwp_block ?_
   refine vwp_loop_s (fun i : Nat => ⟨[(0, .nils), (1, sI rest), (3, .ptr 1 1 0), (15, sI rest), (16, .int .i64 (k + 1 : Nat)), (17, .int .i64 (i : Int))], [cell0 (os ++ blk k ([]) rest i).length, cell1, .live ((os ++ blk k ([]) rest i).map sI)]⟩) (fun i => i ≤ k + 1) (fun i => k + 1 - i) (0) (Gh.to_k [0, 1, 3, 15, 16, 17] [0, 1, 2] (he := by simp [hr]) (hh := by simp [blk])) (by omega) ?_
   rintro i hi
   intro K4 hK4
   refine vwp_sq [0, 1, 3, 15, 16, 17] fun K5 hK5 => vwp_region hT ?_
   simp
   refine hK5 _ ?_
   try clear hK5 K5
   refine vwp_seq_k fun K6 hK6 => ?_
   refine vwp_cond (by first | rfl | (simp; rfl)) (fun h2 => ?_) fun h2 => ?_
   · simp -failIfUnchanged at h2; all_goals
    refine vwp_skip ?_
    refine hK6 _ ?_
    try clear hK6 K6
    refine vwp_seq_k fun K7 hK7 => ?_
    refine vwp_block ?_
    obtain ⟨p, hp⟩ := getI (l := rest) (i := i) (by omega)
    have hp2 : rest.getD i 0 = p := getD_of hp
    refine vwp_sq [0, 1, 3, 15, 16, 17] fun K8 hK8 => vwp_region hT ?_
    simp [hp, hr]
    repeat refine ⟨by first | assumption | omega | (intros; omega), ?_⟩
    refine hK8 _ ?_
    try clear hK8 K8
    have w1 : IntKind.i64.wrap ((i : Int) + 1) = i + 1 := w64 (by omega) (by omega)
    have hC : catL [rest.take i, rest.drop (i + 1)] = rest.eraseIdx i := by simp [catL, List.eraseIdx_eq_take_drop_succ]
    have hE : (rest.eraseIdx i).length = k := by rw [List.length_eraseIdx, if_pos (by omega)]; omega
    have hb := blk_len k ([]) rest i
    have hb2 : (i + 1) * fct k ≤ fct (k + 1) := by rw [fct_succ]; exact Nat.mul_le_mul_right _ (by omega)
    rw [Nat.succ_mul] at hb2
    refine vwp_live [0, 1, 3, 6, 7, 15, 16, 17] (vwp_storm hT hm [.win 0 3, .pure, .mv, .pure, .lit, .mv, .pure, .pure, .win 0 2, .pure, .pure, .win 0 2, .win 0 2, .lit, .mv, .mv] [[], [], [1], [], [3], [1, 2, 3, 4], [], [], [6, 7], [], [], [10], [9, 10, 11], [6, 7, 8, 9, 10, 11, 12], [1, 2, 3, 4, 5, 6, 7, 8, 9, 10, 11, 12, 13], [0, 1, 2, 3, 4, 5, 6, 7, 8, 9, 10, 11, 12, 13, 14]] (by kernel_rfl) ?_)
    simp [w1, hr, hC, hE]
    repeat refine ⟨by first | assumption | omega | (intros; omega), ?_⟩
    refine ⟨.nils, [cell0 (os ++ blk k ([]) rest i).length, cell1, .live ((os ++ blk k ([]) rest i).map sI)], fun sl => ?_, ?_⟩
    · refine vcall_k [] (clone_nil) ?_
      rintro r ob' ⟨rfl, rfl⟩
      simp
    simp [w1, hr, hC, hE]
    repeat refine ⟨by first | assumption | omega | (intros; omega), ?_⟩
    refine ⟨.sl 4 k 1 0 k, [cell0 (os ++ blk k ([]) rest i).length, cell1, .live ((os ++ blk k ([]) rest i).map sI), .live (([p]).map (.int .i64)), .live ((rest.eraseIdx i).map (.int .i64))], fun sl => ?_, ?_⟩
    · refine vcall_k [] (concat_spec [rest.take i, rest.drop (i + 1)] (by simp) (by simp [catL]; omega)) ?_ (ha := by simp; exact ⟨by omega, by omega, List.take_of_length_le (by simp; omega)⟩)
      rintro r ob' ⟨rfl, rfl⟩
      simp [hC, hE]
    simp [w1, hr, hC, hE]
    repeat refine ⟨by first | assumption | omega | (intros; omega), ?_⟩
    refine ⟨.tup [], [cell0 (os ++ blk k ([]) rest i ++ layL k ([p]) (rest.eraseIdx i)).length, cell1, .live ((os ++ blk k ([]) rest i ++ layL k ([p]) (rest.eraseIdx i)).map sI), .frz (([p]).map (.int .i64)), .frz ((rest.eraseIdx i).map (.int .i64))], fun sl => ?_, ?_⟩
    · refine vcall_freeze 3 (by rfl) (by first | (simp; done) | (intro c hc; simp at hc; rcases hc with ⟨a, _, rfl⟩ | rfl <;> rfl)) ?_
      refine vcall_freeze 4 (by rfl) (by intro c hc; simp at hc; obtain ⟨a, _, rfl⟩ := hc; rfl) ?_
      refine vcall_k [0, 1, 2] (ih ([p]) (rest.eraseIdx i) (os ++ blk k ([]) rest i) (by simp) (by simp; omega) hE (by simp [hb]; omega)) ?_ (ha := by simp [hE]; exact List.take_of_length_le (by simp [hE])) (hok := by simp [hE])
      rintro r ob' ⟨rfl, rfl⟩
      simp
    simp [w1, hr, hC, hE]
    repeat refine ⟨by first | assumption | omega | (intros; omega), ?_⟩
    refine hK7 _ ?_
    try clear hK7 K7
    have w1 : IntKind.i64.wrap ((i : Int) + 1) = i + 1 := w64 (by omega) (by omega)
    refine vwp_live [0, 1, 3, 15, 16, 17] (vwp_region hT ?_)
    simp [w1]
    exact hK4 (i + 1) _ (Gh.to_k [0, 1, 3, 15, 16, 17] [0, 1, 2] (hh := by simp [blk_succ, hp])) (by omega) (by omega)
   · simp -failIfUnchanged at h2; all_goals
    refine vwp_exit ?_
    simp only [inBlk, thenQ, if_true]
    refine hR _ _ ?_
    have e : i = k + 1 := by omega
    subst e
    rw [← blk_all]
    exact norm_k [] [0, 1, 2] ([cell0 (os ++ layL (k + 1) ([]) rest).length, cell1, .live ((os ++ layL (k + 1) ([]) rest).map sI)]) (.tup []) (⟨rfl, rfl⟩)

def ordersL (m : Nat) : List (List Int) := layL m [] (rangeI m)
theorem lay_top (m : Nat) (hm : m ≤ 6) : VC P 51 [.nils, sI (rangeI m), .ptr 0 1 0, .ptr 1 1 0] [cell0 0, cell1, .live []] (fun r ob' => r = .tup [] ∧ ob' = [cell0 (ordersL m).length, cell1, .live ((ordersL m).map sI)]) := by
  cases m with
  | zero => exact lay0_nil [] (by simp)
  | succ k => 
    have h6 : fct (k + 1) ≤ 720 := fct_le _ hm
    exact layN hm (rangeI (k + 1)) [] rangeI_len (by simp; omega) fun l rest os => lay_all k (by omega) l rest os
theorem ordersL_len (m : Nat) : (ordersL m).length = fct m := layL_len _ _ _
theorem orders_spec (m : Nat) (h6 : m ≤ 6) : VC P 28 [.int .i64 m] [] (fun r ob' => r = .sl 0 (ordersL m).length 1 0 (ordersL m).length ∧ ob' = [.live ((ordersL m).map sI)]) := by
  refine VC_of_vwp_k ent_28 Try.func28 rfl (by simp) fun R hR => ?_
  refine vwp_sq [0] fun K1 hK1 => vwp_region hT ?_
  simp
  refine hK1 _ ?_
  try clear hK1 K1
  refine vwp_seq_k fun K2 hK2 => ?_
  refine vwp_sq [0] fun K3 hK3 => vwp_region hT ?_
  simp
  refine hK3 _ ?_
  try clear hK3 K3
  refine vwp_cond (by first | rfl | (simp; rfl)) (fun h1 => ?_) fun h1 => ?_
  · simp -failIfUnchanged at h1; all_goals
   refine vwp_seq_k fun K4 hK4 => ?_
   omega
  · simp -failIfUnchanged at h1; all_goals
   refine vwp_skip ?_
   refine hK2 _ ?_
   try clear hK2 K2
   refine vwp_sq [0] fun K5 hK5 => vwp_region hT ?_
   simp
   refine hK5 _ ?_
   try clear hK5 K5
   refine vwp_sq [0, 3] fun K6 hK6 => vwp_region hT ?_
   simp
   refine hK6 _ ?_
   try clear hK6 K6
   refine vwp_sq [0, 3, 4] fun K7 hK7 => vwp_region hT ?_
   simp
   repeat refine ⟨by first | assumption | omega | (intros; omega), ?_⟩
   refine hK7 _ ?_
   try clear hK7 K7
   refine vwp_gh (Gh.virtCell 0 0 1 (by rfl) (by rfl)) ?_
   simp only [List.set, List.cons_append, List.nil_append, List.length_cons, List.length_nil]
   refine vwp_sq [0, 3, 4] fun K8 hK8 => vwp_storm hT hm [.win 0 1, .pure, .mv, .mv] [[], [], [1], [0, 1, 2]] (by kernel_rfl) ?_
   simp
   refine ⟨.sl 3 m 1 0 m, [cell0 0, cell1, .live [], .live ((rangeI m).map (.int .i64))], fun sl => ?_, ?_⟩
   · refine vcall_k [] (left_spec m h6) ?_
     rintro r ob' ⟨rfl, rfl⟩
     simp
   simp
   refine ⟨.tup [], [cell0 (ordersL m).length, cell1, .live ((ordersL m).map sI), .frz ((rangeI m).map (.int .i64))], fun sl => ?_, ?_⟩
   · refine vcall_freeze 3 (by rfl) (by intro c hc; simp at hc; obtain ⟨a, _, rfl⟩ := hc; rfl) ?_
     refine vcall_k [0, 1, 2] (lay_top m h6) ?_ (ha := by simp [rangeI_len]; exact List.take_of_length_le (by simp [rangeI_len])) (hok := by simp [rangeI_len])
     rintro r ob' ⟨rfl, rfl⟩
     simp
   simp
   refine hK8 _ ?_
   try clear hK8 K8
   refine vwp_sq [3] fun K9 hK9 => vwp_region hT ?_
   simp
   refine hK9 _ ?_
   try clear hK9 K9
   refine vwp_ret (hR _ _ ?_)
   exact ret_k [2] [2] ([.live ((ordersL m).map sI)]) (.sl 0 (ordersL m).length 1 0 (ordersL m).length) (⟨rfl, rfl⟩)
theorem orders_bad (n : Int) (hn : ¬ (0 ≤ n ∧ n ≤ 6)) : VC P 28 [.int .i64 n] [] (fun r ob' => r = .nils ∧ ob' = []) := by
  refine VC_of_vwp_k ent_28 Try.func28 rfl (by simp) fun R hR => ?_
  refine vwp_sq [0] fun K1 hK1 => vwp_region hT ?_
  simp
  refine hK1 _ ?_
  try clear hK1 K1
  refine vwp_seq_k fun K2 hK2 => ?_
  refine vwp_sq [0] fun K3 hK3 => vwp_region hT ?_
  simp
  refine hK3 _ ?_
  try clear hK3 K3
  refine vwp_cond (by first | rfl | (simp; rfl)) (fun h1 => ?_) fun h1 => ?_
  · simp -failIfUnchanged at h1; all_goals
   refine vwp_sq [] fun K4 hK4 => vwp_region hT ?_
   simp
   refine hK4 _ ?_
   try clear hK4 K4
   refine vwp_ret (hR _ _ ?_)
   exact ret_k [2] [] ([]) (.nils) (⟨rfl, rfl⟩)
  · simp -failIfUnchanged at h1; all_goals
   refine vwp_skip ?_
   refine hK2 _ ?_
   try clear hK2 K2
   refine vwp_seq_k fun K5 hK5 => ?_
   omega
end Go.Proofs.Ythjpaongoflgiaa
