/- Copies and joins of rows. -/
import Derived.Test.YthjpaongoflgiaaShap8
import Derived.Test.YthjpaongoflgiaaVXc
namespace Go.Proofs.Ythjpaongoflgiaa
open Go Go.VX Go.RowKit
set_option linter.unusedVariables false
set_option linter.unusedSimpArgs false
set_option maxHeartbeats 20000000
set_option maxRecDepth 100000

/-- A row of numbers, none where there are none. -/
def lN (l : List Int) : V := if l = [] then .nils else sI l
theorem clone_nil  : VC P 52 [.nils] [] (fun r ob' => r = .nils ∧ ob' = []) := by
  refine VC_of_vwp_k ent_52 Try.func52 rfl (by simp) fun R hR => ?_
  refine vwp_sq [0] fun K1 hK1 => vwp_region hT ?_
  simp
  refine hK1 _ ?_
  try clear hK1 K1
  refine vwp_seq_k fun K2 hK2 => ?_
  refine vwp_sq [0] fun K3 hK3 => vwp_region hT ?_
  simp
  refine hK3 _ ?_
  try clear hK3 K3
  refine vwp_cond (by first | rfl | (simp; rfl)) (fun h1 => ?_) fun h1 => ?_
  · simp -failIfUnchanged at h1; all_goals
   refine vwp_sq [] fun K4 hK4 => vwp_region hT ?_
   simp
   refine hK4 _ ?_
   try clear hK4 K4
   refine vwp_ret (hR _ _ ?_)
   exact ret_k [2] [] ([]) (.nils) (⟨rfl, rfl⟩)
  · simp -failIfUnchanged at h1; all_goals
   refine vwp_skip ?_
   refine hK2 _ ?_
   try clear hK2 K2
   refine vwp_seq_k fun K5 hK5 => ?_
   simp at *
theorem clone_spec (l : List Int) (hl : l ≠ []) (hln : l.length < 1099511627776) : VC P 52 [sI l] [] (fun r ob' => r = .sl 0 l.length 1 0 l.length ∧ ob' = [.live (l.map (.int .i64))]) := by
  refine VC_of_vwp_k ent_52 Try.func52 rfl (by simp) fun R hR => ?_
  refine vwp_sq [0] fun K1 hK1 => vwp_region hT ?_
  simp
  refine hK1 _ ?_
  try clear hK1 K1
  refine vwp_seq_k fun K2 hK2 => ?_
  have hl0 : l.length ≠ 0 := fun e => hl (List.length_eq_zero_iff.1 e)
  refine vwp_sq [0] fun K3 hK3 => vwp_region hT ?_
  simp [hl0]
  refine hK3 _ ?_
  try clear hK3 K3
  refine vwp_cond (by first | rfl | (simp; rfl)) (fun h1 => ?_) fun h1 => ?_
  · simp -failIfUnchanged at h1; all_goals
   refine vwp_seq_k fun K4 hK4 => ?_
   simp at *
  · simp -failIfUnchanged at h1; all_goals
   refine vwp_skip ?_
   refine hK2 _ ?_
   try clear hK2 K2
   refine vwp_sq [0] fun K5 hK5 => vwp_region hT ?_
   simp
   repeat refine ⟨by first | assumption | omega | (intros; omega), ?_⟩
   refine hK5 _ ?_
   try clear hK5 K5
   refine vwp_ret (hR _ _ ?_)
   exact ret_k [2] [0] ([.live (l.map (.int .i64))]) (.sl 0 l.length 1 0 l.length) (⟨rfl, rfl⟩)
theorem grow_spec (n : Nat) (hn : n < 1099511627776) : VC P 65 [.nils, .int .i64 n] [] (fun r ob' => r = .sl 0 n 1 0 0 ∧ ob' = [.live (List.replicate n (.int .i64 0))]) := by
  refine VC_of_vwp_k ent_65 Try.func65 rfl (by simp) fun R hR => ?_
  refine vwp_sq [0, 1] fun K1 hK1 => vwp_region hT ?_
  simp
  refine hK1 _ ?_
  try clear hK1 K1
  refine vwp_seq_k fun K2 hK2 => ?_
  refine vwp_sq [0, 1] fun K3 hK3 => vwp_region hT ?_
  simp
  refine hK3 _ ?_
  try clear hK3 K3
  refine vwp_cond (by first | rfl | (simp; rfl)) (fun h1 => ?_) fun h1 => ?_
  · simp -failIfUnchanged at h1; all_goals
   omega
  · simp -failIfUnchanged at h1; all_goals
   refine vwp_skip ?_
   refine hK2 _ ?_
   try clear hK2 K2
   refine vwp_seq_k fun K4 hK4 => ?_
   have w1 : IntKind.i64.wrap ((n : Int) - IntKind.i64.wrap 0) = n := by
     have e : IntKind.i64.wrap 0 = 0 := rfl
     rw [e, Int.sub_zero]
     exact w64 (by omega) (by omega)
   refine vwp_sq [0, 1] fun K5 hK5 => vwp_region hT ?_
   simp [w1]
   refine hK5 _ ?_
   try clear hK5 K5
   refine vwp_sq [0, 1] fun K6 hK6 => vwp_region hT ?_
   simp
   refine hK6 _ ?_
   try clear hK6 K6
   refine vwp_cond (by first | rfl | (simp; rfl)) (fun h2 => ?_) fun h2 => ?_
   · simp -failIfUnchanged at h2; all_goals
    refine vwp_live [0, 1] (vwp_region hT ?_)
    simp
    repeat refine ⟨by first | assumption | omega | (intros; omega), ?_⟩
    refine hK4 _ ?_
    try clear hK4 K4
    refine vwp_sq [0] fun K7 hK7 => vwp_region hT ?_
    simp
    refine hK7 _ ?_
    try clear hK7 K7
    refine vwp_ret (hR _ _ ?_)
    exact ret_k [4] [0] ([.live (List.replicate n (.int .i64 0))]) (.sl 0 n 1 0 0) (⟨rfl, rfl⟩)
   · simp -failIfUnchanged at h2; all_goals
    obtain rfl : n = 0 := by omega
    refine vwp_skip ?_
    refine hK4 _ ?_
    try clear hK4 K4
    refine vwp_gh (Gh.virt 0 1 (by rfl)) ?_
    simp
    refine vwp_sq [0] fun K8 hK8 => vwp_region hT ?_
    simp
    refine hK8 _ ?_
    try clear hK8 K8
    refine vwp_ret (hR _ _ ?_)
    exact ret_k [4] [0] ([.live []]) (.sl 0 0 1 0 0) (⟨rfl, rfl⟩)

theorem spl_fill {D l : List Int} {n : Nat} {z : V} (h : D.length + l.length ≤ n) : spl (D.map (V.int .i64) ++ List.replicate (n - D.length) z) D.length (l.map (V.int .i64)) = D.map (V.int .i64) ++ (l.map (V.int .i64) ++ List.replicate (n - (D.length + l.length)) z) := by
  rw [spl_eq (by simp; omega), List.take_left' (by simp), List.drop_append, List.drop_of_length_le (by simp)]
  simp only [List.length_map, List.nil_append, List.drop_replicate, List.append_assoc]
  have e : n - D.length - (D.length + l.length - D.length) = n - (D.length + l.length) := by omega
  rw [e]
def catL (R : List (List Int)) : List Int := R.flatten
theorem cat_take {R : List (List Int)} {i : Nat} {l : List Int} (h : R[i]? = some l) : catL (R.take (i + 1)) = catL (R.take i) ++ l := by
  simp [catL, List.take_add_one, h]
theorem cat_le (R : List (List Int)) (i : Nat) : (catL (R.take i)).length ≤ (catL R).length := by
  have : catL R = catL (R.take i) ++ catL (R.drop i) := by simp only [catL]; rw [← List.flatten_append, List.take_append_drop]
  rw [this, List.length_append]; omega
theorem concat_spec (rs : List (List Int)) (hrs : rs.length < 1099511627776) (hn : (catL rs).length < 1099511627776) : VC P 53 [sLL rs] [] (fun r ob' => r = .sl 0 (catL rs).length 1 0 (catL rs).length ∧ ob' = [.live ((catL rs).map (.int .i64))]) := by
  refine VC_of_vwp_k ent_53 Try.func53 rfl (by simp) fun R hR => ?_
  refine vwp_sq [0] fun K1 hK1 => vwp_region hT ?_
  simp
  refine hK1 _ ?_
  try clear hK1 K1
  refine vwp_sq [0] fun K2 hK2 => vwp_region hT ?_
  simp
  refine hK2 _ ?_
  try clear hK2 K2
  refine vwp_seq_k fun K3 hK3 => ?_
  refine vwp_sq [0, 3] fun K4 hK4 => vwp_region hT ?_
  simp
  refine hK4 _ ?_
  try clear hK4 K4
  refine vwp_block ?_
  refine vwp_loop_s (fun i : Nat => ⟨[(0, sLL rs), (3, .int .i64 ((catL (rs.take i)).length : Int)), (9, sLL rs), (10, .int .i64 rs.length), (11, .int .i64 (i : Int))], []⟩) (fun i => i ≤ rs.length) (fun i => rs.length - i) (0) (Gh.to_k [0, 3, 9, 10, 11] [] (he := by simp [catL])) (by omega) ?_
  rintro i hi
  intro K5 hK5
  refine vwp_sq [0, 3, 9, 10, 11] fun K6 hK6 => vwp_region hT ?_
  simp
  refine hK6 _ ?_
  try clear hK6 K6
  refine vwp_seq_k fun K7 hK7 => ?_
  refine vwp_cond (by first | rfl | (simp; rfl)) (fun h1 => ?_) fun h1 => ?_
  · simp -failIfUnchanged at h1; all_goals
   refine vwp_skip ?_
   refine hK7 _ ?_
   try clear hK7 K7
   refine vwp_seq_k fun K8 hK8 => ?_
   refine vwp_block ?_
   obtain ⟨l, hl⟩ := getI (l := rs) (i := i) (by omega)
   have hle := cat_le rs i
   have hle2 := cat_le rs (i + 1)
   rw [cat_take hl, List.length_append] at hle2
   refine vwp_sq [0, 3, 9, 10, 11] fun K9 hK9 => vwp_region hT ?_
   simp [hl]
   repeat refine ⟨by first | assumption | omega | (intros; omega), ?_⟩
   refine hK9 _ ?_
   try clear hK9 K9
   have w1 : IntKind.i64.wrap (((catL (rs.take i)).length : Int) + (l.length : Int)) = ((catL (rs.take i)).length : Int) + (l.length : Int) := w64 (by omega) (by omega)
   refine vwp_sq [0, 3, 5, 9, 10, 11] fun K10 hK10 => vwp_region hT ?_
   simp [w1]
   refine hK10 _ ?_
   try clear hK10 K10
   refine vwp_sq [0, 3, 9, 10, 11] fun K11 hK11 => vwp_region hT ?_
   simp
   refine hK11 _ ?_
   try clear hK11 K11
   refine vwp_cond (by first | rfl | (simp; rfl)) (fun h2 => ?_) fun h2 => ?_
   · simp -failIfUnchanged at h2; all_goals
    omega
   · simp -failIfUnchanged at h2; all_goals
    refine vwp_skip ?_
    refine hK8 _ ?_
    try clear hK8 K8
    have w1 : IntKind.i64.wrap ((i : Int) + 1) = i + 1 := w64 (by omega) (by omega)
    refine vwp_live [0, 3, 9, 10, 11] (vwp_region hT ?_)
    simp [w1]
    exact hK5 (i + 1) _ (Gh.to_k [0, 3, 9, 10, 11] [] (he := by simp [cat_take hl])) (by omega) (by omega)
  · simp -failIfUnchanged at h1; all_goals
   refine vwp_exit ?_
   simp only [inBlk, thenQ, if_true]
   refine hK3 _ ?_
   try clear hK3 K3
   have e : i = rs.length := by omega
   subst e
   rw [List.take_length]
   refine vwp_sq [0, 3] fun K12 hK12 => vwp_region hT ?_
   simp
   refine vcall_k [] (grow_spec _ hn) ?_
   rintro r ob' ⟨rfl, rfl⟩
   simp
   refine hK12 _ ?_
   try clear hK12 K12
   refine vwp_seq_k fun K13 hK13 => ?_
   refine vwp_sq [0, 6] fun K14 hK14 => vwp_region hT ?_
   simp
   refine hK14 _ ?_
   try clear hK14 K14
   refine vwp_block ?_
   refine vwp_loop_s (fun x : Nat × List Int => ⟨[(6, .sl 0 (catL rs).length 1 0 x.2.length), (25, sLL rs), (26, .int .i64 rs.length), (27, .int .i64 (x.1 : Int))], [.live ((x.2).map (.int .i64) ++ List.replicate ((catL rs).length - x.2.length) (.int .i64 0))]⟩) (fun x => x.1 ≤ rs.length ∧ x.2 = catL (rs.take x.1)) (fun x => rs.length - x.1) ((0, [])) (Gh.to_k [6, 25, 26, 27] [0]) (⟨by simp, by simp [catL]⟩) ?_
   rintro ⟨i, D⟩ ⟨hi, hD⟩
   dsimp only at hi hD ⊢
   intro K15 hK15
   refine vwp_sq [6, 25, 26, 27] fun K16 hK16 => vwp_region hT ?_
   simp
   refine hK16 _ ?_
   try clear hK16 K16
   refine vwp_seq_k fun K17 hK17 => ?_
   refine vwp_cond (by first | rfl | (simp; rfl)) (fun h3 => ?_) fun h3 => ?_
   · simp -failIfUnchanged at h3; all_goals
    refine vwp_skip ?_
    refine hK17 _ ?_
    try clear hK17 K17
    refine vwp_seq_k fun K18 hK18 => ?_
    refine vwp_block ?_
    obtain ⟨l, hl⟩ := getI (l := rs) (i := i) (by omega)
    have hle2 := cat_le rs (i + 1)
    rw [cat_take hl, List.length_append, ← hD] at hle2
    refine vwp_sq [6, 25, 26, 27] fun K19 hK19 => vwp_region hT ?_
    simp [hl]
    repeat refine ⟨by first | assumption | omega | (intros; omega), ?_⟩
    refine hK19 _ ?_
    try clear hK19 K19
    rcases Nat.lt_or_ge D.length (catL rs).length with hk | hk
    · have hsp := spl_fill (D := D) (l := l) (n := (catL rs).length) (z := .int .i64 0) hle2
      refine vwp_live [6, 8, 25, 26, 27] (vwp_region hT ?_)
      simp [hk, hsp]
      repeat refine ⟨by first | assumption | omega | (intros; omega), ?_⟩
      refine hK18 _ ?_
      try clear hK18 K18
      have w1 : IntKind.i64.wrap ((i : Int) + 1) = i + 1 := w64 (by omega) (by omega)
      refine vwp_live [6, 25, 26, 27] (vwp_region hT ?_)
      simp [w1]
      exact hK15 ((i + 1, D ++ l)) _ (Gh.to_k [6, 25, 26, 27] [0]) (⟨by dsimp only; omega, by dsimp only; rw [cat_take hl, hD]⟩) (by dsimp only; omega)
    · have hk1 : D.length = (catL rs).length := by omega
      obtain rfl : l = [] := List.length_eq_zero_iff.1 (by omega)
      have hk2 : ¬ D.length < (catL rs).length := by omega
      refine vwp_live [6, 8, 25, 26, 27] (vwp_region hT ?_)
      simp [hk1]
      repeat refine ⟨by first | assumption | omega | (intros; omega), ?_⟩
      refine hK18 _ ?_
      try clear hK18 K18
      have w1 : IntKind.i64.wrap ((i : Int) + 1) = i + 1 := w64 (by omega) (by omega)
      refine vwp_live [6, 25, 26, 27] (vwp_region hT ?_)
      simp [w1]
      exact hK15 (i + 1, D ++ []) _ (Gh.to_k [6, 25, 26, 27] [0] (he := by simp [hk1]) (hh := by simp [hk1])) (⟨by dsimp only; omega, by dsimp only; rw [cat_take hl, hD]⟩) (by dsimp only; omega)
   · simp -failIfUnchanged at h3; all_goals
    refine vwp_exit ?_
    simp only [inBlk, thenQ, if_true]
    refine hK13 _ ?_
    try clear hK13 K13
    refine vwp_sq [6] fun K20 hK20 => vwp_region hT ?_
    simp
    refine hK20 _ ?_
    try clear hK20 K20
    refine vwp_ret (hR _ _ ?_)
    have e : i = rs.length := by omega
    subst e
    rw [List.take_length] at hD
    subst hD
    exact ret_k [2] [0] ([.live ((catL rs).map (.int .i64))]) (.sl 0 (catL rs).length 1 0 (catL rs).length) (⟨rfl, rfl⟩)
end Go.Proofs.Ythjpaongoflgiaa
