/- Sorting that keeps the order of what is alike: the walk. -/
import Derived.Test.YthjpaongoflgiaaBase
import Derived.Test.YthjpaongoflgiaaVXc
import Derived.Test.YthjpaongoflgiaaQuota0
namespace Go.Proofs.Ythjpaongoflgiaa
open Go Go.VX Go.RowKit
set_option linter.unusedVariables false
set_option linter.unusedSimpArgs false
set_option maxHeartbeats 20000000
set_option maxRecDepth 100000
open Go.VX.Rk Go.VX.Srt

abbrev Part.cl (x : Part) : List V := [.int .i64 x.at_, .int .i64 x.down, .int .i64 x.left]
instance : Row Part := ⟨Part.cl, 3, fun _ => rfl, fun _ _ => rfl⟩
@[simp] theorem cellsPart (x : Part) : Row.cells x = Part.cl x := rfl
theorem lenPart (l : List Part) : (rowsV l).length = l.length * 3 := rowsV_length l
theorem rowPart {l : List Part} {i : Nat} {x : Part} (h : l[i]? = some x) : List.take 3 (List.drop (i * 3) (rowsV l)) = Part.cl x := rowsV_row h
theorem dropPart {l : List Part} {i : Nat} {x : Part} (h : l[i]? = some x) : List.drop (i * 3) (rowsV l) = Part.cl x ++ rowsV (l.drop (i + 1)) := rowsV_drop h
theorem snocPart (l : List Part) (x : Part) : rowsV l ++ Part.cl x = rowsV (l ++ [x]) := (rowsV_snoc l x).symm
theorem putPart {l : List Part} {i : Nat} (h : i < l.length) (y : Part) : List.take (i * 3) (rowsV l) ++ (Part.cl y ++ List.drop (i * 3 + 3) (rowsV l)) = rowsV (l.set i y) := rowsV_put h y
theorem splPart {l : List Part} {i : Nat} (h : i < l.length) (y : Part) : spl (rowsV l) (i * 3) (Part.cl y) = rowsV (l.set i y) := by
  rw [spl_eq (by rw [lenPart]; simp; omega), List.append_assoc]; exact putPart h y
theorem getPart {l : List Part} {i : Nat} {x : Part} (h : l[i]? = some x) : (rowsV l)[i * 3]? = some (.int .i64 x.at_) ∧ (rowsV l)[i * 3 + 1]? = some (.int .i64 x.down) ∧ (rowsV l)[i * 3 + 2]? = some (.int .i64 x.left) :=
  ⟨rowsV_get (j := 0) h (by show 0 < 3; omega), rowsV_get (j := 1) h (by show 1 < 3; omega), rowsV_get (j := 2) h (by show 2 < 3; omega)⟩
theorem isNaN_spec (x : Int) : VC P 68 [.int .i64 x] [] (fun r ob' => r = .bool false ∧ ob' = []) := by
  refine VC_of_vwp_k ent_68 Try.func68 rfl (by simp) fun R hR => ?_
  refine vwp_sq [0] fun K1 hK1 => vwp_region hT ?_
  simp
  refine hK1 _ ?_
  try clear hK1 K1
  refine vwp_sq [0] fun K2 hK2 => vwp_region hT ?_
  simp
  refine hK2 _ ?_
  try clear hK2 K2
  refine vwp_ret (hR _ _ ?_)
  exact ret_k [2] [] ([]) (.bool false) (⟨rfl, rfl⟩)

def cmpN (x y : Int) : Int := if x < y then -1 else if y < x then 1 else 0
theorem compare_spec (x y : Int) : VC P 58 [.int .i64 x, .int .i64 y] [] (fun r ob' => r = .int .i64 (cmpN x y) ∧ ob' = []) := by
  refine VC_of_vwp_k ent_58 Try.func58 rfl (by simp) fun R hR => ?_
  refine vwp_sq [0, 1] fun K1 hK1 => vwp_region hT ?_
  simp
  refine hK1 _ ?_
  try clear hK1 K1
  refine vwp_sq [0, 1] fun K2 hK2 => vwp_region hT ?_
  simp
  refine vcall_k [] (isNaN_spec x) ?_
  rintro r ob' ⟨rfl, rfl⟩
  simp
  refine hK2 _ ?_
  try clear hK2 K2
  refine vwp_sq [0, 1, 5] fun K3 hK3 => vwp_region hT ?_
  simp
  refine vcall_k [] (isNaN_spec y) ?_
  rintro r ob' ⟨rfl, rfl⟩
  simp
  refine hK3 _ ?_
  try clear hK3 K3
  refine vwp_seq_k fun K4 hK4 => ?_
  refine vwp_sq [0, 1, 5, 6] fun K5 hK5 => vwp_region hT ?_
  simp
  refine hK5 _ ?_
  try clear hK5 K5
  refine vwp_cond (by first | rfl | (simp; rfl)) (fun h1 => ?_) fun h1 => ?_
  · simp -failIfUnchanged at h1; all_goals
   refine vwp_seq_k fun K6 hK6 => ?_
   refine vwp_sq [6] fun K7 hK7 => vwp_region hT ?_
   simp
   refine hK7 _ ?_
   try clear hK7 K7
   refine vwp_cond (by first | rfl | (simp; rfl)) (fun h2 => ?_) fun h2 => ?_
   · simp -failIfUnchanged at h2; all_goals
    refine vwp_sq [] fun K8 hK8 => vwp_region hT ?_
    simp
    refine hK8 _ ?_
    try clear hK8 K8
    refine vwp_ret (hR _ _ ?_)
    exact ret_k [4] [] ([]) (.int .i64 (cmpN x y)) (⟨rfl, rfl⟩) (hr := by simp [cmpN]; omega)
   · simp -failIfUnchanged at h2; all_goals
    refine vwp_skip ?_
    refine hK6 _ ?_
    try clear hK6 K6
    refine vwp_sq [] fun K9 hK9 => vwp_region hT ?_
    simp
    refine hK9 _ ?_
    try clear hK9 K9
    refine vwp_ret (hR _ _ ?_)
    exact ret_k [4] [] ([]) (.int .i64 (cmpN x y)) (⟨rfl, rfl⟩) (hr := by simp [cmpN]; omega)
  · simp -failIfUnchanged at h1; all_goals
   refine vwp_skip ?_
   refine hK4 _ ?_
   try clear hK4 K4
   refine vwp_seq_k fun K10 hK10 => ?_
   refine vwp_sq [0, 1, 6] fun K11 hK11 => vwp_region hT ?_
   simp
   refine hK11 _ ?_
   try clear hK11 K11
   refine vwp_cond (by first | rfl | (simp; rfl)) (fun h3 => ?_) fun h3 => ?_
   · simp -failIfUnchanged at h3; all_goals
    refine vwp_sq [] fun K12 hK12 => vwp_region hT ?_
    simp
    refine hK12 _ ?_
    try clear hK12 K12
    refine vwp_ret (hR _ _ ?_)
    exact ret_k [4] [] ([]) (.int .i64 (cmpN x y)) (⟨rfl, rfl⟩) (hr := by simp [cmpN]; omega)
   · simp -failIfUnchanged at h3; all_goals
    refine vwp_skip ?_
    refine hK10 _ ?_
    try clear hK10 K10
    refine vwp_seq_k fun K13 hK13 => ?_
    refine vwp_sq [0, 1] fun K14 hK14 => vwp_region hT ?_
    simp
    refine hK14 _ ?_
    try clear hK14 K14
    refine vwp_cond (by first | rfl | (simp; rfl)) (fun h4 => ?_) fun h4 => ?_
    · simp -failIfUnchanged at h4; all_goals
     refine vwp_sq [] fun K15 hK15 => vwp_region hT ?_
     simp
     refine hK15 _ ?_
     try clear hK15 K15
     refine vwp_ret (hR _ _ ?_)
     exact ret_k [4] [] ([]) (.int .i64 (cmpN x y)) (⟨rfl, rfl⟩) (hr := by simp [cmpN]; omega)
    · simp -failIfUnchanged at h4; all_goals
     refine vwp_skip ?_
     refine hK13 _ ?_
     try clear hK13 K13
     refine vwp_seq_k fun K16 hK16 => ?_
     refine vwp_sq [0, 1] fun K17 hK17 => vwp_region hT ?_
     simp
     refine hK17 _ ?_
     try clear hK17 K17
     refine vwp_cond (by first | rfl | (simp; rfl)) (fun h5 => ?_) fun h5 => ?_
     · simp -failIfUnchanged at h5; all_goals
      refine vwp_sq [] fun K18 hK18 => vwp_region hT ?_
      simp
      refine hK18 _ ?_
      try clear hK18 K18
      refine vwp_ret (hR _ _ ?_)
      exact ret_k [4] [] ([]) (.int .i64 (cmpN x y)) (⟨rfl, rfl⟩) (hr := by simp [cmpN]; omega)
     · simp -failIfUnchanged at h5; all_goals
      refine vwp_skip ?_
      refine hK16 _ ?_
      try clear hK16 K16
      refine vwp_sq [] fun K19 hK19 => vwp_region hT ?_
      simp
      refine hK19 _ ?_
      try clear hK19 K19
      refine vwp_ret (hR _ _ ?_)
      exact ret_k [4] [] ([]) (.int .i64 (cmpN x y)) (⟨rfl, rfl⟩) (hr := by simp [cmpN]; omega)
theorem pcmp_spec (a b : Part) : VC P 57 [.agg (Part.cl a), .agg (Part.cl b)] [] (fun r ob' => r = .int .i64 (cmpN b.left a.left) ∧ ob' = []) := by
  refine VC_of_vwp_k ent_57 Try.func57 rfl (by simp) fun R hR => ?_
  refine vwp_sq [0, 1] fun K1 hK1 => vwp_region hT ?_
  simp
  refine hK1 _ ?_
  try clear hK1 K1
  refine vwp_sq [2, 3] fun K2 hK2 => vwp_region hT ?_
  simp
  refine vcall_k [] (compare_spec b.left a.left) ?_
  rintro r ob' ⟨rfl, rfl⟩
  simp
  refine hK2 _ ?_
  try clear hK2 K2
  refine vwp_ret (hR _ _ ?_)
  exact ret_k [4] [] ([]) (.int .i64 (cmpN b.left a.left)) (⟨rfl, rfl⟩)

theorem cmpN_lt {a b : Part} : cmpN b.left a.left < 0 ↔ moreLeft a b = true := by
  unfold cmpN moreLeft
  simp
  split
  · simp_all
  · split <;> simp_all

/-- So many places changed about with those from another one on. -/
def swpN {α : Type} (L : List α) (a b : Nat) : Nat → List α
  | 0 => L
  | i + 1 => swp (swpN L a b i) (a + i) (b + i)
theorem swpN_length {α : Type} (L : List α) (a b : Nat) : ∀ i, (swpN L a b i).length = L.length
  | 0 => rfl
  | i + 1 => by rw [swpN, swp_length, swpN_length L a b i]
theorem swpN_range {α : Type} {P X M Y Q : List α} (hl : X.length = Y.length) : ∀ i, i ≤ X.length → swpN (P ++ X ++ M ++ Y ++ Q) P.length (P.length + X.length + M.length) i = P ++ (Y.take i ++ X.drop i) ++ M ++ (X.take i ++ Y.drop i) ++ Q
  | 0, _ => by simp [swpN]
  | i + 1, h => by rw [swpN, swpN_range hl i (by omega), swp_range hl (by omega)]
theorem swpN_all {α : Type} {P X M Y Q : List α} {a b c : Nat} (hl : X.length = Y.length) (ha : a = P.length) (hb : b = P.length + X.length + M.length) (hc : c = X.length) : swpN (P ++ X ++ M ++ Y ++ Q) a b c = P ++ Y ++ M ++ X ++ Q := by
  subst ha; subst hb; subst hc
  rw [swpN_range hl _ (Nat.le_refl _), hl, List.take_length, List.drop_length, ← hl, List.take_length, List.drop_length]
  simp
theorem splSwp1 {l : List Part} {i : Nat} {x : Part} (h1 : l[i]? = some x) (y : Part) : spl (rowsV l) (i * 3) (Part.cl y) = rowsV (l.set i y) := splPart (List.getElem?_eq_some_iff.1 h1).1 y
theorem splSwp2 {l : List Part} {i j : Nat} {x y : Part} (h1 : l[i]? = some x) (h2 : l[j]? = some y) : spl (rowsV (l.set i y)) (j * 3) (Part.cl x) = rowsV (swp l i j) := by
  rw [splPart (by rw [List.length_set]; exact (List.getElem?_eq_some_iff.1 h2).1), swp_eq h1 h2]
theorem splSwp {l : List Part} {i j : Nat} {x y : Part} (h1 : l[i]? = some x) (h2 : l[j]? = some y) : spl (spl (rowsV l) (i * 3) (Part.cl y)) (j * 3) (Part.cl x) = rowsV (swp l i j) := by
  rw [splPart (List.getElem?_eq_some_iff.1 h1).1, splPart (by rw [List.length_set]; exact (List.getElem?_eq_some_iff.1 h2).1), swp_eq h1 h2]
theorem swapRange_spec (L : List Part) (n a b c : Nat) (hn : L.length = n) (hn2 : n < 1099511627776) (ha : a + c ≤ n) (hb : b + c ≤ n) : VC P 89 [.sl 0 (n * 3) 3 0 n, .int .i64 a, .int .i64 b, .int .i64 c, .fn 57 []] [.live (rowsV (L))] (fun r ob' => r = .tup [] ∧ ob' = [.live (rowsV (swpN L a b c))]) := by
  refine VC_of_vwp_k ent_89 Try.func89 rfl (by simp) fun R hR => ?_
  refine vwp_sq [0, 1, 2, 3] fun K1 hK1 => vwp_region hT ?_
  simp
  refine hK1 _ ?_
  try clear hK1 K1
  refine vwp_block ?_
  refine vwp_loop_s (fun i : Nat => ⟨[(0, .sl 0 (n * 3) 3 0 n), (1, .int .i64 a), (2, .int .i64 b), (3, .int .i64 c), (10, .int .i64 (i : Int))], [.live (rowsV (swpN L a b i))]⟩) (fun i => i ≤ c) (fun i => c - i) (0) (Gh.to_k [0, 1, 2, 3, 10] [0] (hh := by simp [swpN])) (by omega) ?_
  rintro i hi
  have hl := swpN_length L a b i
  intro K2 hK2
  refine vwp_seq_k fun K3 hK3 => ?_
  refine vwp_sq [0, 1, 2, 3, 10] fun K4 hK4 => vwp_region hT ?_
  simp
  refine hK4 _ ?_
  try clear hK4 K4
  refine vwp_cond (by first | rfl | (simp; rfl)) (fun h1 => ?_) fun h1 => ?_
  · simp -failIfUnchanged at h1; all_goals
   refine vwp_skip ?_
   refine hK3 _ ?_
   try clear hK3 K3
   refine vwp_seq_k fun K5 hK5 => ?_
   refine vwp_block ?_
   obtain ⟨x, hx⟩ := getI (l := swpN L a b i) (i := a + i) (by omega)
   obtain ⟨y, hy⟩ := getI (l := swpN L a b i) (i := b + i) (by omega)
   have w1 : IntKind.i64.wrap ((a : Int) + i) = a + i := w64 (by omega) (by omega)
   have w2 : IntKind.i64.wrap ((b : Int) + i) = b + i := w64 (by omega) (by omega)
   refine vwp_live [0, 1, 2, 3, 10] (vwp_storm hT hm [.pure, .pure, .pure, .win 0 0, .pure, .pure, .pure, .win 0 1, .pure, .pure, .pure, .win 0 0, .win 0 0, .win 0 0, .pure, .pure, .pure, .win 0 0, .win 0 0, .win 0 0, .win 0 0, .mv, .win 1 1, .mv] [[], [], [], [1, 2], [], [], [], [5, 6], [], [], [], [9, 10], [8, 9, 10, 11], [8, 9, 10, 11, 12], [], [], [], [15, 16], [14, 15, 16, 17], [14, 15, 16, 17, 18], [0, 1, 2, 3, 8, 9, 10, 11, 12, 13, 14, 15, 16, 17, 18, 19], [0, 1, 2, 3, 8, 9, 10, 11, 12, 13, 14, 15, 16, 17, 18, 19, 20], [0, 1, 2, 3, 4, 5, 6, 7, 8, 9, 10, 11, 12, 13, 14, 15, 16, 17, 18, 19, 20, 21], [0, 1, 2, 3, 4, 5, 6, 7, 8, 9, 10, 11, 12, 13, 14, 15, 16, 17, 18, 19, 20, 21, 22]] (by kernel_rfl) ?_)
   simp [w1, w2, rowPart hx, rowPart hy, lenPart, splSwp1 hx, splSwp2 hx hy]
   repeat refine ⟨by first | assumption | omega | (intros; omega), ?_⟩
   refine hK5 _ ?_
   try clear hK5 K5
   have w3 : IntKind.i64.wrap ((i : Int) + 1) = i + 1 := w64 (by omega) (by omega)
   refine vwp_live [0, 1, 2, 3, 10] (vwp_region hT ?_)
   simp [w3]
   exact hK2 (i + 1) _ (Gh.to_k [0, 1, 2, 3, 10] [0] (hh := by simp [swpN])) (by omega) (by omega)
  · simp -failIfUnchanged at h1; all_goals
   refine vwp_exit ?_
   simp only [inBlk, thenQ, if_true]
   refine hR _ _ ?_
   have e : i = c := by omega
   subst e
   exact norm_k [] [0] ([.live (rowsV (swpN L a b i))]) (.tup []) (⟨rfl, rfl⟩)
theorem rotate_spec (A U V B : List Part) (n a m b : Nat) (hn : (A ++ U ++ V ++ B).length = n) (hn2 : n < 1099511627776) (ha : a = A.length) (hm1 : m = A.length + U.length) (hb : b = A.length + U.length + V.length) (hu : 0 < U.length) (hv : 0 < V.length) : VC P 77 [.sl 0 (n * 3) 3 0 n, .int .i64 a, .int .i64 m, .int .i64 b, .fn 57 []] [.live (rowsV (A ++ U ++ V ++ B))] (fun r ob' => r = .tup [] ∧ ob' = [.live (rowsV (A ++ V ++ U ++ B))]) := by
  refine VC_of_vwp_k ent_77 Try.func77 rfl (by simp) fun R hR => ?_
  have hn3 := hn
  simp only [List.length_append] at hn3
  have w1 : IntKind.i64.wrap ((m : Int) - a) = U.length := (w64 (by omega) (by omega)).trans (by omega)
  have w2 : IntKind.i64.wrap ((b : Int) - m) = V.length := (w64 (by omega) (by omega)).trans (by omega)
  refine vwp_sq [0, 1, 2, 3, 4] fun K1 hK1 => vwp_region hT ?_
  simp [w1]
  refine hK1 _ ?_
  try clear hK1 K1
  refine vwp_sq [0, 2, 3, 4, 10] fun K2 hK2 => vwp_region hT ?_
  simp [w2]
  refine hK2 _ ?_
  try clear hK2 K2
  refine vwp_seq_k fun K3 hK3 => ?_
  refine vwp_block ?_
  refine vwp_loop_s (fun x : List Part × List Part × List Part × List Part => ⟨[(0, .sl 0 (n * 3) 3 0 n), (2, .int .i64 m), (4, .fn 57 []), (10, .int .i64 (x.2.1.length : Int)), (11, .int .i64 (x.2.2.1.length : Int))], [.live (rowsV (x.1 ++ x.2.1 ++ x.2.2.1 ++ x.2.2.2))]⟩) (fun x => x.1.length + x.2.1.length = m ∧ 0 < x.2.1.length ∧ 0 < x.2.2.1.length ∧ x.1 ++ x.2.2.1 ++ x.2.1 ++ x.2.2.2 = A ++ V ++ U ++ B) (fun x => x.2.1.length + x.2.2.1.length) ((A, U, V, B)) (Gh.to_k [0, 2, 4, 10, 11] [0]) (⟨hm1.symm, hu, hv, rfl⟩) ?_
  rintro ⟨A', U', V', B'⟩ ⟨h1, h2, h3, h4⟩
  dsimp only at h1 h2 h3 h4 ⊢
  have hl := congrArg List.length h4
  simp only [List.length_append] at hl hn
  have hx : (A' ++ U' ++ V' ++ B').length = n := by simp only [List.length_append]; omega
  intro K4 hK4
  refine vwp_seq_k fun K5 hK5 => ?_
  refine vwp_sq [0, 2, 4, 10, 11] fun K6 hK6 => vwp_region hT ?_
  simp
  refine hK6 _ ?_
  try clear hK6 K6
  refine vwp_cond (by first | rfl | (simp; rfl)) (fun h1 => ?_) fun h1 => ?_
  · simp -failIfUnchanged at h1; all_goals
   refine vwp_skip ?_
   refine hK5 _ ?_
   try clear hK5 K5
   refine vwp_block ?_
   refine vwp_sq [0, 2, 4, 10, 11] fun K7 hK7 => vwp_region hT ?_
   simp
   refine hK7 _ ?_
   try clear hK7 K7
   refine vwp_cond (by first | rfl | (simp; rfl)) (fun h2 => ?_) fun h2 => ?_
   · simp -failIfUnchanged at h2; all_goals
    have e1 : U' = U'.take V'.length ++ U'.drop V'.length := (List.take_append_drop _ _).symm
    have hv := swapRange_spec (A' ++ U' ++ V' ++ B') n A'.length m V'.length hx hn2 (by omega) (by omega)
    have e2 : A' ++ U' ++ V' ++ B' = A' ++ U'.take V'.length ++ U'.drop V'.length ++ V' ++ B' := by rw [List.append_assoc A' (U'.take V'.length), List.take_append_drop]
    have e3 : swpN (A' ++ U' ++ V' ++ B') A'.length m V'.length = A' ++ V' ++ U'.drop V'.length ++ U'.take V'.length ++ B' := by
      rw [e2, swpN_all (by simp; omega) rfl (by simp; omega) (by simp; omega)]
    rw [e3] at hv
    have w1 : IntKind.i64.wrap ((m : Int) - U'.length) = A'.length := (w64 (by omega) (by omega)).trans (by omega)
    refine vwp_sq [0, 2, 4, 10, 11] fun K8 hK8 => vwp_region hT ?_
    simp [w1]
    refine vcall_k [0] (hv) ?_
    rintro r ob' ⟨rfl, rfl⟩
    simp [w1]
    refine hK8 _ ?_
    try clear hK8 K8
    have w2 : IntKind.i64.wrap ((U'.length : Int) - V'.length) = (U'.drop V'.length).length := (w64 (by omega) (by omega)).trans (by simp; omega)
    refine vwp_live [0, 2, 4, 10, 11] (vwp_region hT ?_)
    simp [w2, -List.length_drop]
    exact hK4 (A' ++ V', U'.drop V'.length, U'.take V'.length, B') _ (Gh.to_k [0, 2, 4, 10, 11] [0] (he := by simp; omega)) ⟨by simp; omega, by simp; omega, by simp; omega, by dsimp only; rw [List.append_assoc (A' ++ V') (U'.take _), List.take_append_drop]; exact h4⟩ (by simp; omega)
   · simp -failIfUnchanged at h2; all_goals
    have e1 : V' = V'.take (V'.length - U'.length) ++ V'.drop (V'.length - U'.length) := (List.take_append_drop _ _).symm
    have hv := swapRange_spec (A' ++ U' ++ V' ++ B') n A'.length (m + V'.length - U'.length) U'.length hx hn2 (by omega) (by omega)
    have e2 : A' ++ U' ++ V' ++ B' = A' ++ U' ++ V'.take (V'.length - U'.length) ++ V'.drop (V'.length - U'.length) ++ B' := by rw [List.append_assoc (A' ++ U') (V'.take _), List.take_append_drop]
    have e3 : swpN (A' ++ U' ++ V' ++ B') A'.length (m + V'.length - U'.length) U'.length = A' ++ V'.drop (V'.length - U'.length) ++ V'.take (V'.length - U'.length) ++ U' ++ B' := by
      rw [e2, swpN_all (by simp; omega) rfl (by simp; omega) rfl]
    rw [e3] at hv
    have w1 : IntKind.i64.wrap ((m : Int) - U'.length) = A'.length := (w64 (by omega) (by omega)).trans (by omega)
    have w2 : IntKind.i64.wrap ((m : Int) + V'.length) = (m : Int) + V'.length := w64 (by omega) (by omega)
    have w3 : IntKind.i64.wrap ((m : Int) + V'.length - U'.length) = (m + V'.length - U'.length : Nat) := (w64 (by omega) (by omega)).trans (by omega)
    refine vwp_sq [0, 2, 4, 10, 11] fun K9 hK9 => vwp_region hT ?_
    simp [w1, w2, w3]
    refine vcall_k [0] (hv) ?_
    rintro r ob' ⟨rfl, rfl⟩
    simp [w1, w2, w3]
    refine hK9 _ ?_
    try clear hK9 K9
    have w4 : IntKind.i64.wrap ((V'.length : Int) - U'.length) = (V'.take (V'.length - U'.length)).length := (w64 (by omega) (by omega)).trans (by simp; omega)
    refine vwp_live [0, 2, 4, 10, 11] (vwp_region hT ?_)
    simp [w4, -List.length_take]
    exact hK4 (A', V'.drop (V'.length - U'.length), V'.take (V'.length - U'.length), U' ++ B') _ (Gh.to_k [0, 2, 4, 10, 11] [0] (he := by simp; omega)) ⟨by simp; omega, by simp; omega, by simp; omega, by dsimp only; rw [← h4, ← List.append_assoc, List.append_assoc A' (V'.take _), List.take_append_drop]⟩ (by simp; omega)
  · simp -failIfUnchanged at h1; all_goals
   refine vwp_exit ?_
   simp only [inBlk, thenQ, if_true]
   refine hK3 _ ?_
   try clear hK3 K3
   have hv := swapRange_spec (A' ++ U' ++ V' ++ B') n A'.length m U'.length hx hn2 (by omega) (by omega)
   have e2 : A' ++ U' ++ V' ++ B' = A' ++ U' ++ [] ++ V' ++ B' := by simp
   have e3 : swpN (A' ++ U' ++ V' ++ B') A'.length m U'.length = A' ++ V' ++ U' ++ B' := by
     rw [e2, swpN_all (by omega) rfl (by simp; omega) rfl]; simp
   rw [e3, h4] at hv
   have w1 : IntKind.i64.wrap ((m : Int) - U'.length) = A'.length := (w64 (by omega) (by omega)).trans (by omega)
   refine vwp_live [0, 2, 4, 10] (vwp_region hT ?_)
   simp [w1]
   refine vcall_k [0] (hv) ?_
   rintro r ob' ⟨rfl, rfl⟩
   simp [w1]
   refine hR _ _ ?_
   exact norm_k [] [0] ([.live (rowsV (A ++ V ++ U ++ B))]) (.tup []) (⟨rfl, rfl⟩)
end Go.Proofs.Ythjpaongoflgiaa
