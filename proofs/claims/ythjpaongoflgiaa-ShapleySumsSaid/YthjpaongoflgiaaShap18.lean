/- Games added up, and turned round. -/
import Derived.Test.YthjpaongoflgiaaShap17
namespace Go.Proofs.Ythjpaongoflgiaa
open Go Go.VX Go.RowKit
set_option linter.unusedVariables false
set_option linter.unusedSimpArgs false
set_option maxHeartbeats 20000000
set_option maxRecDepth 100000

def addG (a b : List Int) : List Int := List.zipWith (· + ·) a b
def negG (a : List Int) : List Int := a.map fun x => -x
theorem addG_len {a b : List Int} (h : a.length = b.length) : (addG a b).length = a.length := by simp [addG]; omega
theorem negG_len {a : List Int} : (negG a).length = a.length := by simp [negG]
theorem addG_get {a b : List Int} {i : Nat} {x y : Int} (hx : a[i]? = some x) (hy : b[i]? = some y) : (addG a b)[i]? = some (x + y) := by
  simp [addG, List.getElem?_zipWith, hx, hy]
theorem negG_get {a : List Int} {i : Nat} {x : Int} (hx : a[i]? = some x) : (negG a)[i]? = some (-x) := by
  simp [negG, hx]
theorem addG_getD {a b : List Int} (h : a.length = b.length) (j : Nat) : (addG a b).getD j 0 = a.getD j 0 + b.getD j 0 := by
  rcases Nat.lt_or_ge j a.length with hj | hj
  · obtain ⟨x, hx⟩ := getI hj
    obtain ⟨y, hy⟩ := getI (l := b) (i := j) (by omega)
    rw [getD_of (addG_get hx hy), getD_of hx, getD_of hy]
  · have h1 : a[j]? = none := List.getElem?_eq_none hj
    have h2 : b[j]? = none := List.getElem?_eq_none (by omega)
    have h3 : (addG a b)[j]? = none := List.getElem?_eq_none (by rw [addG_len h]; omega)
    simp [List.getD_eq_getElem?_getD, h1, h2, h3]
theorem negG_getD (a : List Int) (j : Nat) : (negG a).getD j 0 = -a.getD j 0 := by
  rcases Nat.lt_or_ge j a.length with hj | hj
  · obtain ⟨x, hx⟩ := getI hj
    rw [getD_of (negG_get hx), getD_of hx]
  · have h1 : a[j]? = none := List.getElem?_eq_none hj
    have h3 : (negG a)[j]? = none := List.getElem?_eq_none (by rw [negG_len]; omega)
    simp [List.getD_eq_getElem?_getD, h1, h3]
theorem exTerm_add {m : Nat} {a b : List Int} (h : a.length = b.length) (c i : Nat) : exTerm m (addG a b) c i = exTerm m a c i + exTerm m b c i := by
  unfold exTerm
  split
  · rw [addG_getD h, addG_getD h, ← Int.mul_add]
    congr 1
    omega
  · rfl
theorem exTerm_neg {m : Nat} {a : List Int} (c i : Nat) : exTerm m (negG a) c i = -exTerm m a c i := by
  unfold exTerm
  split
  · rw [negG_getD, negG_getD, ← Int.mul_neg]
    congr 1
    omega
  · rfl
theorem exAt_add {m : Nat} {a b : List Int} (h : a.length = b.length) (c i : Nat) : exAt m (addG a b) c i = exAt m a c i + exAt m b c i := by
  simp only [exAt, exTerm_add h, sum_map_add]
theorem sum_map_neg {α : Type} (f : α → Int) : ∀ l : List α, (l.map fun x => -f x).sum = -(l.map f).sum
  | [] => rfl
  | x :: l => by simp only [List.map_cons, List.sum_cons, sum_map_neg f l]; omega
theorem exAt_neg {m : Nat} {a : List Int} (c i : Nat) : exAt m (negG a) c i = -exAt m a c i := by
  simp only [exAt, exTerm_neg, sum_map_neg]
theorem exactL_get {m : Nat} {g : List Int} {i : Nat} (h : i < m) : (exactL m g)[i]? = some (exAt m g (p2 m) i) := by
  simp [exactL, exRow, h]
theorem mayB_neg {n : Int} {a : List Int} (h : mayB n a = true) : mayB n (negG a) = true := by
  simp only [mayB, Bool.and_eq_true, decide_eq_true_eq, Bool.not_eq_true', List.any_eq_false] at h ⊢
  obtain ⟨⟨⟨h1, h3⟩, h4⟩, h5⟩ := h
  refine ⟨⟨⟨h1, by rw [negG_len]; exact h3⟩, by simpa using negG_get h4⟩, fun x hx => ?_⟩
  simp only [negG, List.mem_map] at hx
  obtain ⟨y, hy, rfl⟩ := hx
  have := h5 y hy
  simp only [offB, Bool.or_eq_true, decide_eq_true_eq] at this ⊢
  omega
theorem fill_set {X : List Int} {i : Nat} {x : Int} (h : X[i]? = some x) : (X.take i ++ List.replicate (X.length - i) 0).set i x = X.take (i + 1) ++ List.replicate (X.length - (i + 1)) 0 := by
  have hi := (List.getElem?_eq_some_iff.1 h).1
  have hl : (X.take i).length = i := by simp; omega
  obtain ⟨k, hk⟩ : ∃ k, X.length - i = k + 1 := ⟨X.length - i - 1, by omega⟩
  have hk2 : X.length - (i + 1) = k := by omega
  rw [List.set_append_right _ _ (by omega), hl, Nat.sub_self, hk, hk2, List.replicate_succ, List.set_cons_zero, List.take_add_one, h]
  simp
theorem large_nil (g : List Int) : VC P 20 [sI g, .nils] [] (fun r ob' => r = .bool (decide (200 < g.length)) ∧ ob' = []) := by
  refine VC_of_vwp_k ent_20 Try.func20 rfl (by simp) fun R hR => ?_
  refine vwp_sq [0, 1] fun K1 hK1 => vwp_region hT ?_
  simp
  refine hK1 _ ?_
  try clear hK1 K1
  refine vwp_sq [0, 1] fun K2 hK2 => vwp_region hT ?_
  simp
  refine hK2 _ ?_
  try clear hK2 K2
  refine vwp_seq_k fun K3 hK3 => ?_
  refine vwp_sq [0, 1, 5] fun K4 hK4 => vwp_region hT ?_
  simp
  refine hK4 _ ?_
  try clear hK4 K4
  refine vwp_block ?_
  refine vwp_loop_s (fun i : Nat => ⟨[(0, sI g), (1, .nils), (5, .int .i64 0), (6, .int .i64 0)], []⟩) (fun i => i = 0) (fun i => 0) (0) (Gh.to_k [0, 1, 5, 6] []) (rfl) ?_
  rintro i rfl
  intro K5 hK5
  refine vwp_seq_k fun K6 hK6 => ?_
  refine vwp_sq [0, 1, 5, 6] fun K7 hK7 => vwp_region hT ?_
  simp
  refine hK7 _ ?_
  try clear hK7 K7
  refine vwp_cond (by first | rfl | (simp; rfl)) (fun h1 => ?_) fun h1 => ?_
  · simp -failIfUnchanged at h1; all_goals
   refine vwp_skip ?_
   refine hK6 _ ?_
   try clear hK6 K6
   refine vwp_seq_k fun K8 hK8 => ?_
   refine vwp_block ?_
   simp at *
  · simp -failIfUnchanged at h1; all_goals
   refine vwp_exit ?_
   simp only [inBlk, thenQ, if_true]
   refine hK3 _ ?_
   try clear hK3 K3
   refine vwp_sq [0, 1, 5] fun K9 hK9 => vwp_region hT ?_
   simp
   refine hK9 _ ?_
   try clear hK9 K9
   refine vwp_ret (hR _ _ ?_)
   exact ret_k [4] [] ([]) (.bool (decide (200 < g.length))) (⟨rfl, rfl⟩) (hr := by simp; omega)
theorem shapleySums_spec (n : Int) (a b : List Int) (ha : a.length ≤ 140737488355328) (hb : b.length ≤ 140737488355328) : VC P 9 [.int .i64 n, sI a, sI b] [] (fun r ob' => r = .bool true) := by
  refine VC_of_vwp_k ent_9 Try.func9 rfl (by simp) fun R hR => ?_
  refine vwp_sq [0, 1, 2] fun K1 hK1 => vwp_region hT ?_
  simp
  refine hK1 _ ?_
  try clear hK1 K1
  refine vwp_seq_k fun K2 hK2 => ?_
  refine vwp_sq [0, 1, 2] fun K3 hK3 => vwp_region hT ?_
  simp
  refine vcall_k [] (awake_spec) ?_
  rintro r ob' ⟨rfl, rfl⟩
  simp
  refine hK3 _ ?_
  try clear hK3 K3
  refine vwp_cond (by first | rfl | (simp; rfl)) (fun h1 => ?_) fun h1 => ?_
  · simp -failIfUnchanged at h1; all_goals
   refine vwp_seq_k fun K4 hK4 => ?_
   simp at *
  · simp -failIfUnchanged at h1; all_goals
   refine vwp_skip ?_
   refine hK2 _ ?_
   try clear hK2 K2
   refine vwp_seq_k fun K5 hK5 => ?_
   refine vwp_seq_k fun K6 hK6 => ?_
   by_cases hla : 200 < a.length
   · refine vwp_live [0, 1, 2] (vwp_region hT ?_)
     simp [hla]
     refine vcall_k [] (large_nil a) ?_
     rintro r ob' ⟨rfl, rfl⟩
     simp [hla]
     refine hK6 _ ?_
     try clear hK6 K6
     refine vwp_cond (by first | rfl | (simp; rfl)) (fun h2 => ?_) fun h2 => ?_
     · simp -failIfUnchanged at h2; all_goals
      refine vwp_sq [] fun K7 hK7 => vwp_region hT ?_
      simp
      refine hK7 _ ?_
      try clear hK7 K7
      refine vwp_ret (hR _ _ ?_)
      exact ret_k [6] [] ([]) (.bool true) (rfl)
     · simp -failIfUnchanged at h2; all_goals
      refine vwp_skip ?_
      refine hK5 _ ?_
      try clear hK5 K5
      refine vwp_seq_k fun K8 hK8 => ?_
      simp at *
   · refine vwp_live [0, 1, 2] (vwp_region hT ?_)
     simp [hla]
     refine vcall_k [] (large_nil a) ?_
     rintro r ob' ⟨rfl, rfl⟩
     simp [hla]
     refine vcall_k [] (large_nil b) ?_
     rintro r ob' ⟨rfl, rfl⟩
     simp [hla]
     refine hK6 _ ?_
     try clear hK6 K6
     refine vwp_cond (by first | rfl | (simp; rfl)) (fun h3 => ?_) fun h3 => ?_
     · simp -failIfUnchanged at h3; all_goals
      refine vwp_sq [] fun K9 hK9 => vwp_region hT ?_
      simp
      refine hK9 _ ?_
      try clear hK9 K9
      refine vwp_ret (hR _ _ ?_)
      exact ret_k [6] [] ([]) (.bool true) (rfl)
     · simp -failIfUnchanged at h3; all_goals
      have hq := h3
      have hlb : ¬ 200 < b.length := by omega
      have hab0 : a.length = b.length := by omega
      refine vwp_skip ?_
      refine hK5 _ ?_
      try clear hK5 K5
      refine vwp_sq [0, 1, 2] fun K10 hK10 => vwp_region hT ?_
      simp
      refine vcall_k [] (exact_u n a (by omega)) ?_
      rintro r ob' ⟨rfl, rfl⟩
      simp
      refine hK10 _ ?_
      try clear hK10 K10
      refine vwp_sq [0, 1, 2, 7, 8, 9] fun K11 hK11 => vwp_region hT ?_
      simp
      refine vcall_k [] (exact_u n b (by omega)) ?_
      rintro r ob' ⟨rfl, rfl⟩
      simp
      refine hK11 _ ?_
      try clear hK11 K11
      refine vwp_seq_k fun K12 hK12 => ?_
      refine vwp_seq_k fun K13 hK13 => ?_
      rcases hma : mayB n a with _ | _
      · obtain ⟨e1, e2, e3⟩ := exU_no hma
        refine vwp_live [0, 1, 2, 7, 8, 9, 10, 12] (vwp_region hT ?_)
        simp [e3]
        refine hK13 _ ?_
        try clear hK13 K13
        refine vwp_cond (by first | rfl | (simp; rfl)) (fun h4 => ?_) fun h4 => ?_
        · simp -failIfUnchanged at h4; all_goals
         refine vwp_sq [] fun K14 hK14 => vwp_region hT ?_
         simp
         refine hK14 _ ?_
         try clear hK14 K14
         refine vwp_ret (hR _ _ ?_)
         exact ret_k [6] [] ([]) (.bool true) (rfl)
        · simp -failIfUnchanged at h4; all_goals
         refine vwp_skip ?_
         refine hK12 _ ?_
         try clear hK12 K12
         refine vwp_seq_k fun K15 hK15 => ?_
         simp at *
      · obtain ⟨m, rfl, hm6, hal, hab⟩ := mayB_m hma
        obtain ⟨e1, e2, e3⟩ := exU_yes hma
        rcases hmb : mayB (m : Int) b with _ | _
        · obtain ⟨f1, f2, f3⟩ := exU_no hmb
          refine vwp_live [0, 1, 2, 7, 8, 9, 10, 12] (vwp_region hT ?_)
          simp [e3, f3]
          refine hK13 _ ?_
          try clear hK13 K13
          refine vwp_cond (by first | rfl | (simp; rfl)) (fun h5 => ?_) fun h5 => ?_
          · simp -failIfUnchanged at h5; all_goals
           refine vwp_sq [] fun K16 hK16 => vwp_region hT ?_
           simp
           refine hK16 _ ?_
           try clear hK16 K16
           refine vwp_ret (hR _ _ ?_)
           exact ret_k [6] [] ([]) (.bool true) (rfl)
          · simp -failIfUnchanged at h5; all_goals
           refine vwp_skip ?_
           refine hK12 _ ?_
           try clear hK12 K12
           refine vwp_seq_k fun K17 hK17 => ?_
           simp at *
        · obtain ⟨f1, f2, f3⟩ := exU_yes hmb
          obtain ⟨m', em, _, hbl, hbb⟩ := mayB_m hmb
          obtain rfl : m = m' := by omega
          have hpm := p2_le m hm6
          have hpp := p2_pos m
          obtain ⟨X, hX⟩ : ∃ X, X = exactL m a := ⟨_, rfl⟩
          obtain ⟨Y, hY⟩ : ∃ Y, Y = exactL m b := ⟨_, rfl⟩
          obtain ⟨A, hA⟩ : ∃ A, A = addG a b := ⟨_, rfl⟩
          obtain ⟨N, hN⟩ : ∃ N, N = negG a := ⟨_, rfl⟩
          have hAl : A.length = a.length := by rw [hA, addG_len hab0]
          have hNl : N.length = a.length := by rw [hN, negG_len]
          have hXl : X.length = m := by rw [hX, exactL_length]
          have hYl : Y.length = m := by rw [hY, exactL_length]
          rw [← hX] at e1
          rw [← hY] at f1
          refine vwp_live [0, 1, 2, 7, 8, 9, 10, 12] (vwp_region hT ?_)
          simp [e1, e2, e3, f1, f2, f3, hXl, hYl]
          refine hK13 _ ?_
          try clear hK13 K13
          refine vwp_cond (by first | rfl | (simp; rfl)) (fun h6 => ?_) fun h6 => ?_
          · simp -failIfUnchanged at h6; all_goals
           refine vwp_seq_k fun K18 hK18 => ?_
           simp at *
          · simp -failIfUnchanged at h6; all_goals
           refine vwp_skip ?_
           refine hK12 _ ?_
           try clear hK12 K12
           refine vwp_sq [0, 1, 2, 7, 8, 10] fun K19 hK19 => vwp_region hT ?_
           simp
           repeat refine ⟨by first | assumption | omega | (intros; omega), ?_⟩
           refine hK19 _ ?_
           try clear hK19 K19
           refine vwp_sq [0, 1, 2, 7, 8, 10, 13] fun K20 hK20 => vwp_region hT ?_
           simp
           repeat refine ⟨by first | assumption | omega | (intros; omega), ?_⟩
           refine hK20 _ ?_
           try clear hK20 K20
           refine vwp_seq_k fun K21 hK21 => ?_
           refine vwp_sq [0, 1, 2, 7, 8, 10, 13, 14] fun K22 hK22 => vwp_region hT ?_
           simp
           refine hK22 _ ?_
           try clear hK22 K22
           refine vwp_block ?_
           refine vwp_loop_s (fun i : Nat => ⟨[(0, .int .i64 m), (1, sI a), (2, sI b), (7, .sl 0 m 1 0 m), (8, .int .i64 (fct m : Int)), (10, .sl 1 m 1 0 m), (13, .sl 2 A.length 1 0 A.length), (14, .sl 3 N.length 1 0 N.length), (66, .int .i64 a.length), (67, .int .i64 (i : Int))], [.live (X.map (.int .i64)), .live (Y.map (.int .i64)), .live (((A.take i) ++ List.replicate (A.length - i) 0).map (.int .i64)), .live (((N.take i) ++ List.replicate (N.length - i) 0).map (.int .i64))]⟩) (fun i => i ≤ a.length) (fun i => a.length - i) (0) (Gh.to_k [0, 1, 2, 7, 8, 10, 13, 14, 66, 67] [0, 1, 2, 3] (he := by simp [hAl, hNl]) (hh := by simp [hAl, hNl])) (by omega) ?_
           rintro i hi
           intro K23 hK23
           refine vwp_sq [0, 1, 2, 7, 8, 10, 13, 14, 66, 67] fun K24 hK24 => vwp_region hT ?_
           simp
           refine hK24 _ ?_
           try clear hK24 K24
           refine vwp_seq_k fun K25 hK25 => ?_
           refine vwp_cond (by first | rfl | (simp; rfl)) (fun h7 => ?_) fun h7 => ?_
           · simp -failIfUnchanged at h7; all_goals
            refine vwp_skip ?_
            refine hK25 _ ?_
            try clear hK25 K25
            refine vwp_seq_k fun K26 hK26 => ?_
            refine vwp_block ?_
            refine vwp_sq [0, 1, 2, 7, 8, 10, 13, 14, 66, 67] fun K27 hK27 => vwp_region hT ?_
            simp
            refine hK27 _ ?_
            try clear hK27 K27
            obtain ⟨x, hx⟩ := getI (l := a) (i := i) (by omega)
            obtain ⟨y, hy⟩ := getI (l := b) (i := i) (by omega)
            have hAx := addG_get hx hy
            have hNx := negG_get hx
            rw [← hA] at hAx
            rw [← hN] at hNx
            have bx := hab _ x hx
            have by_ := hbb _ y hy
            have lA : (A.take i ++ List.replicate (A.length - i) (0 : Int)).length = A.length := by simp; omega
            have lN2 : (N.take i ++ List.replicate (N.length - i) (0 : Int)).length = N.length := by simp; omega
            have spA := spl_set (l := A.take i ++ List.replicate (A.length - i) 0) (q := i) (by omega) (x + y)
            have spN := spl_set (l := N.take i ++ List.replicate (N.length - i) 0) (q := i) (by omega) (-x)
            rw [fill_set hAx] at spA
            rw [fill_set hNx] at spN
            simp only [List.map_append, List.map_take, List.map_replicate] at spA spN
            have w1 : IntKind.i64.wrap (x + y) = x + y := w64 (by omega) (by omega)
            have w2 : IntKind.i64.wrap (-x) = -x := w64 (by omega) (by omega)
            have m1 : min i A.length = i := by omega
            have m2 : min i N.length = i := by omega
            refine vwp_live [0, 1, 2, 7, 8, 10, 13, 14, 15, 66, 67] (vwp_storm hT hm [.pure, .pure, .pure, .pure, .pure, .pure, .win 0 0, .win 0 0, .pure, .pure, .win 0 0, .win 0 0, .win 0 0, .pure, .pure, .win 0 0, .win 0 0, .pure, .win 0 0, .mv, .win 1 1, .mv] [[], [], [], [], [], [], [4, 5], [4, 5, 6], [], [], [8, 9], [8, 9, 10], [4, 5, 6, 7, 8, 9, 10, 11], [], [], [13, 14], [13, 14, 15], [13, 14, 15, 16], [0, 1, 4, 5, 6, 7, 8, 9, 10, 11, 12, 13, 14, 15, 16], [0, 1, 4, 5, 6, 7, 8, 9, 10, 11, 12, 13, 14, 15, 16, 18], [0, 1, 2, 3, 4, 5, 6, 7, 8, 9, 10, 11, 12, 13, 14, 15, 16, 17, 18, 19], [0, 1, 2, 3, 4, 5, 6, 7, 8, 9, 10, 11, 12, 13, 14, 15, 16, 17, 18, 19, 20]] (by kernel_rfl) ?_)
            simp [hx, hy, w1, w2]
            repeat refine ⟨by first | assumption | omega | (intros; omega), ?_⟩
            refine hK26 _ ?_
            try clear hK26 K26
            have w1 : IntKind.i64.wrap ((i : Int) + 1) = i + 1 := w64 (by omega) (by omega)
            refine vwp_live [0, 1, 2, 7, 8, 10, 13, 14, 66, 67] (vwp_region hT ?_)
            simp [w1]
            exact hK23 (i + 1) _ (Gh.to_k [0, 1, 2, 7, 8, 10, 13, 14, 66, 67] [0, 1, 2, 3] (hh := by simp [spA, spN])) (by omega) (by omega)
           · simp -failIfUnchanged at h7; all_goals
            refine vwp_exit ?_
            simp only [inBlk, thenQ, if_true]
            refine hK21 _ ?_
            try clear hK21 K21
            have e : i = a.length := by omega
            subst e
            have tA : List.take a.length (A.map (V.int .i64)) ++ List.replicate (A.length - a.length) (V.int .i64 0) = A.map (.int .i64) := by rw [List.take_of_length_le (by simp; omega)]; simp [hAl]
            have tN : List.take a.length (N.map (V.int .i64)) ++ List.replicate (N.length - a.length) (V.int .i64 0) = N.map (.int .i64) := by rw [List.take_of_length_le (by simp; omega)]; simp [hNl]
            try simp only [List.map_append, List.map_take, List.map_replicate]
            rw [tA, tN]
            have hmn := mayB_neg hma
            rw [← hN] at hmn
            obtain ⟨g1, g2, g3⟩ := exU_yes hmn
            obtain ⟨U, hU⟩ : ∃ U, U = exactL m N := ⟨_, rfl⟩
            have hUl : U.length = m := by rw [hU, exactL_length]
            rw [← hU] at g1
            have hXb := exact_bound hm6 hal hab
            have hYb := exact_bound hm6 hbl hbb
            rw [← hX] at hXb
            rw [← hY] at hYb
            refine vwp_sq [0, 7, 8, 10, 13, 14] fun K28 hK28 => vwp_region hT ?_
            simp [g1, g2, g3, hUl]
            refine vcall_z [] (exact_u m N (by omega)) (by rintro r ob' ⟨rfl, rfl⟩; simp) ?_
            rintro r ob' ⟨rfl, rfl⟩
            simp [g1, g2, g3, hUl]
            refine hK28 _ ?_
            try clear hK28 K28
            refine vwp_seq_k fun K29 hK29 => ?_
            refine vwp_sq [0, 7, 8, 10, 13, 16, 17, 18] fun K30 hK30 => vwp_region hT ?_
            simp
            refine hK30 _ ?_
            try clear hK30 K30
            refine vwp_cond (by first | rfl | (simp; rfl)) (fun h8 => ?_) fun h8 => ?_
            · simp -failIfUnchanged at h8; all_goals
             refine vwp_seq_k fun K31 hK31 => ?_
             simp at *
            · simp -failIfUnchanged at h8; all_goals
             refine vwp_skip ?_
             refine hK29 _ ?_
             try clear hK29 K29
             refine vwp_seq_k fun K32 hK32 => ?_
             refine vwp_sq [0, 7, 10, 13, 16] fun K33 hK33 => vwp_region hT ?_
             simp [hXl]
             refine hK33 _ ?_
             try clear hK33 K33
             refine vwp_block ?_
             refine vwp_loop_s (fun j : Nat => ⟨[(0, .int .i64 m), (7, .sl 0 m 1 0 m), (10, .sl 1 m 1 0 m), (13, .sl 2 A.length 1 0 A.length), (16, .sl 4 m 1 0 m), (106, .int .i64 m), (107, .int .i64 (j : Int))], [.live (X.map (.int .i64)), .live (Y.map (.int .i64)), .live (A.map (.int .i64)), .live (N.map (.int .i64)), .live (U.map (.int .i64))]⟩) (fun j => j ≤ m) (fun j => m - j) (0) (Gh.to_k [0, 7, 10, 13, 16, 106, 107] [0, 1, 2, 3, 4]) (by omega) ?_
             rintro j hj
             intro K34 hK34
             refine vwp_sq [0, 7, 10, 13, 16, 106, 107] fun K35 hK35 => vwp_region hT ?_
             simp
             refine hK35 _ ?_
             try clear hK35 K35
             refine vwp_seq_k fun K36 hK36 => ?_
             refine vwp_cond (by first | rfl | (simp; rfl)) (fun h9 => ?_) fun h9 => ?_
             · simp -failIfUnchanged at h9; all_goals
              refine vwp_skip ?_
              refine hK36 _ ?_
              try clear hK36 K36
              refine vwp_seq_k fun K37 hK37 => ?_
              refine vwp_block ?_
              refine vwp_sq [0, 7, 10, 13, 16, 106, 107] fun K38 hK38 => vwp_region hT ?_
              simp
              refine hK38 _ ?_
              try clear hK38 K38
              have hx0 := exactL_get (g := a) (i := j) (m := m) (by omega)
              have hu0 := exactL_get (g := N) (i := j) (m := m) (by omega)
              rw [hN, exAt_neg, ← hN, ← hU] at hu0
              rw [← hX] at hx0
              obtain ⟨x, hxx⟩ : ∃ x, x = exAt m a (p2 m) j := ⟨_, rfl⟩
              rw [← hxx] at hx0 hu0
              have bx := hXb x (List.mem_of_getElem? hx0)
              have w2 : IntKind.i64.wrap (-x) = -x := w64 (by omega) (by omega)
              refine vwp_sq [0, 7, 10, 13, 16, 19, 106, 107] fun K39 hK39 => vwp_still hT hm (by kernel_rfl) ?_
              simp [hx0, hu0, w2, hXl, hUl]
              repeat refine ⟨by first | assumption | omega | (intros; omega), ?_⟩
              refine hK39 _ ?_
              try clear hK39 K39
              refine vwp_cond (by first | rfl | (simp; rfl)) (fun h10 => ?_) fun h10 => ?_
              · simp -failIfUnchanged at h10; all_goals
               refine vwp_seq_k fun K40 hK40 => ?_
               simp at *
              · simp -failIfUnchanged at h10; all_goals
               refine vwp_skip ?_
               refine hK37 _ ?_
               try clear hK37 K37
               have w1 : IntKind.i64.wrap ((j : Int) + 1) = j + 1 := w64 (by omega) (by omega)
               refine vwp_live [0, 7, 10, 13, 16, 106, 107] (vwp_region hT ?_)
               simp [w1]
               exact hK34 (j + 1) _ (Gh.to_k [0, 7, 10, 13, 16, 106, 107] [0, 1, 2, 3, 4]) (by omega) (by omega)
             · simp -failIfUnchanged at h9; all_goals
              refine vwp_exit ?_
              simp only [inBlk, thenQ, if_true]
              refine hK32 _ ?_
              try clear hK32 K32
              refine vwp_sq [0, 7, 10, 13] fun K41 hK41 => vwp_region hT ?_
              simp
              refine vcall_z [] (exact_u m A (by omega)) (by rintro r ob' ⟨rfl, rfl⟩; simp) ?_
              rintro r ob' ⟨rfl, rfl⟩
              simp
              refine hK41 _ ?_
              try clear hK41 K41
              refine vwp_seq_k fun K42 hK42 => ?_
              refine vwp_seq_k fun K43 hK43 => ?_
              rcases hmA : mayB (m : Int) A with _ | _
              · obtain ⟨k1, k2, k3⟩ := exU_no hmA
                refine vwp_live [7, 10, 20, 22] (vwp_region hT ?_)
                simp [k1, k2, k3]
                refine hK43 _ ?_
                try clear hK43 K43
                refine vwp_cond (by first | rfl | (simp; rfl)) (fun h11 => ?_) fun h11 => ?_
                · simp -failIfUnchanged at h11; all_goals
                 refine vwp_sq [22] fun K44 hK44 => vwp_region hT ?_
                 simp
                 refine hK44 _ ?_
                 try clear hK44 K44
                 refine vwp_ret (hR _ _ ?_)
                 exact ret_k [6] [] ([]) (.bool true) (rfl)
                · simp -failIfUnchanged at h11; all_goals
                 refine vwp_skip ?_
                 refine hK42 _ ?_
                 try clear hK42 K42
                 refine vwp_seq_k fun K45 hK45 => ?_
                 refine vwp_seq_k fun K46 hK46 => ?_
                 simp at *
              · obtain ⟨k1, k2, k3⟩ := exU_yes hmA
                obtain ⟨Z, hZ⟩ : ∃ Z, Z = exactL m A := ⟨_, rfl⟩
                have hZl : Z.length = m := by rw [hZ, exactL_length]
                rw [← hZ] at k1
                refine vwp_live [7, 10, 20, 22] (vwp_region hT ?_)
                simp [k1, k2, k3, hZl]
                refine hK43 _ ?_
                try clear hK43 K43
                refine vwp_cond (by first | rfl | (simp; rfl)) (fun h12 => ?_) fun h12 => ?_
                · simp -failIfUnchanged at h12; all_goals
                 refine vwp_seq_k fun K47 hK47 => ?_
                 simp at *
                · simp -failIfUnchanged at h12; all_goals
                 refine vwp_skip ?_
                 refine hK42 _ ?_
                 try clear hK42 K42
                 refine vwp_seq_k fun K48 hK48 => ?_
                 refine vwp_sq [7, 10, 20] fun K49 hK49 => vwp_region hT ?_
                 simp [hXl]
                 refine hK49 _ ?_
                 try clear hK49 K49
                 refine vwp_block ?_
                 refine vwp_loop_s (fun j : Nat => ⟨[(7, .sl 0 m 1 0 m), (10, .sl 1 m 1 0 m), (20, .sl 5 m 1 0 m), (133, .int .i64 m), (134, .int .i64 (j : Int))], [.live (X.map (.int .i64)), .live (Y.map (.int .i64)), .live (A.map (.int .i64)), .live (N.map (.int .i64)), .live (U.map (.int .i64)), .live (Z.map (.int .i64))]⟩) (fun j => j ≤ m) (fun j => m - j) (0) (Gh.to_k [7, 10, 20, 133, 134] [0, 1, 2, 3, 4, 5]) (by omega) ?_
                 rintro j hj
                 intro K50 hK50
                 refine vwp_sq [7, 10, 20, 133, 134] fun K51 hK51 => vwp_region hT ?_
                 simp
                 refine hK51 _ ?_
                 try clear hK51 K51
                 refine vwp_seq_k fun K52 hK52 => ?_
                 refine vwp_cond (by first | rfl | (simp; rfl)) (fun h13 => ?_) fun h13 => ?_
                 · simp -failIfUnchanged at h13; all_goals
                  refine vwp_skip ?_
                  refine hK52 _ ?_
                  try clear hK52 K52
                  refine vwp_seq_k fun K53 hK53 => ?_
                  refine vwp_block ?_
                  refine vwp_sq [7, 10, 20, 133, 134] fun K54 hK54 => vwp_region hT ?_
                  simp
                  refine hK54 _ ?_
                  try clear hK54 K54
                  have hx0 := exactL_get (g := a) (i := j) (m := m) (by omega)
                  have hy0 := exactL_get (g := b) (i := j) (m := m) (by omega)
                  have hz0 := exactL_get (g := A) (i := j) (m := m) (by omega)
                  rw [hA, exAt_add hab0, ← hA, ← hZ] at hz0
                  rw [← hX] at hx0
                  rw [← hY] at hy0
                  obtain ⟨x, hxx⟩ : ∃ x, x = exAt m a (p2 m) j := ⟨_, rfl⟩
                  obtain ⟨y, hyy⟩ : ∃ y, y = exAt m b (p2 m) j := ⟨_, rfl⟩
                  rw [← hxx] at hx0 hz0
                  rw [← hyy] at hy0 hz0
                  have bx := hXb x (List.mem_of_getElem? hx0)
                  have by_ := hYb y (List.mem_of_getElem? hy0)
                  have w2 : IntKind.i64.wrap (x + y) = x + y := w64 (by omega) (by omega)
                  refine vwp_sq [7, 10, 20, 23, 133, 134] fun K55 hK55 => vwp_still hT hm (by kernel_rfl) ?_
                  simp [hx0, hy0, hz0, w2, hXl, hYl, hZl]
                  repeat refine ⟨by first | assumption | omega | (intros; omega), ?_⟩
                  refine hK55 _ ?_
                  try clear hK55 K55
                  refine vwp_cond (by first | rfl | (simp; rfl)) (fun h14 => ?_) fun h14 => ?_
                  · simp -failIfUnchanged at h14; all_goals
                   refine vwp_seq_k fun K56 hK56 => ?_
                   simp at *
                  · simp -failIfUnchanged at h14; all_goals
                   refine vwp_skip ?_
                   refine hK53 _ ?_
                   try clear hK53 K53
                   have w1 : IntKind.i64.wrap ((j : Int) + 1) = j + 1 := w64 (by omega) (by omega)
                   refine vwp_live [7, 10, 20, 133, 134] (vwp_region hT ?_)
                   simp [w1]
                   exact hK50 (j + 1) _ (Gh.to_k [7, 10, 20, 133, 134] [0, 1, 2, 3, 4, 5]) (by omega) (by omega)
                 · simp -failIfUnchanged at h13; all_goals
                  refine vwp_exit ?_
                  simp only [inBlk, thenQ, if_true]
                  refine hK48 _ ?_
                  try clear hK48 K48
                  refine vwp_sq [] fun K57 hK57 => vwp_region hT ?_
                  simp
                  refine hK57 _ ?_
                  try clear hK57 K57
                  refine vwp_ret (hR _ _ ?_)
                  exact ret_k [6] [] ([]) (.bool true) (rfl)
end Go.Proofs.Ythjpaongoflgiaa
