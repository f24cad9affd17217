/- Sorting: two rows merged in place: the walk. -/
import Derived.Test.YthjpaongoflgiaaQSort2
namespace Go.Proofs.Ythjpaongoflgiaa
open Go Go.VX Go.RowKit
set_option linter.unusedVariables false
set_option linter.unusedSimpArgs false
set_option maxHeartbeats 20000000
set_option maxRecDepth 100000
open Go.VX.Rk Go.VX.Srt

theorem wu64 {x : Int} (h1 : 0 ≤ x) (h2 : x ≤ 18446744073709551615) : IntKind.u64.wrap x = x := by
  simp [IntKind.wrap, IntKind.signed]; omega
theorem nlt {a b : Part} (h : ¬ cmpN b.left a.left < 0) : moreLeft a b = false := by rw [← Bool.not_eq_true, ← cmpN_lt]; exact h
theorem ylt {a b : Part} (h : cmpN b.left a.left < 0) : moreLeft a b = true := cmpN_lt.1 h

theorem symMerge_spec : ∀ (N : Nat) (A U V B : List (Part × Nat)) (n a m b : Nat), U.length + V.length ≤ N → (A ++ U ++ V ++ B).length = n → n < 1099511627776 → a = A.length → m = A.length + U.length → b = A.length + U.length + V.length → 0 < U.length → 0 < V.length → Sorted moreLeft U → Sorted moreLeft V → Below U V →
    VC P 73 [.sl 0 (n * 3) 3 0 n, .int .i64 a, .int .i64 m, .int .i64 b, .fn 57 []] [.live (rowsV ((A ++ U ++ V ++ B).map Prod.fst))] (fun r ob' => r = .tup [] ∧ ∃ W, Merged moreLeft U V W ∧ ob' = [.live (rowsV ((A ++ W ++ B).map Prod.fst))]) := by
  intro N
  induction N with
  | zero => intro A U V B n a m b hN hn hn2 ha hm1 hb hu; omega
  | succ N ih =>
  intro A U V B n a m b hN hn hn2 ha hm1 hb hu hv sU sV hBel
  have hn3 := hn
  simp only [List.length_append] at hn3
  obtain ⟨L, hL⟩ : ∃ L, L = A ++ U ++ V ++ B := ⟨_, rfl⟩
  rw [← hL] at hn ⊢
  refine VC_of_vwp_k ent_73 Try.func73 rfl (by simp) fun R hR => ?_
  refine vwp_seq_k fun K1 hK1 => ?_
  have w0 : IntKind.i64.wrap ((m : Int) - a) = U.length := (w64 (by omega) (by omega)).trans (by omega)
  refine vwp_sq [0, 1, 2, 3, 4] fun K2 hK2 => vwp_region hT ?_
  simp [w0]
  refine hK2 _ ?_
  try clear hK2 K2
  refine vwp_cond (by first | rfl | (simp; rfl)) (fun h1 => ?_) fun h1 => ?_
  · simp -failIfUnchanged at h1; all_goals
   obtain ⟨u, rfl⟩ : ∃ u, U = [u] := List.length_eq_one_iff.1 (by omega)
   simp only [List.length_cons, List.length_nil] at hm1 hb hn3
   refine vwp_sq [0, 1, 2, 3, 4] fun K3 hK3 => vwp_region hT ?_
   simp
   refine hK3 _ ?_
   try clear hK3 K3
   refine vwp_sq [0, 1, 3, 4, 10] fun K4 hK4 => vwp_region hT ?_
   simp
   refine hK4 _ ?_
   try clear hK4 K4
   refine vwp_seq_k fun K5 hK5 => ?_
   refine vwp_block ?_
   refine vwp_loop_s (fun x : Nat × Nat => ⟨[(0, .sl 0 (n * 3) 3 0 n), (1, .int .i64 a), (4, .fn 57 []), (10, .int .i64 (x.1 : Int)), (11, .int .i64 (x.2 : Int))], [.live (rowsV ((L).map Prod.fst))]⟩) (fun x => (m ≤ x.1 ∧ x.1 ≤ x.2 ∧ x.2 ≤ b) ∧ (x.1 - m = 0 ∨ ∃ y, V[x.1 - m - 1]? = some y ∧ moreLeft y.1 u.1 = true) ∧ (x.2 - m = V.length ∨ ∃ y, V[x.2 - m]? = some y ∧ moreLeft y.1 u.1 = false)) (fun x => x.2 - x.1) ((m, b)) (Gh.to_k [0, 1, 4, 10, 11] [0]) (⟨⟨Nat.le_refl _, by dsimp only; omega, Nat.le_refl _⟩, .inl (by dsimp only; omega), .inl (by dsimp only; omega)⟩) ?_
   rintro ⟨i, j⟩ ⟨c0, c1, c2⟩
   dsimp only at c0 c1 c2 ⊢
   intro K6 hK6
   refine vwp_seq_k fun K7 hK7 => ?_
   refine vwp_sq [0, 1, 4, 10, 11] fun K8 hK8 => vwp_region hT ?_
   simp
   refine hK8 _ ?_
   try clear hK8 K8
   refine vwp_cond (by first | rfl | (simp; rfl)) (fun h2 => ?_) fun h2 => ?_
   · simp -failIfUnchanged at h2; all_goals
    refine vwp_skip ?_
    refine hK7 _ ?_
    try clear hK7 K7
    refine vwp_block ?_
    obtain ⟨h, hh⟩ : ∃ h, h = (i + j) / 2 := ⟨_, rfl⟩
    have y1 : IntKind.i64.wrap ((i : Int) + j) = i + j := w64 (by omega) (by omega)
    have y2 : IntKind.u64.wrap ((i : Int) + j) = i + j := wu64 (by omega) (by omega)
    have y3 : ((i : Int) + j).fdiv 2 = (h : Int) := by rw [Int.fdiv_eq_ediv_of_nonneg _ (by omega)]; omega
    have y4 : IntKind.i64.wrap (h : Int) = h := w64 (by omega) (by omega)
    have y5 : IntKind.u64.wrap (h : Int) = h := wu64 (by omega) (by omega)
    refine vwp_sq [0, 1, 4, 10, 11] fun K9 hK9 => vwp_region hT ?_
    simp [y1, y2, y3, y4, y5]
    repeat refine ⟨by first | assumption | omega | (intros; omega), ?_⟩
    refine hK9 _ ?_
    try clear hK9 K9
    clear y1 y2 y3 y4 y5
    obtain ⟨y, hy⟩ := getI (l := V) (i := h - m) (by omega)
    have g1 : L[h]? = some y := by rw [hL, get_mid (a := m) (by simp; omega) (by omega) (by omega), hy]
    have g2 : L[a]? = some u := by
      rw [hL, List.append_assoc (A ++ [u]), get_mid (a := a) ha.symm (by omega) (by simp)]; simp
    refine vwp_sq [0, 1, 4, 10, 11, 12] fun K10 hK10 => vwp_calm hT hm (by kernel_rfl) ?_
    simp [rowPart (fst_get g1), rowPart (fst_get g2), lenPart, hn]
    repeat refine ⟨by first | assumption | omega | (intros; omega), ?_⟩
    refine ⟨.int .i64 (cmpN u.1.left y.1.left), fun sl => ?_, ?_⟩
    · refine vcall_k [] (pcmp_spec y.1 u.1) ?_
      rintro r ob' ⟨rfl, rfl⟩
      simp
    simp [rowPart (fst_get g1), rowPart (fst_get g2), lenPart, hn]
    repeat refine ⟨by first | assumption | omega | (intros; omega), ?_⟩
    refine hK10 _ ?_
    try clear hK10 K10
    refine vwp_cond (by first | rfl | (simp; rfl)) (fun h3 => ?_) fun h3 => ?_
    · simp -failIfUnchanged at h3; all_goals
     have q := h3
     have w5 : IntKind.i64.wrap ((h : Int) + 1) = h + 1 := w64 (by omega) (by omega)
     refine vwp_live [0, 1, 4, 11, 12] (vwp_region hT ?_)
     simp [w5]
     exact hK6 (h + 1, j) _ (Gh.to_k [0, 1, 4, 10, 11] [0]) ⟨by dsimp only; omega, .inr ⟨y, by dsimp only; rw [show h + 1 - m - 1 = h - m by omega]; exact hy, ylt q⟩, c2⟩ (by dsimp only; omega)
    · simp -failIfUnchanged at h3; all_goals
     have q := h3
     refine vwp_live [0, 1, 4, 10, 12] (vwp_region hT ?_)
     simp
     exact hK6 (i, h) _ (Gh.to_k [0, 1, 4, 10, 11] [0]) ⟨by dsimp only; omega, c1, .inr ⟨y, hy, nlt (by omega)⟩⟩ (by dsimp only; omega)
   · simp -failIfUnchanged at h2; all_goals
    refine vwp_exit ?_
    simp only [inBlk, thenQ, if_true]
    refine hK5 _ ?_
    try clear hK5 K5
    refine vwp_seq_k fun K11 hK11 => ?_
    have w6 : IntKind.i64.wrap ((i : Int) - 1) = (i - 1 : Nat) := (w64 (by omega) (by omega)).trans (by omega)
    refine vwp_sq [0, 1, 10] fun K12 hK12 => vwp_region hT ?_
    simp
    refine hK12 _ ?_
    try clear hK12 K12
    refine vwp_block ?_
    refine vwp_loop_s (fun x : List (Part × Nat) × Nat => ⟨[(0, .sl 0 (n * 3) 3 0 n), (10, .int .i64 (i : Int)), (13, .int .i64 (x.2 : Int))], [.live (rowsV ((x.1).map Prod.fst))]⟩) (fun x => x.1.length = n ∧ (a ≤ x.2 ∧ x.2 ≤ i - 1) ∧ x.1 = A ++ (V.take (x.2 - a) ++ u :: V.drop (x.2 - a)) ++ B) (fun x => n - x.2) ((L, a)) (Gh.to_k [0, 10, 13] [0]) (⟨hn, ⟨Nat.le_refl _, by dsimp only; omega⟩, by dsimp only; rw [hL]; simp⟩) ?_
    rintro ⟨L', k⟩ ⟨m0, m1, m2⟩
    dsimp only at m0 m1 m2 ⊢
    intro K13 hK13
    refine vwp_seq_k fun K14 hK14 => ?_
    refine vwp_sq [0, 10, 13] fun K15 hK15 => vwp_region hT ?_
    simp [w6]
    refine hK15 _ ?_
    try clear hK15 K15
    refine vwp_cond (by first | rfl | (simp; rfl)) (fun h4 => ?_) fun h4 => ?_
    · simp -failIfUnchanged at h4; all_goals
     refine vwp_skip ?_
     refine hK14 _ ?_
     try clear hK14 K14
     refine vwp_seq_k fun K16 hK16 => ?_
     refine vwp_block ?_
     obtain ⟨y, hy⟩ := getI (l := V) (i := k - a) (by omega)
     have g1 : L'[k]? = some u := by
       rw [m2, get_mid (a := a) ha.symm (by omega) (by simp; omega), List.getElem?_append_right (by simp only [List.length_take]; omega)]
       simp [show k - a - min (k - a) V.length = 0 by omega]
     have g2 : L'[k + 1]? = some y := by
       rw [m2, get_mid (a := a) ha.symm (by omega) (by simp; omega), List.getElem?_append_right (by simp; omega)]
       simp only [List.length_take]
       rw [show k + 1 - a - min (k - a) V.length = 1 by omega, List.getElem?_cons_succ, List.getElem?_drop]
       exact hy
     have w7 : IntKind.i64.wrap ((k : Int) + 1) = k + 1 := w64 (by omega) (by omega)
     refine vwp_live [0, 10, 13] (vwp_storm hT hm [.pure, .pure, .pure, .pure, .win 0 1, .pure, .pure, .win 0 0, .win 0 0, .win 0 0, .pure, .pure, .win 0 0, .win 0 0, .win 0 0, .mv, .win 1 1, .mv] [[], [], [], [], [3], [], [], [6], [5, 6, 7], [5, 6, 7, 8], [], [], [10, 11], [10, 11, 12], [0, 1, 5, 6, 7, 8, 9, 10, 11, 12, 13], [0, 1, 5, 6, 7, 8, 9, 10, 11, 12, 13, 14], [0, 1, 2, 3, 4, 5, 6, 7, 8, 9, 10, 11, 12, 13, 14, 15], [0, 1, 2, 3, 4, 5, 6, 7, 8, 9, 10, 11, 12, 13, 14, 15, 16]] (by kernel_rfl) ?_)
     simp [rowPart (fst_get g1), rowPart (fst_get g2), lenPart, m0, w7, splSwp1 (fst_get g1), splSwp2 (fst_get g1) (fst_get g2)]
     repeat refine ⟨by first | assumption | omega | (intros; omega), ?_⟩
     refine hK16 _ ?_
     try clear hK16 K16
     refine vwp_live [0, 10, 13] (vwp_region hT ?_)
     simp [w7]
     exact hK13 ((swp L' k (k + 1), k + 1)) _ (Gh.to_k [0, 10, 13] [0] (hh := by simp [swp_map])) (⟨by dsimp only; rw [swp_length]; exact m0, by dsimp only; omega, by
       dsimp only
       have := swp_on (A := A) (V := V) (u := u) (B := B) (k := k - a) (by omega)
       rw [show A.length + (k - a) = k by omega, show k - a + 1 = k + 1 - a by omega] at this
       rw [m2]; exact this⟩) (by dsimp only; omega)
    · simp -failIfUnchanged at h4; all_goals
     refine vwp_exit ?_
     simp only [inBlk, thenQ, if_true]
     refine hK11 _ ?_
     try clear hK11 K11
     refine vwp_ret (hR _ _ ?_)
     have e : i - 1 = k := by omega
     have hM := Merged.one_left moreLeft_weak sV (j := i - m) (by omega) hBel c1 (by rw [show i - m = j - m by omega]; exact c2)
     exact ret_k [] [0] ([.live (rowsV ((L').map Prod.fst))]) (.tup []) (⟨rfl, _, hM, by rw [m2, show k - a = i - m by omega]⟩)
  · simp -failIfUnchanged at h1; all_goals
   refine vwp_skip ?_
   refine hK1 _ ?_
   try clear hK1 K1
   refine vwp_seq_k fun K17 hK17 => ?_
   have w8 : IntKind.i64.wrap ((b : Int) - m) = V.length := (w64 (by omega) (by omega)).trans (by omega)
   refine vwp_sq [0, 1, 2, 3, 4] fun K18 hK18 => vwp_region hT ?_
   simp [w8]
   refine hK18 _ ?_
   try clear hK18 K18
   refine vwp_cond (by first | rfl | (simp; rfl)) (fun h5 => ?_) fun h5 => ?_
   · simp -failIfUnchanged at h5; all_goals
    obtain ⟨v, rfl⟩ : ∃ v, V = [v] := List.length_eq_one_iff.1 (by omega)
    simp only [List.length_cons, List.length_nil] at hb hn3
    refine vwp_sq [0, 1, 2, 4] fun K19 hK19 => vwp_region hT ?_
    simp
    refine hK19 _ ?_
    try clear hK19 K19
    refine vwp_sq [0, 2, 4, 14] fun K20 hK20 => vwp_region hT ?_
    simp
    refine hK20 _ ?_
    try clear hK20 K20
    refine vwp_seq_k fun K21 hK21 => ?_
    refine vwp_block ?_
    refine vwp_loop_s (fun x : Nat × Nat => ⟨[(0, .sl 0 (n * 3) 3 0 n), (2, .int .i64 m), (4, .fn 57 []), (14, .int .i64 (x.1 : Int)), (15, .int .i64 (x.2 : Int))], [.live (rowsV ((L).map Prod.fst))]⟩) (fun x => (a ≤ x.1 ∧ x.1 ≤ x.2 ∧ x.2 ≤ m) ∧ (x.1 - a = 0 ∨ ∃ y, U[x.1 - a - 1]? = some y ∧ moreLeft v.1 y.1 = false) ∧ (x.2 - a = U.length ∨ ∃ y, U[x.2 - a]? = some y ∧ moreLeft v.1 y.1 = true)) (fun x => x.2 - x.1) ((a, m)) (Gh.to_k [0, 2, 4, 14, 15] [0]) (⟨⟨Nat.le_refl _, by dsimp only; omega, Nat.le_refl _⟩, .inl (by dsimp only; omega), .inl (by dsimp only; omega)⟩) ?_
    rintro ⟨i, j⟩ ⟨c0, c1, c2⟩
    dsimp only at c0 c1 c2 ⊢
    intro K22 hK22
    refine vwp_seq_k fun K23 hK23 => ?_
    refine vwp_sq [0, 2, 4, 14, 15] fun K24 hK24 => vwp_region hT ?_
    simp
    refine hK24 _ ?_
    try clear hK24 K24
    refine vwp_cond (by first | rfl | (simp; rfl)) (fun h6 => ?_) fun h6 => ?_
    · simp -failIfUnchanged at h6; all_goals
     refine vwp_skip ?_
     refine hK23 _ ?_
     try clear hK23 K23
     refine vwp_block ?_
     obtain ⟨h, hh⟩ : ∃ h, h = (i + j) / 2 := ⟨_, rfl⟩
     have y1 : IntKind.i64.wrap ((i : Int) + j) = i + j := w64 (by omega) (by omega)
     have y2 : IntKind.u64.wrap ((i : Int) + j) = i + j := wu64 (by omega) (by omega)
     have y3 : ((i : Int) + j).fdiv 2 = (h : Int) := by rw [Int.fdiv_eq_ediv_of_nonneg _ (by omega)]; omega
     have y4 : IntKind.i64.wrap (h : Int) = h := w64 (by omega) (by omega)
     have y5 : IntKind.u64.wrap (h : Int) = h := wu64 (by omega) (by omega)
     refine vwp_sq [0, 2, 4, 14, 15] fun K25 hK25 => vwp_region hT ?_
     simp [y1, y2, y3, y4, y5]
     repeat refine ⟨by first | assumption | omega | (intros; omega), ?_⟩
     refine hK25 _ ?_
     try clear hK25 K25
     clear y1 y2 y3 y4 y5
     obtain ⟨y, hy⟩ := getI (l := U) (i := h - a) (by omega)
     have g1 : L[m]? = some v := by rw [hL, get_mid (a := m) (by simp; omega) (by omega) (by simp)]; simp
     have g2 : L[h]? = some y := by
       rw [hL, List.append_assoc (A ++ U), get_mid (a := a) ha.symm (by omega) (by omega), hy]
     refine vwp_sq [0, 2, 4, 14, 15, 16] fun K26 hK26 => vwp_calm hT hm (by kernel_rfl) ?_
     simp [rowPart (fst_get g1), rowPart (fst_get g2), lenPart, hn]
     repeat refine ⟨by first | assumption | omega | (intros; omega), ?_⟩
     refine ⟨.int .i64 (cmpN y.1.left v.1.left), fun sl => ?_, ?_⟩
     · refine vcall_k [] (pcmp_spec v.1 y.1) ?_
       rintro r ob' ⟨rfl, rfl⟩
       simp
     simp [rowPart (fst_get g1), rowPart (fst_get g2), lenPart, hn]
     repeat refine ⟨by first | assumption | omega | (intros; omega), ?_⟩
     refine hK26 _ ?_
     try clear hK26 K26
     refine vwp_cond (by first | rfl | (simp; rfl)) (fun h7 => ?_) fun h7 => ?_
     · simp -failIfUnchanged at h7; all_goals
      have q := h7
      have w5 : IntKind.i64.wrap ((h : Int) + 1) = h + 1 := w64 (by omega) (by omega)
      refine vwp_live [0, 2, 4, 15, 16] (vwp_region hT ?_)
      simp [w5]
      exact hK22 (h + 1, j) _ (Gh.to_k [0, 2, 4, 14, 15] [0]) ⟨by dsimp only; omega, .inr ⟨y, by dsimp only; rw [show h + 1 - a - 1 = h - a by omega]; exact hy, nlt (by omega)⟩, c2⟩ (by dsimp only; omega)
     · simp -failIfUnchanged at h7; all_goals
      have q := h7
      refine vwp_live [0, 2, 4, 14, 16] (vwp_region hT ?_)
      simp
      exact hK22 (i, h) _ (Gh.to_k [0, 2, 4, 14, 15] [0]) ⟨by dsimp only; omega, c1, .inr ⟨y, hy, ylt q⟩⟩ (by dsimp only; omega)
    · simp -failIfUnchanged at h6; all_goals
     refine vwp_exit ?_
     simp only [inBlk, thenQ, if_true]
     refine hK21 _ ?_
     try clear hK21 K21
     refine vwp_seq_k fun K27 hK27 => ?_
     refine vwp_sq [0, 2, 14] fun K28 hK28 => vwp_region hT ?_
     simp
     refine hK28 _ ?_
     try clear hK28 K28
     refine vwp_block ?_
     refine vwp_loop_s (fun x : List (Part × Nat) × Nat => ⟨[(0, .sl 0 (n * 3) 3 0 n), (14, .int .i64 (i : Int)), (17, .int .i64 (x.2 : Int))], [.live (rowsV ((x.1).map Prod.fst))]⟩) (fun x => x.1.length = n ∧ (i ≤ x.2 ∧ x.2 ≤ m) ∧ x.1 = A ++ (U.take (x.2 - a) ++ v :: U.drop (x.2 - a)) ++ B) (fun x => x.2) ((L, m)) (Gh.to_k [0, 14, 17] [0]) (⟨hn, ⟨by dsimp only; omega, Nat.le_refl _⟩, by dsimp only; rw [hL, show m - a = U.length by omega]; simp⟩) ?_
     rintro ⟨L', k⟩ ⟨m0, m1, m2⟩
     dsimp only at m0 m1 m2 ⊢
     intro K29 hK29
     refine vwp_seq_k fun K30 hK30 => ?_
     refine vwp_sq [0, 14, 17] fun K31 hK31 => vwp_region hT ?_
     simp
     refine hK31 _ ?_
     try clear hK31 K31
     refine vwp_cond (by first | rfl | (simp; rfl)) (fun h8 => ?_) fun h8 => ?_
     · simp -failIfUnchanged at h8; all_goals
      refine vwp_skip ?_
      refine hK30 _ ?_
      try clear hK30 K30
      refine vwp_seq_k fun K32 hK32 => ?_
      refine vwp_block ?_
      obtain ⟨k, rfl⟩ : ∃ k', k = k' + 1 := ⟨k - 1, by omega⟩
      obtain ⟨y, hy⟩ := getI (l := U) (i := k - a) (by omega)
      have g1 : L'[k + 1]? = some v := by
        rw [m2, get_mid (a := a) ha.symm (by omega) (by simp; omega), List.getElem?_append_right (by simp; omega)]
        simp [show k + 1 - a - min (k + 1 - a) U.length = 0 by omega]
      have g2 : L'[k]? = some y := by
        rw [m2, get_mid (a := a) ha.symm (by omega) (by simp; omega), List.getElem?_append_left (by simp; omega), List.getElem?_take, if_pos (by omega), hy]
      have w7 : IntKind.i64.wrap (k : Int) = k := w64 (by omega) (by omega)
      refine vwp_live [0, 14, 17] (vwp_storm hT hm [.pure, .pure, .pure, .pure, .win 0 1, .pure, .pure, .win 0 0, .win 0 0, .win 0 0, .pure, .pure, .win 0 0, .win 0 0, .win 0 0, .mv, .win 1 1, .mv] [[], [], [], [], [3], [], [], [6], [5, 6, 7], [5, 6, 7, 8], [], [], [10, 11], [10, 11, 12], [0, 1, 5, 6, 7, 8, 9, 10, 11, 12, 13], [0, 1, 5, 6, 7, 8, 9, 10, 11, 12, 13, 14], [0, 1, 2, 3, 4, 5, 6, 7, 8, 9, 10, 11, 12, 13, 14, 15], [0, 1, 2, 3, 4, 5, 6, 7, 8, 9, 10, 11, 12, 13, 14, 15, 16]] (by kernel_rfl) ?_)
      simp [rowPart (fst_get g1), rowPart (fst_get g2), lenPart, m0, w7, splSwp1 (fst_get g1), splSwp2 (fst_get g1) (fst_get g2)]
      repeat refine ⟨by first | assumption | omega | (intros; omega), ?_⟩
      refine hK32 _ ?_
      try clear hK32 K32
      refine vwp_live [0, 14, 17] (vwp_region hT ?_)
      simp [w7]
      exact hK29 ((swp L' (k + 1) k, k)) _ (Gh.to_k [0, 14, 17] [0] (hh := by simp [swp_map])) (⟨by dsimp only; rw [swp_length]; exact m0, by dsimp only; omega, by
        dsimp only
        have := swp_back (A := A) (U := U) (v := v) (B := B) (k := k - a) (by omega)
        rw [show A.length + (k - a) = k by omega, show k - a + 1 = k + 1 - a by omega] at this
        rw [m2, swp_comm]; exact this⟩) (by dsimp only; omega)
     · simp -failIfUnchanged at h8; all_goals
      refine vwp_exit ?_
      simp only [inBlk, thenQ, if_true]
      refine hK27 _ ?_
      try clear hK27 K27
      refine vwp_ret (hR _ _ ?_)
      have e : i = k := by omega
      have hM := Merged.one_right moreLeft_weak sU (i := i - a) (by omega) hBel c1 (by rw [show i - a = j - a by omega]; exact c2)
      exact ret_k [] [0] ([.live (rowsV ((L').map Prod.fst))]) (.tup []) (⟨rfl, _, hM, by rw [m2, e]⟩)
   · simp -failIfUnchanged at h5; all_goals
    refine vwp_skip ?_
    refine hK17 _ ?_
    try clear hK17 K17
    obtain ⟨mid, hh⟩ : ∃ mid, mid = (a + b) / 2 := ⟨_, rfl⟩
    have y1 : IntKind.i64.wrap ((a : Int) + b) = a + b := w64 (by omega) (by omega)
    have y2 : IntKind.u64.wrap ((a : Int) + b) = a + b := wu64 (by omega) (by omega)
    have y3 : ((a : Int) + b).fdiv 2 = (mid : Int) := by rw [Int.fdiv_eq_ediv_of_nonneg _ (by omega)]; omega
    have y4 : IntKind.i64.wrap (mid : Int) = mid := w64 (by omega) (by omega)
    have y5 : IntKind.u64.wrap (mid : Int) = mid := wu64 (by omega) (by omega)
    refine vwp_sq [0, 1, 2, 3, 4] fun K33 hK33 => vwp_region hT ?_
    simp [y1, y2, y3, y4, y5]
    repeat refine ⟨by first | assumption | omega | (intros; omega), ?_⟩
    refine hK33 _ ?_
    try clear hK33 K33
    obtain ⟨q, hq⟩ : ∃ q, q = mid + m := ⟨_, rfl⟩
    have w9 : IntKind.i64.wrap ((mid : Int) + m) = q := (w64 (by omega) (by omega)).trans (by omega)
    refine vwp_sq [0, 1, 2, 3, 4, 18] fun K34 hK34 => vwp_region hT ?_
    simp [w9]
    refine hK34 _ ?_
    try clear hK34 K34
    refine vwp_sq [0, 1, 2, 3, 4, 18, 19] fun K35 hK35 => vwp_region hT ?_
    simp
    refine hK35 _ ?_
    try clear hK35 K35
    refine vwp_cut_s (fun x : Nat × Nat => ⟨[(0, .sl 0 (n * 3) 3 0 n), (1, .int .i64 a), (2, .int .i64 m), (3, .int .i64 b), (4, .fn 57 []), (18, .int .i64 (mid : Int)), (19, .int .i64 (q : Int)), (20, .int .i64 (x.1 : Int)), (21, .int .i64 (x.2 : Int))], [.live (rowsV ((L).map Prod.fst))]⟩) (fun x => (mid < m ∧ x.1 = q - b ∧ x.2 = mid) ∨ (m ≤ mid ∧ x.1 = a ∧ x.2 = m)) (fun K36 hK36 => ?_) ?_
    · refine vwp_sq [0, 1, 2, 3, 4, 18, 19] fun K37 hK37 => vwp_region hT ?_
      simp
      refine hK37 _ ?_
      try clear hK37 K37
      refine vwp_cond (by first | rfl | (simp; rfl)) (fun h9 => ?_) fun h9 => ?_
      · simp -failIfUnchanged at h9; all_goals
       obtain ⟨s0, hs0⟩ : ∃ s0, s0 = q - b := ⟨_, rfl⟩
       have v1 : IntKind.i64.wrap ((q : Int) - b) = s0 := (w64 (by omega) (by omega)).trans (by omega)
       refine vwp_sq [0, 1, 2, 3, 4, 18, 19] fun K38 hK38 => vwp_region hT ?_
       simp [v1]
       refine hK38 _ ?_
       try clear hK38 K38
       refine vwp_live [0, 1, 2, 3, 4, 18, 19, 20] (vwp_region hT ?_)
       simp
       exact hK36 (s0, mid) _ (Gh.to_k [0, 1, 2, 3, 4, 18, 19, 20, 21] [0]) (.inl ⟨by omega, hs0, rfl⟩)
      · simp -failIfUnchanged at h9; all_goals
       refine vwp_sq [0, 1, 2, 3, 4, 18, 19] fun K39 hK39 => vwp_region hT ?_
       simp
       refine hK39 _ ?_
       try clear hK39 K39
       refine vwp_live [0, 1, 2, 3, 4, 18, 19, 20] (vwp_region hT ?_)
       simp
       exact hK36 (a, m) _ (Gh.to_k [0, 1, 2, 3, 4, 18, 19, 20, 21] [0]) (.inr ⟨by omega, rfl, rfl⟩)
    · rintro ⟨s0, r0⟩ hsr
      dsimp only at hsr ⊢
      clear w0 w8 w9 y1 y2 y3 y4 y5 h1 h5
      obtain ⟨p, hpq⟩ : ∃ p, p = q - 1 := ⟨_, rfl⟩
      have v2 : IntKind.i64.wrap ((q : Int) - 1) = p := (w64 (by omega) (by omega)).trans (by omega)
      refine vwp_sq [0, 1, 2, 3, 4, 18, 19, 20, 21] fun K40 hK40 => vwp_region hT ?_
      simp [v2]
      refine hK40 _ ?_
      try clear hK40 K40
      refine vwp_seq_k fun K41 hK41 => ?_
      refine vwp_block ?_
      refine vwp_loop_s (fun x : Nat × Nat => ⟨[(0, .sl 0 (n * 3) 3 0 n), (1, .int .i64 a), (2, .int .i64 m), (3, .int .i64 b), (4, .fn 57 []), (18, .int .i64 (mid : Int)), (19, .int .i64 (q : Int)), (20, .int .i64 (x.1 : Int)), (21, .int .i64 (x.2 : Int)), (22, .int .i64 (p : Int))], [.live (rowsV ((L).map Prod.fst))]⟩) (fun x => (s0 ≤ x.1 ∧ x.1 ≤ x.2 ∧ x.2 ≤ r0) ∧ (x.1 = s0 ∨ ∃ w z, L[q - x.1]? = some w ∧ L[x.1 - 1]? = some z ∧ moreLeft w.1 z.1 = false) ∧ (x.2 = r0 ∨ ∃ w z, L[p - x.2]? = some w ∧ L[x.2]? = some z ∧ moreLeft w.1 z.1 = true)) (fun x => x.2 - x.1) ((s0, r0)) (Gh.to_k [0, 1, 2, 3, 4, 18, 19, 20, 21, 22] [0]) (⟨⟨Nat.le_refl _, by dsimp only; omega, Nat.le_refl _⟩, .inl rfl, .inl rfl⟩) ?_
      rintro ⟨s, r⟩ ⟨c0, c1, c2⟩
      dsimp only at c0 c1 c2 ⊢
      intro K42 hK42
      refine vwp_seq_k fun K43 hK43 => ?_
      refine vwp_sq [0, 1, 2, 3, 4, 18, 19, 20, 21, 22] fun K44 hK44 => vwp_region hT ?_
      simp
      refine hK44 _ ?_
      try clear hK44 K44
      refine vwp_cond (by first | rfl | (simp; rfl)) (fun h10 => ?_) fun h10 => ?_
      · simp -failIfUnchanged at h10; all_goals
       refine vwp_skip ?_
       refine hK43 _ ?_
       try clear hK43 K43
       refine vwp_block ?_
       obtain ⟨h, hh⟩ : ∃ h, h = (s + r) / 2 := ⟨_, rfl⟩
       have y1 : IntKind.i64.wrap ((s : Int) + r) = s + r := w64 (by omega) (by omega)
       have y2 : IntKind.u64.wrap ((s : Int) + r) = s + r := wu64 (by omega) (by omega)
       have y3 : ((s : Int) + r).fdiv 2 = (h : Int) := by rw [Int.fdiv_eq_ediv_of_nonneg _ (by omega)]; omega
       have y4 : IntKind.i64.wrap (h : Int) = h := w64 (by omega) (by omega)
       have y5 : IntKind.u64.wrap (h : Int) = h := wu64 (by omega) (by omega)
       refine vwp_sq [0, 1, 2, 3, 4, 18, 19, 20, 21, 22] fun K45 hK45 => vwp_region hT ?_
       simp [y1, y2, y3, y4, y5]
       repeat refine ⟨by first | assumption | omega | (intros; omega), ?_⟩
       refine hK45 _ ?_
       try clear hK45 K45
       clear y1 y2 y3 y4 y5
       obtain ⟨w, hw1⟩ := getI (l := L) (i := p - h) (by omega)
       obtain ⟨z, hz1⟩ := getI (l := L) (i := h) (by omega)
       obtain ⟨ph, hph⟩ : ∃ ph, ph = p - h := ⟨_, rfl⟩
       rw [← hph] at hw1
       have v3 : IntKind.i64.wrap ((p : Int) - h) = ph := (w64 (by omega) (by omega)).trans (by omega)
       refine vwp_sq [0, 1, 2, 3, 4, 18, 19, 20, 21, 22, 23] fun K46 hK46 => vwp_calm hT hm (by kernel_rfl) ?_
       simp [rowPart (fst_get hw1), rowPart (fst_get hz1), lenPart, hn, v3]
       repeat refine ⟨by first | assumption | omega | (intros; omega), ?_⟩
       refine ⟨.int .i64 (cmpN z.1.left w.1.left), fun sl => ?_, ?_⟩
       · refine vcall_k [] (pcmp_spec w.1 z.1) ?_
         rintro r ob' ⟨rfl, rfl⟩
         simp
       simp [rowPart (fst_get hw1), rowPart (fst_get hz1), lenPart, hn, v3]
       repeat refine ⟨by first | assumption | omega | (intros; omega), ?_⟩
       refine hK46 _ ?_
       try clear hK46 K46
       refine vwp_cond (by first | rfl | (simp; rfl)) (fun h11 => ?_) fun h11 => ?_
       · simp -failIfUnchanged at h11; all_goals
        have qh := h11
        have v4 : IntKind.i64.wrap ((h : Int) + 1) = h + 1 := w64 (by omega) (by omega)
        refine vwp_live [0, 1, 2, 3, 4, 18, 19, 21, 22, 23] (vwp_region hT ?_)
        simp [v4]
        exact hK42 (h + 1, r) _ (Gh.to_k [0, 1, 2, 3, 4, 18, 19, 20, 21, 22] [0]) ⟨by dsimp only; omega, .inr ⟨w, z, by dsimp only; rw [show q - (h + 1) = ph by omega]; exact hw1, by dsimp only; rw [Nat.add_sub_cancel]; exact hz1, nlt (by omega)⟩, c2⟩ (by dsimp only; omega)
       · simp -failIfUnchanged at h11; all_goals
        have qh := h11
        refine vwp_live [0, 1, 2, 3, 4, 18, 19, 20, 22, 23] (vwp_region hT ?_)
        simp
        exact hK42 (s, h) _ (Gh.to_k [0, 1, 2, 3, 4, 18, 19, 20, 21, 22] [0]) ⟨by dsimp only; omega, c1, .inr ⟨w, z, by rw [← hph]; exact hw1, hz1, ylt qh⟩⟩ (by dsimp only; omega)
      · simp -failIfUnchanged at h10; all_goals
       refine vwp_exit ?_
       simp only [inBlk, thenQ, if_true]
       refine hK41 _ ?_
       try clear hK41 K41
       obtain rfl : r = s := by omega
       obtain ⟨e, U1, U2, V1, V2, he, hme, ⟨lU1, lU2, lV1, lV2⟩, eU, eV, ⟨sU1, sU2, sV1, sV2⟩, b1, b2, hJ⟩ := merge_facts moreLeft_weak hL ha hm1 hb sU sV hBel hu hv hh hq hpq hsr c0.1 c0.2.2 c1 c2
       have v5 : IntKind.i64.wrap ((q : Int) - r) = e := (w64 (by omega) (by omega)).trans (by omega)
       have hmid : a < mid ∧ mid < b := by omega
       clear c0 c1 c2 hsr hBel sU sV hpq v2 hh hq he
       refine vwp_sq [0, 1, 2, 3, 4, 18, 19, 20] fun K47 hK47 => vwp_region hT ?_
       simp [v5]
       refine hK47 _ ?_
       try clear hK47 K47
       refine vwp_cut_s (fun x : List (Part × Nat) => ⟨[(0, .sl 0 (n * 3) 3 0 n), (1, .int .i64 a), (3, .int .i64 b), (4, .fn 57 []), (18, .int .i64 (mid : Int)), (20, .int .i64 (r : Int)), (24, .int .i64 (e : Int))], [.live (rowsV ((x).map Prod.fst))]⟩) (fun x => x.length = n ∧ x = A ++ U1 ++ V1 ++ U2 ++ V2 ++ B) (fun K48 hK48 => ?_) ?_
       · refine vwp_sq [0, 1, 2, 3, 4, 18, 20, 24] fun K49 hK49 => vwp_region hT ?_
         simp
         refine hK49 _ ?_
         try clear hK49 K49
         refine vwp_cond (by first | rfl | (simp; rfl)) (fun h12 => ?_) fun h12 => ?_
         · simp -failIfUnchanged at h12; all_goals
          have hv1 := rotate_spec (A.map Prod.fst ++ U1.map Prod.fst) (U2.map Prod.fst) (V1.map Prod.fst) (V2.map Prod.fst ++ B.map Prod.fst) n r m e (by simp; omega) hn2 (by simp; omega) (by simp; omega) (by simp; omega) (by simp; omega) (by simp; omega)
          have eL : L = A ++ U1 ++ U2 ++ V1 ++ (V2 ++ B) := by rw [hL, ← eU, ← eV]; simp
          have eL2 : L.map Prod.fst = A.map Prod.fst ++ U1.map Prod.fst ++ U2.map Prod.fst ++ V1.map Prod.fst ++ (V2.map Prod.fst ++ B.map Prod.fst) := by rw [eL]; simp
          rw [← eL2] at hv1
          refine vwp_live [0, 1, 2, 3, 4, 18, 20, 24] (vwp_region hT ?_)
          simp
          refine vcall_k [0] (hv1) ?_
          rintro r ob' ⟨rfl, rfl⟩
          simp
          exact hK48 (A ++ U1 ++ V1 ++ U2 ++ V2 ++ B) _ (Gh.to_k [0, 1, 3, 4, 18, 20, 24] [0]) ⟨by simp; omega, rfl⟩
         · simp -failIfUnchanged at h12; all_goals
          refine vwp_skip ?_
          exact hK48 L _ (Gh.to_k [0, 1, 3, 4, 18, 20, 24] [0]) ⟨hn, by
            rw [hL, ← eU, ← eV]
            by_cases qc : r < m
            · have : V1 = [] := List.length_eq_zero_iff.1 (by omega)
              rw [this]; simp
            · have : U2 = [] := List.length_eq_zero_iff.1 (by omega)
              rw [this]; simp⟩
       · rintro L1 ⟨hn1, hL1⟩
         refine vwp_cut_s (fun x : List (Part × Nat) × List (Part × Nat) => ⟨[(0, .sl 0 (n * 3) 3 0 n), (3, .int .i64 b), (4, .fn 57 []), (18, .int .i64 (mid : Int)), (24, .int .i64 (e : Int))], [.live (rowsV ((x.1).map Prod.fst))]⟩) (fun x => x.1.length = n ∧ x.1 = A ++ x.2 ++ U2 ++ V2 ++ B ∧ Merged moreLeft U1 V1 x.2) (fun K50 hK50 => ?_) ?_
         · refine vwp_sq [0, 1, 3, 4, 18, 20, 24] fun K51 hK51 => vwp_region hT ?_
           simp
           refine hK51 _ ?_
           try clear hK51 K51
           refine vwp_cond (by first | rfl | (simp; rfl)) (fun h13 => ?_) fun h13 => ?_
           · simp -failIfUnchanged at h13; all_goals
            have hm2 : mid = A.length + U1.length + V1.length := by omega
            have ih1 := ih A U1 V1 (U2 ++ (V2 ++ B)) n a r mid (by omega) (by simp; omega) hn2 ha (by omega) (by omega) (by omega) (by omega) sU1 sV1 b1
            rw [show A ++ U1 ++ V1 ++ (U2 ++ (V2 ++ B)) = L1 by rw [hL1]; simp] at ih1
            refine vwp_live [0, 1, 3, 4, 18, 20, 24] (vwp_region hT ?_)
            simp
            refine vcall_k [0] (ih1) ?_
            rintro r' ob' ⟨rfl, W1, hW1, rfl⟩
            simp
            have lW1 := hW1.perm.length_eq
            rw [List.length_append] at lW1
            exact hK50 (A ++ W1 ++ U2 ++ V2 ++ B, W1) _ (Gh.to_k [0, 3, 4, 18, 24] [0]) ⟨by simp; omega, rfl, hW1⟩
           · simp -failIfUnchanged at h13; all_goals
            refine vwp_skip ?_
            by_cases qc : a < r
            · have : V1 = [] := List.length_eq_zero_iff.1 (by omega)
              exact hK50 (L1, U1) _ (Gh.to_k [0, 3, 4, 18, 24] [0]) ⟨hn1, by dsimp only; rw [hL1, this]; simp, by rw [this]; exact Merged.nil_right sU1⟩
            · have : U1 = [] := List.length_eq_zero_iff.1 (by omega)
              exact hK50 (L1, V1) _ (Gh.to_k [0, 3, 4, 18, 24] [0]) ⟨hn1, by dsimp only; rw [hL1, this]; simp, by rw [this]; exact Merged.nil_left sV1⟩
         · rintro ⟨L2, W1⟩ ⟨hn1, hL2, hW1⟩
           dsimp only at hn1 hL2 hW1 ⊢
           have lW1 := hW1.perm.length_eq
           rw [List.length_append] at lW1
           refine vwp_sq [0, 3, 4, 18, 24] fun K52 hK52 => vwp_region hT ?_
           simp
           refine hK52 _ ?_
           try clear hK52 K52
           refine vwp_cond (by first | rfl | (simp; rfl)) (fun h14 => ?_) fun h14 => ?_
           · simp -failIfUnchanged at h14; all_goals
            have ih2 := ih (A ++ W1) U2 V2 B n mid e b (by omega) (by rw [← hL2]; exact hn1) hn2 (by simp; omega) (by simp; omega) (by simp; omega) (by omega) (by omega) sU2 sV2 b2
            rw [← hL2] at ih2
            refine vwp_live [0, 3, 4, 18, 24] (vwp_region hT ?_)
            simp
            refine vcall_k [0] (ih2) ?_
            rintro r' ob' ⟨rfl, W2, hW2, rfl⟩
            simp
            refine hR _ _ ?_
            exact norm_k [] [0] ([.live (rowsV ((A ++ (W1 ++ W2) ++ B).map Prod.fst))]) (.tup []) (⟨rfl, _, hJ _ _ hW1 hW2, rfl⟩)
           · simp -failIfUnchanged at h14; all_goals
            refine vwp_skip ?_
            refine hR _ _ ?_
            by_cases qc : mid < e
            · have : V2 = [] := List.length_eq_zero_iff.1 (by omega)
              exact norm_k [] [0] ([.live (rowsV ((L2).map Prod.fst))]) (.tup []) (⟨rfl, _, hJ W1 U2 hW1 (by rw [this]; exact Merged.nil_right sU2), by rw [hL2, this]; simp⟩)
            · have : U2 = [] := List.length_eq_zero_iff.1 (by omega)
              exact norm_k [] [0] ([.live (rowsV ((L2).map Prod.fst))]) (.tup []) (⟨rfl, _, hJ W1 V2 hW1 (by rw [this]; exact Merged.nil_left sV2), by rw [hL2, this]; simp⟩)
end Go.Proofs.Ythjpaongoflgiaa
