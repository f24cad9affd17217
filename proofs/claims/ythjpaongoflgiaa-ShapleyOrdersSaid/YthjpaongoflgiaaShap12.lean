/- The document counts all orders. -/
import Derived.Test.YthjpaongoflgiaaShap11
namespace Go.Proofs.Ythjpaongoflgiaa
open Go Go.VX Go.RowKit
set_option linter.unusedVariables false
set_option linter.unusedSimpArgs false
set_option maxHeartbeats 20000000
set_option maxRecDepth 100000

theorem fineB_spec (m : Nat) (l : List Int) (h6 : m ≤ 6) (hl : l.length < 1099511627776) : VC P 46 [.int .i64 m, sI l] [] (fun r ob' => r = .bool (isB (m : Int) l) ∧ ob' = []) := by
  have h := fine_spec m l h6 hl
  rw [fine_eq] at h
  exact h
/-- The last digits of a number. -/
def lst (m x : Nat) : Nat → List Int
  | 0 => []
  | i + 1 => ((x / m ^ i % m : Nat) : Int) :: lst m x i
theorem lst_len (m x : Nat) : ∀ i, (lst m x i).length = i
  | 0 => rfl
  | i + 1 => by simp [lst, lst_len m x i]
def refL (m x : Nat) : List (List Int) := ((List.range x).map fun x => lst m x m).filter (isB (m : Int))
theorem refL_len (m x : Nat) : (refL m x).length ≤ x := by
  unfold refL
  refine Nat.le_trans (List.length_filter_le _ _) (by simp)
theorem refL_yes {m x : Nat} (h : isB (m : Int) (lst m x m) = true) : refL m (x + 1) = refL m x ++ [lst m x m] := by
  simp [refL, List.range_succ, h]
theorem refL_no {m x : Nat} (h : isB (m : Int) (lst m x m) = false) : refL m (x + 1) = refL m x := by
  simp [refL, List.range_succ, h]
theorem pow_le6 : ∀ m, m < 7 → ∀ i, i < m + 1 → m ^ i ≤ 46656 := by decide
theorem tmod_nat (a b : Nat) : (a : Int).tmod (b : Int) = ((a % b : Nat) : Int) := rfl
theorem tdiv_nat (a b : Nat) : (a : Int).tdiv (b : Int) = ((a / b : Nat) : Int) := rfl
theorem rorders_spec (m : Nat) (h6 : m ≤ 6) : VC P 29 [.int .i64 m] [] (fun r ob' => r = .sl 0 (refL m (m ^ m)).length 1 0 (refL m (m ^ m)).length ∧ ob' = [.live ((refL m (m ^ m)).map sI)]) := by
  refine VC_of_vwp_k ent_29 Try.func29 rfl (by simp) fun R hR => ?_
  refine vwp_sq [0] fun K1 hK1 => vwp_region hT ?_
  simp
  refine hK1 _ ?_
  try clear hK1 K1
  refine vwp_sq [0] fun K2 hK2 => vwp_region hT ?_
  simp
  refine hK2 _ ?_
  try clear hK2 K2
  refine vwp_seq_k fun K3 hK3 => ?_
  refine vwp_sq [0, 3] fun K4 hK4 => vwp_region hT ?_
  simp
  refine hK4 _ ?_
  try clear hK4 K4
  refine vwp_cond (by first | rfl | (simp; rfl)) (fun h1 => ?_) fun h1 => ?_
  · simp -failIfUnchanged at h1; all_goals
   refine vwp_seq_k fun K5 hK5 => ?_
   omega
  · simp -failIfUnchanged at h1; all_goals
   refine vwp_skip ?_
   refine hK3 _ ?_
   try clear hK3 K3
   refine vwp_sq [0, 3] fun K6 hK6 => vwp_region hT ?_
   simp
   refine hK6 _ ?_
   try clear hK6 K6
   refine vwp_seq_k fun K7 hK7 => ?_
   refine vwp_sq [0, 3, 4] fun K8 hK8 => vwp_region hT ?_
   simp
   refine hK8 _ ?_
   try clear hK8 K8
   refine vwp_block ?_
   refine vwp_loop_s (fun z : Nat × Nat => ⟨[(0, .int .i64 m), (3, .sl 0 0 1 0 0), (4, .int .i64 (z.2 : Int)), (5, .int .i64 (z.1 : Int))], [.live []]⟩) (fun z => z.1 ≤ m ∧ z.2 = m ^ z.1) (fun z => m - z.1) ((0, 1)) (Gh.to_k [0, 3, 4, 5] [0]) (⟨by simp, by simp⟩) ?_
   rintro ⟨i, a⟩ ⟨hi, ha⟩
   dsimp only at hi ha ⊢
   intro K9 hK9
   refine vwp_seq_k fun K10 hK10 => ?_
   refine vwp_sq [0, 3, 4, 5] fun K11 hK11 => vwp_region hT ?_
   simp
   refine hK11 _ ?_
   try clear hK11 K11
   refine vwp_cond (by first | rfl | (simp; rfl)) (fun h2 => ?_) fun h2 => ?_
   · simp -failIfUnchanged at h2; all_goals
    refine vwp_skip ?_
    refine hK10 _ ?_
    try clear hK10 K10
    refine vwp_seq_k fun K12 hK12 => ?_
    refine vwp_block ?_
    have hp := pow_le6 m (by omega) (i + 1) (by omega)
    obtain ⟨b, hb⟩ : ∃ b, b = m ^ (i + 1) := ⟨_, rfl⟩
    have w2 : IntKind.i64.wrap ((a : Int) * (m : Int)) = (b : Int) := by
      rw [hb, Nat.pow_succ, ha, ← Int.natCast_mul]; rw [Nat.pow_succ] at hp; exact w64 (by omega) (by omega)
    refine vwp_live [0, 3, 4, 5] (vwp_region hT ?_)
    simp [w2]
    refine hK12 _ ?_
    try clear hK12 K12
    have w1 : IntKind.i64.wrap ((i : Int) + 1) = i + 1 := w64 (by omega) (by omega)
    refine vwp_live [0, 3, 4, 5] (vwp_region hT ?_)
    simp [w1]
    exact hK9 ((i + 1, b)) _ (Gh.to_k [0, 3, 4, 5] [0]) (⟨by dsimp only; omega, hb⟩) (by dsimp only; omega)
   · simp -failIfUnchanged at h2; all_goals
    refine vwp_exit ?_
    simp only [inBlk, thenQ, if_true]
    refine hK7 _ ?_
    try clear hK7 K7
    refine vwp_seq_k fun K13 hK13 => ?_
    have e : i = m := by omega
    rw [e] at ha
    have hp := pow_le6 m (by omega) m (by omega)
    rw [← ha] at hp
    refine vwp_sq [0, 3, 4] fun K14 hK14 => vwp_region hT ?_
    simp
    refine hK14 _ ?_
    try clear hK14 K14
    refine vwp_block ?_
    refine vwp_loop_s (fun z : Nat × List (List Int) => ⟨[(0, .int .i64 m), (3, .sl 0 z.2.length 1 0 z.2.length), (4, .int .i64 (a : Int)), (6, .int .i64 (z.1 : Int))], [.live (z.2.map sI)]⟩) (fun z => z.1 ≤ a ∧ z.2 = refL m z.1) (fun z => a - z.1) ((0, [])) (Gh.to_k [0, 3, 4, 6] [0]) (⟨by simp, by simp [refL]⟩) ?_
    rintro ⟨x, D⟩ ⟨hx, hD⟩
    dsimp only at hx hD ⊢
    have hDl := refL_len m x
    rw [← hD] at hDl
    intro K15 hK15
    refine vwp_seq_k fun K16 hK16 => ?_
    refine vwp_sq [0, 3, 4, 6] fun K17 hK17 => vwp_region hT ?_
    simp
    refine hK17 _ ?_
    try clear hK17 K17
    refine vwp_cond (by first | rfl | (simp; rfl)) (fun h3 => ?_) fun h3 => ?_
    · simp -failIfUnchanged at h3; all_goals
     refine vwp_skip ?_
     refine hK16 _ ?_
     try clear hK16 K16
     refine vwp_seq_k fun K18 hK18 => ?_
     refine vwp_block ?_
     refine vwp_sq [0, 3, 4, 6] fun K19 hK19 => vwp_region hT ?_
     simp
     refine hK19 _ ?_
     try clear hK19 K19
     refine vwp_sq [0, 3, 4, 6, 7] fun K20 hK20 => vwp_region hT ?_
     simp
     refine hK20 _ ?_
     try clear hK20 K20
     refine vwp_seq_k fun K21 hK21 => ?_
     refine vwp_sq [0, 3, 4, 6, 7, 8] fun K22 hK22 => vwp_region hT ?_
     simp
     refine hK22 _ ?_
     try clear hK22 K22
     refine vwp_block ?_
     refine vwp_loop_s (fun u : Nat × Nat × List Int => ⟨[(0, .int .i64 m), (3, .sl 0 D.length 1 0 D.length), (4, .int .i64 (a : Int)), (6, .int .i64 (x : Int)), (7, .sl 1 u.1 1 0 u.1), (8, .int .i64 (u.2.1 : Int)), (9, .int .i64 (u.1 : Int))], [.live (D.map sI), .live (u.2.2.map (.int .i64))]⟩) (fun u => u.1 ≤ m ∧ u.2.1 = x / m ^ u.1 ∧ u.2.2 = lst m x u.1 ∧ u.2.2.length = u.1) (fun u => m - u.1) ((0, x, [])) (Gh.to_k [0, 3, 4, 6, 7, 8, 9] [0, 1]) (⟨by simp, by simp, by simp [lst], by simp⟩) ?_
     rintro ⟨i, y, L⟩ ⟨hi, hy, hL, hLl⟩
     dsimp only at hi hy hL hLl ⊢
     intro K23 hK23
     refine vwp_seq_k fun K24 hK24 => ?_
     refine vwp_sq [0, 3, 4, 6, 7, 8, 9] fun K25 hK25 => vwp_region hT ?_
     simp
     refine hK25 _ ?_
     try clear hK25 K25
     refine vwp_cond (by first | rfl | (simp; rfl)) (fun h4 => ?_) fun h4 => ?_
     · simp -failIfUnchanged at h4; all_goals
      refine vwp_skip ?_
      refine hK24 _ ?_
      try clear hK24 K24
      refine vwp_seq_k fun K26 hK26 => ?_
      refine vwp_block ?_
      have hmz : ¬ (m : Int) = 0 := by omega
      have hyx : y ≤ x := by rw [hy]; exact Nat.div_le_self _ _
      obtain ⟨d, hd⟩ : ∃ d : Int, d = ((y % m : Nat) : Int) := ⟨_, rfl⟩
      obtain ⟨q, hq⟩ : ∃ q, q = y / m := ⟨_, rfl⟩
      have hqy : q ≤ y := by rw [hq]; exact Nat.div_le_self _ _
      have w2 : (y : Int).tmod (m : Int) = d := by rw [hd]; rfl
      have w3 : (y : Int).tdiv (m : Int) = (q : Int) := by rw [hq]; rfl
      have w4 : IntKind.i64.wrap (q : Int) = q := w64 (by omega) (by omega)
      refine vwp_sq [0, 3, 4, 6, 7, 8, 9] fun K27 hK27 => vwp_region hT ?_
      simp [w2, hmz, hLl]
      repeat refine ⟨by first | assumption | omega | (intros; omega), ?_⟩
      refine hK27 _ ?_
      try clear hK27 K27
      refine vwp_live [0, 3, 4, 6, 7, 8, 9] (vwp_region hT ?_)
      simp [w3, w4, hmz]
      repeat refine ⟨by first | assumption | omega | (intros; omega), ?_⟩
      refine hK26 _ ?_
      try clear hK26 K26
      have w1 : IntKind.i64.wrap ((i : Int) + 1) = i + 1 := w64 (by omega) (by omega)
      refine vwp_live [0, 3, 4, 6, 7, 8, 9] (vwp_region hT ?_)
      simp [w1]
      exact hK23 ((i + 1, q, d :: L)) _ (Gh.to_k [0, 3, 4, 6, 7, 8, 9] [0, 2] (he := by simp [hLl]; omega) (hh := by simp [hLl]; exact List.take_of_length_le (by simp [hLl]))) (⟨by dsimp only; omega, by dsimp only; rw [hq, hy, Nat.div_div_eq_div_mul, Nat.pow_succ], by dsimp only; rw [hd, hy, hL]; rfl, by simp [hLl]⟩) (by dsimp only; omega)
     · simp -failIfUnchanged at h4; all_goals
      refine vwp_exit ?_
      simp only [inBlk, thenQ, if_true]
      refine hK21 _ ?_
      try clear hK21 K21
      have e2 : i = m := by omega
      rw [e2] at hL hLl ⊢
      refine vwp_gh (Gh.freeze 1 (by rfl) (by intro c hc; simp at hc; obtain ⟨z, _, rfl⟩ := hc; rfl)) ?_
      refine vwp_gh (st' := ⟨[(0, .int .i64 m), (3, .sl 0 D.length 1 0 D.length), (4, .int .i64 (a : Int)), (6, .int .i64 (x : Int)), (7, sI L)], [.live (D.map sI)]⟩) (Gh.to_k [0, 3, 4, 6, 7] [0] (he := by simp [hLl, List.take_of_length_le]) (hs := by simp [hLl])) ?_
      refine vwp_sq [0, 3, 4, 6, 7] fun K28 hK28 => vwp_region hT ?_
      simp
      refine vcall_k [] (fineB_spec m L h6 (by omega)) ?_
      rintro r ob' ⟨rfl, rfl⟩
      simp
      refine hK28 _ ?_
      try clear hK28 K28
      refine vwp_cond (by first | rfl | (simp; rfl)) (fun h5 => ?_) fun h5 => ?_
      · simp -failIfUnchanged at h5; all_goals
       have hbl : isB (m : Int) (lst m x m) = true := by rw [← hL]; simpa using h5
       refine vwp_live [0, 3, 4, 6, 7] (vwp_region hT ?_)
       simp
       repeat refine ⟨by first | assumption | omega | (intros; omega), ?_⟩
       refine hK18 _ ?_
       try clear hK18 K18
       have w1 : IntKind.i64.wrap ((x : Int) + 1) = x + 1 := w64 (by omega) (by omega)
       refine vwp_live [0, 3, 4, 6] (vwp_region hT ?_)
       simp [w1]
       exact hK15 (x + 1, D ++ [L]) _ (Gh.to_k [0, 3, 4, 6] [0]) (⟨by dsimp only; omega, by dsimp only; rw [refL_yes hbl, ← hD, hL]⟩) (by dsimp only; omega)
      · simp -failIfUnchanged at h5; all_goals
       have hbl : isB (m : Int) (lst m x m) = false := by rw [← hL]; simpa using h5
       refine vwp_skip ?_
       refine hK18 _ ?_
       try clear hK18 K18
       have w1 : IntKind.i64.wrap ((x : Int) + 1) = x + 1 := w64 (by omega) (by omega)
       refine vwp_live [0, 3, 4, 6] (vwp_region hT ?_)
       simp [w1]
       exact hK15 ((x + 1, D)) _ (Gh.to_k [0, 3, 4, 6] [0]) (⟨by dsimp only; omega, by dsimp only; rw [refL_no hbl, hD]⟩) (by dsimp only; omega)
    · simp -failIfUnchanged at h3; all_goals
     refine vwp_exit ?_
     simp only [inBlk, thenQ, if_true]
     refine hK13 _ ?_
     try clear hK13 K13
     refine vwp_sq [3] fun K29 hK29 => vwp_region hT ?_
     simp
     refine hK29 _ ?_
     try clear hK29 K29
     refine vwp_ret (hR _ _ ?_)
     have e3 : x = a := by omega
     rw [e3, ha] at hD
     subst hD
     exact ret_k [2] [0] ([.live ((refL m (m ^ m)).map sI)]) (.sl 0 (refL m (m ^ m)).length 1 0 (refL m (m ^ m)).length) (⟨rfl, rfl⟩)
theorem rorders_bad (n : Int) (hn : ¬ (0 ≤ n ∧ n ≤ 6)) : VC P 29 [.int .i64 n] [] (fun r ob' => r = .sl 0 0 1 0 0 ∧ ob' = [.live []]) := by
  refine VC_of_vwp_k ent_29 Try.func29 rfl (by simp) fun R hR => ?_
  refine vwp_sq [0] fun K1 hK1 => vwp_region hT ?_
  simp
  refine hK1 _ ?_
  try clear hK1 K1
  refine vwp_sq [0] fun K2 hK2 => vwp_region hT ?_
  simp
  refine hK2 _ ?_
  try clear hK2 K2
  refine vwp_seq_k fun K3 hK3 => ?_
  refine vwp_sq [0, 3] fun K4 hK4 => vwp_region hT ?_
  simp
  refine hK4 _ ?_
  try clear hK4 K4
  refine vwp_cond (by first | rfl | (simp; rfl)) (fun h1 => ?_) fun h1 => ?_
  · simp -failIfUnchanged at h1; all_goals
   refine vwp_sq [3] fun K5 hK5 => vwp_region hT ?_
   simp
   refine hK5 _ ?_
   try clear hK5 K5
   refine vwp_ret (hR _ _ ?_)
   exact ret_k [2] [0] ([.live []]) (.sl 0 0 1 0 0) (⟨rfl, rfl⟩)
  · simp -failIfUnchanged at h1; all_goals
   refine vwp_skip ?_
   refine hK3 _ ?_
   try clear hK3 K3
   refine vwp_seq_k fun K6 hK6 => ?_
   omega
end Go.Proofs.Ythjpaongoflgiaa
