/- Numbers rounded: the walk. -/
import Derived.Test.YthjpaongoflgiaaQuota2
namespace Go.Proofs.Ythjpaongoflgiaa
open Go Go.VX Go.RowKit
set_option linter.unusedVariables false
set_option linter.unusedSimpArgs false
set_option maxHeartbeats 20000000
set_option maxRecDepth 100000
open Go.VX.Rk Go.VX.Srt

theorem parts_take {D L : List Int} {i : Nat} (h : i < D.length) : (parts D L).take (i + 1) = (parts D L).take i ++ [⟨i, D.getD i 0, L.getD i 0⟩] := take_snoc (parts_get h)
theorem sum_take_succ {D : List Int} {i : Nat} (h : i < D.length) : (D.take (i + 1)).sum = (D.take i).sum + D.getD i 0 := by
  rw [take_snoc (List.getElem?_eq_getElem h), List.sum_append]
  simp [List.getD_eq_getElem?_getD, List.getElem?_eq_getElem h]
theorem sum_bounds : ∀ {D : List Int} {m : Int}, (∀ n ∈ D, 0 ≤ n ∧ n ≤ m) → 0 ≤ D.sum ∧ D.sum ≤ D.length * m
  | [], m, _ => by simp
  | x :: D, m, h => by
    have h1 := h x (by simp)
    have h2 := sum_bounds (D := D) (m := m) fun n hn => h n (by simp [hn])
    rw [List.sum_cons, List.length_cons, Int.natCast_add, Int.add_mul]
    omega
theorem getD_mem {D : List Int} {i : Nat} (h : i < D.length) : D.getD i 0 ∈ D := by
  rw [List.getD_eq_getElem?_getD, List.getElem?_eq_getElem h]; exact List.getElem_mem h
theorem rounded_a (whole : Int) (n : Nat) (D L : List Int) (hD : D.length = n) (hL : L.length = n) (hn : n ≤ 100) (h0 : 0 ≤ whole) (h1 : whole ≤ 576460752303423488) (hd : ∀ x ∈ D, 0 ≤ x ∧ x ≤ 4503599627370496) (l : List Int) (over : Int) (hc : ∀ i : Nat, i < n → VC P 33 [.int .i64 i, .fp [sI l], .fp [.int .i64 over]] [] (fun r ob' => r = .tup [.int .i64 (D.getD i 0), .int .i64 (L.getD i 0)] ∧ ob' = [])) : VC P 32 [.int .i64 whole, .int .i64 n, .fn 33 [.fp [sI l], .fp [.int .i64 over]]] [] (fun r ob' => r = .sl 0 n 1 0 n ∧ ob' = [.live (ints (upped D L (whole - D.sum)))]) := by
  refine VC_of_vwp_k ent_32 Try.func32 rfl (by simp) fun R hR => ?_
  refine vwp_sq [0, 1, 2] fun K1 hK1 => vwp_region hT ?_
  simp
  refine hK1 _ ?_
  try clear hK1 K1
  refine vwp_sq [0, 1, 2] fun K2 hK2 => vwp_region hT ?_
  simp
  refine hK2 _ ?_
  try clear hK2 K2
  refine vwp_seq_k fun K3 hK3 => ?_
  refine vwp_sq [0, 1, 2, 7] fun K4 hK4 => vwp_region hT ?_
  simp
  refine hK4 _ ?_
  try clear hK4 K4
  refine vwp_block ?_
  refine vwp_loop_s (fun i : Nat => ⟨[(0, .int .i64 (whole - (D.take i).sum)), (1, .int .i64 n), (2, .fn 33 [.fp [sI l], .fp [.int .i64 over]]), (7, .sl 0 (i * 3) 3 0 i), (14, .int .i64 n), (15, .int .i64 (i : Int))], [.live (rowsV ((parts D L).take i))]⟩) (fun i => i ≤ n) (fun i => n - i) (0) ((Gh.virt 7 3 (by simp)).trans (Gh.to_k [0, 1, 2, 7, 14, 15] [0])) (by omega) ?_
  rintro i hi
  have hpl := parts_length D L
  intro K5 hK5
  refine vwp_sq [0, 1, 2, 7, 14, 15] fun K6 hK6 => vwp_region hT ?_
  simp
  refine hK6 _ ?_
  try clear hK6 K6
  refine vwp_seq_k fun K7 hK7 => ?_
  refine vwp_cond (by first | rfl | (simp; rfl)) (fun h1 => ?_) fun h1 => ?_
  · simp -failIfUnchanged at h1; all_goals
   refine vwp_skip ?_
   refine hK7 _ ?_
   try clear hK7 K7
   refine vwp_seq_k fun K8 hK8 => ?_
   refine vwp_block ?_
   refine vwp_sq [0, 1, 2, 7, 14, 15] fun K9 hK9 => vwp_region hT ?_
   simp
   refine hK9 _ ?_
   try clear hK9 K9
   refine vwp_sq [0, 1, 2, 7, 8, 14, 15] fun K10 hK10 => vwp_region hT ?_
   simp
   refine vcall_k [] (hc i (by omega)) ?_
   rintro r ob' ⟨rfl, rfl⟩
   simp
   refine hK10 _ ?_
   try clear hK10 K10
   refine vwp_sq [0, 1, 2, 7, 8, 9, 10, 14, 15] fun K11 hK11 => vwp_region hT ?_
   simp [lenPart, hpl, zerosV, spl]
   repeat refine ⟨by first | assumption | omega | (intros; omega), ?_⟩
   refine hK11 _ ?_
   try clear hK11 K11
   have b1 := sum_bounds (D := D.take i) (m := 4503599627370496) fun x hx => hd x (List.mem_of_mem_take hx)
   have b2 := hd _ (getD_mem (D := D) (i := i) (by omega))
   have b3 := sum_take_succ (D := D) (i := i) (by omega)
   rw [List.length_take] at b1
   have w2 : IntKind.i64.wrap (whole - (D.take i).sum - D[i]?.getD 0) = whole - (D.take (i + 1)).sum := by
     rw [b3]
     simp only [List.getD_eq_getElem?_getD] at b2 ⊢
     rw [w64 (by omega) (by omega)]; omega
   refine vwp_live [0, 1, 2, 7, 9, 14, 15] (vwp_region hT ?_)
   simp [w2]
   refine hK8 _ ?_
   try clear hK8 K8
   have w1 : IntKind.i64.wrap ((i : Int) + 1) = i + 1 := w64 (by omega) (by omega)
   refine vwp_live [0, 1, 2, 7, 14, 15] (vwp_region hT ?_)
   simp [w1]
   exact hK5 (i + 1) _ (Gh.to_k [0, 1, 2, 7, 14, 15] [0] (he := by simp; omega) (hh := by simp [parts_take (D := D) (L := L) (i := i) (by omega), rowsV_snoc])) (by omega) (by omega)
  · simp -failIfUnchanged at h1; all_goals
   refine vwp_exit ?_
   simp only [inBlk, thenQ, if_true]
   refine hK3 _ ?_
   try clear hK3 K3
   obtain rfl : i = n := by omega
   rw [List.take_of_length_le (by omega)]
   rw [List.take_of_length_le (by omega)]
   obtain ⟨wh, hwh⟩ : ∃ wh, wh = whole - D.sum := ⟨_, rfl⟩
   rw [← hwh]
   obtain ⟨PL, hPL⟩ : ∃ PL, PL = parts D L := ⟨_, rfl⟩
   rw [← hPL] at hpl ⊢
   refine vwp_sq [0, 1, 7] fun K12 hK12 => vwp_region hT ?_
   simp [-List.reduceReplicate, Int.toNat_natCast]
   repeat refine ⟨by first | assumption | omega | (intros; omega), ?_⟩
   refine hK12 _ ?_
   try clear hK12 K12
   refine vwp_sq [0, 7, 11] fun K13 hK13 => vwp_region hT ?_
   simp
   refine vcall_k [0] (sortStable_spec PL i (by omega) (by omega)) ?_
   rintro r' ob' ⟨rfl, Z, hZ, sZ, rfl⟩
   simp
   refine hK13 _ ?_
   try clear hK13 K13
   refine vwp_seq_k fun K14 hK14 => ?_
   have hzl := hZ.length_eq
   rw [List.length_zipIdx, hpl, hD] at hzl
   subst hPL
   refine vwp_sq [0, 7, 11] fun K15 hK15 => vwp_region hT ?_
   simp [lenPart, hzl]
   refine hK15 _ ?_
   try clear hK15 K15
   refine vwp_block ?_
   refine vwp_loop_s (fun k : Nat => ⟨[(0, .int .i64 wh), (11, .sl 1 i 1 0 i), (39, .sl 0 (i * 3) 3 0 i), (40, .int .i64 i), (41, .int .i64 (k : Int))], [.live (rowsV (Z.map Prod.fst)), .live (ints (outN D L wh k))]⟩) (fun k => k ≤ i) (fun k => i - k) (0) (Gh.to_k [0, 11, 39, 40, 41] [0, 1] (hh := by simp [outN_zero, hD])) (by omega) ?_
   rintro k hk
   intro K16 hK16
   refine vwp_sq [0, 11, 39, 40, 41] fun K17 hK17 => vwp_region hT ?_
   simp
   refine hK17 _ ?_
   try clear hK17 K17
   refine vwp_seq_k fun K18 hK18 => ?_
   refine vwp_cond (by first | rfl | (simp; rfl)) (fun h2 => ?_) fun h2 => ?_
   · simp -failIfUnchanged at h2; all_goals
    refine vwp_skip ?_
    refine hK18 _ ?_
    try clear hK18 K18
    refine vwp_seq_k fun K19 hK19 => ?_
    refine vwp_block ?_
    obtain ⟨z, hz⟩ := getI (l := Z) (i := k) (by omega)
    obtain ⟨z1, t⟩ := z
    obtain ⟨ht, hz1, hr⟩ := sorted_rank (by omega) hZ sZ hz
    dsimp only at ht hz1 hr
    have hzr := rowPart (fst_get hz)
    dsimp only at hzr
    rw [hz1] at hzr
    have hol := outN_length D L wh k
    have hd2 := hd _ (getD_mem (D := D) (i := t) ht)
    have eS := outN_step (D := D) (L := L) (w := wh) (by omega) ht hr
    obtain ⟨dt, hdt⟩ := getI ht
    obtain ⟨lt, hlt⟩ := getI (l := L) (i := t) (by omega)
    simp only [List.getD_eq_getElem?_getD, hdt, hlt, Option.getD_some] at hzr hd2 eS
    refine vwp_sq [0, 11, 39, 40, 41] fun K20 hK20 => vwp_region hT ?_
    simp [hzr, lenPart, hzl, spl]
    repeat refine ⟨by first | assumption | omega | (intros; omega), ?_⟩
    refine hK20 _ ?_
    try clear hK20 K20
    refine vwp_sq [0, 11, 12, 13, 39, 40, 41] fun K21 hK21 => vwp_region hT ?_
    simp [hol, hD, spl, hd2]
    repeat refine ⟨by first | assumption | omega | (intros; omega), ?_⟩
    refine hK21 _ ?_
    try clear hK21 K21
    refine vwp_sq [0, 11, 12, 13, 39, 40, 41] fun K22 hK22 => vwp_region hT ?_
    simp
    refine hK22 _ ?_
    try clear hK22 K22
    refine vwp_cond (by first | rfl | (simp; rfl)) (fun h3 => ?_) fun h3 => ?_
    · simp -failIfUnchanged at h3; all_goals
     rw [if_pos (by assumption)] at eS
     have w3 : IntKind.i64.wrap (dt + 1) = dt + 1 := w64 (by omega) (by omega)
     refine vwp_live [0, 11, 13, 39, 40, 41] (vwp_region hT ?_)
     simp [hol, hD, spl, w3, show t < i by omega]
     repeat refine ⟨by first | assumption | omega | (intros; omega), ?_⟩
     refine hK19 _ ?_
     try clear hK19 K19
     have w4 : IntKind.i64.wrap ((k : Int) + 1) = k + 1 := w64 (by omega) (by omega)
     refine vwp_live [0, 11, 39, 40, 41] (vwp_region hT ?_)
     simp [w4]
     exact hK16 (k + 1) _ (Gh.to_k [0, 11, 39, 40, 41] [0, 1] (hh := by simp [← eS])) (by omega) (by omega)
    · simp -failIfUnchanged at h3; all_goals
     rw [if_neg (by omega)] at eS
     refine vwp_skip ?_
     refine hK19 _ ?_
     try clear hK19 K19
     have w4 : IntKind.i64.wrap ((k : Int) + 1) = k + 1 := w64 (by omega) (by omega)
     refine vwp_live [0, 11, 39, 40, 41] (vwp_region hT ?_)
     simp [w4]
     exact hK16 (k + 1) _ (Gh.to_k [0, 11, 39, 40, 41] [0, 1] (hh := by simp [← eS])) (by omega) (by omega)
   · simp -failIfUnchanged at h2; all_goals
    refine vwp_exit ?_
    simp only [inBlk, thenQ, if_true]
    refine hK14 _ ?_
    try clear hK14 K14
    obtain rfl : k = i := by omega
    have eO := outN_all (D := D) (L := L) (w := wh) (by omega)
    rw [hD] at eO
    refine vwp_sq [11] fun K23 hK23 => vwp_region hT ?_
    simp
    refine hK23 _ ?_
    try clear hK23 K23
    refine vwp_ret (hR _ _ ?_)
    exact ret_k [6] [1] ([.live (ints (upped D L wh))]) (.sl 0 k 1 0 k) (⟨rfl, by rw [hwh]⟩) (hh := by simp [eO])
theorem rounded_b (whole : Int) (n : Nat) (D L : List Int) (hD : D.length = n) (hL : L.length = n) (hn : n ≤ 100) (h0 : 0 ≤ whole) (h1 : whole ≤ 576460752303423488) (hd : ∀ x ∈ D, 0 ≤ x ∧ x ≤ 4503599627370496) (total all : Int) (w : List Int) (hc : ∀ i : Nat, i < n → VC P 36 [.int .i64 i, .fp [.int .i64 total], .fp [sI w], .fp [.int .i64 all]] [] (fun r ob' => r = .tup [.int .i64 (D.getD i 0), .int .i64 (L.getD i 0)] ∧ ob' = [])) : VC P 32 [.int .i64 whole, .int .i64 n, .fn 36 [.fp [.int .i64 total], .fp [sI w], .fp [.int .i64 all]]] [] (fun r ob' => r = .sl 0 n 1 0 n ∧ ob' = [.live (ints (upped D L (whole - D.sum)))]) := by
  refine VC_of_vwp_k ent_32 Try.func32 rfl (by simp) fun R hR => ?_
  refine vwp_sq [0, 1, 2] fun K1 hK1 => vwp_region hT ?_
  simp
  refine hK1 _ ?_
  try clear hK1 K1
  refine vwp_sq [0, 1, 2] fun K2 hK2 => vwp_region hT ?_
  simp
  refine hK2 _ ?_
  try clear hK2 K2
  refine vwp_seq_k fun K3 hK3 => ?_
  refine vwp_sq [0, 1, 2, 7] fun K4 hK4 => vwp_region hT ?_
  simp
  refine hK4 _ ?_
  try clear hK4 K4
  refine vwp_block ?_
  refine vwp_loop_s (fun i : Nat => ⟨[(0, .int .i64 (whole - (D.take i).sum)), (1, .int .i64 n), (2, .fn 36 [.fp [.int .i64 total], .fp [sI w], .fp [.int .i64 all]]), (7, .sl 0 (i * 3) 3 0 i), (14, .int .i64 n), (15, .int .i64 (i : Int))], [.live (rowsV ((parts D L).take i))]⟩) (fun i => i ≤ n) (fun i => n - i) (0) ((Gh.virt 7 3 (by simp)).trans (Gh.to_k [0, 1, 2, 7, 14, 15] [0])) (by omega) ?_
  rintro i hi
  have hpl := parts_length D L
  intro K5 hK5
  refine vwp_sq [0, 1, 2, 7, 14, 15] fun K6 hK6 => vwp_region hT ?_
  simp
  refine hK6 _ ?_
  try clear hK6 K6
  refine vwp_seq_k fun K7 hK7 => ?_
  refine vwp_cond (by first | rfl | (simp; rfl)) (fun h1 => ?_) fun h1 => ?_
  · simp -failIfUnchanged at h1; all_goals
   refine vwp_skip ?_
   refine hK7 _ ?_
   try clear hK7 K7
   refine vwp_seq_k fun K8 hK8 => ?_
   refine vwp_block ?_
   refine vwp_sq [0, 1, 2, 7, 14, 15] fun K9 hK9 => vwp_region hT ?_
   simp
   refine hK9 _ ?_
   try clear hK9 K9
   refine vwp_sq [0, 1, 2, 7, 8, 14, 15] fun K10 hK10 => vwp_region hT ?_
   simp
   refine vcall_k [] (hc i (by omega)) ?_
   rintro r ob' ⟨rfl, rfl⟩
   simp
   refine hK10 _ ?_
   try clear hK10 K10
   refine vwp_sq [0, 1, 2, 7, 8, 9, 10, 14, 15] fun K11 hK11 => vwp_region hT ?_
   simp [lenPart, hpl, zerosV, spl]
   repeat refine ⟨by first | assumption | omega | (intros; omega), ?_⟩
   refine hK11 _ ?_
   try clear hK11 K11
   have b1 := sum_bounds (D := D.take i) (m := 4503599627370496) fun x hx => hd x (List.mem_of_mem_take hx)
   have b2 := hd _ (getD_mem (D := D) (i := i) (by omega))
   have b3 := sum_take_succ (D := D) (i := i) (by omega)
   rw [List.length_take] at b1
   have w2 : IntKind.i64.wrap (whole - (D.take i).sum - D[i]?.getD 0) = whole - (D.take (i + 1)).sum := by
     rw [b3]
     simp only [List.getD_eq_getElem?_getD] at b2 ⊢
     rw [w64 (by omega) (by omega)]; omega
   refine vwp_live [0, 1, 2, 7, 9, 14, 15] (vwp_region hT ?_)
   simp [w2]
   refine hK8 _ ?_
   try clear hK8 K8
   have w1 : IntKind.i64.wrap ((i : Int) + 1) = i + 1 := w64 (by omega) (by omega)
   refine vwp_live [0, 1, 2, 7, 14, 15] (vwp_region hT ?_)
   simp [w1]
   exact hK5 (i + 1) _ (Gh.to_k [0, 1, 2, 7, 14, 15] [0] (he := by simp; omega) (hh := by simp [parts_take (D := D) (L := L) (i := i) (by omega), rowsV_snoc])) (by omega) (by omega)
  · simp -failIfUnchanged at h1; all_goals
   refine vwp_exit ?_
   simp only [inBlk, thenQ, if_true]
   refine hK3 _ ?_
   try clear hK3 K3
   obtain rfl : i = n := by omega
   rw [List.take_of_length_le (by omega)]
   rw [List.take_of_length_le (by omega)]
   obtain ⟨wh, hwh⟩ : ∃ wh, wh = whole - D.sum := ⟨_, rfl⟩
   rw [← hwh]
   obtain ⟨PL, hPL⟩ : ∃ PL, PL = parts D L := ⟨_, rfl⟩
   rw [← hPL] at hpl ⊢
   refine vwp_sq [0, 1, 7] fun K12 hK12 => vwp_region hT ?_
   simp [-List.reduceReplicate, Int.toNat_natCast]
   repeat refine ⟨by first | assumption | omega | (intros; omega), ?_⟩
   refine hK12 _ ?_
   try clear hK12 K12
   refine vwp_sq [0, 7, 11] fun K13 hK13 => vwp_region hT ?_
   simp
   refine vcall_k [0] (sortStable_spec PL i (by omega) (by omega)) ?_
   rintro r' ob' ⟨rfl, Z, hZ, sZ, rfl⟩
   simp
   refine hK13 _ ?_
   try clear hK13 K13
   refine vwp_seq_k fun K14 hK14 => ?_
   have hzl := hZ.length_eq
   rw [List.length_zipIdx, hpl, hD] at hzl
   subst hPL
   refine vwp_sq [0, 7, 11] fun K15 hK15 => vwp_region hT ?_
   simp [lenPart, hzl]
   refine hK15 _ ?_
   try clear hK15 K15
   refine vwp_block ?_
   refine vwp_loop_s (fun k : Nat => ⟨[(0, .int .i64 wh), (11, .sl 1 i 1 0 i), (39, .sl 0 (i * 3) 3 0 i), (40, .int .i64 i), (41, .int .i64 (k : Int))], [.live (rowsV (Z.map Prod.fst)), .live (ints (outN D L wh k))]⟩) (fun k => k ≤ i) (fun k => i - k) (0) (Gh.to_k [0, 11, 39, 40, 41] [0, 1] (hh := by simp [outN_zero, hD])) (by omega) ?_
   rintro k hk
   intro K16 hK16
   refine vwp_sq [0, 11, 39, 40, 41] fun K17 hK17 => vwp_region hT ?_
   simp
   refine hK17 _ ?_
   try clear hK17 K17
   refine vwp_seq_k fun K18 hK18 => ?_
   refine vwp_cond (by first | rfl | (simp; rfl)) (fun h2 => ?_) fun h2 => ?_
   · simp -failIfUnchanged at h2; all_goals
    refine vwp_skip ?_
    refine hK18 _ ?_
    try clear hK18 K18
    refine vwp_seq_k fun K19 hK19 => ?_
    refine vwp_block ?_
    obtain ⟨z, hz⟩ := getI (l := Z) (i := k) (by omega)
    obtain ⟨z1, t⟩ := z
    obtain ⟨ht, hz1, hr⟩ := sorted_rank (by omega) hZ sZ hz
    dsimp only at ht hz1 hr
    have hzr := rowPart (fst_get hz)
    dsimp only at hzr
    rw [hz1] at hzr
    have hol := outN_length D L wh k
    have hd2 := hd _ (getD_mem (D := D) (i := t) ht)
    have eS := outN_step (D := D) (L := L) (w := wh) (by omega) ht hr
    obtain ⟨dt, hdt⟩ := getI ht
    obtain ⟨lt, hlt⟩ := getI (l := L) (i := t) (by omega)
    simp only [List.getD_eq_getElem?_getD, hdt, hlt, Option.getD_some] at hzr hd2 eS
    refine vwp_sq [0, 11, 39, 40, 41] fun K20 hK20 => vwp_region hT ?_
    simp [hzr, lenPart, hzl, spl]
    repeat refine ⟨by first | assumption | omega | (intros; omega), ?_⟩
    refine hK20 _ ?_
    try clear hK20 K20
    refine vwp_sq [0, 11, 12, 13, 39, 40, 41] fun K21 hK21 => vwp_region hT ?_
    simp [hol, hD, spl, hd2]
    repeat refine ⟨by first | assumption | omega | (intros; omega), ?_⟩
    refine hK21 _ ?_
    try clear hK21 K21
    refine vwp_sq [0, 11, 12, 13, 39, 40, 41] fun K22 hK22 => vwp_region hT ?_
    simp
    refine hK22 _ ?_
    try clear hK22 K22
    refine vwp_cond (by first | rfl | (simp; rfl)) (fun h3 => ?_) fun h3 => ?_
    · simp -failIfUnchanged at h3; all_goals
     rw [if_pos (by assumption)] at eS
     have w3 : IntKind.i64.wrap (dt + 1) = dt + 1 := w64 (by omega) (by omega)
     refine vwp_live [0, 11, 13, 39, 40, 41] (vwp_region hT ?_)
     simp [hol, hD, spl, w3, show t < i by omega]
     repeat refine ⟨by first | assumption | omega | (intros; omega), ?_⟩
     refine hK19 _ ?_
     try clear hK19 K19
     have w4 : IntKind.i64.wrap ((k : Int) + 1) = k + 1 := w64 (by omega) (by omega)
     refine vwp_live [0, 11, 39, 40, 41] (vwp_region hT ?_)
     simp [w4]
     exact hK16 (k + 1) _ (Gh.to_k [0, 11, 39, 40, 41] [0, 1] (hh := by simp [← eS])) (by omega) (by omega)
    · simp -failIfUnchanged at h3; all_goals
     rw [if_neg (by omega)] at eS
     refine vwp_skip ?_
     refine hK19 _ ?_
     try clear hK19 K19
     have w4 : IntKind.i64.wrap ((k : Int) + 1) = k + 1 := w64 (by omega) (by omega)
     refine vwp_live [0, 11, 39, 40, 41] (vwp_region hT ?_)
     simp [w4]
     exact hK16 (k + 1) _ (Gh.to_k [0, 11, 39, 40, 41] [0, 1] (hh := by simp [← eS])) (by omega) (by omega)
   · simp -failIfUnchanged at h2; all_goals
    refine vwp_exit ?_
    simp only [inBlk, thenQ, if_true]
    refine hK14 _ ?_
    try clear hK14 K14
    obtain rfl : k = i := by omega
    have eO := outN_all (D := D) (L := L) (w := wh) (by omega)
    rw [hD] at eO
    refine vwp_sq [11] fun K23 hK23 => vwp_region hT ?_
    simp
    refine hK23 _ ?_
    try clear hK23 K23
    refine vwp_ret (hR _ _ ?_)
    exact ret_k [6] [1] ([.live (ints (upped D L wh))]) (.sl 0 k 1 0 k) (⟨rfl, by rw [hwh]⟩) (hh := by simp [eO])

def roundN (l : List Int) (over : Int) : Option (List Int) × Int :=
  if 100 < l.length then (none, 4) else if over < 1 ∨ 1048576 < over ∨ inB 0 4503599627370496 l = false then (none, 1) else if l.sum % over ≠ 0 then (none, 2) else (some (fr l over), 0)
def shareN (total : Int) (w : List Int) : Option (List Int) × Int :=
  if 100 < w.length then (none, 4) else if total < 0 ∨ 1099511627776 < total ∨ inB 0 1099511627776 w = false then (none, 1) else if total = 0 then (some (List.replicate w.length 0), 0) else if w.sum = 0 then (none, 2) else (some (fr (w.map (total * ·)) w.sum), 0)
/-- Numbers, or why there are none. -/
def resI (x : Option (List Int) × Int) (r : V) (ob : List Ob) : Prop := match x with
  | (none, e) => r = .tup [.nils, .int .i64 e] ∧ ob = []
  | (some l, e) => r = .tup [.sl 0 l.length 1 0 l.length, .int .i64 e] ∧ ob = [.live (ints l)]
theorem inB_iff {lo hi : Int} {l : List Int} : inB lo hi l = true ↔ ∀ n ∈ l, lo ≤ n ∧ n ≤ hi := by
  simp [inB]
theorem sum_mul (w : List Int) (t : Int) : (w.map (t * ·)).sum = t * w.sum := by
  induction w with
  | nil => simp
  | cons x w ih => simp only [List.map_cons, List.sum_cons, ih]; rw [Int.mul_add]
theorem mem_le_sum : ∀ {w : List Int}, (∀ n ∈ w, 0 ≤ n) → ∀ n ∈ w, n ≤ w.sum
  | [], _, n, h => by cases h
  | x :: w, h, n, hn => by
    have h1 := h x (by simp)
    have h2 : 0 ≤ w.sum := (sum_bounds (D := w) (m := w.sum + 1) fun n hn => ⟨h n (by simp [hn]), by have := mem_le_sum (w := w) (fun m hm => h m (by simp [hm])) n hn; omega⟩).1
    rw [List.sum_cons]
    rcases List.mem_cons.1 hn with rfl | q
    · omega
    · have := mem_le_sum (w := w) (fun m hm => h m (by simp [hm])) n q; omega
theorem round_spec (l : List Int) (hl : l.length < 9223372036854775807) (over : Int) : VC P 12 [sI l, .int .i64 over] [] (fun r ob' => resI (roundN l over) r ob') := by
  refine VC_of_vwp_k ent_12 Try.func12 rfl (by simp) fun R hR => ?_
  refine vwp_sq [0, 1] fun K1 hK1 => vwp_region hT ?_
  simp
  refine hK1 _ ?_
  try clear hK1 K1
  refine vwp_seq_k fun K2 hK2 => ?_
  refine vwp_block ?_
  refine vwp_sq [2, 3] fun K3 hK3 => vwp_region hT ?_
  simp
  refine hK3 _ ?_
  try clear hK3 K3
  refine vwp_cond (by first | rfl | (simp; rfl)) (fun h1 => ?_) fun h1 => ?_
  · simp -failIfUnchanged at h1; all_goals
   refine vwp_sq [] fun K4 hK4 => vwp_region hT ?_
   simp
   refine hK4 _ ?_
   try clear hK4 K4
   refine vwp_ret (hR _ _ ?_)
   have hw : roundN l over = (none, 4) := by
     unfold roundN
     rw [if_pos (by omega)]
   rw [hw]
   exact ret_k [4, 5] [] ([]) (.tup [.nils, .int .i64 4]) (⟨rfl, rfl⟩)
  · simp -failIfUnchanged at h1; all_goals
   refine vwp_seq_k fun K5 hK5 => ?_
   by_cases ho : 1 ≤ over ∧ over ≤ 1048576
   · refine vwp_live [2, 3] (vwp_region hT ?_)
     simp
     rw [if_pos ho]
     refine vcall_z [] (within_spec l hl 0 4503599627370496) (by rintro r ob' ⟨rfl, rfl⟩; simp) ?_
     rintro r ob' ⟨rfl, rfl⟩
     simp
     refine hK5 _ ?_
     try clear hK5 K5
     refine vwp_cond (by first | rfl | (simp; rfl)) (fun h2 => ?_) fun h2 => ?_
     · simp -failIfUnchanged at h2; all_goals
      refine vwp_sq [] fun K6 hK6 => vwp_region hT ?_
      simp
      refine hK6 _ ?_
      try clear hK6 K6
      refine vwp_ret (hR _ _ ?_)
      have hw : roundN l over = (none, 1) := by
        unfold roundN
        rw [if_neg (by omega), if_pos ?_]
        by_cases q : inB 0 4503599627370496 l = false
        · exact .inr (.inr q)
        · first | omega | simp_all
      rw [hw]
      exact ret_k [4, 5] [] ([]) (.tup [.nils, .int .i64 1]) (⟨rfl, rfl⟩)
     · simp -failIfUnchanged at h2; all_goals
      have hin := h2
      refine vwp_skip ?_
      refine hK2 _ ?_
      try clear hK2 K2
      have hin1 := inB_iff.1 hin
      have hs := sumN_small hin1 (by omega)
      have hs0 := sum_bounds hin1
      refine vwp_sq [2, 3] fun K7 hK7 => vwp_region hT ?_
      simp [hs]
      refine vcall_z [] (sum_spec l hl) (by rintro r ob' ⟨rfl, rfl⟩; simp) ?_
      rintro r ob' ⟨rfl, rfl⟩
      simp [hs]
      refine hK7 _ ?_
      try clear hK7 K7
      refine vwp_seq_k fun K8 hK8 => ?_
      have w1 : l.sum.tmod over = l.sum % over := tmod_pos hs0.1
      refine vwp_sq [2, 3, 6, 7] fun K9 hK9 => vwp_region hT ?_
      simp [w1]
      repeat refine ⟨by first | assumption | omega | (intros; omega), ?_⟩
      refine hK9 _ ?_
      try clear hK9 K9
      refine vwp_cond (by first | rfl | (simp; rfl)) (fun h3 => ?_) fun h3 => ?_
      · simp -failIfUnchanged at h3; all_goals
       have hmod := h3
       refine vwp_sq [] fun K10 hK10 => vwp_region hT ?_
       simp
       refine hK10 _ ?_
       try clear hK10 K10
       refine vwp_ret (hR _ _ ?_)
       have hw : roundN l over = (none, 2) := by
         unfold roundN
         rw [if_neg (by omega), if_neg (by rw [hin]; simp; omega), if_pos (by assumption)]
       rw [hw]
       exact ret_k [4, 5] [] ([]) (.tup [.nils, .int .i64 2]) (⟨rfl, rfl⟩)
      · simp -failIfUnchanged at h3; all_goals
       have hmod := h3
       refine vwp_skip ?_
       refine hK8 _ ?_
       try clear hK8 K8
       have q1 := Int.ediv_nonneg hs0.1 (show 0 ≤ over by omega)
       have q2 := Int.ediv_le_self over hs0.1
       have w2 : IntKind.i64.wrap (l.sum.tdiv over) = l.sum / over := by rw [tdiv_pos hs0.1]; exact w64 (by omega) (by omega)
       refine vwp_sq [2, 3, 6] fun K11 hK11 => vwp_storm hT hm [.pure, .win 0 0, .win 0 0, .win 0 0, .win 0 0, .win 0 0, .mv, .pure, .pure] [[], [], [0, 1], [], [3], [], [0, 1, 2, 3, 4, 5], [0, 1, 2, 3, 4, 5, 6], [0, 1, 2, 3, 4, 5, 6, 7]] (by kernel_rfl) ?_
       simp [w2]
       repeat refine ⟨by first | assumption | omega | (intros; omega), ?_⟩
       refine ⟨.sl 2 l.length 1 0 l.length, [.live [sI l], .live [.int .i64 over], .live (ints (upped (l.map (· / over)) (l.map (· % over)) (l.sum / over - (l.map (· / over)).sum)))], fun sl => ?_, ?_⟩
       · refine vcall_z [] (rounded_a (l.sum / over) l.length (l.map (· / over)) (l.map (· % over)) (by simp) (by simp) (by omega) q1 (by omega) (fun x hx => by
             obtain ⟨y, hy, rfl⟩ := List.mem_map.1 hx
             exact ⟨Int.ediv_nonneg (hin1 y hy).1 (by omega), Int.le_trans (Int.ediv_le_self _ (hin1 y hy).1) (hin1 y hy).2⟩) l over fun i hi => round1_spec l over i hi hin1 ho.1) (by rintro r ob' ⟨rfl, rfl⟩; simp) ?_
         rintro r ob' ⟨rfl, rfl⟩
         simp
       simp [w2]
       repeat refine ⟨by first | assumption | omega | (intros; omega), ?_⟩
       refine hK11 _ ?_
       try clear hK11 K11
       refine vwp_ret (hR _ _ ?_)
       have hw : roundN l over = (some (fr l over), 0) := by
         unfold roundN
         rw [if_neg (by omega), if_neg (by rw [hin]; simp; omega), if_neg (by simpa using hmod)]
       rw [hw]
       exact ret_k [4, 5] [2] ([.live (ints (fr l over))]) (.tup [.sl 0 (fr l over).length 1 0 (fr l over).length, .int .i64 0]) (⟨rfl, rfl⟩) (hh := by simp [fr]) (hr := by simp [fr_length])
   · refine vwp_live [2, 3] (vwp_region hT ?_)
     simp
     rw [if_neg ho]
     refine hK5 _ ?_
     try clear hK5 K5
     refine vwp_cond (by first | rfl | (simp; rfl)) (fun h4 => ?_) fun h4 => ?_
     · simp -failIfUnchanged at h4; all_goals
      refine vwp_sq [] fun K12 hK12 => vwp_region hT ?_
      simp
      refine hK12 _ ?_
      try clear hK12 K12
      refine vwp_ret (hR _ _ ?_)
      have hw : roundN l over = (none, 1) := by
        unfold roundN
        rw [if_neg (by omega), if_pos ?_]
        by_cases q : inB 0 4503599627370496 l = false
        · exact .inr (.inr q)
        · first | omega | simp_all
      rw [hw]
      exact ret_k [4, 5] [] ([]) (.tup [.nils, .int .i64 1]) (⟨rfl, rfl⟩)
     · simp -failIfUnchanged at h4; all_goals
      have hin := h4
      refine vwp_skip ?_
      refine hK2 _ ?_
      try clear hK2 K2
      refine vwp_seq_k fun K13 hK13 => ?_
      omega
theorem qshare_spec (total : Int) (w : List Int) (hl : w.length < 9223372036854775807) : VC P 14 [.int .i64 total, sI w] [] (fun r ob' => resI (shareN total w) r ob') := by
  refine VC_of_vwp_k ent_14 Try.func14 rfl (by simp) fun R hR => ?_
  refine vwp_sq [0, 1] fun K1 hK1 => vwp_region hT ?_
  simp
  refine hK1 _ ?_
  try clear hK1 K1
  refine vwp_seq_k fun K2 hK2 => ?_
  refine vwp_block ?_
  refine vwp_sq [2, 3] fun K3 hK3 => vwp_region hT ?_
  simp
  refine hK3 _ ?_
  try clear hK3 K3
  refine vwp_cond (by first | rfl | (simp; rfl)) (fun h1 => ?_) fun h1 => ?_
  · simp -failIfUnchanged at h1; all_goals
   refine vwp_sq [] fun K4 hK4 => vwp_region hT ?_
   simp
   refine hK4 _ ?_
   try clear hK4 K4
   refine vwp_ret (hR _ _ ?_)
   have hw : shareN total w = (none, 4) := by
     unfold shareN
     rw [if_pos (by omega)]
   rw [hw]
   exact ret_k [4, 5] [] ([]) (.tup [.nils, .int .i64 4]) (⟨rfl, rfl⟩)
  · simp -failIfUnchanged at h1; all_goals
   refine vwp_seq_k fun K5 hK5 => ?_
   by_cases ho : 0 ≤ total ∧ total ≤ 1099511627776
   · refine vwp_live [2, 3] (vwp_region hT ?_)
     simp
     rw [if_pos ho]
     refine vcall_z [] (within_spec w hl 0 1099511627776) (by rintro r ob' ⟨rfl, rfl⟩; simp) ?_
     rintro r ob' ⟨rfl, rfl⟩
     simp
     refine hK5 _ ?_
     try clear hK5 K5
     refine vwp_cond (by first | rfl | (simp; rfl)) (fun h2 => ?_) fun h2 => ?_
     · simp -failIfUnchanged at h2; all_goals
      refine vwp_sq [] fun K6 hK6 => vwp_region hT ?_
      simp
      refine hK6 _ ?_
      try clear hK6 K6
      refine vwp_ret (hR _ _ ?_)
      have hw : shareN total w = (none, 1) := by
        unfold shareN
        rw [if_neg (by omega), if_pos ?_]
        by_cases q : inB 0 1099511627776 w = false
        · exact .inr (.inr q)
        · first | omega | simp_all
      rw [hw]
      exact ret_k [4, 5] [] ([]) (.tup [.nils, .int .i64 1]) (⟨rfl, rfl⟩)
     · simp -failIfUnchanged at h2; all_goals
      have hin := h2
      refine vwp_skip ?_
      refine hK2 _ ?_
      try clear hK2 K2
      have hin1 := inB_iff.1 hin
      have hs := sumN_small hin1 (by omega)
      have hs0 := sum_bounds hin1
      refine vwp_sq [2, 3] fun K7 hK7 => vwp_region hT ?_
      simp [hs]
      repeat refine ⟨by first | assumption | omega | (intros; omega), ?_⟩
      refine vcall_z [] (sum_spec w hl) (by rintro r ob' ⟨rfl, rfl⟩; simp) ?_
      rintro r ob' ⟨rfl, rfl⟩
      simp [hs]
      repeat refine ⟨by first | assumption | omega | (intros; omega), ?_⟩
      refine hK7 _ ?_
      try clear hK7 K7
      refine vwp_seq_k fun K8 hK8 => ?_
      refine vwp_block ?_
      refine vwp_sq [2, 3, 6, 7] fun K9 hK9 => vwp_region hT ?_
      simp
      refine hK9 _ ?_
      try clear hK9 K9
      refine vwp_cond (by first | rfl | (simp; rfl)) (fun h3 => ?_) fun h3 => ?_
      · simp -failIfUnchanged at h3; all_goals
       have ht := h3
       refine vwp_sq [3] fun K10 hK10 => vwp_region hT ?_
       simp
       repeat refine ⟨by first | assumption | omega | (intros; omega), ?_⟩
       refine hK10 _ ?_
       try clear hK10 K10
       refine vwp_ret (hR _ _ ?_)
       have hw : shareN total w = (some (List.replicate w.length 0), 0) := by
         unfold shareN
         rw [if_neg (by omega), if_neg (by rw [hin]; simp; omega), if_pos ht]
       rw [hw]
       exact ret_k [4, 5] [3] ([.live (ints (List.replicate w.length 0))]) (.tup [.sl 0 (List.replicate w.length (0 : Int)).length 1 0 (List.replicate w.length (0 : Int)).length, .int .i64 0]) (⟨rfl, rfl⟩) (hh := by simp) (hr := by simp)
      · simp -failIfUnchanged at h3; all_goals
       have ht := h3
       refine vwp_sq [2, 3, 6, 7] fun K11 hK11 => vwp_region hT ?_
       simp
       refine hK11 _ ?_
       try clear hK11 K11
       refine vwp_cond (by first | rfl | (simp; rfl)) (fun h4 => ?_) fun h4 => ?_
       · simp -failIfUnchanged at h4; all_goals
        have ha := h4
        refine vwp_sq [] fun K12 hK12 => vwp_region hT ?_
        simp
        refine hK12 _ ?_
        try clear hK12 K12
        refine vwp_ret (hR _ _ ?_)
        have hw : shareN total w = (none, 2) := by
          unfold shareN
          rw [if_neg (by omega), if_neg (by rw [hin]; simp; omega), if_neg (by omega), if_pos ha]
        rw [hw]
        exact ret_k [4, 5] [] ([]) (.tup [.nils, .int .i64 2]) (⟨rfl, rfl⟩)
       · simp -failIfUnchanged at h4; all_goals
        have ha := h4
        refine vwp_skip ?_
        refine hK8 _ ?_
        try clear hK8 K8
        refine vwp_sq [2, 3, 6] fun K13 hK13 => vwp_region hT ?_
        simp
        refine vcall_z [] (rounded_b total w.length ((w.map (total * ·)).map (· / w.sum)) ((w.map (total * ·)).map (· % w.sum)) (by simp) (by simp) (by omega) ho.1 (by omega) (fun x hx => by
            obtain ⟨z, hz, rfl⟩ := List.mem_map.1 hx
            obtain ⟨y, hy, rfl⟩ := List.mem_map.1 hz
            have := share_le (n := total) (p := y) (all := w.sum) (by omega) ho.1 (hin1 y hy).1 (mem_le_sum (fun n hn => (hin1 n hn).1) y hy)
            omega) total w.sum w fun i hi => share1_spec total w.sum w i hi ho.1 (by omega) (fun n hn => ⟨(hin1 n hn).1, mem_le_sum (fun n hn => (hin1 n hn).1) n hn⟩) (by omega) (by omega)) (by rintro r ob' ⟨rfl, rfl⟩; simp) ?_
        rintro r ob' ⟨rfl, rfl⟩
        simp
        refine hK13 _ ?_
        try clear hK13 K13
        refine vwp_ret (hR _ _ ?_)
        have hw : shareN total w = (some (fr (w.map (total * ·)) w.sum), 0) := by
          unfold shareN
          rw [if_neg (by omega), if_neg (by rw [hin]; simp; omega), if_neg (by omega), if_neg (by omega)]
        rw [hw]
        have e1 : (w.map (total * ·)).sum / w.sum = total := by rw [sum_mul, Int.mul_ediv_cancel _ (by omega)]
        exact ret_k [4, 5] [3] ([.live (ints (fr (w.map (total * ·)) w.sum))]) (.tup [.sl 0 (fr (w.map (total * ·)) w.sum).length 1 0 (fr (w.map (total * ·)) w.sum).length, .int .i64 0]) (⟨rfl, rfl⟩) (hh := by simp only [fr, e1]; simp) (hr := by simp [fr_length])
   · refine vwp_live [2, 3] (vwp_region hT ?_)
     simp
     rw [if_neg ho]
     refine hK5 _ ?_
     try clear hK5 K5
     refine vwp_cond (by first | rfl | (simp; rfl)) (fun h5 => ?_) fun h5 => ?_
     · simp -failIfUnchanged at h5; all_goals
      refine vwp_sq [] fun K14 hK14 => vwp_region hT ?_
      simp
      refine hK14 _ ?_
      try clear hK14 K14
      refine vwp_ret (hR _ _ ?_)
      have hw : shareN total w = (none, 1) := by
        unfold shareN
        rw [if_neg (by omega), if_pos ?_]
        by_cases q : inB 0 1099511627776 w = false
        · exact .inr (.inr q)
        · first | omega | simp_all
      rw [hw]
      exact ret_k [4, 5] [] ([]) (.tup [.nils, .int .i64 1]) (⟨rfl, rfl⟩)
     · simp -failIfUnchanged at h5; all_goals
      have hin := h5
      refine vwp_skip ?_
      refine hK2 _ ?_
      try clear hK2 K2
      refine vwp_seq_k fun K15 hK15 => ?_
      omega
end Go.Proofs.Ythjpaongoflgiaa
