/- The document's fractions and shares: the walk. -/
import Derived.Test.YthjpaongoflgiaaQuota3
namespace Go.Proofs.Ythjpaongoflgiaa
open Go Go.VX Go.RowKit
set_option linter.unusedVariables false
set_option linter.unusedSimpArgs false
set_option maxHeartbeats 20000000
set_option maxRecDepth 100000
open Go.VX.Rk Go.VX.Srt
theorem rin_spec (l : List Int) (hl : l.length < 9223372036854775807) (lo hi : Int) : VC P 34 [sI l, .int .i64 lo, .int .i64 hi] [] (fun r ob' => r = .bool (inB lo hi l) ∧ ob' = []) := by
  refine VC_of_vwp_k ent_34 Try.func34 rfl (by simp) fun R hR => ?_
  refine vwp_sq [0, 1, 2] fun K1 hK1 => vwp_region hT ?_
  simp
  refine hK1 _ ?_
  try clear hK1 K1
  refine vwp_seq_k fun K2 hK2 => ?_
  refine vwp_sq [0, 1, 2] fun K3 hK3 => vwp_region hT ?_
  simp
  refine hK3 _ ?_
  try clear hK3 K3
  refine vwp_block ?_
  refine vwp_loop_s (fun i : Nat => ⟨[(0, sI l), (1, .int .i64 lo), (2, .int .i64 hi), (7, .int .i64 (i : Int))], []⟩) (fun i => i ≤ l.length ∧ ∀ n ∈ l.take i, lo ≤ n ∧ n ≤ hi) (fun i => l.length - i) (0) (Gh.to_k [0, 1, 2, 7] []) (⟨by omega, by simp⟩) ?_
  rintro i ⟨hie, hno⟩
  intro K4 hK4
  refine vwp_seq_k fun K5 hK5 => ?_
  refine vwp_sq [0, 1, 2, 7] fun K6 hK6 => vwp_region hT ?_
  simp
  refine hK6 _ ?_
  try clear hK6 K6
  refine vwp_cond (by first | rfl | (simp; rfl)) (fun h1 => ?_) fun h1 => ?_
  · simp -failIfUnchanged at h1; all_goals
   refine vwp_skip ?_
   refine hK5 _ ?_
   try clear hK5 K5
   refine vwp_seq_k fun K7 hK7 => ?_
   refine vwp_block ?_
   obtain ⟨x, hx⟩ := getI (l := l) (i := i) (by omega)
   refine vwp_sq [0, 1, 2, 7] fun K8 hK8 => vwp_region hT ?_
   simp [hx]
   repeat refine ⟨by first | assumption | omega | (intros; omega), ?_⟩
   refine hK8 _ ?_
   try clear hK8 K8
   refine vwp_cond (by first | rfl | (simp; rfl)) (fun h2 => ?_) fun h2 => ?_
   · simp -failIfUnchanged at h2; all_goals
    refine vwp_sq [] fun K9 hK9 => vwp_region hT ?_
    simp
    refine hK9 _ ?_
    try clear hK9 K9
    refine vwp_ret (hR _ _ ?_)
    have hw : inB lo hi l = false := by
      rw [← Bool.not_eq_true, inB_iff]
      intro q
      have := q x (List.mem_of_getElem? hx)
      omega
    rw [hw]
    exact ret_k [6] [] ([]) (.bool false) (⟨rfl, rfl⟩)
   · simp -failIfUnchanged at h2; all_goals
    refine vwp_skip ?_
    refine hK7 _ ?_
    try clear hK7 K7
    have w1 : IntKind.i64.wrap ((i : Int) + 1) = i + 1 := w64 (by omega) (by omega)
    refine vwp_live [0, 1, 2, 7] (vwp_region hT ?_)
    simp [w1]
    exact hK4 (i + 1) _ (Gh.to_k [0, 1, 2, 7] []) (⟨by omega, fun n hn => by
      rw [take_snoc hx] at hn
      rcases List.mem_append.1 hn with q | q
      · exact hno n q
      · simp at q; subst q; omega⟩) (by omega)
  · simp -failIfUnchanged at h1; all_goals
   refine vwp_exit ?_
   simp only [inBlk, thenQ, if_true]
   refine hK2 _ ?_
   try clear hK2 K2
   refine vwp_sq [] fun K10 hK10 => vwp_region hT ?_
   simp
   refine hK10 _ ?_
   try clear hK10 K10
   refine vwp_ret (hR _ _ ?_)
   have hw : inB lo hi l = true := by
     rw [inB_iff]
     rwa [List.take_of_length_le (by omega)] at hno
   rw [hw]
   exact ret_k [6] [] ([]) (.bool true) (⟨rfl, rfl⟩)

abbrev bls (l : List Bool) : List V := l.map V.bool
theorem more_spec (D L : List Int) (n : Nat) (hD : D.length = n) (hL : L.length = n) (hn : n ≤ 100) (lack : Int) (hd : ∀ x ∈ D, 0 ≤ x ∧ x ≤ 4503599627370496) : VC P 35 [.fs n (ints D), .fs n (ints L), .int .i64 lack] [] (fun r ob' => r = .sl 0 n 1 0 n ∧ ob' = [.live (ints (upped D L lack))]) := by
  refine VC_of_vwp_k ent_35 Try.func35 rfl (by simp) fun R hR => ?_
  refine vwp_sq [0, 1, 2] fun K1 hK1 => vwp_region hT ?_
  simp
  refine hK1 _ ?_
  try clear hK1 K1
  refine vwp_sq [0, 1, 2] fun K2 hK2 => vwp_region hT ?_
  simp [hD, spl]
  repeat refine ⟨by first | assumption | omega | (intros; omega), ?_⟩
  refine hK2 _ ?_
  try clear hK2 K2
  refine vwp_sq [0, 1, 2, 7] fun K3 hK3 => vwp_region hT ?_
  simp
  repeat refine ⟨by first | assumption | omega | (intros; omega), ?_⟩
  refine hK3 _ ?_
  try clear hK3 K3
  refine vwp_seq_k fun K4 hK4 => ?_
  refine vwp_sq [1, 2, 7, 8] fun K5 hK5 => vwp_region hT ?_
  simp
  refine hK5 _ ?_
  try clear hK5 K5
  refine vwp_block ?_
  refine vwp_loop_s (fun k : Nat => ⟨[(1, .fs n (ints L)), (2, .int .i64 lack), (7, .sl 0 n 1 0 n), (8, .sl 1 n 1 0 n), (9, .int .i64 (k : Int))], [.live (ints (upped D L k)), .live (bls (usedL L k))]⟩) (fun k => (k : Int) ≤ max lack 0 ∧ k ≤ n) (fun k => n - k) (0) (Gh.to_k [1, 2, 7, 8, 9] [0, 1] (hh := by simp [upped_zero, usedL_zero, hL])) (⟨by omega, by omega⟩) ?_
  rintro k ⟨hk1, hk2⟩
  intro K6 hK6
  refine vwp_seq_k fun K7 hK7 => ?_
  have ul := upped_length D L k
  have sl := usedL_length L k
  refine vwp_sq [1, 2, 7, 8, 9] fun K8 hK8 => vwp_region hT ?_
  simp
  refine hK8 _ ?_
  try clear hK8 K8
  refine vwp_cond (by first | rfl | (simp; rfl)) (fun h1 => ?_) fun h1 => ?_
  · simp -failIfUnchanged at h1; all_goals
   refine vwp_skip ?_
   refine hK7 _ ?_
   try clear hK7 K7
   refine vwp_seq_k fun K9 hK9 => ?_
   refine vwp_block ?_
   refine vwp_sq [1, 2, 7, 8, 9] fun K10 hK10 => vwp_region hT ?_
   simp
   refine hK10 _ ?_
   try clear hK10 K10
   refine vwp_seq_k fun K11 hK11 => ?_
   refine vwp_sq [1, 2, 7, 8, 9, 10] fun K12 hK12 => vwp_region hT ?_
   simp
   refine hK12 _ ?_
   try clear hK12 K12
   refine vwp_block ?_
   refine vwp_loop_s (fun s : Nat × Int => ⟨[(1, .fs n (ints L)), (2, .int .i64 lack), (7, .sl 0 n 1 0 n), (8, .sl 1 n 1 0 n), (9, .int .i64 (k : Int)), (10, .int .i64 s.2), (11, .int .i64 (s.1 : Int))], [.live (ints (upped D L k)), .live (bls (usedL L k))]⟩) (fun s => s.1 ≤ n ∧ Best L k s.1 s.2) (fun s => n - s.1) ((0, -1)) (Gh.to_k [1, 2, 7, 8, 9, 10, 11] [0, 1]) (⟨by dsimp only; omega, Best.zero L k⟩) ?_
   rintro ⟨i, a⟩ ⟨hi, hB⟩
   dsimp only at hi hB ⊢
   intro K13 hK13
   refine vwp_seq_k fun K14 hK14 => ?_
   refine vwp_sq [1, 2, 7, 8, 9, 10, 11] fun K15 hK15 => vwp_region hT ?_
   simp
   refine hK15 _ ?_
   try clear hK15 K15
   refine vwp_cond (by first | rfl | (simp; rfl)) (fun h2 => ?_) fun h2 => ?_
   · simp -failIfUnchanged at h2; all_goals
    refine vwp_skip ?_
    refine hK14 _ ?_
    try clear hK14 K14
    refine vwp_seq_k fun K16 hK16 => ?_
    refine vwp_block ?_
    refine vwp_seq_k fun K17 hK17 => ?_
    have hu := usedL_get (L := L) (k := k) (i := i) (by omega)
    obtain ⟨x, hx⟩ := getI (l := L) (i := i) (by omega)
    have xg : L.getD i 0 = x := by simp [List.getD_eq_getElem?_getD, hx]
    have hat : a < i := by rcases hB with ⟨q, _⟩ | ⟨t, q, _⟩ <;> omega
    obtain ⟨y, hy⟩ := getI (l := L) (i := a.toNat) (by omega)
    have yg : L.getD a.toNat 0 = y := by simp [List.getD_eq_getElem?_getD, hy]
    by_cases hr : rank L i < k
    · refine vwp_live [1, 2, 7, 8, 9, 10, 11] (vwp_still hT hm (by kernel_rfl) ?_)
      simp [hu, hr, hx, hy, sl, hL]
      repeat refine ⟨by first | assumption | omega | (intros; omega), ?_⟩
      refine hK17 _ ?_
      try clear hK17 K17
      refine vwp_cond (by first | rfl | (simp; rfl)) (fun h3 => ?_) fun h3 => ?_
      · simp -failIfUnchanged at h3; all_goals
       refine vwp_live [1, 2, 7, 8, 9, 11] (vwp_region hT ?_)
       simp
       refine hK16 _ ?_
       try clear hK16 K16
       have w1 : IntKind.i64.wrap ((i : Int) + 1) = i + 1 := w64 (by omega) (by omega)
       refine vwp_live [1, 2, 7, 8, 9, 10, 11] (vwp_region hT ?_)
       simp [w1]
       exact hK13 (XX) _ (Gh.to_k [1, 2, 7, 8, 9, 10, 11] [0, 1]) (XX) (XX)
      · simp -failIfUnchanged at h3; all_goals
       refine vwp_skip ?_
       refine hK16 _ ?_
       try clear hK16 K16
       have w1 : IntKind.i64.wrap ((i : Int) + 1) = i + 1 := w64 (by omega) (by omega)
       refine vwp_live [1, 2, 7, 8, 9, 10, 11] (vwp_region hT ?_)
       simp [w1]
       exact hK13 (i + 1, a) _ (Gh.to_k [1, 2, 7, 8, 9, 10, 11] [0, 1]) ⟨by dsimp only; omega, hB.used hr⟩ (by dsimp only; omega)
    · by_cases ha : a < 0
      skip
      · refine vwp_live [1, 2, 7, 8, 9, 10, 11] (vwp_still hT hm (by kernel_rfl) ?_)
        simp [hu, hr, hx, hy, ha, sl, hL]
        repeat refine ⟨by first | assumption | omega | (intros; omega), ?_⟩
        refine hK17 _ ?_
        try clear hK17 K17
        refine vwp_cond (by first | rfl | (simp; rfl)) (fun h4 => ?_) fun h4 => ?_
        · simp -failIfUnchanged at h4; all_goals
         refine vwp_live [1, 2, 7, 8, 9, 11] (vwp_region hT ?_)
         simp
         refine hK16 _ ?_
         try clear hK16 K16
         have w1 : IntKind.i64.wrap ((i : Int) + 1) = i + 1 := w64 (by omega) (by omega)
         refine vwp_live [1, 2, 7, 8, 9, 10, 11] (vwp_region hT ?_)
         simp [w1]
         exact hK13 (i + 1, (i : Int)) _ (Gh.to_k [1, 2, 7, 8, 9, 10, 11] [0, 1]) ⟨by dsimp only; omega, hB.take (by omega) (by omega) (.inl ha)⟩ (by dsimp only; omega)
        · simp -failIfUnchanged at h4; all_goals
         refine vwp_skip ?_
         refine hK16 _ ?_
         try clear hK16 K16
         have w1 : IntKind.i64.wrap ((i : Int) + 1) = i + 1 := w64 (by omega) (by omega)
         refine vwp_live [1, 2, 7, 8, 9, 10, 11] (vwp_region hT ?_)
         simp [w1]
         exact hK13 (XX) _ (Gh.to_k [1, 2, 7, 8, 9, 10, 11] [0, 1]) (XX) (XX)
      · obtain ⟨t, rfl⟩ : ∃ t : Nat, a = t := ⟨a.toNat, by omega⟩
        rw [Int.toNat_natCast] at hy yg
        refine vwp_live [1, 2, 7, 8, 9, 10, 11] (vwp_still hT hm (by kernel_rfl) ?_)
        simp [hu, hr, hx, hy, ha, sl, hL]
        repeat refine ⟨by first | assumption | omega | (intros; omega), ?_⟩
        refine hK17 _ ?_
        try clear hK17 K17
        refine vwp_cond (by first | rfl | (simp; rfl)) (fun h5 => ?_) fun h5 => ?_
        · simp -failIfUnchanged at h5; all_goals
         refine vwp_live [1, 2, 7, 8, 9, 11] (vwp_region hT ?_)
         simp
         refine hK16 _ ?_
         try clear hK16 K16
         have w1 : IntKind.i64.wrap ((i : Int) + 1) = i + 1 := w64 (by omega) (by omega)
         refine vwp_live [1, 2, 7, 8, 9, 10, 11] (vwp_region hT ?_)
         simp [w1]
         exact hK13 (i + 1, (i : Int)) _ (Gh.to_k [1, 2, 7, 8, 9, 10, 11] [0, 1]) ⟨by dsimp only; omega, hB.take (by omega) (by omega) (.inr ⟨t, rfl, by omega⟩)⟩ (by dsimp only; omega)
        · simp -failIfUnchanged at h5; all_goals
         refine vwp_skip ?_
         refine hK16 _ ?_
         try clear hK16 K16
         have w1 : IntKind.i64.wrap ((i : Int) + 1) = i + 1 := w64 (by omega) (by omega)
         refine vwp_live [1, 2, 7, 8, 9, 10, 11] (vwp_region hT ?_)
         simp [w1]
         exact hK13 (i + 1, (t : Int)) _ (Gh.to_k [1, 2, 7, 8, 9, 10, 11] [0, 1]) ⟨by dsimp only; omega, hB.keep (by omega) (by omega)⟩ (by dsimp only; omega)
   · simp -failIfUnchanged at h2; all_goals
    refine vwp_exit ?_
    simp only [inBlk, thenQ, if_true]
    refine hK11 _ ?_
    try clear hK11 K11
    refine vwp_seq_k fun K18 hK18 => ?_
    obtain rfl : i = L.length := by omega
    have hA := hB.all
    refine vwp_sq [1, 2, 7, 8, 9, 10] fun K19 hK19 => vwp_region hT ?_
    simp
    refine hK19 _ ?_
    try clear hK19 K19
    refine vwp_cond (by first | rfl | (simp; rfl)) (fun h6 => ?_) fun h6 => ?_
    · simp -failIfUnchanged at h6; all_goals
     refine vwp_sq [7] fun K20 hK20 => vwp_region hT ?_
     simp
     refine hK20 _ ?_
     try clear hK20 K20
     refine vwp_ret (hR _ _ ?_)
     have hk3 : L.length ≤ k := by
       rcases hA with ⟨_, q⟩ | ⟨t, rfl, _, _⟩
       · exact q
       · omega
     clear hA hB
     have e : upped D L k = upped D L lack := upped_much (by omega) (by omega) (by omega)
     rw [← e]
     exact ret_k [6] [0] ([.live (ints (upped D L k))]) (.sl 0 n 1 0 n) (⟨rfl, rfl⟩)
    · simp -failIfUnchanged at h6; all_goals
     refine vwp_skip ?_
     refine hK18 _ ?_
     try clear hK18 K18
     obtain ⟨t, rfl, ht2, hr⟩ : ∃ t : Nat, a = t ∧ t < L.length ∧ rank L t = k := by
       rcases hA with ⟨q, _⟩ | ⟨t, q, q2⟩
       · omega
       · exact ⟨t, q, q2⟩
     clear hA hB
     have hkn := rank_lt ht2
     rw [hr] at hkn
     have ht : t < D.length := by omega
     have hu := upped_at (L := L) ht hr
     have hd2 := hd _ (getD_mem ht)
     have w2 : IntKind.i64.wrap (D.getD t 0 + 1) = D.getD t 0 + 1 := w64 (by omega) (by omega)
     have eU := (upped_step (show L.length = D.length by omega) ht hr).symm
     have eS := (usedL_step ht2 hr).symm
     simp only [List.getD_eq_getElem?_getD, Int.natCast_add, Int.cast_ofNat_Int] at hu w2 eU
     refine vwp_sq [1, 2, 7, 8, 9, 10] fun K21 hK21 => vwp_region hT ?_
     simp [sl, hL, spl]
     repeat refine ⟨by first | assumption | omega | (intros; omega), ?_⟩
     refine hK21 _ ?_
     try clear hK21 K21
     refine vwp_live [1, 2, 7, 8, 9, 10] (vwp_region hT ?_)
     simp [ul, hD, spl, hu, w2]
     repeat refine ⟨by first | assumption | omega | (intros; omega), ?_⟩
     refine hK9 _ ?_
     try clear hK9 K9
     have w3 : IntKind.i64.wrap ((k : Int) + 1) = k + 1 := w64 (by omega) (by omega)
     refine vwp_live [1, 2, 7, 8, 9] (vwp_region hT ?_)
     simp [w3]
     exact hK6 (k + 1) _ (Gh.to_k [1, 2, 7, 8, 9] [0, 1] (hh := by simp [eU, eS])) (⟨by omega, by omega⟩) (by omega)
  · simp -failIfUnchanged at h1; all_goals
   refine vwp_exit ?_
   simp only [inBlk, thenQ, if_true]
   refine hK4 _ ?_
   try clear hK4 K4
   refine vwp_sq [7] fun K22 hK22 => vwp_region hT ?_
   simp
   refine hK22 _ ?_
   try clear hK22 K22
   refine vwp_ret (hR _ _ ?_)
   have e : upped D L k = upped D L lack := by
     by_cases q : lack ≤ 0
     · rw [upped_zero q]; exact upped_zero (by omega)
     · rw [show (k : Int) = lack by omega]
   rw [← e]
   exact ret_k [6] [0] ([.live (ints (upped D L k))]) (.sl 0 n 1 0 n) (⟨rfl, rfl⟩)

theorem take_map1 {l : List Int} {i : Nat} {x : Int} (h : l[i]? = some x) (f : Int → Int) : (l.map f).take (i + 1) = (l.map f).take i ++ [f x] := take_snoc (by simp [h])
theorem len_take {l : List Int} {i : Nat} (h : i ≤ l.length) (f : Int → Int) : ((l.map f).take i).length = i := by simp; omega
theorem rround_spec (l : List Int) (hl : l.length < 9223372036854775807) (over : Int) : VC P 13 [sI l, .int .i64 over] [] (fun r ob' => resI (roundN l over) r ob') := by
  refine VC_of_vwp_k ent_13 Try.func13 rfl (by simp) fun R hR => ?_
  refine vwp_sq [0, 1] fun K1 hK1 => vwp_region hT ?_
  simp
  refine hK1 _ ?_
  try clear hK1 K1
  refine vwp_seq_k fun K2 hK2 => ?_
  refine vwp_sq [0, 1] fun K3 hK3 => vwp_region hT ?_
  simp
  refine hK3 _ ?_
  try clear hK3 K3
  refine vwp_cond (by first | rfl | (simp; rfl)) (fun h1 => ?_) fun h1 => ?_
  · simp -failIfUnchanged at h1; all_goals
   refine vwp_sq [] fun K4 hK4 => vwp_region hT ?_
   simp
   refine hK4 _ ?_
   try clear hK4 K4
   refine vwp_ret (hR _ _ ?_)
   have hw : roundN l over = (none, 4) := by
     unfold roundN
     rw [if_pos (by omega)]
   rw [hw]
   exact ret_k [4, 5] [] ([]) (.tup [.nils, .int .i64 4]) (⟨rfl, rfl⟩)
  · simp -failIfUnchanged at h1; all_goals
   refine vwp_skip ?_
   refine hK2 _ ?_
   try clear hK2 K2
   refine vwp_seq_k fun K5 hK5 => ?_
   refine vwp_seq_k fun K6 hK6 => ?_
   by_cases ho : 1 ≤ over ∧ over ≤ 1048576
   · refine vwp_live [0, 1] (vwp_region hT ?_)
     simp
     rw [if_pos ho]
     refine vcall_k [] (rin_spec l hl 0 4503599627370496) ?_
     rintro r ob' ⟨rfl, rfl⟩
     simp
     refine hK6 _ ?_
     try clear hK6 K6
     refine vwp_cond (by first | rfl | (simp; rfl)) (fun h2 => ?_) fun h2 => ?_
     · simp -failIfUnchanged at h2; all_goals
      refine vwp_sq [] fun K7 hK7 => vwp_region hT ?_
      simp
      refine hK7 _ ?_
      try clear hK7 K7
      refine vwp_ret (hR _ _ ?_)
      have hw : roundN l over = (none, 1) := by
        unfold roundN
        rw [if_neg (by omega), if_pos ?_]
        by_cases q : inB 0 4503599627370496 l = false
        · exact .inr (.inr q)
        · first | omega | simp_all
      rw [hw]
      exact ret_k [4, 5] [] ([]) (.tup [.nils, .int .i64 1]) (⟨rfl, rfl⟩)
     · simp -failIfUnchanged at h2; all_goals
      have hin := h2
      have hin1 := inB_iff.1 hin
      have hs0 := sum_bounds hin1
      obtain ⟨D, hD⟩ : ∃ D, D = l.map (· / over) := ⟨_, rfl⟩
      obtain ⟨M, hM⟩ : ∃ M, M = l.map (· % over) := ⟨_, rfl⟩
      have hDl : D.length = l.length := by simp [hD]
      have hMl : M.length = l.length := by simp [hM]
      have hD1 : ∀ x ∈ D, 0 ≤ x ∧ x ≤ 4503599627370496 := fun x hx => by
        subst hD
        obtain ⟨y, hy, rfl⟩ := List.mem_map.1 hx
        exact ⟨Int.ediv_nonneg (hin1 y hy).1 (by omega), Int.le_trans (Int.ediv_le_self _ (hin1 y hy).1) (hin1 y hy).2⟩
      refine vwp_skip ?_
      refine hK5 _ ?_
      try clear hK5 K5
      refine vwp_sq [0, 1] fun K8 hK8 => vwp_region hT ?_
      simp
      refine hK8 _ ?_
      try clear hK8 K8
      refine vwp_sq [0, 1, 6] fun K9 hK9 => vwp_region hT ?_
      simp
      refine hK9 _ ?_
      try clear hK9 K9
      refine vwp_sq [0, 1, 6, 7] fun K10 hK10 => vwp_region hT ?_
      simp
      refine hK10 _ ?_
      try clear hK10 K10
      refine vwp_sq [0, 1, 6, 7, 8] fun K11 hK11 => vwp_region hT ?_
      simp
      refine hK11 _ ?_
      try clear hK11 K11
      refine vwp_seq_k fun K12 hK12 => ?_
      refine vwp_sq [0, 1, 6, 7, 8, 9] fun K13 hK13 => vwp_region hT ?_
      simp
      refine hK13 _ ?_
      try clear hK13 K13
      refine vwp_block ?_
      refine vwp_loop_s (fun i : Nat => ⟨[(0, sI l), (1, .int .i64 over), (6, .int .i64 (l.take i).sum), (7, .sl 0 i 1 0 i), (8, .sl 1 i 1 0 i), (9, .int .i64 (D.take i).sum), (10, .int .i64 (i : Int))], [.live (ints (D.take i)), .live (ints (M.take i))]⟩) (fun i => i ≤ l.length) (fun i => l.length - i) (0) (Gh.to_k [0, 1, 6, 7, 8, 9, 10] [0, 1]) (by omega) ?_
      rintro i hi
      have hb := sum_bounds (D := l.take i) (m := 4503599627370496) fun n hn => hin1 n (List.mem_of_mem_take hn)
      have hb2 := sum_bounds (D := D.take i) (m := 4503599627370496) fun n hn => hD1 n (List.mem_of_mem_take hn)
      rw [List.length_take] at hb hb2
      have ld : (D.take i).length = i := by rw [List.length_take]; omega
      have lm : (M.take i).length = i := by rw [List.length_take]; omega
      intro K14 hK14
      refine vwp_seq_k fun K15 hK15 => ?_
      refine vwp_sq [0, 1, 6, 7, 8, 9, 10] fun K16 hK16 => vwp_region hT ?_
      simp
      refine hK16 _ ?_
      try clear hK16 K16
      refine vwp_cond (by first | rfl | (simp; rfl)) (fun h3 => ?_) fun h3 => ?_
      · simp -failIfUnchanged at h3; all_goals
       refine vwp_skip ?_
       refine hK15 _ ?_
       try clear hK15 K15
       refine vwp_seq_k fun K17 hK17 => ?_
       refine vwp_block ?_
       obtain ⟨x, hx⟩ := getI (l := l) (i := i) (by omega)
       have hx1 := hin1 x (List.mem_of_getElem? hx)
       have tk : D.take (i + 1) = D.take i ++ [x / over] := take_snoc (by rw [hD]; simp [hx])
       have tk2 : M.take (i + 1) = M.take i ++ [x % over] := take_snoc (by rw [hM]; simp [hx])
       have tk3 := take_snoc hx
       have hd1 := Int.ediv_nonneg hx1.1 (show 0 ≤ over by omega)
       have hd2 := Int.ediv_le_self over hx1.1
       have w2 : IntKind.i64.wrap ((l.take i).sum + x) = (l.take i).sum + x := w64 (by omega) (by omega)
       have w3 : IntKind.i64.wrap (x.tdiv over) = x / over := by rw [tdiv_pos hx1.1]; exact w64 (by omega) (by omega)
       have w4 : x.tmod over = x % over := tmod_pos hx1.1
       have w5 : IntKind.i64.wrap ((D.take i).sum + x / over) = (D.take i).sum + x / over := w64 (by omega) (by omega)
       simp only [List.length_take] at ld lm
       refine vwp_sq [0, 1, 6, 7, 8, 9, 10] fun K18 hK18 => vwp_region hT ?_
       simp [hx, w2]
       repeat refine ⟨by first | assumption | omega | (intros; omega), ?_⟩
       refine hK18 _ ?_
       try clear hK18 K18
       refine vwp_sq [0, 1, 6, 7, 8, 9, 10] fun K19 hK19 => vwp_region hT ?_
       simp [hx, w3, ld, zerosV, spl]
       repeat refine ⟨by first | assumption | omega | (intros; omega), ?_⟩
       refine hK19 _ ?_
       try clear hK19 K19
       refine vwp_sq [0, 1, 6, 7, 8, 9, 10] fun K20 hK20 => vwp_region hT ?_
       simp [hx, w4, lm, zerosV, spl]
       repeat refine ⟨by first | assumption | omega | (intros; omega), ?_⟩
       refine hK20 _ ?_
       try clear hK20 K20
       refine vwp_live [0, 1, 6, 7, 8, 9, 10] (vwp_region hT ?_)
       simp [hx, w3, w5]
       repeat refine ⟨by first | assumption | omega | (intros; omega), ?_⟩
       refine hK17 _ ?_
       try clear hK17 K17
       have w1 : IntKind.i64.wrap ((i : Int) + 1) = i + 1 := w64 (by omega) (by omega)
       refine vwp_live [0, 1, 6, 7, 8, 9, 10] (vwp_region hT ?_)
       simp [w1]
       exact hK14 (i + 1) _ (Gh.to_k [0, 1, 6, 7, 8, 9, 10] [0, 1] (he := by simp [tk, tk3]) (hh := by simp [tk, tk2])) (by omega) (by omega)
      · simp -failIfUnchanged at h3; all_goals
       refine vwp_exit ?_
       simp only [inBlk, thenQ, if_true]
       refine hK12 _ ?_
       try clear hK12 K12
       refine vwp_seq_k fun K21 hK21 => ?_
       obtain rfl : i = l.length := by omega
       have z1 : List.take l.length (List.map (V.int .i64) D) = List.map (V.int .i64) D := List.take_of_length_le (by simp; omega)
       have z2 : List.take l.length (List.map (V.int .i64) M) = List.map (V.int .i64) M := List.take_of_length_le (by simp; omega)
       have z3 : List.take l.length D = D := List.take_of_length_le (by omega)
       simp only [z1, z2, z3, List.take_length]
       have w6 : l.sum.tmod over = l.sum % over := tmod_pos hs0.1
       refine vwp_sq [1, 6, 7, 8, 9] fun K22 hK22 => vwp_region hT ?_
       simp [w6]
       repeat refine ⟨by first | assumption | omega | (intros; omega), ?_⟩
       refine hK22 _ ?_
       try clear hK22 K22
       refine vwp_cond (by first | rfl | (simp; rfl)) (fun h4 => ?_) fun h4 => ?_
       · simp -failIfUnchanged at h4; all_goals
        have hmod := h4
        refine vwp_sq [] fun K23 hK23 => vwp_region hT ?_
        simp
        refine hK23 _ ?_
        try clear hK23 K23
        refine vwp_ret (hR _ _ ?_)
        have hw : roundN l over = (none, 2) := by
          unfold roundN
          rw [if_neg (by omega), if_neg (by rw [hin]; simp; omega), if_pos (by assumption)]
        rw [hw]
        exact ret_k [4, 5] [] ([]) (.tup [.nils, .int .i64 2]) (⟨rfl, rfl⟩)
       · simp -failIfUnchanged at h4; all_goals
        have hmod := h4
        refine vwp_skip ?_
        refine hK21 _ ?_
        try clear hK21 K21
        have q1 := Int.ediv_nonneg hs0.1 (show 0 ≤ over by omega)
        have q2 := Int.ediv_le_self over hs0.1
        have w7 : IntKind.i64.wrap (l.sum.tdiv over) = l.sum / over := by rw [tdiv_pos hs0.1]; exact w64 (by omega) (by omega)
        rw [z3] at hb2
        have w8 : IntKind.i64.wrap (l.sum / over - D.sum) = l.sum / over - D.sum := w64 (by omega) (by omega)
        refine vwp_sq [1, 6, 7, 8, 9] fun K24 hK24 => vwp_region hT ?_
        simp [w7, w8]
        repeat refine ⟨by first | assumption | omega | (intros; omega), ?_⟩
        refine vcall_z [] (more_spec D M l.length hDl hMl (by omega) (l.sum / over - D.sum) hD1) (by rintro r ob' ⟨rfl, rfl⟩; simp) ?_ (ha := by simp [hDl, hMl, z1, z2]) (hok := by simp [hDl, hMl])
        rintro r ob' ⟨rfl, rfl⟩
        simp [w7, w8]
        repeat refine ⟨by first | assumption | omega | (intros; omega), ?_⟩
        refine hK24 _ ?_
        try clear hK24 K24
        refine vwp_ret (hR _ _ ?_)
        have hw : roundN l over = (some (fr l over), 0) := by
          unfold roundN
          rw [if_neg (by omega), if_neg (by rw [hin]; simp; omega), if_neg (by simpa using hmod)]
        rw [hw]
        exact ret_k [4, 5] [2] ([.live (ints (fr l over))]) (.tup [.sl 0 (fr l over).length 1 0 (fr l over).length, .int .i64 0]) (⟨rfl, rfl⟩) (hh := by simp [fr, hD, hM]) (hr := by simp [fr_length])
   · refine vwp_live [0, 1] (vwp_region hT ?_)
     simp
     rw [if_neg ho]
     refine hK6 _ ?_
     try clear hK6 K6
     refine vwp_cond (by first | rfl | (simp; rfl)) (fun h5 => ?_) fun h5 => ?_
     · simp -failIfUnchanged at h5; all_goals
      refine vwp_sq [] fun K25 hK25 => vwp_region hT ?_
      simp
      refine hK25 _ ?_
      try clear hK25 K25
      refine vwp_ret (hR _ _ ?_)
      have hw : roundN l over = (none, 1) := by
        unfold roundN
        rw [if_neg (by omega), if_pos ?_]
        by_cases q : inB 0 4503599627370496 l = false
        · exact .inr (.inr q)
        · first | omega | simp_all
      rw [hw]
      exact ret_k [4, 5] [] ([]) (.tup [.nils, .int .i64 1]) (⟨rfl, rfl⟩)
     · simp -failIfUnchanged at h5; all_goals
      have hin := h5
      have hin1 := inB_iff.1 hin
      have hs0 := sum_bounds hin1
      obtain ⟨D, hD⟩ : ∃ D, D = l.map (· / over) := ⟨_, rfl⟩
      obtain ⟨M, hM⟩ : ∃ M, M = l.map (· % over) := ⟨_, rfl⟩
      have hDl : D.length = l.length := by simp [hD]
      have hMl : M.length = l.length := by simp [hM]
      have hD1 : ∀ x ∈ D, 0 ≤ x ∧ x ≤ 4503599627370496 := fun x hx => by
        subst hD
        obtain ⟨y, hy, rfl⟩ := List.mem_map.1 hx
        exact ⟨Int.ediv_nonneg (hin1 y hy).1 (by omega), Int.le_trans (Int.ediv_le_self _ (hin1 y hy).1) (hin1 y hy).2⟩
      refine vwp_skip ?_
      refine hK5 _ ?_
      try clear hK5 K5
      refine vwp_seq_k fun K26 hK26 => ?_
      omega
theorem rqshare_spec (total : Int) (w : List Int) (hl : w.length < 9223372036854775807) : VC P 15 [.int .i64 total, sI w] [] (fun r ob' => resI (shareN total w) r ob') := by
  refine VC_of_vwp_k ent_15 Try.func15 rfl (by simp) fun R hR => ?_
  refine vwp_sq [0, 1] fun K1 hK1 => vwp_region hT ?_
  simp
  refine hK1 _ ?_
  try clear hK1 K1
  refine vwp_seq_k fun K2 hK2 => ?_
  refine vwp_sq [0, 1] fun K3 hK3 => vwp_region hT ?_
  simp
  refine hK3 _ ?_
  try clear hK3 K3
  refine vwp_cond (by first | rfl | (simp; rfl)) (fun h1 => ?_) fun h1 => ?_
  · simp -failIfUnchanged at h1; all_goals
   refine vwp_sq [] fun K4 hK4 => vwp_region hT ?_
   simp
   refine hK4 _ ?_
   try clear hK4 K4
   refine vwp_ret (hR _ _ ?_)
   have hw : shareN total w = (none, 4) := by
     unfold shareN
     rw [if_pos (by omega)]
   rw [hw]
   exact ret_k [4, 5] [] ([]) (.tup [.nils, .int .i64 4]) (⟨rfl, rfl⟩)
  · simp -failIfUnchanged at h1; all_goals
   refine vwp_skip ?_
   refine hK2 _ ?_
   try clear hK2 K2
   refine vwp_seq_k fun K5 hK5 => ?_
   refine vwp_seq_k fun K6 hK6 => ?_
   by_cases ho : 0 ≤ total ∧ total ≤ 1099511627776
   · refine vwp_live [0, 1] (vwp_region hT ?_)
     simp
     rw [if_pos ho]
     refine vcall_k [] (rin_spec w hl 0 1099511627776) ?_
     rintro r ob' ⟨rfl, rfl⟩
     simp
     refine hK6 _ ?_
     try clear hK6 K6
     refine vwp_cond (by first | rfl | (simp; rfl)) (fun h2 => ?_) fun h2 => ?_
     · simp -failIfUnchanged at h2; all_goals
      refine vwp_sq [] fun K7 hK7 => vwp_region hT ?_
      simp
      refine hK7 _ ?_
      try clear hK7 K7
      refine vwp_ret (hR _ _ ?_)
      have hw : shareN total w = (none, 1) := by
        unfold shareN
        rw [if_neg (by omega), if_pos ?_]
        by_cases q : inB 0 1099511627776 w = false
        · exact .inr (.inr q)
        · first | omega | simp_all
      rw [hw]
      exact ret_k [4, 5] [] ([]) (.tup [.nils, .int .i64 1]) (⟨rfl, rfl⟩)
     · simp -failIfUnchanged at h2; all_goals
      have hin := h2
      have hin1 := inB_iff.1 hin
      have hs := sumN_small hin1 (by omega)
      have hs0 := sum_bounds hin1
      obtain ⟨D, hD⟩ : ∃ D, D = (w.map (total * ·)).map (· / w.sum) := ⟨_, rfl⟩
      obtain ⟨M, hM⟩ : ∃ M, M = (w.map (total * ·)).map (· % w.sum) := ⟨_, rfl⟩
      have hDl : D.length = w.length := by simp [hD]
      have hMl : M.length = w.length := by simp [hM]
      have hg : ∀ x ∈ w, 0 ≤ total * x / w.sum ∧ total * x / w.sum ≤ total := fun x hx => by
        have hxs := mem_le_sum (fun n hn => (hin1 n hn).1) x hx
        by_cases h0 : w.sum = 0
        · rw [h0]; simp; exact ho.1
        · exact share_le (by omega) ho.1 (hin1 x hx).1 hxs
      have hD1 : ∀ x ∈ D, 0 ≤ x ∧ x ≤ 4503599627370496 := fun x hx => by
        subst hD
        obtain ⟨z, hz, rfl⟩ := List.mem_map.1 hx
        obtain ⟨y, hy, rfl⟩ := List.mem_map.1 hz
        have := hg y hy
        omega
      refine vwp_skip ?_
      refine hK5 _ ?_
      try clear hK5 K5
      refine vwp_sq [0, 1] fun K8 hK8 => vwp_region hT ?_
      simp [hs]
      refine vcall_k [] (rsum_spec w hl) ?_
      rintro r ob' ⟨rfl, rfl⟩
      simp [hs]
      refine hK8 _ ?_
      try clear hK8 K8
      refine vwp_sq [0, 1, 6] fun K9 hK9 => vwp_region hT ?_
      simp
      refine hK9 _ ?_
      try clear hK9 K9
      refine vwp_sq [0, 1, 6, 8] fun K10 hK10 => vwp_region hT ?_
      simp
      refine hK10 _ ?_
      try clear hK10 K10
      refine vwp_sq [0, 1, 6, 8, 9] fun K11 hK11 => vwp_region hT ?_
      simp
      refine hK11 _ ?_
      try clear hK11 K11
      refine vwp_seq_k fun K12 hK12 => ?_
      refine vwp_sq [0, 1, 6, 8, 9, 10] fun K13 hK13 => vwp_region hT ?_
      simp
      refine hK13 _ ?_
      try clear hK13 K13
      refine vwp_block ?_
      refine vwp_loop_s (fun i : Nat => ⟨[(0, .int .i64 total), (1, sI w), (6, .int .i64 w.sum), (8, .sl 0 i 1 0 i), (9, .sl 1 i 1 0 i), (10, .int .i64 (total - (D.take i).sum)), (11, .int .i64 (i : Int))], [.live (ints (D.take i)), .live (ints (M.take i))]⟩) (fun i => i ≤ w.length) (fun i => w.length - i) (0) (Gh.to_k [0, 1, 6, 8, 9, 10, 11] [0, 1]) (by omega) ?_
      rintro i hi
      have hb2 := sum_bounds (D := D.take i) (m := 4503599627370496) fun n hn => hD1 n (List.mem_of_mem_take hn)
      rw [List.length_take] at hb2
      have ld : (D.take i).length = i := by rw [List.length_take]; omega
      have lm : (M.take i).length = i := by rw [List.length_take]; omega
      simp only [List.length_take] at ld lm
      intro K14 hK14
      refine vwp_seq_k fun K15 hK15 => ?_
      refine vwp_sq [0, 1, 6, 8, 9, 10, 11] fun K16 hK16 => vwp_region hT ?_
      simp
      refine hK16 _ ?_
      try clear hK16 K16
      refine vwp_cond (by first | rfl | (simp; rfl)) (fun h3 => ?_) fun h3 => ?_
      · simp -failIfUnchanged at h3; all_goals
       refine vwp_skip ?_
       refine hK15 _ ?_
       try clear hK15 K15
       refine vwp_seq_k fun K17 hK17 => ?_
       refine vwp_block ?_
       refine vwp_seq_k fun K18 hK18 => ?_
       obtain ⟨x, hx⟩ := getI (l := w) (i := i) (by omega)
       have hx1 := hin1 x (List.mem_of_getElem? hx)
       have hxs := mem_le_sum (fun n hn => (hin1 n hn).1) x (List.mem_of_getElem? hx)
       have hgx := hg x (List.mem_of_getElem? hx)
       have tk : D.take (i + 1) = D.take i ++ [total * x / w.sum] := take_snoc (by rw [hD]; simp [hx])
       have tk2 : M.take (i + 1) = M.take i ++ [total * x % w.sum] := take_snoc (by rw [hM]; simp [hx])
       refine vwp_sq [0, 1, 6, 8, 9, 10, 11] fun K19 hK19 => vwp_region hT ?_
       simp
       refine hK19 _ ?_
       try clear hK19 K19
       refine vwp_cond (by first | rfl | (simp; rfl)) (fun h4 => ?_) fun h4 => ?_
       · simp -failIfUnchanged at h4; all_goals
        have ht := h4
        subst ht
        simp only [Int.zero_mul, Int.zero_ediv, Int.zero_emod] at tk tk2
        refine vwp_sq [0, 1, 6, 8, 9, 10, 11] fun K20 hK20 => vwp_region hT ?_
        simp [ld, zerosV, spl]
        repeat refine ⟨by first | assumption | omega | (intros; omega), ?_⟩
        refine hK20 _ ?_
        try clear hK20 K20
        refine vwp_sq [0, 1, 6, 8, 9, 10, 11] fun K21 hK21 => vwp_region hT ?_
        simp [lm, zerosV, spl]
        repeat refine ⟨by first | assumption | omega | (intros; omega), ?_⟩
        refine hK21 _ ?_
        try clear hK21 K21
        refine vwp_exit ?_
        simp only [inBlk, thenQ, if_true]
        refine hK17 _ ?_
        try clear hK17 K17
        have w1 : IntKind.i64.wrap ((i : Int) + 1) = i + 1 := w64 (by omega) (by omega)
        refine vwp_live [0, 1, 6, 8, 9, 10, 11] (vwp_region hT ?_)
        simp [w1]
        exact hK14 (i + 1) _ (Gh.to_k [0, 1, 6, 8, 9, 10, 11] [0, 1] (he := by simp [tk]) (hh := by simp [tk, tk2])) (by omega) (by omega)
       · simp -failIfUnchanged at h4; all_goals
        have ht := h4
        refine vwp_skip ?_
        refine hK18 _ ?_
        try clear hK18 K18
        refine vwp_seq_k fun K22 hK22 => ?_
        refine vwp_sq [0, 1, 6, 8, 9, 10, 11] fun K23 hK23 => vwp_region hT ?_
        simp
        refine hK23 _ ?_
        try clear hK23 K23
        refine vwp_cond (by first | rfl | (simp; rfl)) (fun h5 => ?_) fun h5 => ?_
        · simp -failIfUnchanged at h5; all_goals
         have ha := h5
         refine vwp_sq [] fun K24 hK24 => vwp_region hT ?_
         simp
         refine hK24 _ ?_
         try clear hK24 K24
         refine vwp_ret (hR _ _ ?_)
         have hw : shareN total w = (none, 2) := by
           unfold shareN
           rw [if_neg (by omega), if_neg (by rw [hin]; simp; omega), if_neg (by omega), if_pos ha]
         rw [hw]
         exact ret_k [4, 5] [] ([]) (.tup [.nils, .int .i64 2]) (⟨rfl, rfl⟩)
        · simp -failIfUnchanged at h5; all_goals
         have ha := h5
         refine vwp_skip ?_
         refine hK22 _ ?_
         try clear hK22 K22
         refine vwp_sq [0, 1, 6, 8, 9, 10, 11] fun K25 hK25 => vwp_region hT ?_
         simp [hx]
         repeat refine ⟨by first | assumption | omega | (intros; omega), ?_⟩
         refine vcall_k [] (rshare_spec total x w.sum ho.1 (by omega) (by omega) (by omega) hx1.1 hxs) ?_
         rintro r ob' ⟨rfl, rfl⟩
         simp [hx]
         repeat refine ⟨by first | assumption | omega | (intros; omega), ?_⟩
         refine hK25 _ ?_
         try clear hK25 K25
         refine vwp_sq [0, 1, 6, 8, 9, 10, 11, 12, 13] fun K26 hK26 => vwp_region hT ?_
         simp [ld, zerosV, spl]
         repeat refine ⟨by first | assumption | omega | (intros; omega), ?_⟩
         refine hK26 _ ?_
         try clear hK26 K26
         refine vwp_sq [0, 1, 6, 8, 9, 10, 11, 12, 13] fun K27 hK27 => vwp_region hT ?_
         simp [lm, zerosV, spl]
         repeat refine ⟨by first | assumption | omega | (intros; omega), ?_⟩
         refine hK27 _ ?_
         try clear hK27 K27
         have w2 : IntKind.i64.wrap (total - (D.take i).sum - total * x / w.sum) = total - (D.take (i + 1)).sum := by
           rw [tk, List.sum_append]
           simp only [List.sum_cons, List.sum_nil, Int.add_zero]
           rw [w64 (by omega) (by omega)]; omega
         refine vwp_live [0, 1, 6, 8, 9, 10, 11, 12] (vwp_region hT ?_)
         simp [w2]
         refine hK17 _ ?_
         try clear hK17 K17
         have w1 : IntKind.i64.wrap ((i : Int) + 1) = i + 1 := w64 (by omega) (by omega)
         refine vwp_live [0, 1, 6, 8, 9, 10, 11] (vwp_region hT ?_)
         simp [w1]
         exact hK14 (i + 1) _ (Gh.to_k [0, 1, 6, 8, 9, 10, 11] [0, 1] (he := by simp) (hh := by simp [tk, tk2])) (by omega) (by omega)
      · simp -failIfUnchanged at h3; all_goals
       refine vwp_exit ?_
       simp only [inBlk, thenQ, if_true]
       refine hK12 _ ?_
       try clear hK12 K12
       refine vwp_seq_k fun K28 hK28 => ?_
       obtain rfl : i = w.length := by omega
       have z1 : List.take w.length (List.map (V.int .i64) D) = List.map (V.int .i64) D := List.take_of_length_le (by simp; omega)
       have z2 : List.take w.length (List.map (V.int .i64) M) = List.map (V.int .i64) M := List.take_of_length_le (by simp; omega)
       have z3 : List.take w.length D = D := List.take_of_length_le (by omega)
       simp only [z1, z2, z3, List.take_length]
       refine vwp_sq [0, 6, 8, 9, 10] fun K29 hK29 => vwp_region hT ?_
       simp
       refine hK29 _ ?_
       try clear hK29 K29
       refine vwp_cond (by first | rfl | (simp; rfl)) (fun h6 => ?_) fun h6 => ?_
       · simp -failIfUnchanged at h6; all_goals
        have hq := h6
        refine vwp_sq [] fun K30 hK30 => vwp_region hT ?_
        simp
        refine hK30 _ ?_
        try clear hK30 K30
        refine vwp_ret (hR _ _ ?_)
        have hw : shareN total w = (none, 2) := by
          unfold shareN
          rw [if_neg (by omega), if_neg (by rw [hin]; simp; omega), if_neg (by omega), if_pos (by omega)]
        rw [hw]
        exact ret_k [4, 5] [] ([]) (.tup [.nils, .int .i64 2]) (⟨rfl, rfl⟩)
       · simp -failIfUnchanged at h6; all_goals
        have hq := h6
        refine vwp_skip ?_
        refine hK28 _ ?_
        try clear hK28 K28
        refine vwp_sq [8, 9, 10] fun K31 hK31 => vwp_region hT ?_
        simp
        refine vcall_z [] (more_spec D M w.length hDl hMl (by omega) (total - D.sum) hD1) (by rintro r ob' ⟨rfl, rfl⟩; simp) ?_ (ha := by simp [hDl, hMl, z1, z2]) (hok := by simp [hDl, hMl])
        rintro r ob' ⟨rfl, rfl⟩
        simp
        refine hK31 _ ?_
        try clear hK31 K31
        refine vwp_ret (hR _ _ ?_)
        by_cases ht : total = 0
        · have hw : shareN total w = (some (List.replicate w.length 0), 0) := by
            unfold shareN
            rw [if_neg (by omega), if_neg (by rw [hin]; simp; omega), if_pos ht]
          have e1 : upped D M (total - D.sum) = List.replicate w.length 0 := by
            have hD0 : D = List.replicate w.length 0 := by
              rw [hD, ht]; simp [List.map_const']
            rw [upped_zero (by rw [ht]; have := (sum_bounds hD1).1; omega), hD0]
          rw [hw]
          exact ret_k [4, 5] [2] ([.live (ints (List.replicate w.length 0))]) (.tup [.sl 0 (List.replicate w.length (0 : Int)).length 1 0 (List.replicate w.length (0 : Int)).length, .int .i64 0]) (⟨rfl, rfl⟩) (hh := by simp [e1]) (hr := by simp)
        · have hw : shareN total w = (some (fr (w.map (total * ·)) w.sum), 0) := by
            unfold shareN
            rw [if_neg (by omega), if_neg (by rw [hin]; simp; omega), if_neg ht, if_neg (by omega)]
          have e1 : (w.map (total * ·)).sum / w.sum = total := by rw [sum_mul, Int.mul_ediv_cancel _ (by omega)]
          rw [hw]
          exact ret_k [4, 5] [2] ([.live (ints (fr (w.map (total * ·)) w.sum))]) (.tup [.sl 0 (fr (w.map (total * ·)) w.sum).length 1 0 (fr (w.map (total * ·)) w.sum).length, .int .i64 0]) (⟨rfl, rfl⟩) (hh := by simp only [fr, e1, ← hD, ← hM]; simp) (hr := by simp [fr_length])
   · refine vwp_live [0, 1] (vwp_region hT ?_)
     simp
     rw [if_neg ho]
     refine hK6 _ ?_
     try clear hK6 K6
     refine vwp_cond (by first | rfl | (simp; rfl)) (fun h7 => ?_) fun h7 => ?_
     · simp -failIfUnchanged at h7; all_goals
      refine vwp_sq [] fun K32 hK32 => vwp_region hT ?_
      simp
      refine hK32 _ ?_
      try clear hK32 K32
      refine vwp_ret (hR _ _ ?_)
      have hw : shareN total w = (none, 1) := by
        unfold shareN
        rw [if_neg (by omega), if_pos ?_]
        by_cases q : inB 0 1099511627776 w = false
        · exact .inr (.inr q)
        · first | omega | simp_all
      rw [hw]
      exact ret_k [4, 5] [] ([]) (.tup [.nils, .int .i64 1]) (⟨rfl, rfl⟩)
     · simp -failIfUnchanged at h7; all_goals
      have hin := h7
      have hin1 := inB_iff.1 hin
      have hs := sumN_small hin1 (by omega)
      have hs0 := sum_bounds hin1
      obtain ⟨D, hD⟩ : ∃ D, D = (w.map (total * ·)).map (· / w.sum) := ⟨_, rfl⟩
      obtain ⟨M, hM⟩ : ∃ M, M = (w.map (total * ·)).map (· % w.sum) := ⟨_, rfl⟩
      have hDl : D.length = w.length := by simp [hD]
      have hMl : M.length = w.length := by simp [hM]
      have hg : ∀ x ∈ w, 0 ≤ total * x / w.sum ∧ total * x / w.sum ≤ total := fun x hx => by
        have hxs := mem_le_sum (fun n hn => (hin1 n hn).1) x hx
        by_cases h0 : w.sum = 0
        · rw [h0]; simp; exact ho.1
        · exact share_le (by omega) ho.1 (hin1 x hx).1 hxs
      have hD1 : ∀ x ∈ D, 0 ≤ x ∧ x ≤ 4503599627370496 := fun x hx => by
        subst hD
        obtain ⟨z, hz, rfl⟩ := List.mem_map.1 hx
        obtain ⟨y, hy, rfl⟩ := List.mem_map.1 hz
        have := hg y hy
        omega
      refine vwp_skip ?_
      refine hK5 _ ?_
      try clear hK5 K5
      refine vwp_seq_k fun K33 hK33 => ?_
      omega
end Go.Proofs.Ythjpaongoflgiaa
