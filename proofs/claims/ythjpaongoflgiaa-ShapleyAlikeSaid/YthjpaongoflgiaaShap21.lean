/- Players who add alike get alike: the walk. -/
import Derived.Test.YthjpaongoflgiaaShap20
namespace Go.Proofs.Ythjpaongoflgiaa
open Go Go.VX Go.RowKit
set_option linter.unusedVariables false
set_option linter.unusedSimpArgs false
set_option maxHeartbeats 20000000
set_option maxRecDepth 100000
theorem shapleyAlike_spec (s w : List Int) (hs : s.length ≤ 140737488355328) (hw49 : w.length = 49) : VC P 8 [sI s, .agg (w.map (.int .i64))] [] (fun r ob' => r = .bool true) := by
  refine VC_of_vwp_k ent_8 Try.func8 rfl (by simp) fun R hR => ?_
  refine vwp_sq [0, 1] fun K1 hK1 => vwp_region hT ?_
  simp
  refine hK1 _ ?_
  try clear hK1 K1
  refine vwp_seq_k fun K2 hK2 => ?_
  refine vwp_sq [0, 3] fun K3 hK3 => vwp_region hT ?_
  simp
  refine vcall_k [] (awake_spec) ?_
  rintro r ob' ⟨rfl, rfl⟩
  simp
  refine hK3 _ ?_
  try clear hK3 K3
  refine vwp_cond (by first | rfl | (simp; rfl)) (fun h1 => ?_) fun h1 => ?_
  · simp -failIfUnchanged at h1; all_goals
   refine vwp_seq_k fun K4 hK4 => ?_
   simp at *
  · simp -failIfUnchanged at h1; all_goals
   refine vwp_skip ?_
   refine hK2 _ ?_
   try clear hK2 K2
   refine vwp_sq [0, 3] fun K5 hK5 => vwp_region hT ?_
   simp
   refine hK5 _ ?_
   try clear hK5 K5
   refine vwp_seq_k fun K6 hK6 => ?_
   refine vwp_sq [0, 3, 5] fun K7 hK7 => vwp_region hT ?_
   simp
   refine hK7 _ ?_
   try clear hK7 K7
   refine vwp_cond (by first | rfl | (simp; rfl)) (fun h2 => ?_) fun h2 => ?_
   · simp -failIfUnchanged at h2; all_goals
    refine vwp_sq [] fun K8 hK8 => vwp_region hT ?_
    simp
    refine hK8 _ ?_
    try clear hK8 K8
    refine vwp_ret (hR _ _ ?_)
    exact ret_k [4] [] ([]) (.bool true) (rfl)
   · simp -failIfUnchanged at h2; all_goals
    have h6 : s.length ≤ 6 := by
      have q := h2
      omega
    obtain ⟨G, hG⟩ : ∃ G, G = gameL s w := ⟨_, rfl⟩
    have hGl : G.length = p2 s.length := by rw [hG, gameL_len]
    have hmG := gameL_may (w := w) h6
    rw [← hG] at hmG
    obtain ⟨g1, g2, g3⟩ := exU_yes hmG
    obtain ⟨E, hE⟩ : ∃ E, E = exactL s.length G := ⟨_, rfl⟩
    rw [← hE] at g1
    have hEl : E.length = s.length := by rw [hE, exactL_length]
    refine vwp_skip ?_
    refine hK6 _ ?_
    try clear hK6 K6
    have w1 : min s.length 64 = s.length := by omega
    have w2 := shl1 (m := s.length) (by omega)
    have hpm := p2_le _ h6
    have hpp := p2_pos s.length
    refine vwp_sq [0, 3, 5] fun K9 hK9 => vwp_region hT ?_
    simp [w1, w2]
    repeat refine ⟨by first | assumption | omega | (intros; omega), ?_⟩
    refine hK9 _ ?_
    try clear hK9 K9
    refine vwp_seq_k fun K10 hK10 => ?_
    refine vwp_sq [0, 3, 5, 6] fun K11 hK11 => vwp_region hT ?_
    simp
    refine hK11 _ ?_
    try clear hK11 K11
    refine vwp_block ?_
    refine vwp_loop_s (fun c : Nat => ⟨[(0, sI s), (3, .ptr 0 49 0), (5, .int .i64 s.length), (6, .sl 1 G.length 1 0 G.length), (27, .int .i64 G.length), (28, .int .i64 (c : Int))], [.live (w.map (.int .i64)), .live ((G.take c ++ List.replicate (G.length - c) 0).map (.int .i64))]⟩) (fun c => c ≤ G.length) (fun c => G.length - c) (0) (Gh.to_k [0, 3, 5, 6, 27, 28] [0, 1] (he := by simp [hGl, hw49]) (hh := by simp [hGl])) (by omega) ?_
    rintro c hc
    intro K12 hK12
    refine vwp_sq [0, 3, 5, 6, 27, 28] fun K13 hK13 => vwp_region hT ?_
    simp
    refine hK13 _ ?_
    try clear hK13 K13
    refine vwp_seq_k fun K14 hK14 => ?_
    refine vwp_cond (by first | rfl | (simp; rfl)) (fun h3 => ?_) fun h3 => ?_
    · simp -failIfUnchanged at h3; all_goals
     refine vwp_skip ?_
     refine hK14 _ ?_
     try clear hK14 K14
     refine vwp_seq_k fun K15 hK15 => ?_
     refine vwp_block ?_
     refine vwp_sq [0, 3, 5, 6, 27, 28] fun K16 hK16 => vwp_region hT ?_
     simp
     refine hK16 _ ?_
     try clear hK16 K16
     refine vwp_sq [0, 3, 5, 6, 7, 27, 28] fun K17 hK17 => vwp_region hT ?_
     simp
     refine hK17 _ ?_
     try clear hK17 K17
     refine vwp_seq_k fun K18 hK18 => ?_
     refine vwp_sq [0, 3, 5, 6, 7, 8, 9, 27, 28] fun K19 hK19 => vwp_region hT ?_
     simp
     refine hK19 _ ?_
     try clear hK19 K19
     refine vwp_block ?_
     refine vwp_loop_s (fun j : Nat => ⟨[(0, sI s), (3, .ptr 0 49 0), (5, .int .i64 s.length), (6, .sl 1 G.length 1 0 G.length), (7, .int .i64 (c : Int)), (8, .int .i64 (cA s 1 c j : Int)), (9, .int .i64 (cA s 2 c j : Int)), (27, .int .i64 G.length), (28, .int .i64 (c : Int)), (31, sI s), (32, .int .i64 s.length), (33, .int .i64 (j : Int))], [.live (w.map (.int .i64)), .live ((G.take c ++ List.replicate (G.length - c) 0).map (.int .i64))]⟩) (fun j => j ≤ s.length) (fun j => s.length - j) (0) (Gh.to_k [0, 3, 5, 6, 7, 8, 9, 27, 28, 31, 32, 33] [0, 1] (he := by simp [cA])) (by omega) ?_
     rintro j hj
     intro K20 hK20
     refine vwp_sq [0, 3, 5, 6, 7, 8, 9, 27, 28, 31, 32, 33] fun K21 hK21 => vwp_region hT ?_
     simp
     refine hK21 _ ?_
     try clear hK21 K21
     refine vwp_seq_k fun K22 hK22 => ?_
     refine vwp_cond (by first | rfl | (simp; rfl)) (fun h4 => ?_) fun h4 => ?_
     · simp -failIfUnchanged at h4; all_goals
      refine vwp_skip ?_
      refine hK22 _ ?_
      try clear hK22 K22
      refine vwp_seq_k fun K23 hK23 => ?_
      refine vwp_block ?_
      obtain ⟨x, hx⟩ := getI (l := s) (i := j) (by omega)
      have hxd := getD_of hx
      refine vwp_sq [0, 3, 5, 6, 7, 8, 9, 27, 28, 31, 32, 33] fun K24 hK24 => vwp_region hT ?_
      simp [hx]
      repeat refine ⟨by first | assumption | omega | (intros; omega), ?_⟩
      refine hK24 _ ?_
      try clear hK24 K24
      refine vwp_seq_k fun K25 hK25 => ?_
      have wm : min j 64 = j := by omega
      have w1 := bit_eq (c := c) (i := j) (by omega) (by omega)
      have hcs := cA_sum s c j
      obtain ⟨bt, hbt⟩ : ∃ bt, bt = c / p2 j % 2 := ⟨_, rfl⟩
      rw [← hbt] at w1
      have hbb : bitP c j ↔ bt = 1 := by rw [hbt]; exact Iff.rfl
      refine vwp_sq [0, 3, 5, 6, 7, 8, 9, 10, 11, 27, 28, 31, 32, 33] fun K26 hK26 => vwp_region hT ?_
      simp [wm, w1]
      repeat refine ⟨by first | assumption | omega | (intros; omega), ?_⟩
      refine hK26 _ ?_
      try clear hK26 K26
      refine vwp_cond (by first | rfl | (simp; rfl)) (fun h5 => ?_) fun h5 => ?_
      · simp -failIfUnchanged at h5; all_goals
       have q := h5
       have hA : cA s 1 c (j + 1) = cA s 1 c j + 1 := cA_yes (hbb.2 (by omega)) (by rw [hxd]; omega)
       have hB : cA s 2 c (j + 1) = cA s 2 c j := cA_no (fun h => by have := h.2; rw [hxd] at this; omega)
       have w2 : IntKind.i64.wrap ((cA s 1 c j : Int) + 1) = (cA s 1 c j : Int) + 1 := w64 (by omega) (by omega)
       refine vwp_live [0, 3, 5, 6, 7, 8, 9, 10, 11, 27, 28, 31, 32, 33] (vwp_region hT ?_)
       simp [w2]
       refine hK25 _ ?_
       try clear hK25 K25
       refine vwp_sq [0, 3, 5, 6, 7, 8, 9, 10, 11, 27, 28, 31, 32, 33] fun K27 hK27 => vwp_region hT ?_
       simp [wm, w1]
       repeat refine ⟨by first | assumption | omega | (intros; omega), ?_⟩
       refine hK27 _ ?_
       try clear hK27 K27
       refine vwp_cond (by first | rfl | (simp; rfl)) (fun h6 => ?_) fun h6 => ?_
       · simp -failIfUnchanged at h6; all_goals
        exfalso
        omega
       · simp -failIfUnchanged at h6; all_goals
        refine vwp_skip ?_
        refine hK23 _ ?_
        try clear hK23 K23
        have w1 : IntKind.i64.wrap (((j : Int) : Int) + 1) = j + 1 := w64 (by omega) (by omega)
        refine vwp_live [0, 3, 5, 6, 7, 8, 9, 27, 28, 31, 32, 33] (vwp_region hT ?_)
        simp [w1]
        exact hK20 (j + 1) _ (Gh.to_k [0, 3, 5, 6, 7, 8, 9, 27, 28, 31, 32, 33] [0, 1] (he := by simp [hA, hB])) (by omega) (by omega)
      · simp -failIfUnchanged at h5; all_goals
       have q := h5
       have hA : cA s 1 c (j + 1) = cA s 1 c j := cA_no (fun h => by have h1 := hbb.1 h.1; have h2 := h.2; rw [hxd] at h2; omega)
       refine vwp_skip ?_
       refine hK25 _ ?_
       try clear hK25 K25
       refine vwp_sq [0, 3, 5, 6, 7, 8, 9, 10, 11, 27, 28, 31, 32, 33] fun K28 hK28 => vwp_region hT ?_
       simp [wm, w1]
       repeat refine ⟨by first | assumption | omega | (intros; omega), ?_⟩
       refine hK28 _ ?_
       try clear hK28 K28
       refine vwp_cond (by first | rfl | (simp; rfl)) (fun h7 => ?_) fun h7 => ?_
       · simp -failIfUnchanged at h7; all_goals
        have q2 := h7
        have hB : cA s 2 c (j + 1) = cA s 2 c j + 1 := cA_yes (hbb.2 (by omega)) (by rw [hxd]; omega)
        have w2 : IntKind.i64.wrap ((cA s 2 c j : Int) + 1) = (cA s 2 c j : Int) + 1 := w64 (by omega) (by omega)
        refine vwp_live [0, 3, 5, 6, 7, 8, 9, 27, 28, 31, 32, 33] (vwp_region hT ?_)
        simp [w2]
        refine hK23 _ ?_
        try clear hK23 K23
        have w1 : IntKind.i64.wrap (((j : Int) : Int) + 1) = j + 1 := w64 (by omega) (by omega)
        refine vwp_live [0, 3, 5, 6, 7, 8, 9, 27, 28, 31, 32, 33] (vwp_region hT ?_)
        simp [w1]
        exact hK20 (j + 1) _ (Gh.to_k [0, 3, 5, 6, 7, 8, 9, 27, 28, 31, 32, 33] [0, 1] (he := by simp [hA, hB])) (by omega) (by omega)
       · simp -failIfUnchanged at h7; all_goals
        have q2 := h7
        have hB : cA s 2 c (j + 1) = cA s 2 c j := cA_no (fun h => by have h1 := hbb.1 h.1; have h2 := h.2; rw [hxd] at h2; omega)
        refine vwp_skip ?_
        refine hK23 _ ?_
        try clear hK23 K23
        have w1 : IntKind.i64.wrap (((j : Int) : Int) + 1) = j + 1 := w64 (by omega) (by omega)
        refine vwp_live [0, 3, 5, 6, 7, 8, 9, 27, 28, 31, 32, 33] (vwp_region hT ?_)
        simp [w1]
        exact hK20 (j + 1) _ (Gh.to_k [0, 3, 5, 6, 7, 8, 9, 27, 28, 31, 32, 33] [0, 1] (he := by simp [hA, hB])) (by omega) (by omega)
     · simp -failIfUnchanged at h4; all_goals
      refine vwp_exit ?_
      simp only [inBlk, thenQ, if_true]
      refine hK18 _ ?_
      try clear hK18 K18
      have ej : j = s.length := by omega
      have hcs := cA_sum s c s.length
      have hGc := gameL_get (s := s) (w := w) (c := c) (by omega)
      rw [← hG] at hGc
      rw [ej]
      obtain ⟨a1, ha1⟩ : ∃ a1, a1 = cA s 1 c s.length := ⟨_, rfl⟩
      obtain ⟨a2, ha2⟩ : ∃ a2, a2 = cA s 2 c s.length := ⟨_, rfl⟩
      rw [← ha1, ← ha2] at hGc hcs ⊢
      have w1 : IntKind.i64.wrap ((a1 : Int) + (a2 : Int)) = (a1 : Int) + (a2 : Int) := w64 (by omega) (by omega)
      refine vwp_sq [0, 3, 5, 6, 7, 8, 9, 27, 28] fun K29 hK29 => vwp_region hT ?_
      simp [w1]
      refine hK29 _ ?_
      try clear hK29 K29
      refine vwp_cond (by first | rfl | (simp; rfl)) (fun h8 => ?_) fun h8 => ?_
      · simp -failIfUnchanged at h8; all_goals
       have q := h8
       obtain ⟨wv, hwv⟩ := getI (l := w) (i := 7 * a1 + a2) (by omega)
       have hgv : gv w a1 a2 = wv.tmod 1099511627776 := by rw [gv, if_pos (by omega), getD_of hwv]
       rw [hgv] at hGc
       have lG : (G.take c ++ List.replicate (G.length - c) (0 : Int)).length = G.length := by simp; omega
       have spG := spl_set (l := G.take c ++ List.replicate (G.length - c) 0) (q := c) (by omega) (wv.tmod 1099511627776)
       rw [fill_set hGc] at spG
       simp only [List.map_append, List.map_take, List.map_replicate] at spG
       have w2 : IntKind.i64.wrap (7 * (a1 : Int)) = 7 * (a1 : Int) := w64 (by omega) (by omega)
       have w3 : IntKind.i64.wrap (7 * (a1 : Int) + (a2 : Int)) = ((7 * a1 + a2 : Nat) : Int) := (w64 (by omega) (by omega)).trans (by omega)
       obtain ⟨ix, hix⟩ : ∃ ix, ix = 7 * a1 + a2 := ⟨_, rfl⟩
       rw [← hix] at w3 hwv
       refine vwp_live [0, 3, 5, 6, 7, 8, 9, 27, 28] (vwp_region hT ?_)
       simp [w2, w3, hwv, hw49]
       repeat refine ⟨by first | assumption | omega | (intros; omega), ?_⟩
       refine hK15 _ ?_
       try clear hK15 K15
       have w1 : IntKind.i64.wrap (((c : Int) : Int) + 1) = c + 1 := w64 (by omega) (by omega)
       refine vwp_live [0, 3, 5, 6, 27, 28] (vwp_region hT ?_)
       simp [w1]
       exact hK12 (c + 1) _ (Gh.to_k [0, 3, 5, 6, 27, 28] [0, 1] (hh := by simp [spG])) (by omega) (by omega)
      · simp -failIfUnchanged at h8; all_goals
       have q := h8
       have hgv : gv w a1 a2 = 0 := by rw [gv, if_neg (by omega)]
       rw [hgv] at hGc
       have fz := fill_zero hGc
       have fz2 := congrArg (List.map (V.int .i64)) fz
       simp only [List.map_append, List.map_take, List.map_replicate] at fz2
       refine vwp_skip ?_
       refine hK15 _ ?_
       try clear hK15 K15
       have w1 : IntKind.i64.wrap (((c : Int) : Int) + 1) = c + 1 := w64 (by omega) (by omega)
       refine vwp_live [0, 3, 5, 6, 27, 28] (vwp_region hT ?_)
       simp [w1]
       exact hK12 (c + 1) _ (Gh.to_k [0, 3, 5, 6, 27, 28] [0, 1] (hh := by simp [fz2])) (by omega) (by omega)
    · simp -failIfUnchanged at h3; all_goals
     refine vwp_exit ?_
     simp only [inBlk, thenQ, if_true]
     refine hK10 _ ?_
     try clear hK10 K10
     have ec : c = G.length := by omega
     have tG : List.take c (G.map (V.int .i64)) ++ List.replicate (G.length - c) (V.int .i64 0) = G.map (.int .i64) := by rw [List.take_of_length_le (by simp; omega)]; simp [ec]
     try simp only [List.map_append, List.map_take, List.map_replicate]
     rw [tG]
     refine vwp_sq [0, 5, 6] fun K30 hK30 => vwp_region hT ?_
     simp [g1, g2, g3]
     refine vcall_z [] (exact_u s.length G (by omega)) (by rintro r ob' ⟨rfl, rfl⟩; simp) ?_
     rintro r ob' ⟨rfl, rfl⟩
     simp [g1, g2, g3]
     refine hK30 _ ?_
     try clear hK30 K30
     refine vwp_seq_k fun K31 hK31 => ?_
     refine vwp_sq [0, 5, 12, 14] fun K32 hK32 => vwp_region hT ?_
     simp [g1, g2, g3, hEl]
     refine hK32 _ ?_
     try clear hK32 K32
     refine vwp_cond (by first | rfl | (simp; rfl)) (fun h9 => ?_) fun h9 => ?_
     · simp -failIfUnchanged at h9; all_goals
      refine vwp_seq_k fun K33 hK33 => ?_
      simp at *
     · simp -failIfUnchanged at h9; all_goals
      refine vwp_skip ?_
      refine hK31 _ ?_
      try clear hK31 K31
      refine vwp_seq_k fun K34 hK34 => ?_
      refine vwp_sq [0, 12] fun K35 hK35 => vwp_region hT ?_
      simp [hEl]
      refine hK35 _ ?_
      try clear hK35 K35
      refine vwp_block ?_
      refine vwp_loop_s (fun i : Nat => ⟨[(0, sI s), (12, .sl 2 s.length 1 0 s.length), (92, .int .i64 s.length), (93, .int .i64 (i : Int))], [.live (w.map (.int .i64)), .live (G.map (.int .i64)), .live (E.map (.int .i64))]⟩) (fun i => i ≤ s.length) (fun i => s.length - i) (0) (Gh.to_k [0, 12, 92, 93] [0, 1, 2]) (by omega) ?_
      rintro i hi
      intro K36 hK36
      refine vwp_sq [0, 12, 92, 93] fun K37 hK37 => vwp_region hT ?_
      simp
      refine hK37 _ ?_
      try clear hK37 K37
      refine vwp_seq_k fun K38 hK38 => ?_
      refine vwp_cond (by first | rfl | (simp; rfl)) (fun h10 => ?_) fun h10 => ?_
      · simp -failIfUnchanged at h10; all_goals
       refine vwp_skip ?_
       refine hK38 _ ?_
       try clear hK38 K38
       refine vwp_seq_k fun K39 hK39 => ?_
       refine vwp_block ?_
       refine vwp_sq [0, 12, 92, 93] fun K40 hK40 => vwp_region hT ?_
       simp
       refine hK40 _ ?_
       try clear hK40 K40
       refine vwp_seq_k fun K41 hK41 => ?_
       refine vwp_seq_k fun K42 hK42 => ?_
       obtain ⟨x, hx⟩ := getI (l := s) (i := i) (by omega)
       have hxd := getD_of hx
       obtain ⟨e, he⟩ := getI (l := E) (i := i) (by omega)
       have hee : e = exAt s.length G (p2 s.length) i := by
         have q := exactL_get (g := G) (i := i) (m := s.length) (by omega)
         rw [← hE, he] at q
         exact Option.some.inj q
       have hc3 : x = 1 ∨ x = 2 ∨ (¬ x = 1 ∧ ¬ x = 2 ∧ e = 0) := by
         by_cases h1 : x = 1
         · exact .inl h1
         · by_cases h2 : x = 2
           · exact .inr (.inl h2)
           · exact .inr (.inr ⟨h1, h2, by rw [hee, hG]; exact null_zero h6 (by omega) (by rw [hxd]; exact h1) (by rw [hxd]; exact h2)⟩)
       rcases hc3 with hx1 | hx2 | ⟨hx1, hx2, he0⟩
       · refine vwp_live [0, 12, 15, 92, 93] (vwp_region hT ?_)
         simp [hEl, hx, he, hx1]
         repeat refine ⟨by first | assumption | omega | (intros; omega), ?_⟩
         refine hK42 _ ?_
         try clear hK42 K42
         refine vwp_cond (by first | rfl | (simp; rfl)) (fun h11 => ?_) fun h11 => ?_
         · simp -failIfUnchanged at h11; all_goals
          refine vwp_seq_k fun K43 hK43 => ?_
          simp at *
         · simp -failIfUnchanged at h11; all_goals
          refine vwp_skip ?_
          refine hK41 _ ?_
          try clear hK41 K41
          refine vwp_sq [0, 12, 15, 92, 93] fun K44 hK44 => vwp_region hT ?_
          simp [hEl]
          refine hK44 _ ?_
          try clear hK44 K44
          refine vwp_block ?_
          refine vwp_loop_s (fun k : Nat => ⟨[(0, sI s), (12, .sl 2 s.length 1 0 s.length), (15, .int .i64 (i : Int)), (92, .int .i64 s.length), (93, .int .i64 (i : Int)), (116, .int .i64 s.length), (117, .int .i64 (k : Int))], [.live (w.map (.int .i64)), .live (G.map (.int .i64)), .live (E.map (.int .i64))]⟩) (fun k => k ≤ s.length) (fun k => s.length - k) (0) (Gh.to_k [0, 12, 15, 92, 93, 116, 117] [0, 1, 2]) (by omega) ?_
          rintro k hk
          intro K45 hK45
          refine vwp_sq [0, 12, 15, 92, 93, 116, 117] fun K46 hK46 => vwp_region hT ?_
          simp
          refine hK46 _ ?_
          try clear hK46 K46
          refine vwp_seq_k fun K47 hK47 => ?_
          refine vwp_cond (by first | rfl | (simp; rfl)) (fun h12 => ?_) fun h12 => ?_
          · simp -failIfUnchanged at h12; all_goals
           refine vwp_skip ?_
           refine hK47 _ ?_
           try clear hK47 K47
           refine vwp_seq_k fun K48 hK48 => ?_
           refine vwp_block ?_
           refine vwp_sq [0, 12, 15, 92, 93, 116, 117] fun K49 hK49 => vwp_region hT ?_
           simp
           refine hK49 _ ?_
           try clear hK49 K49
           refine vwp_seq_k fun K50 hK50 => ?_
           obtain ⟨x3, hx3⟩ := getI (l := s) (i := k) (by omega)
           have hxd3 := getD_of hx3
           obtain ⟨e3, he3⟩ := getI (l := E) (i := k) (by omega)
           have hee3 : e3 = exAt s.length G (p2 s.length) k := by
             have q := exactL_get (g := G) (i := k) (m := s.length) (by omega)
             rw [← hE, he3] at q
             exact Option.some.inj q
           by_cases hxx : x = x3
           · have hef : e = e3 := by rw [hee, hee3, hG]; exact alike h6 (by omega) (by omega) (by rw [hxd, hxd3, hxx])
             refine vwp_live [0, 12, 15, 16, 92, 93, 116, 117] (vwp_still hT hm (by kernel_rfl) ?_)
             simp [hEl, hx, hx3, he, he3, hxx, hef]
             repeat refine ⟨by first | assumption | omega | (intros; omega), ?_⟩
             refine hK50 _ ?_
             try clear hK50 K50
             refine vwp_cond (by first | rfl | (simp; rfl)) (fun h13 => ?_) fun h13 => ?_
             · simp -failIfUnchanged at h13; all_goals
              refine vwp_seq_k fun K51 hK51 => ?_
              simp at *
             · simp -failIfUnchanged at h13; all_goals
              refine vwp_skip ?_
              refine hK48 _ ?_
              try clear hK48 K48
              have w1 : IntKind.i64.wrap (((k : Int) : Int) + 1) = k + 1 := w64 (by omega) (by omega)
              refine vwp_live [0, 12, 15, 92, 93, 116, 117] (vwp_region hT ?_)
              simp [w1]
              exact hK45 (k + 1) _ (Gh.to_k [0, 12, 15, 92, 93, 116, 117] [0, 1, 2]) (by omega) (by omega)
           · refine vwp_live [0, 12, 15, 16, 92, 93, 116, 117] (vwp_still hT hm (by kernel_rfl) ?_)
             simp [hEl, hx, hx3, he, he3, hxx]
             repeat refine ⟨by first | assumption | omega | (intros; omega), ?_⟩
             refine hK50 _ ?_
             try clear hK50 K50
             refine vwp_cond (by first | rfl | (simp; rfl)) (fun h14 => ?_) fun h14 => ?_
             · simp -failIfUnchanged at h14; all_goals
              refine vwp_seq_k fun K52 hK52 => ?_
              simp at *
             · simp -failIfUnchanged at h14; all_goals
              refine vwp_skip ?_
              refine hK48 _ ?_
              try clear hK48 K48
              have w1 : IntKind.i64.wrap (((k : Int) : Int) + 1) = k + 1 := w64 (by omega) (by omega)
              refine vwp_live [0, 12, 15, 92, 93, 116, 117] (vwp_region hT ?_)
              simp [w1]
              exact hK45 (k + 1) _ (Gh.to_k [0, 12, 15, 92, 93, 116, 117] [0, 1, 2]) (by omega) (by omega)
          · simp -failIfUnchanged at h12; all_goals
           refine vwp_exit ?_
           simp only [inBlk, thenQ, if_true]
           refine hK39 _ ?_
           try clear hK39 K39
           have w1 : IntKind.i64.wrap (((i : Int) : Int) + 1) = i + 1 := w64 (by omega) (by omega)
           refine vwp_live [0, 12, 92, 93] (vwp_region hT ?_)
           simp [w1]
           exact hK36 (i + 1) _ (Gh.to_k [0, 12, 92, 93] [0, 1, 2]) (by omega) (by omega)
       · refine vwp_live [0, 12, 15, 92, 93] (vwp_region hT ?_)
         simp [hEl, hx, he, hx2]
         repeat refine ⟨by first | assumption | omega | (intros; omega), ?_⟩
         refine hK42 _ ?_
         try clear hK42 K42
         refine vwp_cond (by first | rfl | (simp; rfl)) (fun h15 => ?_) fun h15 => ?_
         · simp -failIfUnchanged at h15; all_goals
          refine vwp_seq_k fun K53 hK53 => ?_
          simp at *
         · simp -failIfUnchanged at h15; all_goals
          refine vwp_skip ?_
          refine hK41 _ ?_
          try clear hK41 K41
          refine vwp_sq [0, 12, 15, 92, 93] fun K54 hK54 => vwp_region hT ?_
          simp [hEl]
          refine hK54 _ ?_
          try clear hK54 K54
          refine vwp_block ?_
          refine vwp_loop_s (fun k : Nat => ⟨[(0, sI s), (12, .sl 2 s.length 1 0 s.length), (15, .int .i64 (i : Int)), (92, .int .i64 s.length), (93, .int .i64 (i : Int)), (116, .int .i64 s.length), (117, .int .i64 (k : Int))], [.live (w.map (.int .i64)), .live (G.map (.int .i64)), .live (E.map (.int .i64))]⟩) (fun k => k ≤ s.length) (fun k => s.length - k) (0) (Gh.to_k [0, 12, 15, 92, 93, 116, 117] [0, 1, 2]) (by omega) ?_
          rintro k hk
          intro K55 hK55
          refine vwp_sq [0, 12, 15, 92, 93, 116, 117] fun K56 hK56 => vwp_region hT ?_
          simp
          refine hK56 _ ?_
          try clear hK56 K56
          refine vwp_seq_k fun K57 hK57 => ?_
          refine vwp_cond (by first | rfl | (simp; rfl)) (fun h16 => ?_) fun h16 => ?_
          · simp -failIfUnchanged at h16; all_goals
           refine vwp_skip ?_
           refine hK57 _ ?_
           try clear hK57 K57
           refine vwp_seq_k fun K58 hK58 => ?_
           refine vwp_block ?_
           refine vwp_sq [0, 12, 15, 92, 93, 116, 117] fun K59 hK59 => vwp_region hT ?_
           simp
           refine hK59 _ ?_
           try clear hK59 K59
           refine vwp_seq_k fun K60 hK60 => ?_
           obtain ⟨x3, hx3⟩ := getI (l := s) (i := k) (by omega)
           have hxd3 := getD_of hx3
           obtain ⟨e3, he3⟩ := getI (l := E) (i := k) (by omega)
           have hee3 : e3 = exAt s.length G (p2 s.length) k := by
             have q := exactL_get (g := G) (i := k) (m := s.length) (by omega)
             rw [← hE, he3] at q
             exact Option.some.inj q
           by_cases hxx : x = x3
           · have hef : e = e3 := by rw [hee, hee3, hG]; exact alike h6 (by omega) (by omega) (by rw [hxd, hxd3, hxx])
             refine vwp_live [0, 12, 15, 16, 92, 93, 116, 117] (vwp_still hT hm (by kernel_rfl) ?_)
             simp [hEl, hx, hx3, he, he3, hxx, hef]
             repeat refine ⟨by first | assumption | omega | (intros; omega), ?_⟩
             refine hK60 _ ?_
             try clear hK60 K60
             refine vwp_cond (by first | rfl | (simp; rfl)) (fun h17 => ?_) fun h17 => ?_
             · simp -failIfUnchanged at h17; all_goals
              refine vwp_seq_k fun K61 hK61 => ?_
              simp at *
             · simp -failIfUnchanged at h17; all_goals
              refine vwp_skip ?_
              refine hK58 _ ?_
              try clear hK58 K58
              have w1 : IntKind.i64.wrap (((k : Int) : Int) + 1) = k + 1 := w64 (by omega) (by omega)
              refine vwp_live [0, 12, 15, 92, 93, 116, 117] (vwp_region hT ?_)
              simp [w1]
              exact hK55 (k + 1) _ (Gh.to_k [0, 12, 15, 92, 93, 116, 117] [0, 1, 2]) (by omega) (by omega)
           · refine vwp_live [0, 12, 15, 16, 92, 93, 116, 117] (vwp_still hT hm (by kernel_rfl) ?_)
             simp [hEl, hx, hx3, he, he3, hxx]
             repeat refine ⟨by first | assumption | omega | (intros; omega), ?_⟩
             refine hK60 _ ?_
             try clear hK60 K60
             refine vwp_cond (by first | rfl | (simp; rfl)) (fun h18 => ?_) fun h18 => ?_
             · simp -failIfUnchanged at h18; all_goals
              refine vwp_seq_k fun K62 hK62 => ?_
              simp at *
             · simp -failIfUnchanged at h18; all_goals
              refine vwp_skip ?_
              refine hK58 _ ?_
              try clear hK58 K58
              have w1 : IntKind.i64.wrap (((k : Int) : Int) + 1) = k + 1 := w64 (by omega) (by omega)
              refine vwp_live [0, 12, 15, 92, 93, 116, 117] (vwp_region hT ?_)
              simp [w1]
              exact hK55 (k + 1) _ (Gh.to_k [0, 12, 15, 92, 93, 116, 117] [0, 1, 2]) (by omega) (by omega)
          · simp -failIfUnchanged at h16; all_goals
           refine vwp_exit ?_
           simp only [inBlk, thenQ, if_true]
           refine hK39 _ ?_
           try clear hK39 K39
           have w1 : IntKind.i64.wrap (((i : Int) : Int) + 1) = i + 1 := w64 (by omega) (by omega)
           refine vwp_live [0, 12, 92, 93] (vwp_region hT ?_)
           simp [w1]
           exact hK36 (i + 1) _ (Gh.to_k [0, 12, 92, 93] [0, 1, 2]) (by omega) (by omega)
       · refine vwp_live [0, 12, 15, 92, 93] (vwp_region hT ?_)
         simp [hEl, hx, he, hx1, hx2, he0]
         repeat refine ⟨by first | assumption | omega | (intros; omega), ?_⟩
         refine hK42 _ ?_
         try clear hK42 K42
         refine vwp_cond (by first | rfl | (simp; rfl)) (fun h19 => ?_) fun h19 => ?_
         · simp -failIfUnchanged at h19; all_goals
          refine vwp_seq_k fun K63 hK63 => ?_
          simp at *
         · simp -failIfUnchanged at h19; all_goals
          refine vwp_skip ?_
          refine hK41 _ ?_
          try clear hK41 K41
          refine vwp_sq [0, 12, 15, 92, 93] fun K64 hK64 => vwp_region hT ?_
          simp [hEl]
          refine hK64 _ ?_
          try clear hK64 K64
          refine vwp_block ?_
          refine vwp_loop_s (fun k : Nat => ⟨[(0, sI s), (12, .sl 2 s.length 1 0 s.length), (15, .int .i64 (i : Int)), (92, .int .i64 s.length), (93, .int .i64 (i : Int)), (116, .int .i64 s.length), (117, .int .i64 (k : Int))], [.live (w.map (.int .i64)), .live (G.map (.int .i64)), .live (E.map (.int .i64))]⟩) (fun k => k ≤ s.length) (fun k => s.length - k) (0) (Gh.to_k [0, 12, 15, 92, 93, 116, 117] [0, 1, 2]) (by omega) ?_
          rintro k hk
          intro K65 hK65
          refine vwp_sq [0, 12, 15, 92, 93, 116, 117] fun K66 hK66 => vwp_region hT ?_
          simp
          refine hK66 _ ?_
          try clear hK66 K66
          refine vwp_seq_k fun K67 hK67 => ?_
          refine vwp_cond (by first | rfl | (simp; rfl)) (fun h20 => ?_) fun h20 => ?_
          · simp -failIfUnchanged at h20; all_goals
           refine vwp_skip ?_
           refine hK67 _ ?_
           try clear hK67 K67
           refine vwp_seq_k fun K68 hK68 => ?_
           refine vwp_block ?_
           refine vwp_sq [0, 12, 15, 92, 93, 116, 117] fun K69 hK69 => vwp_region hT ?_
           simp
           refine hK69 _ ?_
           try clear hK69 K69
           refine vwp_seq_k fun K70 hK70 => ?_
           obtain ⟨x3, hx3⟩ := getI (l := s) (i := k) (by omega)
           have hxd3 := getD_of hx3
           obtain ⟨e3, he3⟩ := getI (l := E) (i := k) (by omega)
           have hee3 : e3 = exAt s.length G (p2 s.length) k := by
             have q := exactL_get (g := G) (i := k) (m := s.length) (by omega)
             rw [← hE, he3] at q
             exact Option.some.inj q
           by_cases hxx : x = x3
           · have hef : e = e3 := by rw [hee, hee3, hG]; exact alike h6 (by omega) (by omega) (by rw [hxd, hxd3, hxx])
             refine vwp_live [0, 12, 15, 16, 92, 93, 116, 117] (vwp_still hT hm (by kernel_rfl) ?_)
             simp [hEl, hx, hx3, he, he3, hxx, hef]
             repeat refine ⟨by first | assumption | omega | (intros; omega), ?_⟩
             refine hK70 _ ?_
             try clear hK70 K70
             refine vwp_cond (by first | rfl | (simp; rfl)) (fun h21 => ?_) fun h21 => ?_
             · simp -failIfUnchanged at h21; all_goals
              refine vwp_seq_k fun K71 hK71 => ?_
              simp at *
             · simp -failIfUnchanged at h21; all_goals
              refine vwp_skip ?_
              refine hK68 _ ?_
              try clear hK68 K68
              have w1 : IntKind.i64.wrap (((k : Int) : Int) + 1) = k + 1 := w64 (by omega) (by omega)
              refine vwp_live [0, 12, 15, 92, 93, 116, 117] (vwp_region hT ?_)
              simp [w1]
              exact hK65 (k + 1) _ (Gh.to_k [0, 12, 15, 92, 93, 116, 117] [0, 1, 2]) (by omega) (by omega)
           · refine vwp_live [0, 12, 15, 16, 92, 93, 116, 117] (vwp_still hT hm (by kernel_rfl) ?_)
             simp [hEl, hx, hx3, he, he3, hxx]
             repeat refine ⟨by first | assumption | omega | (intros; omega), ?_⟩
             refine hK70 _ ?_
             try clear hK70 K70
             refine vwp_cond (by first | rfl | (simp; rfl)) (fun h22 => ?_) fun h22 => ?_
             · simp -failIfUnchanged at h22; all_goals
              refine vwp_seq_k fun K72 hK72 => ?_
              simp at *
             · simp -failIfUnchanged at h22; all_goals
              refine vwp_skip ?_
              refine hK68 _ ?_
              try clear hK68 K68
              have w1 : IntKind.i64.wrap (((k : Int) : Int) + 1) = k + 1 := w64 (by omega) (by omega)
              refine vwp_live [0, 12, 15, 92, 93, 116, 117] (vwp_region hT ?_)
              simp [w1]
              exact hK65 (k + 1) _ (Gh.to_k [0, 12, 15, 92, 93, 116, 117] [0, 1, 2]) (by omega) (by omega)
          · simp -failIfUnchanged at h20; all_goals
           refine vwp_exit ?_
           simp only [inBlk, thenQ, if_true]
           refine hK39 _ ?_
           try clear hK39 K39
           have w1 : IntKind.i64.wrap (((i : Int) : Int) + 1) = i + 1 := w64 (by omega) (by omega)
           refine vwp_live [0, 12, 92, 93] (vwp_region hT ?_)
           simp [w1]
           exact hK36 (i + 1) _ (Gh.to_k [0, 12, 92, 93] [0, 1, 2]) (by omega) (by omega)
      · simp -failIfUnchanged at h10; all_goals
       refine vwp_exit ?_
       simp only [inBlk, thenQ, if_true]
       refine hK34 _ ?_
       try clear hK34 K34
       refine vwp_sq [] fun K73 hK73 => vwp_region hT ?_
       simp
       refine hK73 _ ?_
       try clear hK73 K73
       refine vwp_ret (hR _ _ ?_)
       exact ret_k [4] [] ([]) (.bool true) (rfl)
end Go.Proofs.Ythjpaongoflgiaa
