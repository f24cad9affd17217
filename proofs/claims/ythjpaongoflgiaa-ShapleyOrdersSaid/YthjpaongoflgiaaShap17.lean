/- What all add, together. -/
import Derived.Test.YthjpaongoflgiaaShap16
import Derived.Test.YthjpaongoflgiaaShapQ3
namespace Go.Proofs.Ythjpaongoflgiaa
open Go Go.VX Go.RowKit
set_option linter.unusedVariables false
set_option linter.unusedSimpArgs false
set_option maxHeartbeats 20000000
set_option maxRecDepth 100000

theorem exU_no {n : Int} {g : List Int} (h : mayB n g = false) : exU n g = [] ∧ exN n g = 0 ∧ exE n g = 1 := by simp [exU, exN, exE, h]
theorem exU_yes {m : Nat} {g : List Int} (h : mayB (m : Int) g = true) : exU m g = exactL m g ∧ exN m g = fct m ∧ exE m g = 0 := by simp [exU, exN, exE, h]
theorem saU_no {n : Int} {g : List Int} {os : List (List Int)} (h : sampE n g os ≠ 0) : saU n g os = [] ∧ saN n g os = 0 := by simp [saU, saN, h]
theorem saU_yes {m : Nat} {g : List Int} {os : List (List Int)} (h : sampE (m : Int) g os = 0) : saU m g os = sampL m g os ∧ saN m g os = os.length := by simp [saU, saN, h]
theorem mayB_0 {n : Int} {g : List Int} (h : mayB n g = true) : g[0]? = some 0 := by
  simp only [mayB, Bool.and_eq_true, decide_eq_true_eq] at h
  exact h.1.2
theorem sampE_all {n : Int} {g : List Int} {os : List (List Int)} (h : sampE n g os = 0) : (∀ l ∈ os, isB n l = true) ∧ os.length ≤ 1000 := by
  have hm := sampE_may h
  by_cases h2 : os = [] ∨ 1000 < os.length
  · rw [sampE_2 hm h2] at h; cases h
  · constructor
    · intro l hl
      cases hb : isB n l with
      | true => rfl
      | false => rw [sampE_3 hm h2 hl hb] at h; cases h
    · rcases Nat.lt_or_ge 1000 os.length with q | q
      · exact absurd (.inr q) h2
      · exact q
theorem exactL_length (m : Nat) (g : List Int) : (exactL m g).length = m := by simp [exactL]
theorem shapleyWhole_spec (n : Int) (g : List Int) (os : List (List Int)) (hg : g.length ≤ 140737488355328) (ho : os.length ≤ 140737488355328) (hos : ∀ l ∈ os, l.length ≤ 140737488355328) : VC P 7 [.int .i64 n, sI g, sLL os] [] (fun r ob' => r = .bool true) := by
  refine VC_of_vwp_k ent_7 Try.func7 rfl (by simp) fun R hR => ?_
  refine vwp_sq [0, 1, 2] fun K1 hK1 => vwp_region hT ?_
  simp
  refine hK1 _ ?_
  try clear hK1 K1
  refine vwp_seq_k fun K2 hK2 => ?_
  refine vwp_sq [0, 1, 2] fun K3 hK3 => vwp_region hT ?_
  simp
  refine vcall_k [] (awake_spec) ?_
  rintro r ob' ⟨rfl, rfl⟩
  simp
  refine hK3 _ ?_
  try clear hK3 K3
  refine vwp_cond (by first | rfl | (simp; rfl)) (fun h1 => ?_) fun h1 => ?_
  · simp -failIfUnchanged at h1; all_goals
   refine vwp_seq_k fun K4 hK4 => ?_
   simp at *
  · simp -failIfUnchanged at h1; all_goals
   refine vwp_skip ?_
   refine hK2 _ ?_
   try clear hK2 K2
   refine vwp_seq_k fun K5 hK5 => ?_
   refine vwp_sq [0, 1, 2] fun K6 hK6 => vwp_region hT ?_
   simp
   refine vcall_k [] (large_spec g os hg ho hos) ?_
   rintro r ob' ⟨b, rfl, rfl, hb⟩
   simp
   refine hK6 _ ?_
   try clear hK6 K6
   refine vwp_cond (by first | rfl | (simp; rfl)) (fun h2 => ?_) fun h2 => ?_
   · simp -failIfUnchanged at h2; all_goals
    refine vwp_sq [] fun K7 hK7 => vwp_region hT ?_
    simp
    refine hK7 _ ?_
    try clear hK7 K7
    refine vwp_ret (hR _ _ ?_)
    exact ret_k [6] [] ([]) (.bool true) (rfl)
   · simp -failIfUnchanged at h2; all_goals
    obtain ⟨hg2, ho2, hos2⟩ := hb (by simpa using h2)
    have hos3 : ∀ l ∈ os, l.length < 1099511627776 := fun l hl => by have := hos2 l hl; omega
    have hosu := osU_small n
    refine vwp_skip ?_
    refine hK5 _ ?_
    try clear hK5 K5
    refine vwp_sq [0, 1, 2] fun K8 hK8 => vwp_region hT ?_
    simp
    refine vcall_k [] (exact_u n g (by omega)) ?_
    rintro r ob' ⟨rfl, rfl⟩
    simp
    refine hK8 _ ?_
    try clear hK8 K8
    refine vwp_sq [0, 1, 2, 7, 8, 9] fun K9 hK9 => vwp_region hT ?_
    simp
    refine vcall_k [] (samp_u n g os (by omega) (by omega) hos3) ?_
    rintro r ob' ⟨rfl, rfl⟩
    simp
    refine hK9 _ ?_
    try clear hK9 K9
    refine vwp_seq_k fun K10 hK10 => ?_
    refine vwp_seq_k fun K11 hK11 => ?_
    rcases hm0 : mayB n g with _ | _
    · obtain ⟨e1, e2, e3⟩ := exU_no hm0
      have e4 : sampE n g os ≠ 0 := by rw [sampE_1 hm0]; decide
      obtain ⟨e5, e6⟩ := saU_no e4
      refine vwp_live [0, 1, 2, 7, 8, 9, 10, 11, 12] (vwp_region hT ?_)
      simp [e1, e2, e3, e5, e6]
      refine hK11 _ ?_
      try clear hK11 K11
      refine vwp_cond (by first | rfl | (simp; rfl)) (fun h3 => ?_) fun h3 => ?_
      · simp -failIfUnchanged at h3; all_goals
       refine vwp_sq [7, 10] fun K12 hK12 => vwp_region hT ?_
       simp
       refine hK12 _ ?_
       try clear hK12 K12
       refine vwp_ret (hR _ _ ?_)
       exact ret_k [6] [] ([]) (.bool true) (rfl)
      · simp -failIfUnchanged at h3; all_goals
       refine vwp_skip ?_
       refine hK10 _ ?_
       try clear hK10 K10
       refine vwp_seq_k fun K13 hK13 => ?_
       simp at *
    · obtain ⟨m, rfl, hm6, hgl, hgb⟩ := mayB_m hm0
      obtain ⟨e1, e2, e3⟩ := exU_yes hm0
      have hpm := p2_le m hm6
      have hEl := exactL_length m g
      have hB1 := exact_bound hm6 hgl hgb
      obtain ⟨E, hE⟩ : ∃ E, E = exactL m g := ⟨_, rfl⟩
      rw [← hE] at e1 hEl hB1
      obtain ⟨S, hS⟩ : ∃ S, S = saU m g os := ⟨_, rfl⟩
      obtain ⟨sn, hsn⟩ : ∃ sn, sn = saN m g os := ⟨_, rfl⟩
      obtain ⟨se, hse⟩ : ∃ se, se = sampE m g os := ⟨_, rfl⟩
      rw [← hS, ← hsn, ← hse]
      refine vwp_live [0, 1, 2, 7, 8, 9, 10, 11, 12] (vwp_region hT ?_)
      simp [e1, e2, e3]
      refine hK11 _ ?_
      try clear hK11 K11
      refine vwp_cond (by first | rfl | (simp; rfl)) (fun h4 => ?_) fun h4 => ?_
      · simp -failIfUnchanged at h4; all_goals
       refine vwp_seq_k fun K14 hK14 => ?_
       simp at *
      · simp -failIfUnchanged at h4; all_goals
       refine vwp_skip ?_
       refine hK10 _ ?_
       try clear hK10 K10
       obtain ⟨wv, hwv⟩ := getI (l := g) (i := p2 m - 1) (by have := p2_pos m; omega)
       have hp := p2_pos m
       have hg1 : ((p2 m : Int) - 1).toNat = p2 m - 1 := by omega
       have w2 : IntKind.i64.wrap ((p2 m : Int) - 1) = (p2 m : Int) - 1 := w64 (by omega) (by omega)
       have hsumE := exact_sum hm6 (mayB_0 hm0) hwv
       rw [← hE] at hsumE
       refine vwp_sq [0, 1, 2, 7, 8, 10, 11, 12] fun K15 hK15 => vwp_region hT ?_
       simp [w2, hg1, hwv, hgl]
       repeat refine ⟨by first | assumption | omega | (intros; omega), ?_⟩
       refine hK15 _ ?_
       try clear hK15 K15
       refine vwp_sq [0, 1, 2, 7, 8, 10, 11, 12, 13] fun K16 hK16 => vwp_region hT ?_
       simp
       refine hK16 _ ?_
       try clear hK16 K16
       refine vwp_seq_k fun K17 hK17 => ?_
       refine vwp_sq [0, 1, 2, 7, 8, 10, 11, 12, 13, 14] fun K18 hK18 => vwp_region hT ?_
       simp
       refine hK18 _ ?_
       try clear hK18 K18
       refine vwp_block ?_
       refine vwp_loop_s (fun i : Nat => ⟨[(0, .int .i64 m), (1, sI g), (2, sLL os), (7, .sl 0 E.length 1 0 E.length), (8, .int .i64 (fct m : Int)), (10, .sl 1 S.length 1 0 S.length), (11, .int .i64 sn), (12, .int .i64 se), (13, .int .i64 wv), (14, .int .i64 (E.take i).sum), (58, .sl 0 E.length 1 0 E.length), (59, .int .i64 E.length), (60, .int .i64 (i : Int))], [.live (E.map (.int .i64)), .live (S.map (.int .i64))]⟩) (fun i => i ≤ E.length) (fun i => E.length - i) (0) (Gh.to_k [0, 1, 2, 7, 8, 10, 11, 12, 13, 14, 58, 59, 60] [0, 1] (he := by simp)) (by omega) ?_
       rintro i hi
       intro K19 hK19
       refine vwp_sq [0, 1, 2, 7, 8, 10, 11, 12, 13, 14, 58, 59, 60] fun K20 hK20 => vwp_region hT ?_
       simp
       refine hK20 _ ?_
       try clear hK20 K20
       refine vwp_seq_k fun K21 hK21 => ?_
       refine vwp_cond (by first | rfl | (simp; rfl)) (fun h5 => ?_) fun h5 => ?_
       · simp -failIfUnchanged at h5; all_goals
        refine vwp_skip ?_
        refine hK21 _ ?_
        try clear hK21 K21
        refine vwp_seq_k fun K22 hK22 => ?_
        refine vwp_block ?_
        obtain ⟨y, hy⟩ := getI (l := E) (i := i) (by omega)
        refine vwp_sq [0, 1, 2, 7, 8, 10, 11, 12, 13, 14, 58, 59, 60] fun K23 hK23 => vwp_region hT ?_
        simp [hy]
        repeat refine ⟨by first | assumption | omega | (intros; omega), ?_⟩
        refine hK23 _ ?_
        try clear hK23 K23
        have hs1 := take_sum hy
        have hb1 := take_sum_bound (l := E) (B := 13194139533312000) (by omega) hB1 i (by omega)
        have hy2 := hB1 y (List.mem_of_getElem? hy)
        have w2 : IntKind.i64.wrap ((E.take i).sum + y) = (E.take i).sum + y := w64 (by omega) (by omega)
        refine vwp_live [0, 1, 2, 7, 8, 10, 11, 12, 13, 14, 16, 58, 59, 60] (vwp_region hT ?_)
        simp [w2]
        refine hK22 _ ?_
        try clear hK22 K22
        have w1 : IntKind.i64.wrap ((i : Int) + 1) = i + 1 := w64 (by omega) (by omega)
        refine vwp_live [0, 1, 2, 7, 8, 10, 11, 12, 13, 14, 58, 59, 60] (vwp_region hT ?_)
        simp [w1]
        exact hK19 (i + 1) _ (Gh.to_k [0, 1, 2, 7, 8, 10, 11, 12, 13, 14, 58, 59, 60] [0, 1] (he := by simp [hs1])) (by omega) (by omega)
       · simp -failIfUnchanged at h5; all_goals
        refine vwp_exit ?_
        simp only [inBlk, thenQ, if_true]
        refine hK17 _ ?_
        try clear hK17 K17
        refine vwp_seq_k fun K24 hK24 => ?_
        have e : i = E.length := by omega
        subst e
        have hb1 := take_sum_bound (l := E) (B := 13194139533312000) (by omega) hB1 E.length (by omega)
        rw [List.take_length, hsumE] at hb1 ⊢
        have w2 : IntKind.i64.wrap ((fct m : Int) * wv) = (fct m : Int) * wv := w64 (by omega) (by omega)
        refine vwp_sq [0, 1, 2, 7, 8, 10, 11, 12, 13, 14] fun K25 hK25 => vwp_region hT ?_
        simp [w2, hEl]
        refine hK25 _ ?_
        try clear hK25 K25
        refine vwp_cond (by first | rfl | (simp; rfl)) (fun h6 => ?_) fun h6 => ?_
        · simp -failIfUnchanged at h6; all_goals
         refine vwp_seq_k fun K26 hK26 => ?_
         simp at *
        · simp -failIfUnchanged at h6; all_goals
         refine vwp_skip ?_
         refine hK24 _ ?_
         try clear hK24 K24
         refine vwp_seq_k fun K27 hK27 => ?_
         refine vwp_sq [0, 1, 2, 7, 8, 10, 11, 12, 13] fun K28 hK28 => vwp_region hT ?_
         simp
         repeat refine ⟨by first | assumption | omega | (intros; omega), ?_⟩
         refine hK28 _ ?_
         try clear hK28 K28
         refine vwp_cond (by first | rfl | (simp; rfl)) (fun h7 => ?_) fun h7 => ?_
         · simp -failIfUnchanged at h7; all_goals
          have hos4 := orders_small hm6
          have e10 := orders_sampE hm0
          obtain ⟨e8, e9⟩ := saU_yes e10
          rw [← exact_samp g hm6, ← hE] at e8
          rw [ordersL_len] at e9
          refine vwp_sq [0, 1, 7, 8, 10, 11, 12, 13] fun K29 hK29 => vwp_region hT ?_
          simp [e8, e9, e10]
          refine vcall_k [] (orders_spec m hm6) ?_
          rintro r ob' ⟨rfl, rfl⟩
          simp [e8, e9, e10]
          refine vcall_freeze 2 (by rfl) (by intro c hc; simp at hc; obtain ⟨z, _, rfl⟩ := hc; rfl) ?_
          refine vcall_k [] (samp_u m g (ordersL m) (by omega) hos4.1 hos4.2.1) ?_
          rintro r ob' ⟨rfl, rfl⟩
          simp [e8, e9, e10]
          refine hK29 _ ?_
          try clear hK29 K29
          refine vwp_sq [7, 8, 10, 11, 12, 13, 17, 18, 19] fun K30 hK30 => vwp_region hT ?_
          simp
          refine vcall_z [] (ints_spec E E (by omega) (by omega)) (by rintro r ob' ⟨rfl, rfl⟩; simp) ?_ (ha := by simp [hEl, List.take_of_length_le]) (hok := by simp [hEl])
          rintro r ob' ⟨rfl, rfl⟩
          simp
          refine hK30 _ ?_
          try clear hK30 K30
          refine vwp_cond (by first | rfl | (simp; rfl)) (fun h8 => ?_) fun h8 => ?_
          · simp -failIfUnchanged at h8; all_goals
           refine vwp_seq_k fun K31 hK31 => ?_
           simp at *
          · simp -failIfUnchanged at h8; all_goals
           refine vwp_skip ?_
           refine hK27 _ ?_
           try clear hK27 K27
           refine vwp_seq_k fun K32 hK32 => ?_
           refine vwp_sq [10, 11, 12, 13] fun K33 hK33 => vwp_region hT ?_
           simp
           refine hK33 _ ?_
           try clear hK33 K33
           refine vwp_cond (by first | rfl | (simp; rfl)) (fun h9 => ?_) fun h9 => ?_
           · simp -failIfUnchanged at h9; all_goals
            have h0 : se ≠ 0 := h9
            rw [hse] at h0
            have hS0 := (saU_no h0).1
            rw [← hS] at hS0
            refine vwp_sq [10] fun K34 hK34 => vwp_region hT ?_
            simp [hS0]
            refine hK34 _ ?_
            try clear hK34 K34
            refine vwp_ret (hR _ _ ?_)
            exact ret_k [6] [] ([]) (.bool true) (rfl)
           · simp -failIfUnchanged at h9; all_goals
            have h0 : se = 0 := by simpa using h9
            rw [hse] at h0
            obtain ⟨hS1, hS2⟩ := saU_yes h0
            rw [← hS] at hS1
            rw [← hsn] at hS2
            obtain ⟨hall, hlen⟩ := sampE_all h0
            have hB2 := sampL_bound hm6 hgl hgb hall hlen
            rw [← hS1] at hB2
            have hsumS := sampL_sum (fun l hl => (isB_perm (hall l hl)).2) (mayB_0 hm0) hwv
            rw [← hS1, ← hS2] at hsumS
            have hSl : S.length ≤ 6 := by rw [hS]; exact saU_len m g os
            refine vwp_skip ?_
            refine hK32 _ ?_
            try clear hK32 K32
            refine vwp_sq [10, 11, 13] fun K35 hK35 => vwp_region hT ?_
            simp
            refine hK35 _ ?_
            try clear hK35 K35
            refine vwp_seq_k fun K36 hK36 => ?_
            refine vwp_sq [10, 11, 13, 14] fun K37 hK37 => vwp_region hT ?_
            simp
            refine hK37 _ ?_
            try clear hK37 K37
            refine vwp_block ?_
            refine vwp_loop_s (fun i : Nat => ⟨[(11, .int .i64 sn), (13, .int .i64 wv), (14, .int .i64 (S.take i).sum), (114, .sl 1 S.length 1 0 S.length), (115, .int .i64 S.length), (116, .int .i64 (i : Int))], [.live (E.map (.int .i64)), .live (S.map (.int .i64))]⟩) (fun i => i ≤ S.length) (fun i => S.length - i) (0) (Gh.to_k [11, 13, 14, 114, 115, 116] [0, 1] (he := by simp)) (by omega) ?_
            rintro i hi
            intro K38 hK38
            refine vwp_sq [11, 13, 14, 114, 115, 116] fun K39 hK39 => vwp_region hT ?_
            simp
            refine hK39 _ ?_
            try clear hK39 K39
            refine vwp_seq_k fun K40 hK40 => ?_
            refine vwp_cond (by first | rfl | (simp; rfl)) (fun h10 => ?_) fun h10 => ?_
            · simp -failIfUnchanged at h10; all_goals
             refine vwp_skip ?_
             refine hK40 _ ?_
             try clear hK40 K40
             refine vwp_seq_k fun K41 hK41 => ?_
             refine vwp_block ?_
             obtain ⟨y, hy⟩ := getI (l := S) (i := i) (by omega)
             refine vwp_sq [11, 13, 14, 114, 115, 116] fun K42 hK42 => vwp_region hT ?_
             simp [hy]
             repeat refine ⟨by first | assumption | omega | (intros; omega), ?_⟩
             refine hK42 _ ?_
             try clear hK42 K42
             have hs2 := take_sum hy
             have hb1 := take_sum_bound (l := S) (B := 13194139533312000) (by omega) hB2 i (by omega)
             have hy2 := hB2 y (List.mem_of_getElem? hy)
             have w2 : IntKind.i64.wrap ((S.take i).sum + y) = (S.take i).sum + y := w64 (by omega) (by omega)
             refine vwp_live [11, 13, 14, 21, 114, 115, 116] (vwp_region hT ?_)
             simp [w2]
             refine hK41 _ ?_
             try clear hK41 K41
             have w1 : IntKind.i64.wrap ((i : Int) + 1) = i + 1 := w64 (by omega) (by omega)
             refine vwp_live [11, 13, 14, 114, 115, 116] (vwp_region hT ?_)
             simp [w1]
             exact hK38 (i + 1) _ (Gh.to_k [11, 13, 14, 114, 115, 116] [0, 1] (he := by simp [hs2])) (by omega) (by omega)
            · simp -failIfUnchanged at h10; all_goals
             refine vwp_exit ?_
             simp only [inBlk, thenQ, if_true]
             refine hK36 _ ?_
             try clear hK36 K36
             have e : i = S.length := by omega
             subst e
             have hb1 := take_sum_bound (l := S) (B := 13194139533312000) (by omega) hB2 S.length (by omega)
             rw [List.take_length, hsumS] at hb1 ⊢
             have w2 : IntKind.i64.wrap (sn * wv) = sn * wv := w64 (by omega) (by omega)
             refine vwp_sq [11, 13, 14] fun K43 hK43 => vwp_region hT ?_
             simp [w2]
             refine hK43 _ ?_
             try clear hK43 K43
             refine vwp_ret (hR _ _ ?_)
             exact ret_k [6] [] ([]) (.bool true) (rfl)
         · simp -failIfUnchanged at h7; all_goals
          refine vwp_skip ?_
          refine hK27 _ ?_
          try clear hK27 K27
          refine vwp_seq_k fun K44 hK44 => ?_
          refine vwp_sq [10, 11, 12, 13] fun K45 hK45 => vwp_region hT ?_
          simp
          refine hK45 _ ?_
          try clear hK45 K45
          refine vwp_cond (by first | rfl | (simp; rfl)) (fun h11 => ?_) fun h11 => ?_
          · simp -failIfUnchanged at h11; all_goals
           have h0 : se ≠ 0 := h11
           rw [hse] at h0
           have hS0 := (saU_no h0).1
           rw [← hS] at hS0
           refine vwp_sq [10] fun K46 hK46 => vwp_region hT ?_
           simp [hS0]
           refine hK46 _ ?_
           try clear hK46 K46
           refine vwp_ret (hR _ _ ?_)
           exact ret_k [6] [] ([]) (.bool true) (rfl)
          · simp -failIfUnchanged at h11; all_goals
           have h0 : se = 0 := by simpa using h11
           rw [hse] at h0
           obtain ⟨hS1, hS2⟩ := saU_yes h0
           rw [← hS] at hS1
           rw [← hsn] at hS2
           obtain ⟨hall, hlen⟩ := sampE_all h0
           have hB2 := sampL_bound hm6 hgl hgb hall hlen
           rw [← hS1] at hB2
           have hsumS := sampL_sum (fun l hl => (isB_perm (hall l hl)).2) (mayB_0 hm0) hwv
           rw [← hS1, ← hS2] at hsumS
           have hSl : S.length ≤ 6 := by rw [hS]; exact saU_len m g os
           refine vwp_skip ?_
           refine hK44 _ ?_
           try clear hK44 K44
           refine vwp_sq [10, 11, 13] fun K47 hK47 => vwp_region hT ?_
           simp
           refine hK47 _ ?_
           try clear hK47 K47
           refine vwp_seq_k fun K48 hK48 => ?_
           refine vwp_sq [10, 11, 13, 14] fun K49 hK49 => vwp_region hT ?_
           simp
           refine hK49 _ ?_
           try clear hK49 K49
           refine vwp_block ?_
           refine vwp_loop_s (fun i : Nat => ⟨[(11, .int .i64 sn), (13, .int .i64 wv), (14, .int .i64 (S.take i).sum), (114, .sl 1 S.length 1 0 S.length), (115, .int .i64 S.length), (116, .int .i64 (i : Int))], [.live (E.map (.int .i64)), .live (S.map (.int .i64))]⟩) (fun i => i ≤ S.length) (fun i => S.length - i) (0) (Gh.to_k [11, 13, 14, 114, 115, 116] [0, 1] (he := by simp)) (by omega) ?_
           rintro i hi
           intro K50 hK50
           refine vwp_sq [11, 13, 14, 114, 115, 116] fun K51 hK51 => vwp_region hT ?_
           simp
           refine hK51 _ ?_
           try clear hK51 K51
           refine vwp_seq_k fun K52 hK52 => ?_
           refine vwp_cond (by first | rfl | (simp; rfl)) (fun h12 => ?_) fun h12 => ?_
           · simp -failIfUnchanged at h12; all_goals
            refine vwp_skip ?_
            refine hK52 _ ?_
            try clear hK52 K52
            refine vwp_seq_k fun K53 hK53 => ?_
            refine vwp_block ?_
            obtain ⟨y, hy⟩ := getI (l := S) (i := i) (by omega)
            refine vwp_sq [11, 13, 14, 114, 115, 116] fun K54 hK54 => vwp_region hT ?_
            simp [hy]
            repeat refine ⟨by first | assumption | omega | (intros; omega), ?_⟩
            refine hK54 _ ?_
            try clear hK54 K54
            have hs2 := take_sum hy
            have hb1 := take_sum_bound (l := S) (B := 13194139533312000) (by omega) hB2 i (by omega)
            have hy2 := hB2 y (List.mem_of_getElem? hy)
            have w2 : IntKind.i64.wrap ((S.take i).sum + y) = (S.take i).sum + y := w64 (by omega) (by omega)
            refine vwp_live [11, 13, 14, 21, 114, 115, 116] (vwp_region hT ?_)
            simp [w2]
            refine hK53 _ ?_
            try clear hK53 K53
            have w1 : IntKind.i64.wrap ((i : Int) + 1) = i + 1 := w64 (by omega) (by omega)
            refine vwp_live [11, 13, 14, 114, 115, 116] (vwp_region hT ?_)
            simp [w1]
            exact hK50 (i + 1) _ (Gh.to_k [11, 13, 14, 114, 115, 116] [0, 1] (he := by simp [hs2])) (by omega) (by omega)
           · simp -failIfUnchanged at h12; all_goals
            refine vwp_exit ?_
            simp only [inBlk, thenQ, if_true]
            refine hK48 _ ?_
            try clear hK48 K48
            have e : i = S.length := by omega
            subst e
            have hb1 := take_sum_bound (l := S) (B := 13194139533312000) (by omega) hB2 S.length (by omega)
            rw [List.take_length, hsumS] at hb1 ⊢
            have w2 : IntKind.i64.wrap (sn * wv) = sn * wv := w64 (by omega) (by omega)
            refine vwp_sq [11, 13, 14] fun K55 hK55 => vwp_region hT ?_
            simp [w2]
            refine hK55 _ ?_
            try clear hK55 K55
            refine vwp_ret (hR _ _ ?_)
            exact ret_k [6] [] ([]) (.bool true) (rfl)
end Go.Proofs.Ythjpaongoflgiaa
