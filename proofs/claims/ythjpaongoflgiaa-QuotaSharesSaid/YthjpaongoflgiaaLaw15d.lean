/- QuotaShares: what it answers. -/
import Derived.Test.YthjpaongoflgiaaLaw15a
namespace Go.Proofs.Ythjpaongoflgiaa
open Go Go.VX Go.RowKit
set_option linter.unusedVariables false
set_option linter.unusedSimpArgs false
set_option maxHeartbeats 20000000
set_option maxRecDepth 100000
open Go.VX.Rk Go.VX.Srt

theorem shareN_facts {w q : List Int} {t e : Int} (h : shareN t w = (some q, e)) : e = 0 ∧ w.length ≤ 100 ∧ 0 ≤ t ∧ t ≤ 1099511627776 ∧ (∀ n ∈ w, 0 ≤ n ∧ n ≤ 1099511627776) ∧ ((t = 0 ∧ q = List.replicate w.length 0) ∨ (0 < t ∧ 0 < w.sum ∧ q = fr (w.map (t * ·)) w.sum)) := by
  unfold shareN at h
  split at h
  · cases h
  split at h
  · cases h
  rename_i h1 h2
  have hin : inB 0 1099511627776 w = true := by
    by_cases q : inB 0 1099511627776 w = true
    · exact q
    · exact absurd (.inr (.inr (by simpa using q))) h2
  have hin1 := inB_iff.1 hin
  split at h
  · rename_i h3
    cases h
    exact ⟨rfl, by omega, by omega, by omega, hin1, .inl ⟨h3, rfl⟩⟩
  split at h
  · cases h
  · rename_i h3 h4
    cases h
    have := (sum_bounds hin1).1
    exact ⟨rfl, by omega, by omega, by omega, hin1, .inr ⟨by omega, by omega, rfl⟩⟩
theorem shareN_none {t : Int} {w : List Int} {e : Int} (h : shareN t w = (none, e)) : e ≠ 0 := by
  unfold shareN at h
  split at h
  · cases h; decide
  split at h
  · cases h; decide
  split at h
  · cases h
  split at h
  · cases h; decide
  · cases h
theorem fill_set {W : List Int} {i : Nat} {y : Int} (h : W[i]? = some y) : (W.take i ++ List.replicate (W.length - i) 0).set i y = W.take (i + 1) ++ List.replicate (W.length - (i + 1)) 0 := by
  obtain ⟨hi, _⟩ := List.getElem?_eq_some_iff.1 h
  rw [List.set_append_right _ _ (by simp; omega), take_snoc h]
  have e1 : i - (W.take i).length = 0 := by simp; omega
  have e2 : W.length - i = (W.length - (i + 1)) + 1 := by omega
  rw [e1, e2, List.replicate_succ, List.set_cons_zero]
  simp
theorem shares_scale {w q q2 : List Int} {t e e2 m : Int} (hm : 0 < m) (h : shareN t w = (some q, e)) (h2 : shareN t (w.map (· * m)) = (some q2, e2)) : q2 = q := by
  obtain ⟨_, _, _, _, _, a⟩ := shareN_facts h
  obtain ⟨_, _, _, _, _, b⟩ := shareN_facts h2
  have e1 : (w.map (· * m)).map (t * ·) = (w.map (t * ·)).map (· * m) := by
    simp only [List.map_map]
    exact List.map_congr_left fun x _ => by simp [Int.mul_assoc]
  rcases a with ⟨a1, rfl⟩ | ⟨a1, a2, rfl⟩
  · rcases b with ⟨_, rfl⟩ | ⟨b1, _, _⟩
    · simp
    · omega
  · rcases b with ⟨b1, _⟩ | ⟨_, _, rfl⟩
    · omega
    · rw [e1, sum_scale, fr_scale a2 hm]
theorem mul_mod_sum (w : List Int) (t : Int) : (w.map (t * ·)).sum % w.sum = 0 := by rw [sum_mul]; exact Int.mul_emod_left _ _
theorem quotaShares_spec (total : Int) (w : List Int) (hl : w.length < 9223372036854775807) (times : Int) : VC P 5 [.int .i64 total, sI w, .int .i64 times] [] (fun r ob' => r = .bool true) := by
  refine VC_of_vwp_k ent_5 Try.func5 rfl (by simp) fun R hR => ?_
  refine vwp_sq [0, 1, 2] fun K1 hK1 => vwp_region hT ?_
  simp
  refine hK1 _ ?_
  try clear hK1 K1
  refine vwp_seq_k fun K2 hK2 => ?_
  refine vwp_sq [0, 1, 2] fun K3 hK3 => vwp_region hT ?_
  simp
  refine vcall_k [] (awake15_spec) ?_
  rintro r ob' ⟨rfl, rfl⟩
  simp
  refine hK3 _ ?_
  try clear hK3 K3
  refine vwp_cond (by first | rfl | (simp; rfl)) (fun h1 => ?_) fun h1 => ?_
  · simp -failIfUnchanged at h1; all_goals
   refine vwp_sq [] fun K4 hK4 => vwp_region hT ?_
   simp
   refine hK4 _ ?_
   try clear hK4 K4
   refine vwp_ret (hR _ _ ?_)
   exact ret_k [6] [] ([]) (.bool true) (rfl)
  · simp -failIfUnchanged at h1; all_goals
   refine vwp_skip ?_
   refine hK2 _ ?_
   try clear hK2 K2
   refine vwp_seq_k fun K5 hK5 => ?_
   refine vwp_sq [0, 1, 2] fun K6 hK6 => vwp_region hT ?_
   simp
   refine hK6 _ ?_
   try clear hK6 K6
   refine vwp_cond (by first | rfl | (simp; rfl)) (fun h2 => ?_) fun h2 => ?_
   · simp -failIfUnchanged at h2; all_goals
    refine vwp_sq [] fun K7 hK7 => vwp_region hT ?_
    simp
    refine hK7 _ ?_
    try clear hK7 K7
    refine vwp_ret (hR _ _ ?_)
    exact ret_k [6] [] ([]) (.bool true) (rfl)
   · simp -failIfUnchanged at h2; all_goals
    have hg := h2
    refine vwp_skip ?_
    refine hK5 _ ?_
    try clear hK5 K5
    refine vwp_seq_k fun K8 hK8 => ?_
    rcases hx : shareN total w with ⟨_ | q, e⟩
    · have he := shareN_none hx
      refine vwp_live [0, 1, 2] (vwp_region hT ?_)
      simp
      refine vcall_z [] (qshare_spec total w hl) resI_nofz ?_
      rintro r ob' hr
      rw [hx] at hr
      obtain ⟨rfl, rfl⟩ := hr
      simp
      refine hK8 _ ?_
      try clear hK8 K8
      refine vwp_seq_k fun K9 hK9 => ?_
      refine vwp_sq [0, 1, 2, 7, 8] fun K10 hK10 => vwp_region hT ?_
      simp
      refine hK10 _ ?_
      try clear hK10 K10
      refine vwp_cond (by first | rfl | (simp; rfl)) (fun h3 => ?_) fun h3 => ?_
      · simp -failIfUnchanged at h3; all_goals
       refine vwp_sq [7] fun K11 hK11 => vwp_region hT ?_
       simp
       refine hK11 _ ?_
       try clear hK11 K11
       refine vwp_ret (hR _ _ ?_)
       exact ret_k [6] [] ([]) (.bool true) (rfl)
      · simp -failIfUnchanged at h3; all_goals
       refine vwp_skip ?_
       refine hK9 _ ?_
       try clear hK9 K9
       refine vwp_seq_k fun K12 hK12 => ?_
       omega
    · obtain ⟨rfl, h100, ht0, ht1, hin1, hcase⟩ := shareN_facts hx
      have hql := (shareN_len hx).1
      have hs := sumN_small hin1 (by omega)
      have hs0 := sum_bounds hin1
      have hgt : 1 ≤ times ∧ times ≤ 1048576 := by omega
      obtain ⟨W, hW⟩ : ∃ W, W = w.map (· * times) := ⟨_, rfl⟩
      have hWl : W.length = w.length := by simp [hW]
      have hq0 : ∀ n ∈ q, 0 ≤ n ∧ n ≤ 1099511627777 := fun n hn => by
        rcases hcase with ⟨_, rfl⟩ | ⟨a1, a2, rfl⟩
        · have := List.eq_of_mem_replicate hn; omega
        · obtain ⟨i, hi⟩ := List.mem_iff_getElem?.1 hn
          have hil := (List.getElem?_eq_some_iff.1 hi).1
          rw [fr_length, List.length_map] at hil
          obtain ⟨x, hx⟩ := getI hil
          have hx1 := hin1 x (List.mem_of_getElem? hx)
          have hxs := mem_le_sum (fun n hn => (hin1 n hn).1) x (List.mem_of_getElem? hx)
          obtain ⟨m, hm, h⟩ := fr_get a2 (mul_mod_sum w total) (x := total * x) (i := i) (by simp [hx])
          rw [hi] at hm; cases hm
          have := share_le a2 ht0 hx1.1 hxs
          omega
      refine vwp_live [0, 1, 2] (vwp_region hT ?_)
      simp
      refine vcall_z [] (qshare_spec total w hl) resI_nofz ?_
      rintro r ob' hr
      rw [hx] at hr
      obtain ⟨rfl, rfl⟩ := hr
      simp
      refine hK8 _ ?_
      try clear hK8 K8
      refine vwp_seq_k fun K13 hK13 => ?_
      refine vwp_sq [0, 1, 2, 7, 8] fun K14 hK14 => vwp_region hT ?_
      simp
      refine hK14 _ ?_
      try clear hK14 K14
      refine vwp_cond (by first | rfl | (simp; rfl)) (fun h4 => ?_) fun h4 => ?_
      · simp -failIfUnchanged at h4; all_goals
       refine vwp_sq [7] fun K15 hK15 => vwp_region hT ?_
       simp
       refine hK15 _ ?_
       try clear hK15 K15
       refine vwp_ret (hR _ _ ?_)
       exact ret_k [6] [] ([]) (.bool true) (rfl)
      · simp -failIfUnchanged at h4; all_goals
       refine vwp_skip ?_
       refine hK13 _ ?_
       try clear hK13 K13
       refine vwp_sq [0, 1, 2, 7] fun K16 hK16 => vwp_region hT ?_
       simp [hs]
       refine vcall_k [] (sum_spec w hl) ?_
       rintro r ob' ⟨rfl, rfl⟩
       simp [hs]
       refine hK16 _ ?_
       try clear hK16 K16
       refine vwp_seq_k fun K17 hK17 => ?_
       refine vwp_sq [0, 1, 2, 7, 9, 10] fun K18 hK18 => vwp_region hT ?_
       simp [hql]
       repeat refine ⟨by first | assumption | omega | (intros; omega), ?_⟩
       refine hK18 _ ?_
       try clear hK18 K18
       refine vwp_cond (by first | rfl | (simp; rfl)) (fun h5 => ?_) fun h5 => ?_
       · simp -failIfUnchanged at h5; all_goals
        refine vwp_sq [] fun K19 hK19 => vwp_region hT ?_
        simp
        refine hK19 _ ?_
        try clear hK19 K19
        refine vwp_ret (hR _ _ ?_)
        omega
       · simp -failIfUnchanged at h5; all_goals
        refine vwp_skip ?_
        refine hK17 _ ?_
        try clear hK17 K17
        refine vwp_sq [0, 1, 2, 7, 9] fun K20 hK20 => vwp_region hT ?_
        simp
        refine hK20 _ ?_
        try clear hK20 K20
        refine vwp_sq [0, 1, 2, 7, 9, 11] fun K21 hK21 => vwp_region hT ?_
        simp
        repeat refine ⟨by first | assumption | omega | (intros; omega), ?_⟩
        refine hK21 _ ?_
        try clear hK21 K21
        refine vwp_seq_k fun K22 hK22 => ?_
        refine vwp_sq [0, 1, 2, 7, 9, 11, 12] fun K23 hK23 => vwp_region hT ?_
        simp
        repeat refine ⟨by first | assumption | omega | (intros; omega), ?_⟩
        refine hK23 _ ?_
        try clear hK23 K23
        refine vwp_block ?_
        refine vwp_loop_s (fun s : List Int × Nat => ⟨[(0, .int .i64 total), (1, sI w), (2, .int .i64 times), (7, .sl 0 w.length 1 0 w.length), (9, .int .i64 w.sum), (11, .int .i64 (q.take s.2).sum), (12, .sl 1 w.length 1 0 w.length), (63, .sl 0 w.length 1 0 w.length), (64, .int .i64 w.length), (65, .int .i64 (s.2 : Int))], [.live (ints q), .live (ints s.1)]⟩) (fun s => s.1 = W.take s.2 ++ List.replicate (W.length - s.2) 0 ∧ s.2 ≤ w.length ∧ 0 ≤ (q.take s.2).sum ∧ (q.take s.2).sum ≤ s.2 * 1099511627777) (fun s => w.length - s.2) ((List.replicate w.length 0, 0)) (Gh.to_k [0, 1, 2, 7, 9, 11, 12, 63, 64, 65] [0, 1]) (⟨by simp [hWl], by dsimp only; omega, by simp, by simp⟩) ?_
        rintro ⟨Z, i⟩ ⟨hZ, hi, hs1, hs2⟩
        dsimp only at hZ hi hs1 hs2 ⊢
        have hZl : Z.length = w.length := by rw [hZ]; simp; omega
        intro K24 hK24
        refine vwp_sq [0, 1, 2, 7, 9, 11, 12, 63, 64, 65] fun K25 hK25 => vwp_region hT ?_
        simp
        refine hK25 _ ?_
        try clear hK25 K25
        refine vwp_seq_k fun K26 hK26 => ?_
        refine vwp_cond (by first | rfl | (simp; rfl)) (fun h6 => ?_) fun h6 => ?_
        · simp -failIfUnchanged at h6; all_goals
         refine vwp_skip ?_
         refine hK26 _ ?_
         try clear hK26 K26
         refine vwp_seq_k fun K27 hK27 => ?_
         refine vwp_block ?_
         obtain ⟨n, hn⟩ := getI (l := q) (i := i) (by omega)
         obtain ⟨x, hx2⟩ := getI (l := w) (i := i) (by omega)
         have hWi : W[i]? = some (x * times) := by rw [hW]; simp [hx2]
         have hx1 := hin1 x (List.mem_of_getElem? hx2)
         have hxs := mem_le_sum (fun n hn => (hin1 n hn).1) x (List.mem_of_getElem? hx2)
         have hn1 := hq0 n (List.mem_of_getElem? hn)
         have tq := take_snoc hn
         have hxt : 0 ≤ x * times ∧ x * times ≤ 1099511627776 * 1048576 := ⟨Int.mul_nonneg hx1.1 (by omega), Int.le_trans (Int.mul_le_mul_of_nonneg_right hx1.2 (by omega)) (by omega)⟩
         have fs := fill_set hWi
         have w2 : IntKind.i64.wrap ((q.take i).sum + n) = (q.take (i + 1)).sum := by rw [tq]; simp; exact w64 (by omega) (by omega)
         have w3 : IntKind.i64.wrap (x * times) = x * times := w64 (by omega) (by omega)
         have hnx : 0 < total → (n = total * x / w.sum ∨ (n = total * x / w.sum + 1 ∧ total * x % w.sum ≠ 0)) := fun h => by
           rcases hcase with ⟨a1, _⟩ | ⟨a1, a2, a3⟩
           · omega
           · obtain ⟨m, hm, h⟩ := fr_get a2 (mul_mod_sum w total) (x := total * x) (i := i) (by simp [hx2])
             rw [← a3, hn] at hm; cases hm; exact h
         refine vwp_sq [0, 1, 2, 7, 9, 11, 12, 63, 64, 65] fun K28 hK28 => vwp_region hT ?_
         simp [hn]
         repeat refine ⟨by first | assumption | omega | (intros; omega), ?_⟩
         refine hK28 _ ?_
         try clear hK28 K28
         refine vwp_sq [0, 1, 2, 7, 9, 11, 12, 13, 14, 63, 64, 65] fun K29 hK29 => vwp_region hT ?_
         simp [w2]
         refine hK29 _ ?_
         try clear hK29 K29
         refine vwp_sq [0, 1, 2, 7, 9, 11, 12, 13, 14, 63, 64, 65] fun K30 hK30 => vwp_region hT ?_
         simp [hx2, w3, hZl, spl]
         repeat refine ⟨by first | assumption | omega | (intros; omega), ?_⟩
         refine hK30 _ ?_
         try clear hK30 K30
         refine vwp_cut_s (fun Z2 : List Int => ⟨[(0, .int .i64 total), (1, sI w), (2, .int .i64 times), (7, .sl 0 w.length 1 0 w.length), (9, .int .i64 w.sum), (11, .int .i64 (q.take (i + 1)).sum), (12, .sl 1 w.length 1 0 w.length), (13, .int .i64 (i : Int)), (14, .int .i64 n), (63, .sl 0 w.length 1 0 w.length), (64, .int .i64 w.length), (65, .int .i64 (i : Int))], [.live (ints q), .live (ints Z2)]⟩) (fun Z2 => Z2 = W.take (i + 1) ++ List.replicate (W.length - (i + 1)) 0) (fun K31 hK31 => ?_) ?_
         · refine vwp_sq [0, 1, 2, 7, 9, 11, 12, 13, 14, 63, 64, 65] fun K32 hK32 => vwp_region hT ?_
           simp
           refine hK32 _ ?_
           try clear hK32 K32
           refine vwp_cond (by first | rfl | (simp; rfl)) (fun h7 => ?_) fun h7 => ?_
           · simp -failIfUnchanged at h7; all_goals
            have htp := h7
            have asum : 0 < w.sum := by
              rcases hcase with ⟨a1, _⟩ | ⟨a1, a2, a3⟩
              · omega
              · exact a2
            refine vwp_sq [0, 1, 2, 7, 9, 11, 12, 13, 14, 63, 64, 65] fun K33 hK33 => vwp_region hT ?_
            simp [hx2]
            repeat refine ⟨by first | assumption | omega | (intros; omega), ?_⟩
            refine vcall_k [] (share_spec total x w.sum ht0 (by omega) (by omega) (by omega) hx1.1 hxs) ?_
            rintro r ob' ⟨rfl, rfl⟩
            simp [hx2]
            repeat refine ⟨by first | assumption | omega | (intros; omega), ?_⟩
            refine hK33 _ ?_
            try clear hK33 K33
            refine vwp_seq_k fun K34 hK34 => ?_
            rcases hnx htp with e1 | ⟨e1, e2⟩
            · have w5 : IntKind.i64.wrap (n + 1) = n + 1 := w64 (by omega) (by omega)
              refine vwp_live [0, 1, 2, 7, 9, 11, 12, 13, 14, 15, 16, 17, 63, 64, 65] (vwp_region hT ?_)
              simp [← e1, w5]
              refine hK34 _ ?_
              try clear hK34 K34
              refine vwp_cond (by first | rfl | (simp; rfl)) (fun h8 => ?_) fun h8 => ?_
              · simp -failIfUnchanged at h8; all_goals
               refine vwp_sq [] fun K35 hK35 => vwp_region hT ?_
               simp
               refine hK35 _ ?_
               try clear hK35 K35
               refine vwp_ret (hR _ _ ?_)
               omega
              · simp -failIfUnchanged at h8; all_goals
               refine vwp_skip ?_
               exact hK31 (Z.set i (x * times)) _ (Gh.to_k [0, 1, 2, 7, 9, 11, 12, 13, 14, 63, 64, 65] [0, 1]) (by rw [hZ]; exact fs)
            · have e3 : ¬ n = total * x / w.sum := by omega
              have w5 : IntKind.i64.wrap n = n := w64 (by omega) (by omega)
              refine vwp_live [0, 1, 2, 7, 9, 11, 12, 13, 14, 15, 16, 17, 63, 64, 65] (vwp_region hT ?_)
              simp [← e1, w5, e2, e3]
              refine hK34 _ ?_
              try clear hK34 K34
              refine vwp_cond (by first | rfl | (simp; rfl)) (fun h9 => ?_) fun h9 => ?_
              · simp -failIfUnchanged at h9; all_goals
               refine vwp_sq [] fun K36 hK36 => vwp_region hT ?_
               simp
               refine hK36 _ ?_
               try clear hK36 K36
               refine vwp_ret (hR _ _ ?_)
               omega
              · simp -failIfUnchanged at h9; all_goals
               refine vwp_skip ?_
               exact hK31 (Z.set i (x * times)) _ (Gh.to_k [0, 1, 2, 7, 9, 11, 12, 13, 14, 63, 64, 65] [0, 1]) (by rw [hZ]; exact fs)
           · simp -failIfUnchanged at h7; all_goals
            refine vwp_skip ?_
            exact hK31 (Z.set i (x * times)) _ (Gh.to_k [0, 1, 2, 7, 9, 11, 12, 13, 14, 63, 64, 65] [0, 1]) (by rw [hZ]; exact fs)
         · rintro Z2 hZ2
           clear fs hZ hZl
           refine vwp_sq [0, 1, 2, 7, 9, 11, 12, 13, 14, 63, 64, 65] fun K37 hK37 => vwp_region hT ?_
           simp
           repeat refine ⟨by first | assumption | omega | (intros; omega), ?_⟩
           refine hK37 _ ?_
           try clear hK37 K37
           refine vwp_block ?_
           refine vwp_loop_s (fun j : Nat => ⟨[(0, .int .i64 total), (1, sI w), (2, .int .i64 times), (7, .sl 0 w.length 1 0 w.length), (9, .int .i64 w.sum), (11, .int .i64 (q.take (i + 1)).sum), (12, .sl 1 w.length 1 0 w.length), (13, .int .i64 (i : Int)), (14, .int .i64 n), (63, .sl 0 w.length 1 0 w.length), (64, .int .i64 w.length), (65, .int .i64 (i : Int)), (112, .sl 0 w.length 1 0 w.length), (113, .int .i64 w.length), (114, .int .i64 (j : Int))], [.live (ints q), .live (ints Z2)]⟩) (fun j => j ≤ w.length) (fun j => w.length - j) (0) (Gh.to_k [0, 1, 2, 7, 9, 11, 12, 13, 14, 63, 64, 65, 112, 113, 114] [0, 1]) (by omega) ?_
           rintro j hj
           intro K38 hK38
           refine vwp_sq [0, 1, 2, 7, 9, 11, 12, 13, 14, 63, 64, 65, 112, 113, 114] fun K39 hK39 => vwp_region hT ?_
           simp
           refine hK39 _ ?_
           try clear hK39 K39
           refine vwp_seq_k fun K40 hK40 => ?_
           refine vwp_cond (by first | rfl | (simp; rfl)) (fun h10 => ?_) fun h10 => ?_
           · simp -failIfUnchanged at h10; all_goals
            refine vwp_skip ?_
            refine hK40 _ ?_
            try clear hK40 K40
            refine vwp_seq_k fun K41 hK41 => ?_
            refine vwp_block ?_
            obtain ⟨m, hmj⟩ := getI (l := q) (i := j) (by omega)
            obtain ⟨y, hy⟩ := getI (l := w) (i := j) (by omega)
            have c4 : y < x → ¬ n < m := fun h => by
              rcases hcase with ⟨_, a1⟩ | ⟨a1, a2, a3⟩
              · rw [a1] at hn hmj
                have e1 := List.eq_of_mem_replicate (List.mem_of_getElem? hn)
                have e2 := List.eq_of_mem_replicate (List.mem_of_getElem? hmj)
                omega
              · have := fr_mono a2 (l := w.map (total * ·)) (i := i) (k := j) (x := total * x) (y := total * y) (by simp [hx2]) (by simp [hy]) (Int.mul_lt_mul_of_pos_left h a1) (n := n) (m := m) (by rw [← a3]; exact hn) (by rw [← a3]; exact hmj)
                omega
            refine vwp_sq [0, 1, 2, 7, 9, 11, 12, 13, 14, 63, 64, 65, 112, 113, 114] fun K42 hK42 => vwp_region hT ?_
            simp [hmj]
            repeat refine ⟨by first | assumption | omega | (intros; omega), ?_⟩
            refine hK42 _ ?_
            try clear hK42 K42
            refine vwp_sq [0, 1, 2, 7, 9, 11, 12, 13, 14, 18, 19, 63, 64, 65, 112, 113, 114] fun K43 hK43 => vwp_still hT hm (by kernel_rfl) ?_
            simp [hx2, hy]
            repeat refine ⟨by first | assumption | omega | (intros; omega), ?_⟩
            refine hK43 _ ?_
            try clear hK43 K43
            refine vwp_cond (by first | rfl | (simp; rfl)) (fun h11 => ?_) fun h11 => ?_
            · simp -failIfUnchanged at h11; all_goals
             refine vwp_sq [] fun K44 hK44 => vwp_region hT ?_
             simp
             refine hK44 _ ?_
             try clear hK44 K44
             refine vwp_ret (hR _ _ ?_)
             omega
            · simp -failIfUnchanged at h11; all_goals
             refine vwp_skip ?_
             refine hK41 _ ?_
             try clear hK41 K41
             have w7 : IntKind.i64.wrap ((j : Int) + 1) = j + 1 := w64 (by omega) (by omega)
             refine vwp_live [0, 1, 2, 7, 9, 11, 12, 13, 14, 63, 64, 65, 112, 113, 114] (vwp_region hT ?_)
             simp [w7]
             exact hK38 (j + 1) _ (Gh.to_k [0, 1, 2, 7, 9, 11, 12, 13, 14, 63, 64, 65, 112, 113, 114] [0, 1]) (by omega) (by omega)
           · simp -failIfUnchanged at h10; all_goals
            refine vwp_exit ?_
            simp only [inBlk, thenQ, if_true]
            refine hK27 _ ?_
            try clear hK27 K27
            have w1 : IntKind.i64.wrap ((i : Int) + 1) = i + 1 := w64 (by omega) (by omega)
            refine vwp_live [0, 1, 2, 7, 9, 11, 12, 63, 64, 65] (vwp_region hT ?_)
            simp [w1]
            exact hK24 ((Z2, i + 1)) _ (Gh.to_k [0, 1, 2, 7, 9, 11, 12, 63, 64, 65] [0, 1]) (⟨hZ2, by dsimp only; omega, by dsimp only; rw [tq]; simp; omega, by dsimp only; rw [tq]; simp; omega⟩) (by dsimp only; omega)
        · simp -failIfUnchanged at h6; all_goals
         refine vwp_exit ?_
         simp only [inBlk, thenQ, if_true]
         refine hK22 _ ?_
         try clear hK22 K22
         refine vwp_seq_k fun K45 hK45 => ?_
         rcases hy : shareN total W with ⟨_ | q2, e2⟩
         · have he2 := shareN_none hy
           obtain rfl : i = w.length := by omega
           have hqt : q.take w.length = q := List.take_of_length_le (by omega)
           have hsum : q.sum = total := by
             rcases hcase with ⟨a0, a1⟩ | ⟨a1, a2, a3⟩
             · rw [a0, a1]; simp
             · rw [a3, fr_sum a2 (mul_mod_sum w total), sum_mul, Int.mul_ediv_cancel _ (by omega)]
           have hZW : Z = W := by rw [hZ, List.take_of_length_le (by omega), show W.length - w.length = 0 by omega]; simp
           rw [hZW]
           clear hZ hZW
           have z1 : List.take w.length (List.map (V.int .i64) W) = List.map (V.int .i64) W := List.take_of_length_le (by simp; omega)
           rw [hqt, hsum]
           refine vwp_live [0, 7, 11, 12] (vwp_region hT ?_)
           simp [z1]
           refine vcall_z [] (qshare_spec total W (by omega)) resI_nofz ?_ (ha := by simp [hWl, z1]) (hok := by simp [hWl])
           rintro r ob' hr
           rw [hy] at hr
           obtain ⟨rfl, rfl⟩ := hr
           simp [z1]
           refine hK45 _ ?_
           try clear hK45 K45
           refine vwp_sq [0, 7, 11, 20, 21] fun K46 hK46 => vwp_region hT ?_
           simp [he2]
           repeat refine ⟨by first | assumption | omega | (intros; omega), ?_⟩
           refine hK46 _ ?_
           try clear hK46 K46
           refine vwp_ret (hR _ _ ?_)
           exact ret_k [6] [] ([]) (.bool true) (rfl)
         · obtain ⟨rfl, _⟩ := shareN_facts hy
           have hqq := shares_scale (m := times) (by omega) hx (by rw [← hW]; exact hy)
           obtain rfl : i = w.length := by omega
           have hqt : q.take w.length = q := List.take_of_length_le (by omega)
           have hsum : q.sum = total := by
             rcases hcase with ⟨a0, a1⟩ | ⟨a1, a2, a3⟩
             · rw [a0, a1]; simp
             · rw [a3, fr_sum a2 (mul_mod_sum w total), sum_mul, Int.mul_ediv_cancel _ (by omega)]
           have hZW : Z = W := by rw [hZ, List.take_of_length_le (by omega), show W.length - w.length = 0 by omega]; simp
           rw [hZW]
           clear hZ hZW
           have z1 : List.take w.length (List.map (V.int .i64) W) = List.map (V.int .i64) W := List.take_of_length_le (by simp; omega)
           rw [hqt, hsum]
           refine vwp_live [0, 7, 11, 12] (vwp_region hT ?_)
           simp [z1]
           refine vcall_z [] (qshare_spec total W (by omega)) resI_nofz ?_ (ha := by simp [hWl, z1]) (hok := by simp [hWl])
           rintro r ob' hr
           rw [hy] at hr
           obtain ⟨rfl, rfl⟩ := hr
           simp [z1]
           refine hK45 _ ?_
           try clear hK45 K45
           refine vwp_sq [0, 7, 11, 20, 21] fun K47 hK47 => vwp_region hT ?_
           simp [hqq]
           repeat refine ⟨by first | assumption | omega | (intros; omega), ?_⟩
           refine vcall_z [] (ints_spec q q (by omega) (by omega)) (by rintro r ob' ⟨rfl, rfl⟩; simp) ?_ (ha := by simp [← hql]) (hok := by simp [hql])
           rintro r ob' ⟨rfl, rfl⟩
           simp [hqq]
           repeat refine ⟨by first | assumption | omega | (intros; omega), ?_⟩
           refine hK47 _ ?_
           try clear hK47 K47
           refine vwp_ret (hR _ _ ?_)
           exact ret_k [6] [] ([]) (.bool true) (rfl)
end Go.Proofs.Ythjpaongoflgiaa
