/- QuotaWhole: what it answers. -/
import Derived.Test.YthjpaongoflgiaaLaw15a
namespace Go.Proofs.Ythjpaongoflgiaa
open Go Go.VX Go.RowKit
set_option linter.unusedVariables false
set_option linter.unusedSimpArgs false
set_option maxHeartbeats 20000000
set_option maxRecDepth 100000
open Go.VX.Rk Go.VX.Srt

theorem roundN_facts {l q : List Int} {over e : Int} (h : roundN l over = (some q, e)) : e = 0 ∧ q = fr l over ∧ l.length ≤ 100 ∧ 1 ≤ over ∧ over ≤ 1048576 ∧ (∀ n ∈ l, 0 ≤ n ∧ n ≤ 4503599627370496) ∧ l.sum % over = 0 := by
  unfold roundN at h
  split at h
  · cases h
  split at h
  · cases h
  rename_i h1 h2
  split at h
  · cases h
  · rename_i h3
    cases h
    refine ⟨rfl, rfl, by omega, by omega, by omega, inB_iff.1 ?_, by omega⟩
    by_cases q : inB 0 4503599627370496 l = true
    · exact q
    · exact absurd (.inr (.inr (by simpa using q))) h2
theorem roundN_none {l : List Int} {over e : Int} (h : roundN l over = (none, e)) : e ≠ 0 := by
  unfold roundN at h
  split at h
  · cases h; decide
  split at h
  · cases h; decide
  split at h
  · cases h; decide
  · cases h
theorem quotaWhole_spec (l : List Int) (hl : l.length < 9223372036854775807) (over : Int) : VC P 4 [sI l, .int .i64 over] [] (fun r ob' => r = .bool true) := by
  refine VC_of_vwp_k ent_4 Try.func4 rfl (by simp) fun R hR => ?_
  refine vwp_sq [0, 1] fun K1 hK1 => vwp_region hT ?_
  simp
  refine hK1 _ ?_
  try clear hK1 K1
  refine vwp_seq_k fun K2 hK2 => ?_
  refine vwp_sq [0, 1] fun K3 hK3 => vwp_region hT ?_
  simp
  refine vcall_k [] (awake15_spec) ?_
  rintro r ob' ⟨rfl, rfl⟩
  simp
  refine hK3 _ ?_
  try clear hK3 K3
  refine vwp_cond (by first | rfl | (simp; rfl)) (fun h1 => ?_) fun h1 => ?_
  · simp -failIfUnchanged at h1; all_goals
   refine vwp_sq [] fun K4 hK4 => vwp_region hT ?_
   simp
   refine hK4 _ ?_
   try clear hK4 K4
   refine vwp_ret (hR _ _ ?_)
   exact ret_k [4] [] ([]) (.bool true) (rfl)
  · simp -failIfUnchanged at h1; all_goals
   refine vwp_skip ?_
   refine hK2 _ ?_
   try clear hK2 K2
   refine vwp_seq_k fun K5 hK5 => ?_
   refine vwp_sq [0, 1] fun K6 hK6 => vwp_region hT ?_
   simp
   refine hK6 _ ?_
   try clear hK6 K6
   refine vwp_cond (by first | rfl | (simp; rfl)) (fun h2 => ?_) fun h2 => ?_
   · simp -failIfUnchanged at h2; all_goals
    refine vwp_sq [] fun K7 hK7 => vwp_region hT ?_
    simp
    refine hK7 _ ?_
    try clear hK7 K7
    refine vwp_ret (hR _ _ ?_)
    exact ret_k [4] [] ([]) (.bool true) (rfl)
   · simp -failIfUnchanged at h2; all_goals
    refine vwp_skip ?_
    refine hK5 _ ?_
    try clear hK5 K5
    refine vwp_seq_k fun K8 hK8 => ?_
    rcases hx : roundN l over with ⟨_ | q, e⟩
    · have he := roundN_none hx
      refine vwp_live [0, 1] (vwp_region hT ?_)
      simp
      refine vcall_z [] (round_spec l hl over) resI_nofz ?_
      rintro r ob' hr
      rw [hx] at hr
      obtain ⟨rfl, rfl⟩ := hr
      simp
      refine hK8 _ ?_
      try clear hK8 K8
      refine vwp_seq_k fun K9 hK9 => ?_
      refine vwp_sq [0, 1, 5, 6] fun K10 hK10 => vwp_region hT ?_
      simp
      refine hK10 _ ?_
      try clear hK10 K10
      refine vwp_cond (by first | rfl | (simp; rfl)) (fun h3 => ?_) fun h3 => ?_
      · simp -failIfUnchanged at h3; all_goals
       refine vwp_sq [5] fun K11 hK11 => vwp_region hT ?_
       simp
       refine hK11 _ ?_
       try clear hK11 K11
       refine vwp_ret (hR _ _ ?_)
       exact ret_k [4] [] ([]) (.bool true) (rfl)
      · simp -failIfUnchanged at h3; all_goals
       refine vwp_skip ?_
       refine hK9 _ ?_
       try clear hK9 K9
       refine vwp_seq_k fun K12 hK12 => ?_
       refine vwp_seq_k fun K13 hK13 => ?_
       omega
    · obtain ⟨rfl, hq, h100, ho1, ho2, hin1, hmod⟩ := roundN_facts hx
      have hql : q.length = l.length := by rw [hq, fr_length]
      refine vwp_live [0, 1] (vwp_region hT ?_)
      simp
      refine vcall_z [] (round_spec l hl over) resI_nofz ?_
      rintro r ob' hr
      rw [hx] at hr
      obtain ⟨rfl, rfl⟩ := hr
      simp
      refine hK8 _ ?_
      try clear hK8 K8
      refine vwp_seq_k fun K14 hK14 => ?_
      refine vwp_sq [0, 1, 5, 6] fun K15 hK15 => vwp_region hT ?_
      simp
      refine hK15 _ ?_
      try clear hK15 K15
      refine vwp_cond (by first | rfl | (simp; rfl)) (fun h4 => ?_) fun h4 => ?_
      · simp -failIfUnchanged at h4; all_goals
       refine vwp_sq [5] fun K16 hK16 => vwp_region hT ?_
       simp
       refine hK16 _ ?_
       try clear hK16 K16
       refine vwp_ret (hR _ _ ?_)
       exact ret_k [4] [] ([]) (.bool true) (rfl)
      · simp -failIfUnchanged at h4; all_goals
       refine vwp_skip ?_
       refine hK14 _ ?_
       try clear hK14 K14
       refine vwp_seq_k fun K17 hK17 => ?_
       refine vwp_sq [0, 1, 5] fun K18 hK18 => vwp_region hT ?_
       simp [hql]
       repeat refine ⟨by first | assumption | omega | (intros; omega), ?_⟩
       refine hK18 _ ?_
       try clear hK18 K18
       refine vwp_cond (by first | rfl | (simp; rfl)) (fun h5 => ?_) fun h5 => ?_
       · simp -failIfUnchanged at h5; all_goals
        refine vwp_sq [] fun K19 hK19 => vwp_region hT ?_
        simp
        refine hK19 _ ?_
        try clear hK19 K19
        refine vwp_ret (hR _ _ ?_)
        omega
       · simp -failIfUnchanged at h5; all_goals
        refine vwp_skip ?_
        refine hK17 _ ?_
        try clear hK17 K17
        refine vwp_sq [0, 1, 5] fun K20 hK20 => vwp_region hT ?_
        simp
        refine hK20 _ ?_
        try clear hK20 K20
        refine vwp_seq_k fun K21 hK21 => ?_
        refine vwp_sq [0, 1, 5, 7, 8] fun K22 hK22 => vwp_region hT ?_
        simp
        repeat refine ⟨by first | assumption | omega | (intros; omega), ?_⟩
        refine hK22 _ ?_
        try clear hK22 K22
        refine vwp_block ?_
        refine vwp_loop_s (fun i : Nat => ⟨[(0, sI l), (1, .int .i64 over), (5, .sl 0 l.length 1 0 l.length), (7, .int .i64 (q.take i).sum), (8, .int .i64 (l.take i).sum), (34, .sl 0 l.length 1 0 l.length), (35, .int .i64 l.length), (36, .int .i64 (i : Int))], [.live (ints q)]⟩) (fun i => i ≤ l.length ∧ 0 ≤ (q.take i).sum ∧ (q.take i).sum ≤ i * 4503599627370497) (fun i => l.length - i) (0) (Gh.to_k [0, 1, 5, 7, 8, 34, 35, 36] [0]) (⟨by omega, by simp, by simp⟩) ?_
        rintro i ⟨hi, hs1, hs2⟩
        have hb := sum_bounds (D := l.take i) (m := 4503599627370496) fun n hn => hin1 n (List.mem_of_mem_take hn)
        rw [List.length_take] at hb
        intro K23 hK23
        refine vwp_sq [0, 1, 5, 7, 8, 34, 35, 36] fun K24 hK24 => vwp_region hT ?_
        simp
        refine hK24 _ ?_
        try clear hK24 K24
        refine vwp_seq_k fun K25 hK25 => ?_
        refine vwp_cond (by first | rfl | (simp; rfl)) (fun h6 => ?_) fun h6 => ?_
        · simp -failIfUnchanged at h6; all_goals
         refine vwp_skip ?_
         refine hK25 _ ?_
         try clear hK25 K25
         refine vwp_seq_k fun K26 hK26 => ?_
         refine vwp_block ?_
         obtain ⟨n, hn⟩ := getI (l := q) (i := i) (by omega)
         obtain ⟨x, hx⟩ := getI (l := l) (i := i) (by omega)
         have hx1 := hin1 x (List.mem_of_getElem? hx)
         have tq := take_snoc hn
         have tl := take_snoc hx
         have hnx : (n = x / over ∨ (n = x / over + 1 ∧ x % over ≠ 0)) := by
           obtain ⟨m, hm, h⟩ := fr_get (by omega) hmod hx
           rw [← hq, hn] at hm; cases hm; exact h
         have hdm := Int.mul_ediv_add_emod x over
         have hm0 := Int.emod_nonneg x (show over ≠ 0 by omega)
         have hm1 := Int.emod_lt_of_pos x (show 0 < over by omega)
         have hd0 := Int.ediv_nonneg hx1.1 (show 0 ≤ over by omega)
         have hd1 := Int.ediv_le_self over hx1.1
         have hno : x - over < n * over ∧ n * over < x + over := by
           rcases hnx with e | ⟨e, _⟩
           · rw [e, Int.mul_comm]; omega
           · rw [e, Int.add_mul, Int.mul_comm]; omega
         have w2 : IntKind.i64.wrap (n * over) = n * over := w64 (by omega) (by omega)
         have w3 : IntKind.i64.wrap (x - over) = x - over := w64 (by omega) (by omega)
         have w4 : IntKind.i64.wrap (x + over) = x + over := w64 (by omega) (by omega)
         have w5 : IntKind.i64.wrap ((q.take i).sum + n) = (q.take (i + 1)).sum := by rw [tq]; simp; exact w64 (by omega) (by omega)
         have w6 : IntKind.i64.wrap ((l.take i).sum + x) = (l.take (i + 1)).sum := by rw [tl]; simp; exact w64 (by omega) (by omega)
         have c1 : ¬ n * over ≤ x - over := by omega
         have c2 : ¬ x + over ≤ n * over := by omega
         have c3 : ¬ n < 0 := by omega
         refine vwp_sq [0, 1, 5, 7, 8, 34, 35, 36] fun K27 hK27 => vwp_region hT ?_
         simp [hn]
         repeat refine ⟨by first | assumption | omega | (intros; omega), ?_⟩
         refine hK27 _ ?_
         try clear hK27 K27
         refine vwp_sq [0, 1, 5, 7, 8, 9, 10, 34, 35, 36] fun K28 hK28 => vwp_still hT hm (by kernel_rfl) ?_
         simp [hx, w5, w6]
         repeat refine ⟨by first | assumption | omega | (intros; omega), ?_⟩
         refine hK28 _ ?_
         try clear hK28 K28
         refine vwp_seq_k fun K29 hK29 => ?_
         refine vwp_sq [0, 1, 5, 7, 8, 9, 10, 34, 35, 36] fun K30 hK30 => vwp_region hT ?_
         simp [hx, w2, w3, w4, c1, c2, c3]
         repeat refine ⟨by first | assumption | omega | (intros; omega), ?_⟩
         refine hK30 _ ?_
         try clear hK30 K30
         refine vwp_cond (by first | rfl | (simp; rfl)) (fun h7 => ?_) fun h7 => ?_
         · simp -failIfUnchanged at h7; all_goals
          refine vwp_sq [] fun K31 hK31 => vwp_region hT ?_
          simp
          refine hK31 _ ?_
          try clear hK31 K31
          refine vwp_ret (hR _ _ ?_)
          omega
         · simp -failIfUnchanged at h7; all_goals
          refine vwp_skip ?_
          refine hK29 _ ?_
          try clear hK29 K29
          refine vwp_sq [0, 1, 5, 7, 8, 9, 10, 34, 35, 36] fun K32 hK32 => vwp_region hT ?_
          simp
          repeat refine ⟨by first | assumption | omega | (intros; omega), ?_⟩
          refine hK32 _ ?_
          try clear hK32 K32
          refine vwp_block ?_
          refine vwp_loop_s (fun j : Nat => ⟨[(0, sI l), (1, .int .i64 over), (5, .sl 0 l.length 1 0 l.length), (7, .int .i64 (q.take (i + 1)).sum), (8, .int .i64 (l.take (i + 1)).sum), (9, .int .i64 (i : Int)), (10, .int .i64 n), (34, .sl 0 l.length 1 0 l.length), (35, .int .i64 l.length), (36, .int .i64 (i : Int)), (76, .sl 0 l.length 1 0 l.length), (77, .int .i64 l.length), (78, .int .i64 (j : Int))], [.live (ints q)]⟩) (fun j => j ≤ l.length) (fun j => l.length - j) (0) (Gh.to_k [0, 1, 5, 7, 8, 9, 10, 34, 35, 36, 76, 77, 78] [0]) (by omega) ?_
          rintro j hj
          intro K33 hK33
          refine vwp_sq [0, 1, 5, 7, 8, 9, 10, 34, 35, 36, 76, 77, 78] fun K34 hK34 => vwp_region hT ?_
          simp
          refine hK34 _ ?_
          try clear hK34 K34
          refine vwp_seq_k fun K35 hK35 => ?_
          refine vwp_cond (by first | rfl | (simp; rfl)) (fun h8 => ?_) fun h8 => ?_
          · simp -failIfUnchanged at h8; all_goals
           refine vwp_skip ?_
           refine hK35 _ ?_
           try clear hK35 K35
           refine vwp_seq_k fun K36 hK36 => ?_
           refine vwp_block ?_
           obtain ⟨m, hmj⟩ := getI (l := q) (i := j) (by omega)
           obtain ⟨y, hy⟩ := getI (l := l) (i := j) (by omega)
           have c4 : y < x → ¬ n < m := fun h => by
             have := fr_mono (show 0 < over by omega) hx hy h (n := n) (m := m) (by rw [← hq]; exact hn) (by rw [← hq]; exact hmj)
             omega
           refine vwp_sq [0, 1, 5, 7, 8, 9, 10, 34, 35, 36, 76, 77, 78] fun K37 hK37 => vwp_region hT ?_
           simp [hmj]
           repeat refine ⟨by first | assumption | omega | (intros; omega), ?_⟩
           refine hK37 _ ?_
           try clear hK37 K37
           refine vwp_sq [0, 1, 5, 7, 8, 9, 10, 11, 12, 34, 35, 36, 76, 77, 78] fun K38 hK38 => vwp_still hT hm (by kernel_rfl) ?_
           simp [hx, hy]
           repeat refine ⟨by first | assumption | omega | (intros; omega), ?_⟩
           refine hK38 _ ?_
           try clear hK38 K38
           refine vwp_cond (by first | rfl | (simp; rfl)) (fun h9 => ?_) fun h9 => ?_
           · simp -failIfUnchanged at h9; all_goals
            refine vwp_sq [] fun K39 hK39 => vwp_region hT ?_
            simp
            refine hK39 _ ?_
            try clear hK39 K39
            refine vwp_ret (hR _ _ ?_)
            omega
           · simp -failIfUnchanged at h9; all_goals
            refine vwp_skip ?_
            refine hK36 _ ?_
            try clear hK36 K36
            have w7 : IntKind.i64.wrap ((j : Int) + 1) = j + 1 := w64 (by omega) (by omega)
            refine vwp_live [0, 1, 5, 7, 8, 9, 10, 34, 35, 36, 76, 77, 78] (vwp_region hT ?_)
            simp [w7]
            exact hK33 (j + 1) _ (Gh.to_k [0, 1, 5, 7, 8, 9, 10, 34, 35, 36, 76, 77, 78] [0]) (by omega) (by omega)
          · simp -failIfUnchanged at h8; all_goals
           refine vwp_exit ?_
           simp only [inBlk, thenQ, if_true]
           refine hK26 _ ?_
           try clear hK26 K26
           have w1 : IntKind.i64.wrap ((i : Int) + 1) = i + 1 := w64 (by omega) (by omega)
           refine vwp_live [0, 1, 5, 7, 8, 34, 35, 36] (vwp_region hT ?_)
           simp [w1]
           exact hK23 (i + 1) _ (Gh.to_k [0, 1, 5, 7, 8, 34, 35, 36] [0]) (⟨by omega, by rw [tq]; simp; omega, by rw [tq]; simp; omega⟩) (by omega)
        · simp -failIfUnchanged at h6; all_goals
         refine vwp_exit ?_
         simp only [inBlk, thenQ, if_true]
         refine hK21 _ ?_
         try clear hK21 K21
         obtain rfl : i = l.length := by omega
         rw [← hql, List.take_length, hql, List.take_length]
         have hs : q.sum * over = l.sum := by
           rw [hq, fr_sum (by omega) hmod, Int.ediv_mul_cancel (Int.dvd_of_emod_eq_zero hmod)]
         rw [List.take_length] at hb
         have w8 : IntKind.i64.wrap (q.sum * over) = l.sum := by rw [hs]; exact w64 (by omega) (by omega)
         refine vwp_sq [1, 7, 8] fun K40 hK40 => vwp_region hT ?_
         simp [w8]
         refine hK40 _ ?_
         try clear hK40 K40
         refine vwp_ret (hR _ _ ?_)
         exact ret_k [4] [] ([]) (.bool true) (rfl)
end Go.Proofs.Ythjpaongoflgiaa
