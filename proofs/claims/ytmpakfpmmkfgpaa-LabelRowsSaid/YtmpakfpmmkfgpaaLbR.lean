/- The law LabelRows: the walk. -/
import Derived.Test.YtmpakfpmmkfgpaaLbR0
namespace Go.Proofs.Ytmpakfpmmkfgpaa
open Go Go.VX Go.RowKit
set_option linter.unusedVariables false
set_option linter.unusedSimpArgs false
set_option maxHeartbeats 20000000
set_option maxRecDepth 100000

theorem tmE_snoc (L : List Stp) (s : Stp) : tmE L ++ [(V.int .i64 s.oi, V.int .i64 s.tr)] = tmE (L ++ [s]) := by simp [tmE]
theorem tmE_len (L : List Stp) : (tmE L).length = L.length := by simp [tmE]
theorem law_lrows (x : Whl) (ow po : Int) : VC P 6 [.agg x.c, .int .i64 ow, .int .i64 po] [] (fun r ob' => r = .bool true ∧ ob' = []) := by
  refine VC_of_vwp_k ent_6 Try.func6 rfl (by simp) fun R hR => ?_
  refine vwp_sq [0, 1, 2] fun K1 hK1 => vwp_region hT ?_
  simp
  refine hK1 _ ?_
  try clear hK1 K1
  refine vwp_seq_k fun K2 hK2 => ?_
  refine vwp_sq [1, 2, 3] fun K3 hK3 => vwp_region hT ?_
  simp
  refine vcall_k [] (awake17) ?_
  rintro r ob' ⟨rfl, rfl⟩
  simp
  refine hK3 _ ?_
  try clear hK3 K3
  refine vwp_cond (by first | rfl | (simp; rfl)) (fun h1 => ?_) fun h1 => ?_
  · simp -failIfUnchanged at h1; all_goals
   refine vwp_seq_k fun K4 hK4 => ?_
   simp_all
  · simp -failIfUnchanged at h1; all_goals
   refine vwp_skip ?_
   refine hK2 _ ?_
   try clear hK2 K2
   refine vwp_seq_k fun K5 hK5 => ?_
   refine vwp_seq_k fun K6 hK6 => ?_
   rcases hx : lrgP x with _ | _
   · have hb : x.ss.length ≤ 60 ∧ x.fs.length ≤ 60 ∧ x.ls.length ≤ 60 := by
       simp only [lrgP, Bool.or_eq_false_iff, decide_eq_false_iff_not] at hx; omega
     refine vwp_live [1, 2, 3] (vwp_region hT ?_)
     simp [hx]
     refine vcall_z [] (large_spec x) (by rw [hx]; rintro r ob' ⟨rfl, rfl⟩; simp) ?_
     rw [hx]
     rintro r ob' ⟨rfl, rfl⟩
     simp [hx]
     refine hK6 _ ?_
     try clear hK6 K6
     refine vwp_cond (by first | rfl | (simp; rfl)) (fun h2 => ?_) fun h2 => ?_
     · simp -failIfUnchanged at h2; all_goals
      refine vwp_seq_k fun K7 hK7 => ?_
      simp_all
     · simp -failIfUnchanged at h2; all_goals
      refine vwp_skip ?_
      refine hK5 _ ?_
      try clear hK5 K5
      obtain ⟨V0, e, hV⟩ : ∃ V0 e, showP x ow po = (V0, e) := ⟨_, _, rfl⟩
      have hVs : V0.small := by have := showP_small (ow := ow) (po := po) hx; rwa [hV] at this
      refine vwp_sq [1, 2, 3] fun K8 hK8 => vwp_region hT ?_
      simp
      repeat refine ⟨by first | assumption | omega | (intros; omega), ?_⟩
      refine vcall_k [] (show_spec x ow po (by omega) (by omega) (by omega)) ?_
      rw [hV]
      rintro r ob' ⟨rfl, rfl⟩
      simp
      repeat refine ⟨by first | assumption | omega | (intros; omega), ?_⟩
      refine hK8 _ ?_
      try clear hK8 K8
      refine vwp_seq_k fun K9 hK9 => ?_
      refine vwp_sq [1, 3, 7, 8] fun K10 hK10 => vwp_region hT ?_
      simp
      refine hK10 _ ?_
      try clear hK10 K10
      refine vwp_cond (by first | rfl | (simp; rfl)) (fun h3 => ?_) fun h3 => ?_
      · simp -failIfUnchanged at h3; all_goals
       have q := h3
       have he : e ≠ 0 := by simpa using q
       obtain rfl := showP_bad hV he
       refine vwp_sq [7] fun K11 hK11 => vwp_region hT ?_
       simp
       refine hK11 _ ?_
       try clear hK11 K11
       refine vwp_ret (hR _ _ ?_)
       exact ret_k [6] [] ([]) (.bool true) (⟨rfl, rfl⟩)
      · simp -failIfUnchanged at h3; all_goals
       have q := h3
       obtain rfl : e = 0 := by simpa using q
       obtain ⟨hnd, hrs⟩ := showP_rows hV
       have hown := ownS_ids hnd ow
       have hSlt := srtO_lt hown
       have hSp := srtO_perm (ownS x ow)
       obtain ⟨S, hS⟩ : ∃ S, S = srtO (ownS x ow) := ⟨_, rfl⟩
       rw [← hS] at hSlt hSp hrs
       have hSl := hSp.length_eq
       obtain ⟨R0, hR0⟩ : ∃ R0, R0 = V0.rs := ⟨_, rfl⟩
       rw [← hR0] at hrs
       have hRl : R0.length = S.length := by rw [hrs]; simp
       have hol0 : (ownS x ow).length ≤ 60 := Nat.le_trans (ownL_le x.ss ow) hb.1
       refine vwp_skip ?_
       refine hK9 _ ?_
       try clear hK9 K9
       refine vwp_sq [1, 3, 7] fun K12 hK12 => vwp_region hT ?_
       simp
       refine hK12 _ ?_
       try clear hK12 K12
       refine vwp_seq_k fun K13 hK13 => ?_
       refine vwp_sq [1, 3, 7, 9] fun K14 hK14 => vwp_region hT ?_
       simp
       refine hK14 _ ?_
       try clear hK14 K14
       refine vwp_block ?_
       refine vwp_loop_s (fun u : KA => ⟨[(1, .int .i64 ow), (7, .ptr 1 6 0), (9, .mp 2), (42, fsV x.ss), (43, .int .i64 x.ss.length), (44, .int .i64 (u.i : Int))], [.live x.c, .live V0.cells, .map (tmE (ownL (x.ss.take u.i) ow)) u.bs u.ck]⟩) (fun u => u.i ≤ x.ss.length) (fun u => x.ss.length - u.i) (⟨0, [], 0⟩) (Gh.to_k [1, 7, 9, 42, 43, 44] [0, 1, 2] (hh := by simp [tmE, ownL])) (by simp) ?_
       rintro ⟨i, bs, ck⟩ hi
       dsimp only at hi ⊢
       intro K15 hK15
       refine vwp_sq [1, 7, 9, 42, 43, 44] fun K16 hK16 => vwp_region hT ?_
       simp
       refine hK16 _ ?_
       try clear hK16 K16
       refine vwp_seq_k fun K17 hK17 => ?_
       refine vwp_cond (by first | rfl | (simp; rfl)) (fun h4 => ?_) fun h4 => ?_
       · simp -failIfUnchanged at h4; all_goals
        refine vwp_skip ?_
        refine hK17 _ ?_
        try clear hK17 K17
        refine vwp_seq_k fun K18 hK18 => ?_
        refine vwp_block ?_
        obtain ⟨s, hs1⟩ := getI (l := x.ss) (i := i) (by omega)
        have hrow := rowStp hs1
        have hlen := lenStp x.ss
        have htk := ownL_take hs1 ow
        have hnin : s.oi ∉ (ownL (x.ss.take i) ow).map (·.oi) := by
          intro h
          have h2 : s.oi ∈ (x.ss.take i).map (·.oi) := by
            obtain ⟨a, ha, hb⟩ := List.mem_map.1 h
            exact List.mem_map.2 ⟨a, (List.mem_filter.1 ha).1, hb⟩
          have h3 := (List.nodup_append.1 hnd).1
          rw [split_at' hs1, List.map_append, List.nodup_append] at h3
          exact h3.2.2 s.oi h2 s.oi (by simp) rfl
        have hv : vfindK (.int .i64 s.oi) (tmE (ownL (x.ss.take i) ow)) 0 = some none := by
          rcases vfind_map (fun s : Stp => s.oi) (fun s => V.int .i64 s.tr) s.oi (ownL (x.ss.take i) ow) 0 with ⟨_, h⟩ | ⟨_, a, h, h2, _⟩
          · exact h
          · exact absurd (List.mem_map.2 ⟨a, List.mem_of_getElem? h, h2⟩) hnin
        refine vwp_sq [1, 7, 9, 42, 43, 44] fun K19 hK19 => vwp_region hT ?_
        simp [hrow, hlen]
        repeat refine ⟨by first | assumption | omega | (intros; omega), ?_⟩
        refine hK19 _ ?_
        try clear hK19 K19
        refine vwp_sq [1, 7, 9, 11, 42, 43, 44] fun K20 hK20 => vwp_region hT ?_
        simp
        refine hK20 _ ?_
        try clear hK20 K20
        refine vwp_cond (by first | rfl | (simp; rfl)) (fun h5 => ?_) fun h5 => ?_
        · simp -failIfUnchanged at h5; all_goals
         have q := h5
         have hq2 : s.ow = ow := by simpa using q
         rw [if_pos hq2] at htk
         refine vwp_live [1, 7, 9, 11, 42, 43, 44] (vwp_region hT ?_)
         simp [hv, tmE_snoc]
         repeat refine ⟨by first | assumption | omega | (intros; omega), ?_⟩
         refine hK18 _ ?_
         try clear hK18 K18
         have w1 : IntKind.i64.wrap ((i : Int) + 1) = i + 1 := w64 (by omega) (by omega)
         refine vwp_live [1, 7, 9, 42, 43, 44] (vwp_region hT ?_)
         simp [w1]
         exact hK15 ⟨i + 1, bs ++ [ck], ck + 1⟩ _ (Gh.to_k [1, 7, 9, 42, 43, 44] [0, 1, 2] (hh := by simp [htk])) (by dsimp only; omega) (by dsimp only; omega)
        · simp -failIfUnchanged at h5; all_goals
         have q := h5
         have hq2 : ¬ s.ow = ow := by simpa using q
         rw [if_neg hq2, List.append_nil] at htk
         refine vwp_skip ?_
         refine hK18 _ ?_
         try clear hK18 K18
         have w1 : IntKind.i64.wrap ((i : Int) + 1) = i + 1 := w64 (by omega) (by omega)
         refine vwp_live [1, 7, 9, 42, 43, 44] (vwp_region hT ?_)
         simp [w1]
         exact hK15 ⟨i + 1, bs, ck⟩ _ (Gh.to_k [1, 7, 9, 42, 43, 44] [0, 1, 2] (hh := by simp [htk])) (by dsimp only; omega) (by dsimp only; omega)
       · simp -failIfUnchanged at h4; all_goals
        refine vwp_exit ?_
        simp only [inBlk, thenQ, if_true]
        refine hK13 _ ?_
        try clear hK13 K13
        obtain rfl : i = x.ss.length := by omega
        rw [List.take_length, show ownL x.ss ow = ownS x ow from rfl]
        obtain ⟨tb, htb⟩ : ∃ tb, tb = bs := ⟨_, rfl⟩
        obtain ⟨tk, htk⟩ : ∃ tk, tk = ck := ⟨_, rfl⟩
        rw [← htb, ← htk]
        refine vwp_sq [7, 9] fun K21 hK21 => vwp_region hT ?_
        simp
        refine hK21 _ ?_
        try clear hK21 K21
        refine vwp_sq [7, 9, 12] fun K22 hK22 => vwp_region hT ?_
        simp
        refine hK22 _ ?_
        try clear hK22 K22
        refine vwp_seq_k fun K23 hK23 => ?_
        refine vwp_sq [7, 9, 12, 13] fun K24 hK24 => vwp_region hT ?_
        simp [← hR0]
        refine hK24 _ ?_
        try clear hK24 K24
        refine vwp_block ?_
        refine vwp_loop_s (fun u : KA => ⟨[(7, .ptr 1 6 0), (9, .mp 2), (12, .int .i64 0), (13, .mp 3), (60, fsV R0), (61, .int .i64 R0.length), (62, .int .i64 (u.i : Int))], [.live x.c, .live V0.cells, .map (tmE (ownS x ow)) tb tk, .map (mnE ((R0.take u.i).map (·.al))) u.bs u.ck]⟩) (fun u => u.i ≤ R0.length) (fun u => R0.length - u.i) (⟨0, [], 0⟩) (Gh.to_k [7, 9, 12, 13, 60, 61, 62] [0, 1, 2, 3] (hh := by simp [mnE, dd])) (by simp) ?_
        rintro ⟨i, bs, ck⟩ hi
        dsimp only at hi ⊢
        obtain ⟨l, hL⟩ : ∃ l, l = (R0.take i).map (·.al) := ⟨_, rfl⟩
        rw [← hL]
        have hll : l.length = i := by rw [hL]; simp; omega
        intro K25 hK25
        refine vwp_sq [7, 9, 12, 13, 60, 61, 62] fun K26 hK26 => vwp_region hT ?_
        simp
        refine hK26 _ ?_
        try clear hK26 K26
        refine vwp_seq_k fun K27 hK27 => ?_
        refine vwp_cond (by first | rfl | (simp; rfl)) (fun h6 => ?_) fun h6 => ?_
        · simp -failIfUnchanged at h6; all_goals
         refine vwp_skip ?_
         refine hK27 _ ?_
         try clear hK27 K27
         refine vwp_seq_k fun K28 hK28 => ?_
         refine vwp_block ?_
         obtain ⟨r, hr1⟩ := getI (l := R0) (i := i) (by omega)
         have hrow := rowRwx hr1
         have hlen := lenRwx R0
         have htk2 : List.take (i + 1) (R0.map (·.al)) = l ++ [r.al] := by rw [← List.map_take, take_snoc hr1, List.map_append, List.map_cons, List.map_nil, hL]
         have hcl := List.count_le_length (a := r.al) (l := l)
         refine vwp_sq [7, 9, 12, 13, 60, 61, 62] fun K29 hK29 => vwp_region hT ?_
         simp [hrow, hlen]
         repeat refine ⟨by first | assumption | omega | (intros; omega), ?_⟩
         refine hK29 _ ?_
         try clear hK29 K29
         rcases vfind_mn r.al l with ⟨hno, hv⟩ | ⟨j, hj, hv⟩
         · have hw1 : IntKind.i64.wrap 1 = 1 := rfl
           have hnew := mnE_new hno
           refine vwp_live [7, 9, 12, 13, 15, 60, 61, 62] (vwp_region hT ?_)
           simp [hv, hw1, hnew]
           repeat refine ⟨by first | assumption | omega | (intros; omega), ?_⟩
           refine hK28 _ ?_
           try clear hK28 K28
           have w1 : IntKind.i64.wrap ((i : Int) + 1) = i + 1 := w64 (by omega) (by omega)
           refine vwp_live [7, 9, 12, 13, 60, 61, 62] (vwp_region hT ?_)
           simp [w1]
           exact hK25 ⟨i + 1, bs ++ [ck], ck + 1⟩ _ (Gh.to_k [7, 9, 12, 13, 60, 61, 62] [0, 1, 2, 3] (hh := by simp [htk2])) (by dsimp only; omega) (by dsimp only; omega)
         · have w2 : IntKind.i64.wrap (((l.count r.al : Nat) : Int) + 1) = ((l.count r.al : Nat) : Int) + 1 := w64 (by omega) (by omega)
           have hmore := mnE_more hj
           refine vwp_live [7, 9, 12, 13, 15, 60, 61, 62] (vwp_region hT ?_)
           simp [hv, w2, hmore]
           repeat refine ⟨by first | assumption | omega | (intros; omega), ?_⟩
           refine hK28 _ ?_
           try clear hK28 K28
           have w1 : IntKind.i64.wrap ((i : Int) + 1) = i + 1 := w64 (by omega) (by omega)
           refine vwp_live [7, 9, 12, 13, 60, 61, 62] (vwp_region hT ?_)
           simp [w1]
           exact hK25 ⟨i + 1, bs, ck⟩ _ (Gh.to_k [7, 9, 12, 13, 60, 61, 62] [0, 1, 2, 3] (hh := by simp [htk2])) (by dsimp only; omega) (by dsimp only; omega)
        · simp -failIfUnchanged at h6; all_goals
         refine vwp_exit ?_
         simp only [inBlk, thenQ, if_true]
         refine hK23 _ ?_
         try clear hK23 K23
         refine vwp_seq_k fun K30 hK30 => ?_
         obtain rfl : i = R0.length := by omega
         rw [List.take_length] at hL
         subst hL
         obtain ⟨mb, hmb⟩ : ∃ mb, mb = bs := ⟨_, rfl⟩
         obtain ⟨mk, hmk⟩ : ∃ mk, mk = ck := ⟨_, rfl⟩
         rw [← hmb, ← hmk]
         refine vwp_sq [7, 9, 12, 13] fun K31 hK31 => vwp_region hT ?_
         simp [← hR0]
         refine hK31 _ ?_
         try clear hK31 K31
         refine vwp_block ?_
         refine vwp_loop_s (fun i : Nat => ⟨[(7, .ptr 1 6 0), (9, .mp 2), (12, .int .i64 ((dd ((S.take i).map (·.tr))).length : Int)), (13, .mp 3), (73, fsV R0), (74, .int .i64 R0.length), (75, .int .i64 (i : Int))], [.live x.c, .live V0.cells, .map (tmE (ownS x ow)) tb tk, .map (mnE (R0.map (·.al))) mb mk]⟩) (fun i => i ≤ R0.length) (fun i => R0.length - i) (0) (Gh.to_k [7, 9, 12, 13, 73, 74, 75] [0, 1, 2, 3] (he := by simp [dd])) (by omega) ?_
         rintro i hi
         obtain ⟨T0, hT0⟩ : ∃ T0 : Int, T0 = ((dd ((S.take i).map (·.tr))).length : Int) := ⟨_, rfl⟩
         rw [← hT0]
         intro K32 hK32
         refine vwp_sq [7, 9, 12, 13, 73, 74, 75] fun K33 hK33 => vwp_region hT ?_
         simp
         refine hK33 _ ?_
         try clear hK33 K33
         refine vwp_seq_k fun K34 hK34 => ?_
         refine vwp_cond (by first | rfl | (simp; rfl)) (fun h7 => ?_) fun h7 => ?_
         · simp -failIfUnchanged at h7; all_goals
          refine vwp_skip ?_
          refine hK34 _ ?_
          try clear hK34 K34
          refine vwp_seq_k fun K35 hK35 => ?_
          refine vwp_block ?_
          obtain ⟨s, hs1⟩ := getI (l := S) (i := i) (by omega)
          have hsm : s ∈ S := List.mem_of_getElem? hs1
          obtain ⟨r, hr⟩ : ∃ r, r = rowP (ownS x ow) s := ⟨_, rfl⟩
          have hr1 : R0[i]? = some r := by rw [hrs, List.getElem?_map, hs1, hr]; rfl
          have hrow := rowRwx hr1
          have hlen := lenRwx R0
          have hro : r.oi = s.oi := by rw [hr]; rfl
          obtain ⟨p1, hv1⟩ := vfind_tm hown (hSp.mem_iff.1 hsm)
          rw [← hro] at hv1
          obtain ⟨ha1, ha2, ha3⟩ := top_step hSlt hSp hs1
          rw [show aliasP (ownS x ow) s = r.al by rw [hr]; rfl] at ha1 ha2 ha3
          obtain ⟨hp1, hp2⟩ := row_ok hSlt hSp hsm
          rw [← hr, ← hrs] at hp2
          rw [← hr] at hp1
          obtain ⟨p2, hv2⟩ : ∃ p2, vfindK (.int .i64 r.al) (mnE (R0.map (·.al))) 0 = some (some (p2, .int .i64 (((R0.map (·.al)).count r.al : Nat) : Int))) := by
            rcases vfind_mn r.al (R0.map (·.al)) with ⟨h, _⟩ | ⟨p2, _, h⟩
            · exact absurd (List.mem_map.2 ⟨r, List.mem_of_getElem? hr1, rfl⟩) h
            · exact ⟨p2, h⟩
          obtain ⟨cn, hcn⟩ : ∃ cn, cn = (R0.map (·.al)).count r.al := ⟨_, rfl⟩
          rw [← hcn] at hp2 hv2
          have hTl : (dd ((S.take i).map (·.tr))).length ≤ i := Nat.le_trans (dd_le _) (by simp; omega)
          obtain ⟨T1, hT1⟩ : ∃ T1 : Int, T1 = ((dd ((S.take (i + 1)).map (·.tr))).length : Int) := ⟨_, rfl⟩
          rw [← hT0] at ha2 ha3
          rw [← hT1] at ha3
          have wT : IntKind.i64.wrap (T0 + 1) = T0 + 1 := w64 (by omega) (by omega)
          have n1 : ¬ r.al < 1 := by omega
          have n2 : ¬ T0 + 1 < r.al := by omega
          have n3 : ¬ r.pl < 1 := by omega
          have n4 : ¬ (cn : Int) < r.pl := by omega
          have hti : List.take (i * 4) (rowsV R0) = rowsV (R0.take i) := rowsV_take (l := R0) i (by omega)
          refine vwp_sq [7, 9, 12, 13, 73, 74, 75] fun K36 hK36 => vwp_region hT ?_
          simp [hrow, hlen]
          repeat refine ⟨by first | assumption | omega | (intros; omega), ?_⟩
          refine hK36 _ ?_
          try clear hK36 K36
          refine vwp_sq [7, 9, 12, 13, 16, 17, 73, 74, 75] fun K37 hK37 => vwp_region hT ?_
          simp [hv1]
          repeat refine ⟨by first | assumption | omega | (intros; omega), ?_⟩
          refine hK37 _ ?_
          try clear hK37 K37
          refine vwp_cut_s (fun _ : Unit => ⟨[(7, .ptr 1 6 0), (9, .mp 2), (12, .int .i64 T0), (13, .mp 3), (16, .int .i64 (i : Int)), (17, .ptr 4 4 0), (18, .int .i64 s.tr), (73, fsV R0), (74, .int .i64 R0.length), (75, .int .i64 (i : Int))], [.live x.c, .live V0.cells, .map (tmE (ownS x ow)) tb tk, .map (mnE (R0.map (·.al))) mb mk, .live (Rwx.cells r)]⟩) (fun _ => True) (fun K38 hK38 => ?_) ?_
          · refine vwp_seq_k fun K39 hK39 => ?_
            rcases i with _ | v
            · have hwm : IntKind.i64.wrap (-1) = -1 := rfl
              have hz0 : (rowsV R0)[0]? = some (V.int .i64 r.oi) := (getRwx hr1).1
              refine vwp_live [7, 9, 12, 13, 16, 17, 18, 19, 73, 74, 75] (vwp_still hT hm (by kernel_rfl) ?_)
              simp [hv2, wT, n1, n2, n3, n4, ← hR0, hwm, hz0]
              repeat refine ⟨by first | assumption | omega | (intros; omega), ?_⟩
              refine hK39 _ ?_
              try clear hK39 K39
              refine vwp_cond (by first | rfl | (simp; rfl)) (fun h8 => ?_) fun h8 => ?_
              · simp -failIfUnchanged at h8; all_goals
               refine vwp_seq_k fun K40 hK40 => ?_
               simp_all
              · simp -failIfUnchanged at h8; all_goals
               refine vwp_skip ?_
               exact hK38 (()) _ (Gh.to_k [7, 9, 12, 13, 16, 17, 18, 73, 74, 75] [0, 1, 2, 3, 4]) (trivial)
            · obtain ⟨s', hs2⟩ := getI (l := S) (i := v) (by omega)
              obtain ⟨r', hr'⟩ : ∃ r', r' = rowP (ownS x ow) s' := ⟨_, rfl⟩
              have hr2 : R0[v]? = some r' := by rw [hrs, List.getElem?_map, hs2, hr']; rfl
              obtain ⟨hg0, _⟩ := getRwx hr2
              have hlt : s'.oi < s.oi := lt_before hSlt hs1 (by rw [take_snoc hs2]; simp)
              have hro' : r'.oi = s'.oi := by rw [hr']; rfl
              have n5 : ¬ r.oi ≤ r'.oi := by omega
              have w3 : IntKind.i64.wrap (v : Int) = (v : Int) := w64 (by omega) (by omega)
              have li : v * 4 + 3 < R0.length * 4 := by omega
              refine vwp_live [7, 9, 12, 13, 16, 17, 18, 19, 73, 74, 75] (vwp_still hT hm (by kernel_rfl) ?_)
              simp [hv2, wT, n1, n2, n3, n4, n5, w3, hg0, hlen, ← hR0]
              repeat refine ⟨by first | assumption | omega | (intros; omega), ?_⟩
              refine hK39 _ ?_
              try clear hK39 K39
              refine vwp_cond (by first | rfl | (simp; rfl)) (fun h9 => ?_) fun h9 => ?_
              · simp -failIfUnchanged at h9; all_goals
               refine vwp_seq_k fun K41 hK41 => ?_
               simp_all
              · simp -failIfUnchanged at h9; all_goals
               refine vwp_skip ?_
               exact hK38 (()) _ (Gh.to_k [7, 9, 12, 13, 16, 17, 18, 73, 74, 75] [0, 1, 2, 3, 4]) (trivial)
          · rintro _ _
            have ha4 : (if T0 < r.al then r.al else T0) = T1 := by rw [← ha3, Int.max_def]; split <;> split <;> omega
            refine vwp_sq [7, 9, 12, 13, 16, 17, 18, 73, 74, 75] fun K42 hK42 => vwp_region hT ?_
            simp [ha4]
            repeat refine ⟨by first | assumption | omega | (intros; omega), ?_⟩
            refine hK42 _ ?_
            try clear hK42 K42
            refine vwp_sq [7, 9, 12, 13, 16, 17, 18, 73, 74, 75] fun K43 hK43 => vwp_region hT ?_
            simp [hti, hlen, ← hR0]
            repeat refine ⟨by first | assumption | omega | (intros; omega), ?_⟩
            refine hK43 _ ?_
            try clear hK43 K43
            refine vwp_block ?_
            refine vwp_loop_s (fun j : Nat => ⟨[(7, .ptr 1 6 0), (9, .mp 2), (12, .int .i64 T1), (13, .mp 3), (17, .ptr 4 4 0), (18, .int .i64 s.tr), (73, fsV R0), (74, .int .i64 R0.length), (75, .int .i64 (i : Int)), (138, .fs i (rowsV (R0.take i))), (139, .int .i64 (i : Int)), (140, .int .i64 (j : Int))], [.live x.c, .live V0.cells, .map (tmE (ownS x ow)) tb tk, .map (mnE (R0.map (·.al))) mb mk, .live (Rwx.cells r)]⟩) (fun j => j ≤ i) (fun j => i - j) (0) (Gh.to_k [7, 9, 12, 13, 17, 18, 73, 74, 75, 138, 139, 140] [0, 1, 2, 3, 4]) (by omega) ?_
            rintro j hj
            intro K44 hK44
            refine vwp_sq [7, 9, 12, 13, 17, 18, 73, 74, 75, 138, 139, 140] fun K45 hK45 => vwp_region hT ?_
            simp
            refine hK45 _ ?_
            try clear hK45 K45
            refine vwp_seq_k fun K46 hK46 => ?_
            refine vwp_cond (by first | rfl | (simp; rfl)) (fun h10 => ?_) fun h10 => ?_
            · simp -failIfUnchanged at h10; all_goals
             refine vwp_skip ?_
             refine hK46 _ ?_
             try clear hK46 K46
             refine vwp_seq_k fun K47 hK47 => ?_
             refine vwp_block ?_
             obtain ⟨t, ht1⟩ := getI (l := S) (i := j) (by omega)
             have htm : t ∈ S := List.mem_of_getElem? ht1
             obtain ⟨q, hq⟩ : ∃ q, q = rowP (ownS x ow) t := ⟨_, rfl⟩
             have hq1 : R0[j]? = some q := by rw [hrs, List.getElem?_map, ht1, hq]; rfl
             have hq2 : (R0.take i)[j]? = some q := by rw [List.getElem?_take, if_pos (by omega), hq1]
             have hrowq := rowRwx hq2
             have hlenq := lenRwx (R0.take i)
             rw [List.length_take, Nat.min_eq_left (by omega)] at hlenq
             have hqo : q.oi = t.oi := by rw [hq]; rfl
             obtain ⟨p3, hv3⟩ := vfind_tm hown (hSp.mem_iff.1 htm)
             rw [← hqo] at hv3
             have hlt2 : t.oi < s.oi := lt_before hSlt hs1 (List.mem_of_getElem? (i := j) (by rw [List.getElem?_take, if_pos (by omega), ht1]))
             have hai := al_inj hSlt hSp htm hsm
             rw [show aliasP (ownS x ow) t = q.al by rw [hq]; rfl, show aliasP (ownS x ow) s = r.al by rw [hr]; rfl] at hai
             have hqe : q.et = t.et := by rw [hq]; rfl
             have hre : r.et = s.et := by rw [hr]; rfl
             refine vwp_sq [7, 9, 12, 13, 17, 18, 73, 74, 75, 138, 139, 140] fun K48 hK48 => vwp_region hT ?_
             simp [hrowq, hlenq]
             repeat refine ⟨by first | assumption | omega | (intros; omega), ?_⟩
             refine hK48 _ ?_
             try clear hK48 K48
             refine vwp_sq [7, 9, 12, 13, 17, 18, 21, 73, 74, 75, 138, 139, 140] fun K49 hK49 => vwp_region hT ?_
             simp [hv3]
             repeat refine ⟨by first | assumption | omega | (intros; omega), ?_⟩
             refine hK49 _ ?_
             try clear hK49 K49
             refine vwp_seq_k fun K50 hK50 => ?_
             by_cases hst : t.tr = s.tr
             · obtain ⟨hpl, hpe⟩ := pair_ok hSlt hSp hsm htm (by omega) hst
               rw [← hq, ← hr] at hpl hpe
               rw [← hqe, ← hre] at hpe
               have e1 : (t.tr == s.tr) = true := by simpa using hst
               have e2 : (q.al == r.al) = true := by simpa using hai.2 hst
               have e3 : (q.pl == r.pl) = false := by simpa using hpl
               by_cases hee : q.et = r.et
               · have e4 : (q.et != r.et) = false := by simpa using hee
                 refine vwp_live [7, 9, 12, 13, 17, 18, 21, 22, 73, 74, 75, 138, 139, 140] (vwp_region hT ?_)
                 simp [e1, e2, e3, e4]
                 refine hK50 _ ?_
                 try clear hK50 K50
                 refine vwp_cond (by first | rfl | (simp; rfl)) (fun h11 => ?_) fun h11 => ?_
                 · simp -failIfUnchanged at h11; all_goals
                  refine vwp_seq_k fun K51 hK51 => ?_
                  simp_all
                 · simp -failIfUnchanged at h11; all_goals
                  refine vwp_skip ?_
                  refine hK47 _ ?_
                  try clear hK47 K47
                  have w1 : IntKind.i64.wrap ((j : Int) + 1) = j + 1 := w64 (by omega) (by omega)
                  refine vwp_live [7, 9, 12, 13, 17, 18, 73, 74, 75, 138, 139, 140] (vwp_region hT ?_)
                  simp [w1]
                  exact hK44 (j + 1) _ (Gh.to_k [7, 9, 12, 13, 17, 18, 73, 74, 75, 138, 139, 140] [0, 1, 2, 3, 4]) (by omega) (by omega)
               · have e5 : decide (q.et < r.et) = decide (q.pl < r.pl) := decide_eq_decide.2 (hpe hee)
                 refine vwp_live [7, 9, 12, 13, 17, 18, 21, 22, 73, 74, 75, 138, 139, 140] (vwp_region hT ?_)
                 simp [e1, e2, e3, e5]
                 refine hK50 _ ?_
                 try clear hK50 K50
                 refine vwp_cond (by first | rfl | (simp; rfl)) (fun h12 => ?_) fun h12 => ?_
                 · simp -failIfUnchanged at h12; all_goals
                  refine vwp_seq_k fun K52 hK52 => ?_
                  simp_all
                 · simp -failIfUnchanged at h12; all_goals
                  refine vwp_skip ?_
                  refine hK47 _ ?_
                  try clear hK47 K47
                  have w1 : IntKind.i64.wrap ((j : Int) + 1) = j + 1 := w64 (by omega) (by omega)
                  refine vwp_live [7, 9, 12, 13, 17, 18, 73, 74, 75, 138, 139, 140] (vwp_region hT ?_)
                  simp [w1]
                  exact hK44 (j + 1) _ (Gh.to_k [7, 9, 12, 13, 17, 18, 73, 74, 75, 138, 139, 140] [0, 1, 2, 3, 4]) (by omega) (by omega)
             · have e1 : (t.tr == s.tr) = false := by simpa using hst
               have e2 : (q.al == r.al) = false := by simpa using (fun h => hst (hai.1 h) : ¬ q.al = r.al)
               refine vwp_live [7, 9, 12, 13, 17, 18, 21, 22, 73, 74, 75, 138, 139, 140] (vwp_region hT ?_)
               simp [e1, e2]
               refine hK50 _ ?_
               try clear hK50 K50
               refine vwp_cond (by first | rfl | (simp; rfl)) (fun h13 => ?_) fun h13 => ?_
               · simp -failIfUnchanged at h13; all_goals
                refine vwp_seq_k fun K53 hK53 => ?_
                simp_all
               · simp -failIfUnchanged at h13; all_goals
                refine vwp_skip ?_
                refine hK47 _ ?_
                try clear hK47 K47
                have w1 : IntKind.i64.wrap ((j : Int) + 1) = j + 1 := w64 (by omega) (by omega)
                refine vwp_live [7, 9, 12, 13, 17, 18, 73, 74, 75, 138, 139, 140] (vwp_region hT ?_)
                simp [w1]
                exact hK44 (j + 1) _ (Gh.to_k [7, 9, 12, 13, 17, 18, 73, 74, 75, 138, 139, 140] [0, 1, 2, 3, 4]) (by omega) (by omega)
            · simp -failIfUnchanged at h10; all_goals
             refine vwp_exit ?_
             simp only [inBlk, thenQ, if_true]
             refine hK35 _ ?_
             try clear hK35 K35
             have w1 : IntKind.i64.wrap ((i : Int) + 1) = i + 1 := w64 (by omega) (by omega)
             refine vwp_live [7, 9, 12, 13, 73, 74, 75] (vwp_region hT ?_)
             simp [w1]
             exact hK32 (i + 1) _ (Gh.to_k [7, 9, 12, 13, 73, 74, 75] [0, 1, 2, 3] (he := by simp [hT1])) (by omega) (by omega)
         · simp -failIfUnchanged at h7; all_goals
          refine vwp_exit ?_
          simp only [inBlk, thenQ, if_true]
          refine hK30 _ ?_
          try clear hK30 K30
          have hl5 : (ownS x ow).length = R0.length := by omega
          refine vwp_sq [7, 9] fun K54 hK54 => vwp_region hT ?_
          simp [← hR0, tmE_len, hl5]
          refine hK54 _ ?_
          try clear hK54 K54
          refine vwp_ret (hR _ _ ?_)
          exact ret_k [6] [] ([]) (.bool true) (⟨rfl, rfl⟩)
   · refine vwp_live [1, 2, 3] (vwp_region hT ?_)
     simp [hx]
     refine vcall_z [] (large_spec x) (by rw [hx]; rintro r ob' ⟨rfl, rfl⟩; simp) ?_
     rw [hx]
     rintro r ob' ⟨rfl, rfl⟩
     simp [hx]
     refine hK6 _ ?_
     try clear hK6 K6
     refine vwp_cond (by first | rfl | (simp; rfl)) (fun h14 => ?_) fun h14 => ?_
     · simp -failIfUnchanged at h14; all_goals
      refine vwp_sq [] fun K55 hK55 => vwp_region hT ?_
      simp
      refine hK55 _ ?_
      try clear hK55 K55
      refine vwp_ret (hR _ _ ?_)
      exact ret_k [6] [] ([]) (.bool true) (⟨rfl, rfl⟩)
     · simp -failIfUnchanged at h14; all_goals
      refine vwp_skip ?_
      refine hK5 _ ?_
      try clear hK5 K5
      refine vwp_seq_k fun K56 hK56 => ?_
      simp_all
end Go.Proofs.Ytmpakfpmmkfgpaa
