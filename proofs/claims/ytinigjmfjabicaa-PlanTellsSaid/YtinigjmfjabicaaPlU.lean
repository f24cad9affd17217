/- What a plan costs, or why it may not be, by the document: the walk. -/
import Derived.Test.YtinigjmfjabicaaPlT
import Derived.Test.YtinigjmfjabicaaSums
namespace Go.Proofs.Ytinigjmfjabicaa
open Go Go.VX Go.RowKit
set_option linter.unusedVariables false
set_option linter.unusedSimpArgs false
set_option maxHeartbeats 20000000
set_option maxRecDepth 100000

structure KQ where (i : Nat) (cs : List Int)
theorem dcheck_spec (w : Wd) (ho : w.os.length < 1099511627776) (ht : w.ts.length < 1099511627776) (p : Pn) (hp : p.rs.length < 1099511627776) (hc : (catR p.rs).length < 1099511627776) (hu : p.un.length < 1099511627776) : VC P 23 [.agg w.c, .agg p.c] [] (fun r ob' => r = .tup [.int .i64 (checkP w p).1, .int .i64 (checkP w p).2] ∧ ob' = []) := by
  refine VC_of_vwp_k ent_23 Try.func23 rfl (by simp) fun R hR => ?_
  refine vwp_sq [0, 1] fun K1 hK1 => vwp_region hT ?_
  simp
  refine hK1 _ ?_
  try clear hK1 K1
  refine vwp_sq [2, 3] fun K2 hK2 => vwp_region hT ?_
  simp
  refine vcall_z [] (dworld_spec w ho ht) (by rintro r ob' ⟨rfl, rfl⟩; simp) ?_
  rintro r ob' ⟨rfl, rfl⟩
  simp
  refine hK2 _ ?_
  try clear hK2 K2
  refine vwp_seq_k fun K3 hK3 => ?_
  refine vwp_sq [2, 3, 6] fun K4 hK4 => vwp_region hT ?_
  simp
  refine hK4 _ ?_
  try clear hK4 K4
  refine vwp_cond (by first | rfl | (simp; rfl)) (fun h1 => ?_) fun h1 => ?_
  · simp -failIfUnchanged at h1; all_goals
   have he := h1
   refine vwp_sq [6] fun K5 hK5 => vwp_region hT ?_
   simp
   refine hK5 _ ?_
   try clear hK5 K5
   refine vwp_ret (hR _ _ ?_)
   have hw : checkP w p = (0, w.e) := by
     unfold checkP; rw [if_pos he]
   rw [hw]
   exact ret_k [4, 5] [] ([]) (.tup [.int .i64 (0), .int .i64 (w.e)]) (⟨rfl, rfl⟩)
  · simp -failIfUnchanged at h1; all_goals
   have he : w.e = 0 := by simpa using h1
   refine vwp_skip ?_
   refine hK3 _ ?_
   try clear hK3 K3
   refine vwp_seq_k fun K6 hK6 => ?_
   refine vwp_sq [2, 3] fun K7 hK7 => vwp_region hT ?_
   simp
   refine hK7 _ ?_
   try clear hK7 K7
   refine vwp_cond (by first | rfl | (simp; rfl)) (fun h2 => ?_) fun h2 => ?_
   · simp -failIfUnchanged at h2; all_goals
    refine vwp_sq [] fun K8 hK8 => vwp_region hT ?_
    simp
    refine hK8 _ ?_
    try clear hK8 K8
    refine vwp_ret (hR _ _ ?_)
    have hw : checkP w p = (0, 4) := by
      unfold checkP; rw [if_neg (by simp [he]), if_pos (by omega)]
    rw [hw]
    exact ret_k [4, 5] [] ([]) (.tup [.int .i64 (0), .int .i64 (4)]) (⟨rfl, rfl⟩)
   · simp -failIfUnchanged at h2; all_goals
    have h6 : p.rs.length ≤ 6 := by omega
    refine vwp_skip ?_
    refine hK6 _ ?_
    try clear hK6 K6
    refine vwp_sq [2, 3] fun K9 hK9 => vwp_region hT ?_
    simp
    refine hK9 _ ?_
    try clear hK9 K9
    refine vwp_sq [2, 3, 7] fun K10 hK10 => vwp_region hT ?_
    simp
    refine hK10 _ ?_
    try clear hK10 K10
    refine vwp_sq [2, 3, 7, 8] fun K11 hK11 => vwp_region hT ?_
    simp
    refine hK11 _ ?_
    try clear hK11 K11
    refine vwp_seq_k fun K12 hK12 => ?_
    refine vwp_sq [2, 3, 7, 8, 9] fun K13 hK13 => vwp_region hT ?_
    simp
    refine hK13 _ ?_
    try clear hK13 K13
    refine vwp_block ?_
    refine vwp_loop_s (fun u : KQ => ⟨[(2, .ptr 0 5 0), (3, .ptr 1 2 0), (7, .int .i64 u.cs.sum), (8, .sl 2 (trs (p.rs.take u.i)).length 1 0 (trs (p.rs.take u.i)).length), (9, .bool (dupB (trs (p.rs.take u.i)))), (10, .int .i64 (u.i : Int))], [.live w.c, .live p.c, .live (ints (trs (p.rs.take u.i)))]⟩) (fun u => u.i ≤ p.rs.length ∧ runsP w (p.rs.take u.i) = (some u.cs, 0)) (fun u => p.rs.length - u.i) (⟨0, []⟩) (Gh.to_k [2, 3, 7, 8, 9, 10] [0, 1, 2] (he := by simp [trs, dupB_nil]) (hh := by simp [trs])) (⟨by simp, rfl⟩) ?_
    rintro ⟨i, cs⟩ ⟨hi, hrs⟩
    dsimp only at hi hrs ⊢
    obtain ⟨hcl, hcb⟩ := runsP_co hrs
    rw [List.length_take, Nat.min_eq_left hi] at hcl
    have htl : (trs (p.rs.take i)).length = i := by simp [trs]; omega
    intro K14 hK14
    refine vwp_seq_k fun K15 hK15 => ?_
    refine vwp_sq [2, 3, 7, 8, 9, 10] fun K16 hK16 => vwp_region hT ?_
    simp
    refine hK16 _ ?_
    try clear hK16 K16
    refine vwp_cond (by first | rfl | (simp; rfl)) (fun h3 => ?_) fun h3 => ?_
    · simp -failIfUnchanged at h3; all_goals
     refine vwp_skip ?_
     refine hK15 _ ?_
     try clear hK15 K15
     refine vwp_seq_k fun K17 hK17 => ?_
     refine vwp_block ?_
     refine vwp_seq_k fun K18 hK18 => ?_
     obtain ⟨s, hs⟩ := getI (l := p.rs) (i := i) (by omega)
     have hrow := rowRt hs
     obtain ⟨hg0, hg1⟩ := getRt hs
     have hlen := lenRt p.rs
     have hst : s.st.length < 1099511627776 := by
       have h1 := catR_le p.rs (i + 1)
       rw [catR_take hs, List.length_append] at h1
       omega
     rcases hrun : runP w s with ⟨_ | tr, e⟩
     · have he2 := runP_none hrun
       have hsp := split_at hs
       have hbad : runsP w p.rs = (none, e) := by rw [hsp]; exact runsP_bad hrs hrun
       clear hsp
       refine vwp_live [2, 3, 7, 8, 9, 10] (vwp_of_some hm (vsome_pair 6 10 (by decide) ?_ ?_))
       · refine vsome_storm hT [0, 1, 2, 3, 4, 5, 6, 7, 8, 9, 10, 11, 12] [.win 0 0, .win 0 0, .win 0 0, .pure, .win 0 0, .win 0 0, .mv, .pure, .pure, .pure, .mv, .mv, .pure] [[], [], [1], [], [1, 2, 3], [1, 2, 3, 4], [0, 1, 2, 3, 4, 5], [0, 1, 2, 3, 4, 5, 6], [0, 1, 2, 3, 4, 5, 6, 7], [0, 1, 2, 3, 4, 5, 6, 7], [0, 1, 2, 3, 4, 5, 6], [0, 1, 2, 3, 4, 5, 6, 7, 8, 10], [0, 1, 2, 3, 4, 5, 6, 7, 8, 9, 10, 11]] (by kernel_rfl) (by kernel_rfl) ?_
         simp [hrow, hlen]
         repeat refine ⟨by first | assumption | omega | (intros; omega), ?_⟩
         refine ⟨.tup [.agg [.nils, .int .i64 0, .int .i64 0, .int .i64 0], .int .i64 e], [.live w.c, .live p.c, .live (ints (trs (p.rs.take i)))], fun sl => ?_, ?_⟩
         · refine vcall_z [] (drun_spec w ho ht s hst) (by rw [hrun]; rintro r ob' ⟨rfl, rfl⟩; simp) ?_
           rw [hrun]
           rintro r ob' ⟨rfl, rfl⟩
           simp
         simp [hrow, hlen]
         repeat refine ⟨by first | assumption | omega | (intros; omega), ?_⟩
         refine hK18 _ ?_
         try clear hK18 K18
         refine vwp_seq_k fun K19 hK19 => ?_
         refine vwp_sq [2, 3, 7, 8, 9, 10, 11, 12] fun K20 hK20 => vwp_region hT ?_
         simp [he2]
         refine hK20 _ ?_
         try clear hK20 K20
         refine vwp_cond (by first | rfl | (simp; rfl)) (fun h4 => ?_) fun h4 => ?_
         · simp -failIfUnchanged at h4; all_goals
          refine vwp_sq [12] fun K21 hK21 => vwp_region hT ?_
          simp
          refine hK21 _ ?_
          try clear hK21 K21
          refine vwp_ret (hR _ _ ?_)
          have hw : checkP w p = (0, e) := by
            unfold checkP; rw [if_neg (by simp [he]), if_neg (by omega), hbad]
          rw [hw]
          exact ret_k [4, 5] [] ([]) (.tup [.int .i64 (0), .int .i64 (e)]) (⟨rfl, rfl⟩)
         · simp -failIfUnchanged at h4; all_goals
          refine vwp_skip ?_
          refine hK19 _ ?_
          try clear hK19 K19
          refine vwp_seq_k fun K22 hK22 => ?_
          simp_all
       · refine vsome_storm hT [0, 1, 2, 3, 4, 5, 10, 6, 7, 8, 9, 11, 12] [.win 0 1, .win 0 1, .win 0 1, .pure, .win 0 1, .win 0 1, .mv, .mv, .pure, .pure, .pure, .mv, .pure] [[], [], [1], [], [1, 2, 3], [1, 2, 3, 4], [], [0, 1, 2, 3, 4, 5, 6], [0, 1, 2, 3, 4, 5, 6, 7], [0, 1, 2, 3, 4, 5, 6, 7, 8], [0, 1, 2, 3, 4, 5, 6, 7, 8], [0, 1, 2, 3, 4, 5, 6, 7, 8, 9], [0, 1, 2, 3, 4, 5, 6, 7, 8, 9, 10, 11]] (by kernel_rfl) (by kernel_rfl) ?_
         simp [hrow, hlen]
         repeat refine ⟨by first | assumption | omega | (intros; omega), ?_⟩
         refine ⟨.tup [.agg [.nils, .int .i64 0, .int .i64 0, .int .i64 0], .int .i64 e], [.live w.c, .live p.c, .live (ints (trs (p.rs.take i)))] ++ [.live [.nils, .int .i64 0, .int .i64 0, .int .i64 0]], fun sl => ?_, ?_⟩
         · refine vcall_z [] (drun_spec w ho ht s hst) (by rw [hrun]; rintro r ob' ⟨rfl, rfl⟩; simp) ?_
           rw [hrun]
           rintro r ob' ⟨rfl, rfl⟩
           simp
         simp [hrow, hlen]
         repeat refine ⟨by first | assumption | omega | (intros; omega), ?_⟩
         refine hK18 _ ?_
         try clear hK18 K18
         refine vwp_seq_k fun K23 hK23 => ?_
         refine vwp_sq [2, 3, 7, 8, 9, 10, 11, 12] fun K24 hK24 => vwp_region hT ?_
         simp [he2]
         refine hK24 _ ?_
         try clear hK24 K24
         refine vwp_cond (by first | rfl | (simp; rfl)) (fun h5 => ?_) fun h5 => ?_
         · simp -failIfUnchanged at h5; all_goals
          refine vwp_sq [12] fun K25 hK25 => vwp_region hT ?_
          simp
          refine hK25 _ ?_
          try clear hK25 K25
          refine vwp_ret (hR _ _ ?_)
          have hw : checkP w p = (0, e) := by
            unfold checkP; rw [if_neg (by simp [he]), if_neg (by omega), hbad]
          rw [hw]
          exact ret_k [4, 5] [] ([]) (.tup [.int .i64 (0), .int .i64 (e)]) (⟨rfl, rfl⟩)
         · simp -failIfUnchanged at h5; all_goals
          refine vwp_skip ?_
          refine hK23 _ ?_
          try clear hK23 K23
          refine vwp_seq_k fun K26 hK26 => ?_
          simp_all
     · obtain ⟨he2, hok, _⟩ := runP_some hrun
       subst he2
       have hco := run_co hrun
       refine vwp_live [2, 3, 7, 8, 9, 10] (vwp_of_some hm (vsome_pair 6 10 (by decide) ?_ ?_))
       · refine vsome_storm hT [0, 1, 2, 3, 4, 5, 6, 7, 8, 9, 10, 11, 12] [.win 0 0, .win 0 0, .win 0 0, .pure, .win 0 0, .win 0 0, .mv, .pure, .pure, .pure, .mv, .mv, .pure] [[], [], [1], [], [1, 2, 3], [1, 2, 3, 4], [0, 1, 2, 3, 4, 5], [0, 1, 2, 3, 4, 5, 6], [0, 1, 2, 3, 4, 5, 6, 7], [0, 1, 2, 3, 4, 5, 6, 7], [0, 1, 2, 3, 4, 5, 6], [0, 1, 2, 3, 4, 5, 6, 7, 8, 10], [0, 1, 2, 3, 4, 5, 6, 7, 8, 9, 10, 11]] (by kernel_rfl) (by kernel_rfl) ?_
         simp [hrow, hlen]
         repeat refine ⟨by first | assumption | omega | (intros; omega), ?_⟩
         refine ⟨.tup [.agg [.sl 3 (tr.vs.length * 4) 4 0 tr.vs.length, .int .i64 tr.ba, .int .i64 tr.ds, .int .i64 tr.co], .int .i64 0], [.live w.c, .live p.c, .live (ints (trs (p.rs.take i)))] ++ [.live (rowsV tr.vs)], fun sl => ?_, ?_⟩
         · refine vcall_z [] (drun_spec w ho ht s hst) (by rw [hrun]; rintro r ob' ⟨rfl, rfl⟩; simp; intro c hc; obtain ⟨n, rfl⟩ := vsC hc; rfl) ?_
           rw [hrun]
           rintro r ob' ⟨rfl, rfl⟩
           simp
         simp [hrow, hlen]
         repeat refine ⟨by first | assumption | omega | (intros; omega), ?_⟩
         refine hK18 _ ?_
         try clear hK18 K18
         refine vwp_seq_k fun K27 hK27 => ?_
         refine vwp_sq [2, 3, 7, 8, 9, 10, 11, 12] fun K28 hK28 => vwp_region hT ?_
         simp
         refine hK28 _ ?_
         try clear hK28 K28
         refine vwp_cond (by first | rfl | (simp; rfl)) (fun h6 => ?_) fun h6 => ?_
         · simp -failIfUnchanged at h6; all_goals
          refine vwp_seq_k fun K29 hK29 => ?_
          simp_all
         · simp -failIfUnchanged at h6; all_goals
          refine vwp_skip ?_
          refine hK27 _ ?_
          try clear hK27 K27
          refine vwp_cut_s (fun _ : Unit => ⟨[(2, .ptr 0 5 0), (3, .ptr 1 2 0), (7, .int .i64 (cs.sum + tr.co)), (8, .sl 2 (trs (p.rs.take i)).length 1 0 (trs (p.rs.take i)).length), (9, .bool (dupB (trs (p.rs.take i)))), (10, .int .i64 (i : Int))], [.live w.c, .live p.c, .live (ints (trs (p.rs.take i)))]⟩) (fun _ => True) (fun K30 hK30 => ?_) ?_
          · have hsb := sum_bounds2 hcb
            have w2 : IntKind.i64.wrap (cs.sum + tr.co) = cs.sum + tr.co := w64 (by omega) (by omega)
            refine vwp_live [2, 3, 7, 8, 9, 10, 11] (vwp_region hT ?_)
            simp [w2]
            exact hK30 (()) _ (Gh.to_k [2, 3, 7, 8, 9, 10] [0, 1, 2]) (trivial)
          · rintro _ _
            refine vwp_seq_k fun K31 hK31 => ?_
            have hnew : dupB (trs (p.rs.take i) ++ [s.tr]) = (dupB (trs (p.rs.take i)) || hasB (trs (p.rs.take i)) s.tr) := dupB_snoc
            have li : i * 2 < p.rs.length * 2 := by omega
            have htk : List.take (trs (p.rs.take i)).length (ints (trs (p.rs.take i))) = ints (trs (p.rs.take i)) := List.take_of_length_le (by simp)
            rcases hd : dupB (trs (p.rs.take i)) with _ | _
            all_goals rw [hd] at hnew
            · refine vwp_live [2, 3, 7, 8, 9, 10] (vwp_region hT ?_)
              simp [hg0, hlen]
              repeat refine ⟨by first | assumption | omega | (intros; omega), ?_⟩
              refine vcall_z [] (in_spec (trs (p.rs.take i)) (by omega) s.tr) (by rintro r ob' ⟨rfl, rfl⟩; simp) ?_ (ha := by simp [htk]) (hok := by simp)
              rintro r ob' ⟨rfl, rfl⟩
              simp [hg0, hlen]
              repeat refine ⟨by first | assumption | omega | (intros; omega), ?_⟩
              refine hK31 _ ?_
              try clear hK31 K31
              refine vwp_live [2, 3, 7, 8, 9, 10] (vwp_region hT ?_)
              simp [hg0, hlen, htl]
              repeat refine ⟨by first | assumption | omega | (intros; omega), ?_⟩
              refine hK17 _ ?_
              try clear hK17 K17
              have w1 : IntKind.i64.wrap ((i : Int) + 1) = i + 1 := w64 (by omega) (by omega)
              refine vwp_live [2, 3, 7, 8, 9, 10] (vwp_region hT ?_)
              simp [w1]
              exact hK14 (⟨i + 1, cs ++ [tr.co]⟩) _ (Gh.to_k [2, 3, 7, 8, 9, 10] [0, 1, 2] (he := by simp [hnew, trs_take hs, htl]) (hh := by simp [trs_take hs])) (⟨by dsimp only; omega, by dsimp only; rw [take_snoc hs]; exact runsP_snoc hrs hrun⟩) (by dsimp only; omega)
            · refine vwp_live [2, 3, 7, 8, 9, 10] (vwp_region hT ?_)
              simp [hg0, hlen]
              repeat refine ⟨by first | assumption | omega | (intros; omega), ?_⟩
              refine hK31 _ ?_
              try clear hK31 K31
              refine vwp_live [2, 3, 7, 8, 9, 10] (vwp_region hT ?_)
              simp [hg0, hlen, htl]
              repeat refine ⟨by first | assumption | omega | (intros; omega), ?_⟩
              refine hK17 _ ?_
              try clear hK17 K17
              have w1 : IntKind.i64.wrap ((i : Int) + 1) = i + 1 := w64 (by omega) (by omega)
              refine vwp_live [2, 3, 7, 8, 9, 10] (vwp_region hT ?_)
              simp [w1]
              exact hK14 (⟨i + 1, cs ++ [tr.co]⟩) _ (Gh.to_k [2, 3, 7, 8, 9, 10] [0, 1, 2] (he := by simp [hnew, trs_take hs, htl]) (hh := by simp [trs_take hs])) (⟨by dsimp only; omega, by dsimp only; rw [take_snoc hs]; exact runsP_snoc hrs hrun⟩) (by dsimp only; omega)
       · refine vsome_storm hT [0, 1, 2, 3, 4, 5, 10, 6, 7, 8, 9, 11, 12] [.win 0 1, .win 0 1, .win 0 1, .pure, .win 0 1, .win 0 1, .mv, .mv, .pure, .pure, .pure, .mv, .pure] [[], [], [1], [], [1, 2, 3], [1, 2, 3, 4], [], [0, 1, 2, 3, 4, 5, 6], [0, 1, 2, 3, 4, 5, 6, 7], [0, 1, 2, 3, 4, 5, 6, 7, 8], [0, 1, 2, 3, 4, 5, 6, 7, 8], [0, 1, 2, 3, 4, 5, 6, 7, 8, 9], [0, 1, 2, 3, 4, 5, 6, 7, 8, 9, 10, 11]] (by kernel_rfl) (by kernel_rfl) ?_
         simp [hrow, hlen]
         repeat refine ⟨by first | assumption | omega | (intros; omega), ?_⟩
         refine ⟨.tup [.agg [.sl 4 (tr.vs.length * 4) 4 0 tr.vs.length, .int .i64 tr.ba, .int .i64 tr.ds, .int .i64 tr.co], .int .i64 0], [.live w.c, .live p.c, .live (ints (trs (p.rs.take i)))] ++ [.live [.nils, .int .i64 0, .int .i64 0, .int .i64 0], .live (rowsV tr.vs)], fun sl => ?_, ?_⟩
         · refine vcall_z [] (drun_spec w ho ht s hst) (by rw [hrun]; rintro r ob' ⟨rfl, rfl⟩; simp; intro c hc; obtain ⟨n, rfl⟩ := vsC hc; rfl) ?_
           rw [hrun]
           rintro r ob' ⟨rfl, rfl⟩
           simp
         simp [hrow, hlen]
         repeat refine ⟨by first | assumption | omega | (intros; omega), ?_⟩
         refine hK18 _ ?_
         try clear hK18 K18
         refine vwp_seq_k fun K32 hK32 => ?_
         refine vwp_sq [2, 3, 7, 8, 9, 10, 11, 12] fun K33 hK33 => vwp_region hT ?_
         simp
         refine hK33 _ ?_
         try clear hK33 K33
         refine vwp_cond (by first | rfl | (simp; rfl)) (fun h7 => ?_) fun h7 => ?_
         · simp -failIfUnchanged at h7; all_goals
          refine vwp_seq_k fun K34 hK34 => ?_
          simp_all
         · simp -failIfUnchanged at h7; all_goals
          refine vwp_skip ?_
          refine hK32 _ ?_
          try clear hK32 K32
          refine vwp_cut_s (fun _ : Unit => ⟨[(2, .ptr 0 5 0), (3, .ptr 1 2 0), (7, .int .i64 (cs.sum + tr.co)), (8, .sl 2 (trs (p.rs.take i)).length 1 0 (trs (p.rs.take i)).length), (9, .bool (dupB (trs (p.rs.take i)))), (10, .int .i64 (i : Int))], [.live w.c, .live p.c, .live (ints (trs (p.rs.take i)))]⟩) (fun _ => True) (fun K35 hK35 => ?_) ?_
          · have hsb := sum_bounds2 hcb
            have w2 : IntKind.i64.wrap (cs.sum + tr.co) = cs.sum + tr.co := w64 (by omega) (by omega)
            refine vwp_live [2, 3, 7, 8, 9, 10, 11] (vwp_region hT ?_)
            simp [w2]
            exact hK35 (()) _ (Gh.to_k [2, 3, 7, 8, 9, 10] [0, 1, 2]) (trivial)
          · rintro _ _
            refine vwp_seq_k fun K36 hK36 => ?_
            have hnew : dupB (trs (p.rs.take i) ++ [s.tr]) = (dupB (trs (p.rs.take i)) || hasB (trs (p.rs.take i)) s.tr) := dupB_snoc
            have li : i * 2 < p.rs.length * 2 := by omega
            have htk : List.take (trs (p.rs.take i)).length (ints (trs (p.rs.take i))) = ints (trs (p.rs.take i)) := List.take_of_length_le (by simp)
            rcases hd : dupB (trs (p.rs.take i)) with _ | _
            all_goals rw [hd] at hnew
            · refine vwp_live [2, 3, 7, 8, 9, 10] (vwp_region hT ?_)
              simp [hg0, hlen]
              repeat refine ⟨by first | assumption | omega | (intros; omega), ?_⟩
              refine vcall_z [] (in_spec (trs (p.rs.take i)) (by omega) s.tr) (by rintro r ob' ⟨rfl, rfl⟩; simp) ?_ (ha := by simp [htk]) (hok := by simp)
              rintro r ob' ⟨rfl, rfl⟩
              simp [hg0, hlen]
              repeat refine ⟨by first | assumption | omega | (intros; omega), ?_⟩
              refine hK36 _ ?_
              try clear hK36 K36
              refine vwp_live [2, 3, 7, 8, 9, 10] (vwp_region hT ?_)
              simp [hg0, hlen, htl]
              repeat refine ⟨by first | assumption | omega | (intros; omega), ?_⟩
              refine hK17 _ ?_
              try clear hK17 K17
              have w1 : IntKind.i64.wrap ((i : Int) + 1) = i + 1 := w64 (by omega) (by omega)
              refine vwp_live [2, 3, 7, 8, 9, 10] (vwp_region hT ?_)
              simp [w1]
              exact hK14 (⟨i + 1, cs ++ [tr.co]⟩) _ (Gh.to_k [2, 3, 7, 8, 9, 10] [0, 1, 2] (he := by simp [hnew, trs_take hs, htl]) (hh := by simp [trs_take hs])) (⟨by dsimp only; omega, by dsimp only; rw [take_snoc hs]; exact runsP_snoc hrs hrun⟩) (by dsimp only; omega)
            · refine vwp_live [2, 3, 7, 8, 9, 10] (vwp_region hT ?_)
              simp [hg0, hlen]
              repeat refine ⟨by first | assumption | omega | (intros; omega), ?_⟩
              refine hK36 _ ?_
              try clear hK36 K36
              refine vwp_live [2, 3, 7, 8, 9, 10] (vwp_region hT ?_)
              simp [hg0, hlen, htl]
              repeat refine ⟨by first | assumption | omega | (intros; omega), ?_⟩
              refine hK17 _ ?_
              try clear hK17 K17
              have w1 : IntKind.i64.wrap ((i : Int) + 1) = i + 1 := w64 (by omega) (by omega)
              refine vwp_live [2, 3, 7, 8, 9, 10] (vwp_region hT ?_)
              simp [w1]
              exact hK14 (⟨i + 1, cs ++ [tr.co]⟩) _ (Gh.to_k [2, 3, 7, 8, 9, 10] [0, 1, 2] (he := by simp [hnew, trs_take hs, htl]) (hh := by simp [trs_take hs])) (⟨by dsimp only; omega, by dsimp only; rw [take_snoc hs]; exact runsP_snoc hrs hrun⟩) (by dsimp only; omega)
    · simp -failIfUnchanged at h3; all_goals
     refine vwp_exit ?_
     simp only [inBlk, thenQ, if_true]
     refine hK12 _ ?_
     try clear hK12 K12
     obtain rfl : i = p.rs.length := by omega
     rw [List.take_length] at hrs htl ⊢
     refine vwp_sq [2, 3, 7, 9] fun K37 hK37 => vwp_region hT ?_
     simp
     refine vcall_z [] (dserved_spec p hp hc) (by rintro r ob' ⟨rfl, rfl⟩; simp) ?_
     rintro r ob' ⟨rfl, rfl⟩
     simp
     refine hK37 _ ?_
     try clear hK37 K37
     refine vwp_seq_k fun K38 hK38 => ?_
     refine vwp_sq [2, 3, 7, 9, 13] fun K39 hK39 => vwp_region hT ?_
     simp
     refine hK39 _ ?_
     try clear hK39 K39
     refine vwp_block ?_
     have hsl := servP_len p
     have hz1 : adjB ((servP p).take 1) = false := by
       cases servP p with
       | nil => rfl
       | cons a S => rfl
     refine vwp_loop_s (fun v : Nat => ⟨[(2, .ptr 0 5 0), (3, .ptr 1 2 0), (7, .int .i64 cs.sum), (9, .bool (dupB (trs p.rs) || adjB ((servP p).take (v + 1)))), (13, .sl 3 (catR p.rs).length 1 0 (catR p.rs).length), (14, .int .i64 (v + 1 : Nat))], [.live w.c, .live p.c, .live (ints (trs p.rs)), .live (ints (servP p))]⟩) (fun v => v ≤ (catR p.rs).length) (fun v => (catR p.rs).length - v) (0) (Gh.to_k [2, 3, 7, 9, 13, 14] [0, 1, 2, 3] (he := by simp [hz1])) (by omega) ?_
     rintro v hv
     intro K40 hK40
     refine vwp_seq_k fun K41 hK41 => ?_
     refine vwp_sq [2, 3, 7, 9, 13, 14] fun K42 hK42 => vwp_region hT ?_
     simp [hsl]
     refine hK42 _ ?_
     try clear hK42 K42
     refine vwp_cond (by first | rfl | (simp; rfl)) (fun h8 => ?_) fun h8 => ?_
     · simp -failIfUnchanged at h8; all_goals
      refine vwp_skip ?_
      refine hK41 _ ?_
      try clear hK41 K41
      refine vwp_seq_k fun K43 hK43 => ?_
      refine vwp_block ?_
      obtain ⟨x, hx⟩ := getI (l := servP p) (i := v + 1) (by omega)
      obtain ⟨y, hy⟩ := getI (l := servP p) (i := v) (by omega)
      have w3 : IntKind.i64.wrap (v : Int) = (v : Int) := w64 (by omega) (by omega)
      have hst2 : (dupB (trs p.rs) || adjB ((servP p).take (v + 1 + 1))) = ((dupB (trs p.rs) || adjB ((servP p).take (v + 1))) || (x == y)) := by
        rw [adjB_take hx hy, Bool.or_assoc]
      rcases hcs : (dupB (trs p.rs) || adjB ((servP p).take (v + 1))) with _ | _
      · refine vwp_live [2, 3, 7, 9, 13, 14] (vwp_still hT hm (by kernel_rfl) ?_)
        simp [hx, hy, w3, hsl]
        repeat refine ⟨by first | assumption | omega | (intros; omega), ?_⟩
        refine hK43 _ ?_
        try clear hK43 K43
        have w4 : IntKind.i64.wrap ((v : Int) + 1 + 1) = (v : Int) + 1 + 1 := w64 (by omega) (by omega)
        refine vwp_live [2, 3, 7, 9, 13, 14] (vwp_region hT ?_)
        simp [w4]
        exact hK40 (v + 1) _ (Gh.to_k [2, 3, 7, 9, 13, 14] [0, 1, 2, 3] (he := by simp [hst2, hcs])) (by omega) (by omega)
      · refine vwp_live [2, 3, 7, 9, 13, 14] (vwp_still hT hm (by kernel_rfl) ?_)
        simp [hx, hy, w3, hsl]
        repeat refine ⟨by first | assumption | omega | (intros; omega), ?_⟩
        refine hK43 _ ?_
        try clear hK43 K43
        have w4 : IntKind.i64.wrap ((v : Int) + 1 + 1) = (v : Int) + 1 + 1 := w64 (by omega) (by omega)
        refine vwp_live [2, 3, 7, 9, 13, 14] (vwp_region hT ?_)
        simp [w4]
        exact hK40 (v + 1) _ (Gh.to_k [2, 3, 7, 9, 13, 14] [0, 1, 2, 3] (he := by simp [hst2, hcs])) (by omega) (by omega)
     · simp -failIfUnchanged at h8; all_goals
      refine vwp_exit ?_
      simp only [inBlk, thenQ, if_true]
      refine hK38 _ ?_
      try clear hK38 K38
      refine vwp_seq_k fun K44 hK44 => ?_
      have hta : adjB ((servP p).take (v + 1)) = dupB (catR p.rs) := by
        rw [List.take_of_length_le (by omega)]; exact adjB_srt _
      rw [hta]
      have hck : checkP w p = if (dupB (trs p.rs) || dupB (catR p.rs)) = true then (0, 6) else if p.un ≠ restP w p then (0, 2) else (cs.sum, 0) := by unfold checkP; rw [if_neg (by simp [he]), if_neg (by omega), hrs]; rfl
      refine vwp_sq [2, 3, 7, 9] fun K45 hK45 => vwp_region hT ?_
      simp
      refine hK45 _ ?_
      try clear hK45 K45
      refine vwp_cond (by first | rfl | (simp; rfl)) (fun h9 => ?_) fun h9 => ?_
      · simp -failIfUnchanged at h9; all_goals
       have q := h9
       refine vwp_sq [] fun K46 hK46 => vwp_region hT ?_
       simp
       refine hK46 _ ?_
       try clear hK46 K46
       refine vwp_ret (hR _ _ ?_)
       have hw : checkP w p = (0, 6) := by
         rw [hck, if_pos (by simpa using q)]
       rw [hw]
       exact ret_k [4, 5] [] ([]) (.tup [.int .i64 (0), .int .i64 (6)]) (⟨rfl, rfl⟩)
      · simp -failIfUnchanged at h9; all_goals
       have q := h9
       have hdn : ¬ (dupB (trs p.rs) || dupB (catR p.rs)) = true := by simpa using q
       refine vwp_skip ?_
       refine hK44 _ ?_
       try clear hK44 K44
       refine vwp_seq_k fun K47 hK47 => ?_
       have htkr : List.take (restP w p).length (ints (restP w p)) = ints (restP w p) := List.take_of_length_le (by simp)
       refine vwp_sq [2, 3, 7] fun K48 hK48 => vwp_storm hT hm [.win 0 1, .win 0 1, .win 0 0, .win 0 0, .mv, .mv, .pure] [[], [0], [], [], [2, 3], [0, 1, 2, 3, 4], [0, 1, 2, 3, 4, 5]] (by kernel_rfl) ?_
       simp
       refine ⟨.sl 4 (restP w p).length 1 0 (restP w p).length, [.live w.c, .live p.c, .live (ints (trs p.rs)), .live (ints (servP p))] ++ [.live (ints (restP w p))], fun sl => ?_, ?_⟩
       · refine vcall_z [] (drest_spec w ho p hp hc) (by rintro r ob' ⟨rfl, rfl⟩; simp) ?_
         rintro r ob' ⟨rfl, rfl⟩
         simp
       simp
       refine ⟨.bool (decide (p.un = restP w p)), [.live w.c, .live p.c, .live (ints (trs p.rs)), .live (ints (servP p))] ++ [.live (ints (restP w p))], fun sl => ?_, ?_⟩
       · refine vcall_z [] (same_spec p.un (restP w p) (by omega) (by have h1 := restP_len w p; have h2 := unsF_le w.os (catR p.rs); omega)) (by rintro r ob' ⟨rfl, rfl⟩; simp) ?_ (ha := by simp [htkr])
         rintro r ob' ⟨rfl, rfl⟩
         simp
       simp
       refine hK48 _ ?_
       try clear hK48 K48
       refine vwp_cond (by first | rfl | (simp; rfl)) (fun h10 => ?_) fun h10 => ?_
       · simp -failIfUnchanged at h10; all_goals
        have q := h10
        refine vwp_sq [] fun K49 hK49 => vwp_region hT ?_
        simp
        refine hK49 _ ?_
        try clear hK49 K49
        refine vwp_ret (hR _ _ ?_)
        have hw : checkP w p = (0, 2) := by
          rw [hck, if_neg hdn, if_pos (by simpa using q)]
        rw [hw]
        exact ret_k [4, 5] [] ([]) (.tup [.int .i64 (0), .int .i64 (2)]) (⟨rfl, rfl⟩)
       · simp -failIfUnchanged at h10; all_goals
        have q := h10
        refine vwp_skip ?_
        refine hK47 _ ?_
        try clear hK47 K47
        refine vwp_sq [7] fun K50 hK50 => vwp_region hT ?_
        simp
        refine hK50 _ ?_
        try clear hK50 K50
        refine vwp_ret (hR _ _ ?_)
        have hw : checkP w p = (cs.sum, 0) := by
          rw [hck, if_neg hdn, if_neg (by simpa using q)]
        rw [hw]
        exact ret_k [4, 5] [] ([]) (.tup [.int .i64 (cs.sum), .int .i64 (0)]) (⟨rfl, rfl⟩)
end Go.Proofs.Ytinigjmfjabicaa
