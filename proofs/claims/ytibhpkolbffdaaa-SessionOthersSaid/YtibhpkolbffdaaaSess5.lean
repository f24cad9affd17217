/- SessionDoes: what it answers. -/
import Derived.Test.YtibhpkolbffdaaaSess4
namespace Go.Proofs.Ytibhpkolbffdaaa
open Go Go.VX Go.RowKit
set_option linter.unusedVariables false
set_option linter.unusedSimpArgs false
set_option maxHeartbeats 20000000
set_option maxRecDepth 100000


/-- The document's table, as it lies from object 3 on. -/
def RT.obs3 (t : RT) : List Ob := [.live [.int .i64 t.life, .int .i64 t.quota, .sl 4 (t.us.length * 3) 3 0 t.us.length, .sl 5 (t.ss.length * 3) 3 0 t.ss.length], .live (rowsV t.us), .live (rowsV t.ss)]
theorem RT.act0 (t : RT) (x : Act) (h : x.do_ = 0) : t.act x = (⟨0, 0, (t.add x.name x.secret x.who).1⟩, (t.add x.name x.secret x.who).2) := by unfold RT.act; rw [if_pos h]
theorem RT.act1 (t : RT) (x : Act) (h : x.do_ = 1) : t.act x = (⟨(t.login x.name x.secret x.draw x.now).1.1, 0, (t.login x.name x.secret x.draw x.now).1.2⟩, (t.login x.name x.secret x.draw x.now).2) := by unfold RT.act; rw [if_neg (by omega), if_pos h]
theorem RT.act2 (t : RT) (x : Act) (h : x.do_ = 2) : t.act x = (⟨0, 0, (t.logout x.draw x.now).1⟩, (t.logout x.draw x.now).2) := by unfold RT.act; rw [if_neg (by omega), if_neg (by omega), if_pos h]
theorem RT.act3 (t : RT) (x : Act) (h0 : ¬ x.do_ = 0) (h1 : ¬ x.do_ = 1) (h2 : ¬ x.do_ = 2) : t.act x = (⟨0, (t.who x.draw x.now).1, (t.who x.draw x.now).2⟩, t) := by unfold RT.act; rw [if_neg h0, if_neg h1, if_neg h2]
theorem RT.login_err {t : RT} {name secret : ByteArray} {draw now : Int} (h : ¬ (t.login name secret draw now).1.2 = 0) : (t.login name secret draw now).2 = t := by
  unfold RT.login at h ⊢
  grind
theorem RT.logout_err {t : RT} {tok now : Int} (h : t.at tok now < 0) : t.logout tok now = (11, t) := by
  unfold RT.logout
  rw [if_pos h]
theorem sdoes_spec (a b : Int) (l : List Act) (hl : l.length ≤ 140737488355328) (hb : ∀ x ∈ l, x.name.size ≤ 140737488355328 ∧ x.secret.size ≤ 140737488355328) :
    VC P 6 [.int .i64 a, .int .i64 b, .fs l.length (rowsV l)] [] (fun r ob' => r = .bool true) := by
  refine VC_of_vwp_k ent_6 Try.func6 rfl (by simp [Try.ntmps6]) fun R hR => ?_
  refine vwp_seq_k fun K1 hK1 => ?_
  refine vwp_live [0, 1, 2] ?_
  try simp only [argSlots, pruneS, inN, eq_self, reduceIte, ite_true, Nat.reduceAdd, Nat.reduceBEq, Bool.or_true, Bool.true_or, Bool.or_false, Bool.false_or, if_true, if_false, Bool.false_eq_true]
  refine vwp_region hT ?_
  simp [-List.reduceReplicate, PT.obs, RT.obs3, lenU, lenS1, lenAct, Try.ntmps6]
  repeat refine ⟨by first | assumption | omega | (rw [spl_length (by simp; omega)]; simp; done) | (intros; omega), ?_⟩
  refine hK1 _ ?_
  try clear hK1 K1
  refine vwp_seq_k fun K2 hK2 => ?_
  refine vwp_seq_k fun K3 hK3 => ?_
  refine vwp_live [0, 1, 2] ?_
  try simp only [argSlots, pruneS, inN, eq_self, reduceIte, ite_true, Nat.reduceAdd, Nat.reduceBEq, Bool.or_true, Bool.true_or, Bool.or_false, Bool.false_or, if_true, if_false, Bool.false_eq_true]
  refine vwp_region hT ?_
  simp [-List.reduceReplicate, PT.obs, RT.obs3, lenU, lenS1, lenAct]
  refine vcall_by0 [] (awake18_spec) (by simp) (by simp [PT.obs]) (by simp) (by simp [PT.obs]) ?_
  rintro r ob' ⟨rfl, rfl⟩
  simp [-List.reduceReplicate, PT.obs, RT.obs3, lenU, lenS1, lenAct]
  repeat refine ⟨by first | assumption | omega | (rw [spl_length (by simp; omega)]; simp; done) | (intros; omega), ?_⟩
  refine hK3 _ ?_
  try clear hK3 K3
  refine vwp_cond (by first | rfl | (simp; rfl)) (fun h1 => ?_) (fun h1 => ?_)
  · try (exfalso; simp at h1; done)
    all_goals
      try simp at h1
      refine vwp_seq_k fun K4 hK4 => ?_
      refine vwp_live [] ?_
      try simp only [argSlots, pruneS, inN, eq_self, reduceIte, ite_true, Nat.reduceAdd, Nat.reduceBEq, Bool.or_true, Bool.true_or, Bool.or_false, Bool.false_or, if_true, if_false, Bool.false_eq_true]
      refine vwp_region hT ?_
      simp [-List.reduceReplicate, PT.obs, RT.obs3, lenU, lenS1, lenAct]
      repeat refine ⟨by first | assumption | omega | (rw [spl_length (by simp; omega)]; simp; done) | (intros; omega), ?_⟩
      refine hK4 _ ?_
      try clear hK4 K4
      refine vwp_ret ?_
      try simp only [thenQ, inBlk]
      refine hR _ _ ?_
      refine ret_only [6] [] [] (by simp) (by simp) rfl (by simp) (r := .bool true) (by simp [Try.f6]) rfl
  · try (exfalso; simp at h1; done)
    all_goals
      try simp at h1
      refine vwp_skip ?_
      try simp only [thenQ, inBlk]
      refine hK2 _ ?_
      try clear hK2 K2
      refine vwp_seq_k fun K5 hK5 => ?_
      refine vwp_seq_k fun K6 hK6 => ?_
      refine vwp_live [0, 1, 2] ?_
      try simp only [argSlots, pruneS, inN, eq_self, reduceIte, ite_true, Nat.reduceAdd, Nat.reduceBEq, Bool.or_true, Bool.true_or, Bool.or_false, Bool.false_or, if_true, if_false, Bool.false_eq_true]
      refine vwp_region hT ?_
      simp [-List.reduceReplicate, PT.obs, RT.obs3, lenU, lenS1, lenAct]
      refine vcall_by0 [] (large18_spec l hl hb) (by simp) (by simp [PT.obs]) (by simp) (by simp [PT.obs]) ?_
      rintro r ob' ⟨⟨v, rfl, hv⟩, rfl⟩
      simp [-List.reduceReplicate, PT.obs, RT.obs3, lenU, lenS1, lenAct]
      repeat refine ⟨by first | assumption | omega | (rw [spl_length (by simp; omega)]; simp; done) | (intros; omega), ?_⟩
      refine hK6 _ ?_
      try clear hK6 K6
      refine vwp_cond (by first | rfl | (simp; rfl)) (fun h2 => ?_) (fun h2 => ?_)
      · try (exfalso; simp at h2; done)
        all_goals
          try simp at h2
          refine vwp_seq_k fun K7 hK7 => ?_
          refine vwp_live [] ?_
          try simp only [argSlots, pruneS, inN, eq_self, reduceIte, ite_true, Nat.reduceAdd, Nat.reduceBEq, Bool.or_true, Bool.true_or, Bool.or_false, Bool.false_or, if_true, if_false, Bool.false_eq_true]
          refine vwp_region hT ?_
          simp [-List.reduceReplicate, PT.obs, RT.obs3, lenU, lenS1, lenAct]
          repeat refine ⟨by first | assumption | omega | (rw [spl_length (by simp; omega)]; simp; done) | (intros; omega), ?_⟩
          refine hK7 _ ?_
          try clear hK7 K7
          refine vwp_ret ?_
          try simp only [thenQ, inBlk]
          refine hR _ _ ?_
          refine ret_only [6] [] [] (by simp) (by simp) rfl (by simp) (r := .bool true) (by simp [Try.f6]) rfl
      · try (exfalso; simp at h2; done)
        all_goals
          try simp at h2
          refine vwp_skip ?_
          try simp only [thenQ, inBlk]
          refine hK5 _ ?_
          try clear hK5 K5
          refine vwp_seq_k fun K8 hK8 => ?_
          by_cases hn : newOK a b
          · have hsm := hv (by assumption)
            refine vwp_live [0, 1, 2] ?_
            try simp only [argSlots, pruneS, inN, eq_self, reduceIte, ite_true, Nat.reduceAdd, Nat.reduceBEq, Bool.or_true, Bool.true_or, Bool.or_false, Bool.false_or, if_true, if_false, Bool.false_eq_true]
            refine vwp_region hT ?_
            simp [-List.reduceReplicate, PT.obs, RT.obs3, lenU, lenS1, lenAct]
            refine vcall_by0 [] (snew_spec a b) (by simp) (by simp [PT.obs]) (by simp) (by simp [PT.obs]) ?_
            rintro r ob' ⟨hq, -⟩
            obtain ⟨rfl, rfl⟩ := hq hn
            simp [-List.reduceReplicate, PT.obs, RT.obs3, lenU, lenS1, lenAct]
            repeat refine ⟨by first | assumption | omega | (rw [spl_length (by simp; omega)]; simp; done) | (intros; omega), ?_⟩
            refine hK8 _ ?_
            try clear hK8 K8
            refine vwp_seq_k fun K9 hK9 => ?_
            refine vwp_live [0, 1, 2, 7, 8] ?_
            try simp only [argSlots, pruneS, inN, eq_self, reduceIte, ite_true, Nat.reduceAdd, Nat.reduceBEq, Bool.or_true, Bool.true_or, Bool.or_false, Bool.false_or, if_true, if_false, Bool.false_eq_true]
            refine vwp_region hT ?_
            simp [-List.reduceReplicate, PT.obs, RT.obs3, lenU, lenS1, lenAct]
            refine vcall_by0 [] (rtnew_spec a b) (by simp) (by simp [PT.obs]) (by simp) (by simp [PT.obs]) ?_
            rintro r ob' ⟨hq, -⟩
            obtain ⟨rfl, rfl⟩ := hq hn
            simp only [RT.obs]
            simp [-List.reduceReplicate, PT.obs, RT.obs3, lenU, lenS1, lenAct]
            repeat refine ⟨by first | assumption | omega | (rw [spl_length (by simp; omega)]; simp; done) | (intros; omega), ?_⟩
            refine hK9 _ ?_
            try clear hK9 K9
            refine vwp_seq_k fun K10 hK10 => ?_
            refine vwp_seq_k fun K11 hK11 => ?_
            refine vwp_live [2, 7, 8, 9, 10] ?_
            try simp only [argSlots, pruneS, inN, eq_self, reduceIte, ite_true, Nat.reduceAdd, Nat.reduceBEq, Bool.or_true, Bool.true_or, Bool.or_false, Bool.false_or, if_true, if_false, Bool.false_eq_true]
            refine vwp_region hT ?_
            simp [-List.reduceReplicate, PT.obs, RT.obs3, lenU, lenS1, lenAct]
            repeat refine ⟨by first | assumption | omega | (rw [spl_length (by simp; omega)]; simp; done) | (intros; omega), ?_⟩
            refine hK11 _ ?_
            try clear hK11 K11
            refine vwp_cond (by first | rfl | (simp; rfl)) (fun h3 => ?_) (fun h3 => ?_)
            · try (exfalso; simp at h3; done)
              all_goals
                try simp at h3
                refine vwp_seq_k fun K12 hK12 => ?_
                refine vwp_live [] ?_
                try simp only [argSlots, pruneS, inN, eq_self, reduceIte, ite_true, Nat.reduceAdd, Nat.reduceBEq, Bool.or_true, Bool.true_or, Bool.or_false, Bool.false_or, if_true, if_false, Bool.false_eq_true]
                refine vwp_region hT ?_
                simp [-List.reduceReplicate, PT.obs, RT.obs3, lenU, lenS1, lenAct]
                repeat refine ⟨by first | assumption | omega | (rw [spl_length (by simp; omega)]; simp; done) | (intros; omega), ?_⟩
                refine hK12 _ ?_
                try clear hK12 K12
                refine vwp_ret ?_
                try simp only [thenQ, inBlk]
                refine hR _ _ ?_
                refine ret_only [6] [] [] (by simp) (by simp) rfl (by simp) (r := .bool true) (by simp [Try.f6]) rfl
            · try (exfalso; simp at h3; done)
              all_goals
                try simp at h3
                refine vwp_skip ?_
                try simp only [thenQ, inBlk]
                refine hK10 _ ?_
                try clear hK10 K10
                refine vwp_seq_k fun K13 hK13 => ?_
                refine vwp_seq_k fun K14 hK14 => ?_
                refine vwp_live [2, 7, 9] ?_
                try simp only [argSlots, pruneS, inN, eq_self, reduceIte, ite_true, Nat.reduceAdd, Nat.reduceBEq, Bool.or_true, Bool.true_or, Bool.or_false, Bool.false_or, if_true, if_false, Bool.false_eq_true]
                refine vwp_region hT ?_
                simp [-List.reduceReplicate, PT.obs, RT.obs3, lenU, lenS1, lenAct]
                repeat refine ⟨by first | assumption | omega | (rw [spl_length (by simp; omega)]; simp; done) | (intros; omega), ?_⟩
                refine hK14 _ ?_
                try clear hK14 K14
                refine vwp_block ?_
                refine vwp_gh (Gh.to [2, 7, 9, 11] [0, 1, 2, 3, 4, 5] [(2, .fs l.length (rowsV l)), (7, .ptr 0 4 0), (9, .ptr 3 4 0), (11, .int .i64 ((0 : Nat) : Int))] ((PT.new a b).obs ++ (RT.new a b).obs3) (by simp) (by simp [PT.obs, RT.obs3, lenU, lenS1, lenAct]) rfl (by simp) (by simp)) ?_
                refine vwp_loop_k (fun m st => ∃ (i : Nat) (p : PT) (r : RT), Rel p r ∧ p.fit i ∧ i ≤ l.length ∧ m = l.length - i ∧ st = ⟨[(2, .fs l.length (rowsV l)), (7, .ptr 0 4 0), (9, .ptr 3 4 0), (11, .int .i64 ((i : Nat) : Int))], p.obs ++ r.obs3⟩) l.length ⟨0, _, _, Rel.new a b, PT.fit.new hn, by omega, by simp, rfl⟩ ?_
                rintro m st ⟨i, p, r, hrel, hfit, hi, rfl, rfl⟩
                intro K15 hK15
                refine vwp_seq_k fun K16 hK16 => ?_
                refine vwp_seq_k fun K17 hK17 => ?_
                refine vwp_live [2, 7, 9, 11] ?_
                try simp only [argSlots, pruneS, inN, eq_self, reduceIte, ite_true, Nat.reduceAdd, Nat.reduceBEq, Bool.or_true, Bool.true_or, Bool.or_false, Bool.false_or, if_true, if_false, Bool.false_eq_true]
                refine vwp_region hT ?_
                simp [-List.reduceReplicate, PT.obs, RT.obs3, lenU, lenS1, lenAct]
                repeat refine ⟨by first | assumption | omega | (rw [spl_length (by simp; omega)]; simp; done) | (intros; omega), ?_⟩
                refine hK17 _ ?_
                try clear hK17 K17
                refine vwp_cond (by first | rfl | (simp; rfl)) (fun h4 => ?_) (fun h4 => ?_)
                · try (exfalso; simp at h4; done)
                  all_goals
                    try simp at h4
                    refine vwp_skip ?_
                    try simp only [thenQ, inBlk]
                    refine hK16 _ ?_
                    try clear hK16 K16
                    refine vwp_seq_k fun K18 hK18 => ?_
                    refine vwp_block ?_
                    refine vwp_seq_k fun K19 hK19 => ?_
                    obtain ⟨x, hx⟩ : ∃ x, l[i]? = some x := ⟨_, List.getElem?_eq_getElem (by omega)⟩
                    have hdr := dropAct hx
                    have hfs := hfit.s
                    have hfu := hfit.u
                    have hfl := hfit.l1
                    have hfl2 := hfit.l2
                    have hrs : r.ss.length = p.ss.length := hrel.ss.length_eq
                    have hru : r.us = p.us := hrel.us
                    have hrl : r.life = p.life := hrel.life
                    refine vwp_live [2, 7, 9, 11] ?_
                    try simp only [argSlots, pruneS, inN, eq_self, reduceIte, ite_true, Nat.reduceAdd, Nat.reduceBEq, Bool.or_true, Bool.true_or, Bool.or_false, Bool.false_or, if_true, if_false, Bool.false_eq_true]
                    refine vwp_region hT ?_
                    simp [-List.reduceReplicate, PT.obs, RT.obs3, lenU, lenS1, lenAct, hdr]
                    repeat refine ⟨by first | assumption | omega | (rw [spl_length (by simp; omega)]; simp; done) | (intros; omega), ?_⟩
                    refine hK19 _ ?_
                    try clear hK19 K19
                    refine vwp_seq_k fun K20 hK20 => ?_
                    refine vwp_live [2, 7, 9, 11, 12] ?_
                    try simp only [argSlots, pruneS, inN, eq_self, reduceIte, ite_true, Nat.reduceAdd, Nat.reduceBEq, Bool.or_true, Bool.true_or, Bool.or_false, Bool.false_or, if_true, if_false, Bool.false_eq_true]
                    refine vwp_region hT ?_
                    simp [-List.reduceReplicate, PT.obs, RT.obs3, lenU, lenS1, lenAct]
                    refine vcall_by0 [0, 1, 2] (do18_spec p (hfit.ok (by omega)) x) (by simp) (by simp [PT.obs, RT.obs3]) (by simp) (by simp [PT.obs, RT.obs3]) ?_
                    rintro r' ob' ⟨rfl, rfl⟩
                    simp [-List.reduceReplicate, PT.obs, RT.obs3, lenU, lenS1, lenAct]
                    repeat refine ⟨by first | assumption | omega | (rw [spl_length (by simp; omega)]; simp; done) | (intros; omega), ?_⟩
                    refine hK20 _ ?_
                    try clear hK20 K20
                    refine vwp_seq_k fun K21 hK21 => ?_
                    refine vwp_live [2, 7, 9, 11, 12, 13] ?_
                    try simp only [argSlots, pruneS, inN, eq_self, reduceIte, ite_true, Nat.reduceAdd, Nat.reduceBEq, Bool.or_true, Bool.true_or, Bool.or_false, Bool.false_or, if_true, if_false, Bool.false_eq_true]
                    refine vwp_region hT ?_
                    simp [-List.reduceReplicate, PT.obs, RT.obs3, lenU, lenS1, lenAct]
                    repeat refine ⟨by first | assumption | omega | (rw [spl_length (by simp; omega)]; simp; done) | (intros; omega), ?_⟩
                    refine hK21 _ ?_
                    try clear hK21 K21
                    refine vwp_cut_k (fun st => Gh ⟨Try.f6.ntmps, 0⟩ st ⟨[(2, .fs l.length (rowsV l)), (7, .ptr 0 4 0), (9, .ptr 3 4 0), (11, .int .i64 (i : Int)), (12, .ptr 6 6 0), (13, .ptr 7 3 0), (14, .ptr 8 3 0)], (p.act x).2.obs ++ (r.act x).2.obs3 ++ [.live x.cells, .live (p.act x).1.cells, .live (r.act x).1.cells]⟩) (fun K22 hK22 => ?_) ?_
                    · refine vwp_seq_k fun K23 hK23 => ?_
                      refine vwp_live [2, 7, 9, 11, 12, 13, 14] ?_
                      try simp only [argSlots, pruneS, inN, eq_self, reduceIte, ite_true, Nat.reduceAdd, Nat.reduceBEq, Bool.or_true, Bool.true_or, Bool.or_false, Bool.false_or, if_true, if_false, Bool.false_eq_true]
                      refine vwp_region hT ?_
                      simp [-List.reduceReplicate, PT.obs, RT.obs3, lenU, lenS1, lenAct]
                      repeat refine ⟨by first | assumption | omega | (rw [spl_length (by simp; omega)]; simp; done) | (intros; omega), ?_⟩
                      refine hK23 _ ?_
                      try clear hK23 K23
                      refine vwp_block ?_
                      refine vwp_seq_k fun K24 hK24 => ?_
                      refine vwp_live [2, 7, 9, 11, 12, 13, 14, 60] ?_
                      try simp only [argSlots, pruneS, inN, eq_self, reduceIte, ite_true, Nat.reduceAdd, Nat.reduceBEq, Bool.or_true, Bool.true_or, Bool.or_false, Bool.false_or, if_true, if_false, Bool.false_eq_true]
                      refine vwp_region hT ?_
                      simp [-List.reduceReplicate, PT.obs, RT.obs3, lenU, lenS1, lenAct]
                      repeat refine ⟨by first | assumption | omega | (rw [spl_length (by simp; omega)]; simp; done) | (intros; omega), ?_⟩
                      refine hK24 _ ?_
                      try clear hK24 K24
                      refine vwp_cond (by first | rfl | (simp; rfl)) (fun h5 => ?_) (fun h5 => ?_)
                      · try (exfalso; simp at h5; done)
                        all_goals
                          try simp at h5
                          refine vwp_live [2, 7, 9, 11, 12, 13, 14] ?_
                          try simp only [argSlots, pruneS, inN, eq_self, reduceIte, ite_true, Nat.reduceAdd, Nat.reduceBEq, Bool.or_true, Bool.true_or, Bool.or_false, Bool.false_or, if_true, if_false, Bool.false_eq_true]
                          refine vwp_region hT ?_
                          simp [-List.reduceReplicate, PT.obs, RT.obs3, lenU, lenS1, lenAct]
                          refine vcall_by0 [3, 4, 5] (radd_spec r (by rw [hru]; omega) x.name x.secret x.who) (by simp) (by simp [PT.obs, RT.obs3, RT.obs]) (by simp) (by simp [PT.obs, RT.obs3, RT.obs]) ?_
                          rintro r' ob' ⟨rfl, rfl⟩
                          simp only [RT.obs, RT.obsG]
                          simp [-List.reduceReplicate, PT.obs, RT.obs3, lenU, lenS1, lenAct]
                          repeat refine ⟨by first | assumption | omega | (rw [spl_length (by simp; omega)]; simp; done) | (intros; omega), ?_⟩
                          refine hK22 _ ?_
                          rw [r.act0 x (by assumption)]
                          refine Gh.to [2, 7, 9, 11, 12, 13, 14] [0, 1, 2, 3, 4, 5, 6, 7, 8] _ (_) ?_ ?_ rfl ?_ ?_
                          · simp
                          · simp [PT.obs, RT.obs3]
                          · simp [PT.obs, RT.obs3]
                          · simp [PT.obs, RT.obs3]
                      · try (exfalso; simp at h5; done)
                        all_goals
                          try simp at h5
                          refine vwp_seq_k fun K25 hK25 => ?_
                          refine vwp_live [2, 7, 9, 11, 12, 13, 14, 60] ?_
                          try simp only [argSlots, pruneS, inN, eq_self, reduceIte, ite_true, Nat.reduceAdd, Nat.reduceBEq, Bool.or_true, Bool.true_or, Bool.or_false, Bool.false_or, if_true, if_false, Bool.false_eq_true]
                          refine vwp_region hT ?_
                          simp [-List.reduceReplicate, PT.obs, RT.obs3, lenU, lenS1, lenAct]
                          repeat refine ⟨by first | assumption | omega | (rw [spl_length (by simp; omega)]; simp; done) | (intros; omega), ?_⟩
                          refine hK25 _ ?_
                          try clear hK25 K25
                          refine vwp_cond (by first | rfl | (simp; rfl)) (fun h6 => ?_) (fun h6 => ?_)
                          · try (exfalso; simp at h6; done)
                            all_goals
                              try simp at h6
                              by_cases hz : (r.login x.name x.secret x.draw x.now).1.2 = 0
                              · refine vwp_live [2, 7, 9, 11, 12, 13, 14] ?_
                                try simp only [argSlots, pruneS, inN, eq_self, reduceIte, ite_true, Nat.reduceAdd, Nat.reduceBEq, Bool.or_true, Bool.true_or, Bool.or_false, Bool.false_or, if_true, if_false, Bool.false_eq_true]
                                refine vwp_region hT ?_
                                simp [-List.reduceReplicate, PT.obs, RT.obs3, lenU, lenS1, lenAct]
                                refine vcall_by0 [3, 4, 5] (rlogin_spec r (by omega) (by rw [hru]; omega) (by omega) (by omega) x.name x.secret x.draw x.now) (by simp) (by simp [PT.obs, RT.obs3, RT.obs]) (by simp) (by simp [PT.obs, RT.obs3, RT.obs]) ?_
                                rintro r' ob' ⟨rfl, rfl⟩
                                rw [if_pos hz]
                                simp only [RT.obs, RT.obsG]
                                simp [-List.reduceReplicate, PT.obs, RT.obs3, lenU, lenS1, lenAct]
                                repeat refine ⟨by first | assumption | omega | (rw [spl_length (by simp; omega)]; simp; done) | (intros; omega), ?_⟩
                                refine hK22 _ ?_
                                rw [r.act1 x (by assumption)]
                                refine Gh.to [2, 7, 9, 11, 12, 13, 14] [0, 1, 2, 3, 4, 9, 6, 7, 8] _ (_) ?_ ?_ rfl ?_ ?_
                                · simp
                                · simp [PT.obs, RT.obs3]
                                · simp [PT.obs, RT.obs3]
                                · simp [PT.obs, RT.obs3]
                              · refine vwp_live [2, 7, 9, 11, 12, 13, 14] ?_
                                try simp only [argSlots, pruneS, inN, eq_self, reduceIte, ite_true, Nat.reduceAdd, Nat.reduceBEq, Bool.or_true, Bool.true_or, Bool.or_false, Bool.false_or, if_true, if_false, Bool.false_eq_true]
                                refine vwp_region hT ?_
                                simp [-List.reduceReplicate, PT.obs, RT.obs3, lenU, lenS1, lenAct]
                                refine vcall_by0 [3, 4, 5] (rlogin_spec r (by omega) (by rw [hru]; omega) (by omega) (by omega) x.name x.secret x.draw x.now) (by simp) (by simp [PT.obs, RT.obs3, RT.obs]) (by simp) (by simp [PT.obs, RT.obs3, RT.obs]) ?_
                                rintro r' ob' ⟨rfl, rfl⟩
                                rw [if_neg hz]
                                simp only [RT.obs, RT.obsG]
                                simp [-List.reduceReplicate, PT.obs, RT.obs3, lenU, lenS1, lenAct]
                                repeat refine ⟨by first | assumption | omega | (rw [spl_length (by simp; omega)]; simp; done) | (intros; omega), ?_⟩
                                refine hK22 _ ?_
                                rw [r.act1 x (by assumption)]
                                refine Gh.to [2, 7, 9, 11, 12, 13, 14] [0, 1, 2, 3, 4, 5, 6, 7, 8] _ (_) ?_ ?_ rfl ?_ ?_
                                · simp
                                · simp [PT.obs, RT.obs3]
                                · simp [PT.obs, RT.obs3]
                                · simp [PT.obs, RT.obs3]
                          · try (exfalso; simp at h6; done)
                            all_goals
                              try simp at h6
                              refine vwp_seq_k fun K26 hK26 => ?_
                              refine vwp_live [2, 7, 9, 11, 12, 13, 14, 60] ?_
                              try simp only [argSlots, pruneS, inN, eq_self, reduceIte, ite_true, Nat.reduceAdd, Nat.reduceBEq, Bool.or_true, Bool.true_or, Bool.or_false, Bool.false_or, if_true, if_false, Bool.false_eq_true]
                              refine vwp_region hT ?_
                              simp [-List.reduceReplicate, PT.obs, RT.obs3, lenU, lenS1, lenAct]
                              repeat refine ⟨by first | assumption | omega | (rw [spl_length (by simp; omega)]; simp; done) | (intros; omega), ?_⟩
                              refine hK26 _ ?_
                              try clear hK26 K26
                              refine vwp_cond (by first | rfl | (simp; rfl)) (fun h7 => ?_) (fun h7 => ?_)
                              · try (exfalso; simp at h7; done)
                                all_goals
                                  try simp at h7
                                  by_cases hz : r.at x.draw x.now < 0
                                  · refine vwp_live [2, 7, 9, 11, 12, 13, 14] ?_
                                    try simp only [argSlots, pruneS, inN, eq_self, reduceIte, ite_true, Nat.reduceAdd, Nat.reduceBEq, Bool.or_true, Bool.true_or, Bool.or_false, Bool.false_or, if_true, if_false, Bool.false_eq_true]
                                    refine vwp_region hT ?_
                                    simp [-List.reduceReplicate, PT.obs, RT.obs3, lenU, lenS1, lenAct]
                                    refine vcall_by0 [3, 4, 5] (rlogout_spec r (by omega) x.draw x.now) (by simp) (by simp [PT.obs, RT.obs3, RT.obs]) (by simp) (by simp [PT.obs, RT.obs3, RT.obs]) ?_
                                    rintro r' ob' ⟨rfl, rfl⟩
                                    rw [if_pos hz]
                                    simp only [RT.obs, RT.obsG]
                                    simp [-List.reduceReplicate, PT.obs, RT.obs3, lenU, lenS1, lenAct]
                                    repeat refine ⟨by first | assumption | omega | (rw [spl_length (by simp; omega)]; simp; done) | (intros; omega), ?_⟩
                                    refine hK22 _ ?_
                                    rw [r.act2 x (by assumption)]
                                    refine Gh.to [2, 7, 9, 11, 12, 13, 14] [0, 1, 2, 3, 4, 5, 6, 7, 8] _ (_) ?_ ?_ rfl ?_ ?_
                                    · simp
                                    · simp [PT.obs, RT.obs3]
                                    · simp [PT.obs, RT.obs3]
                                    · simp [PT.obs, RT.obs3]
                                  · refine vwp_live [2, 7, 9, 11, 12, 13, 14] ?_
                                    try simp only [argSlots, pruneS, inN, eq_self, reduceIte, ite_true, Nat.reduceAdd, Nat.reduceBEq, Bool.or_true, Bool.true_or, Bool.or_false, Bool.false_or, if_true, if_false, Bool.false_eq_true]
                                    refine vwp_region hT ?_
                                    simp [-List.reduceReplicate, PT.obs, RT.obs3, lenU, lenS1, lenAct]
                                    refine vcall_by0 [3, 4, 5] (rlogout_spec r (by omega) x.draw x.now) (by simp) (by simp [PT.obs, RT.obs3, RT.obs]) (by simp) (by simp [PT.obs, RT.obs3, RT.obs]) ?_
                                    rintro r' ob' ⟨rfl, rfl⟩
                                    rw [if_neg hz]
                                    simp only [RT.obs, RT.obsG]
                                    simp [-List.reduceReplicate, PT.obs, RT.obs3, lenU, lenS1, lenAct]
                                    repeat refine ⟨by first | assumption | omega | (rw [spl_length (by simp; omega)]; simp; done) | (intros; omega), ?_⟩
                                    refine hK22 _ ?_
                                    rw [r.act2 x (by assumption)]
                                    refine Gh.to [2, 7, 9, 11, 12, 13, 14] [0, 1, 2, 3, 4, 9, 6, 7, 8] _ (_) ?_ ?_ rfl ?_ ?_
                                    · simp
                                    · simp [PT.obs, RT.obs3]
                                    · simp [PT.obs, RT.obs3]
                                    · simp [PT.obs, RT.obs3]
                              · try (exfalso; simp at h7; done)
                                all_goals
                                  try simp at h7
                                  refine vwp_live [2, 7, 9, 11, 12, 13, 14] ?_
                                  try simp only [argSlots, pruneS, inN, eq_self, reduceIte, ite_true, Nat.reduceAdd, Nat.reduceBEq, Bool.or_true, Bool.true_or, Bool.or_false, Bool.false_or, if_true, if_false, Bool.false_eq_true]
                                  refine vwp_region hT ?_
                                  simp [-List.reduceReplicate, PT.obs, RT.obs3, lenU, lenS1, lenAct]
                                  refine vcall_by0 [3, 4, 5] (rwho_spec r (by omega) x.draw x.now) (by simp) (by simp [PT.obs, RT.obs3, RT.obs]) (by simp) (by simp [PT.obs, RT.obs3, RT.obs]) ?_
                                  rintro r' ob' ⟨rfl, rfl⟩
                                  simp only [RT.obs, RT.obsG]
                                  simp [-List.reduceReplicate, PT.obs, RT.obs3, lenU, lenS1, lenAct]
                                  repeat refine ⟨by first | assumption | omega | (rw [spl_length (by simp; omega)]; simp; done) | (intros; omega), ?_⟩
                                  refine hK22 _ ?_
                                  rw [r.act3 x (by assumption) (by assumption) (by assumption)]
                                  refine Gh.to [2, 7, 9, 11, 12, 13, 14] [0, 1, 2, 3, 4, 5, 6, 7, 8] _ (_) ?_ ?_ rfl ?_ ?_
                                  · simp
                                  · simp [PT.obs, RT.obs3]
                                  · simp [PT.obs, RT.obs3]
                                  · simp [PT.obs, RT.obs3]
                    · rintro st hg
                      refine vwp_gh hg ?_
                      clear hg
                      obtain ⟨hrp, hrel2⟩ := hrel.act hfu x
                      have hfit2 := hfit.act x
                      rw [hrp]
                      generalize (p.act x).2 = p2 at hrel2 hfit2 ⊢
                      generalize (r.act x).2 = r2 at hrel2 ⊢
                      generalize (p.act x).1 = q
                      have hfs2 := hfit2.s
                      have hrs2 : r2.ss.length = p2.ss.length := hrel2.ss.length_eq
                      have hmm := hrel2.many x.who x.now
                      refine vwp_seq_k fun K27 hK27 => ?_
                      refine vwp_live [2, 7, 9, 11, 12, 13, 14] ?_
                      try simp only [argSlots, pruneS, inN, eq_self, reduceIte, ite_true, Nat.reduceAdd, Nat.reduceBEq, Bool.or_true, Bool.true_or, Bool.or_false, Bool.false_or, if_true, if_false, Bool.false_eq_true]
                      refine vwp_calm hT hm (by kernel_rfl) ?_
                      simp [-List.reduceReplicate, PT.obs, RT.obs3, lenU, lenS1, lenAct, hmm]
                      refine ⟨.int .i64 (p2.many x.who x.now : Nat), fun sl => ?_, ?_⟩
                      · refine vcall_by0 [0, 1, 2] (many_spec p2 (by omega) x.who x.now) (by simp) (by simp [PT.obs, RT.obs3]) (by simp) (by simp [PT.obs, RT.obs3]) ?_
                        rintro r' ob' ⟨rfl, rfl⟩
                        simp [PT.obs, RT.obs3]
                      simp [-List.reduceReplicate, PT.obs, RT.obs3, lenU, lenS1, lenAct, hmm]
                      refine ⟨.int .i64 (r2.many x.who x.now : Nat), fun sl => ?_, ?_⟩
                      · refine vcall_by0 [3, 4, 5] (rmany_spec r2 (by omega) x.who x.now) (by simp) (by simp [PT.obs, RT.obs3, RT.obs]) (by simp) (by simp [PT.obs, RT.obs3, RT.obs]) ?_
                        rintro r' ob' ⟨rfl, rfl⟩
                        simp only [RT.obs, RT.obsG]
                        simp [PT.obs, RT.obs3]
                      simp [-List.reduceReplicate, PT.obs, RT.obs3, lenU, lenS1, lenAct, hmm]
                      repeat refine ⟨by first | assumption | omega | (rw [spl_length (by simp; omega)]; simp; done) | (intros; omega), ?_⟩
                      refine hK27 _ ?_
                      try clear hK27 K27
                      refine vwp_cond (by first | rfl | (simp; rfl)) (fun h8 => ?_) (fun h8 => ?_)
                      · try (exfalso; simp at h8; done)
                        all_goals
                          try simp at h8
                          refine vwp_seq_k fun K28 hK28 => ?_
                          refine vwp_live [] ?_
                          try simp only [argSlots, pruneS, inN, eq_self, reduceIte, ite_true, Nat.reduceAdd, Nat.reduceBEq, Bool.or_true, Bool.true_or, Bool.or_false, Bool.false_or, if_true, if_false, Bool.false_eq_true]
                          refine vwp_region hT ?_
                          simp [-List.reduceReplicate, PT.obs, RT.obs3, lenU, lenS1, lenAct]
                          repeat refine ⟨by first | assumption | omega | (rw [spl_length (by simp; omega)]; simp; done) | (intros; omega), ?_⟩
                          refine hK28 _ ?_
                          try clear hK28 K28
                          refine vwp_ret ?_
                          try simp only [thenQ, inBlk]
                          refine hR _ _ ?_
                          refine ret_only [6] [] [] (by simp) (by simp) rfl (by simp) (r := .bool true) (by simp [Try.f6]) rfl
                      · try (exfalso; simp at h8; done)
                        all_goals
                          try simp at h8
                          refine vwp_skip ?_
                          try simp only [thenQ, inBlk]
                          refine hK18 _ ?_
                          try clear hK18 K18
                          refine vwp_live [2, 7, 9, 11] ?_
                          try simp only [argSlots, pruneS, inN, eq_self, reduceIte, ite_true, Nat.reduceAdd, Nat.reduceBEq, Bool.or_true, Bool.true_or, Bool.or_false, Bool.false_or, if_true, if_false, Bool.false_eq_true]
                          refine vwp_region hT ?_
                          simp [-List.reduceReplicate, PT.obs, RT.obs3, lenU, lenS1, lenAct]
                          repeat refine ⟨by first | assumption | omega | (rw [spl_length (by simp; omega)]; simp; done) | (intros; omega), ?_⟩
                          refine hK15 _ ?_
                          refine ⟨_, Gh.to [2, 7, 9, 11] [0, 1, 2, 3, 4, 5] [(2, .fs l.length (rowsV l)), (7, .ptr 0 4 0), (9, .ptr 3 4 0), (11, .int .i64 ((i + 1 : Nat) : Int))] (p2.obs ++ r2.obs3) (by simp) (by simp [PT.obs, RT.obs3, lenU, lenS1, lenAct]) rfl (by simp) (by simp; exact w64 (by omega) (by omega)), l.length - (i + 1), by omega, i + 1, p2, r2, hrel2, hfit2, by omega, rfl, rfl⟩
                · try (exfalso; simp at h4; done)
                  all_goals
                    try simp at h4
                    refine vwp_exit ?_
                    simp only [inBlk, thenQ, if_true]
                    refine hK13 _ ?_
                    try clear hK13 K13
                    refine vwp_seq_k fun K29 hK29 => ?_
                    refine vwp_live [] ?_
                    try simp only [argSlots, pruneS, inN, eq_self, reduceIte, ite_true, Nat.reduceAdd, Nat.reduceBEq, Bool.or_true, Bool.true_or, Bool.or_false, Bool.false_or, if_true, if_false, Bool.false_eq_true]
                    refine vwp_region hT ?_
                    simp [-List.reduceReplicate, PT.obs, RT.obs3, lenU, lenS1, lenAct]
                    repeat refine ⟨by first | assumption | omega | (rw [spl_length (by simp; omega)]; simp; done) | (intros; omega), ?_⟩
                    refine hK29 _ ?_
                    try clear hK29 K29
                    refine vwp_ret ?_
                    try simp only [thenQ, inBlk]
                    refine hR _ _ ?_
                    refine ret_only [6] [] [] (by simp) (by simp) rfl (by simp) (r := .bool true) (by simp [Try.f6]) rfl
          · refine vwp_live [0, 1, 2] ?_
            try simp only [argSlots, pruneS, inN, eq_self, reduceIte, ite_true, Nat.reduceAdd, Nat.reduceBEq, Bool.or_true, Bool.true_or, Bool.or_false, Bool.false_or, if_true, if_false, Bool.false_eq_true]
            refine vwp_region hT ?_
            simp [-List.reduceReplicate, PT.obs, RT.obs3, lenU, lenS1, lenAct]
            refine vcall_by0 [] (snew_spec a b) (by simp) (by simp [PT.obs]) (by simp) (by simp [PT.obs]) ?_
            rintro r ob' ⟨-, hq⟩
            obtain ⟨rfl, rfl⟩ := hq hn
            simp [-List.reduceReplicate, PT.obs, RT.obs3, lenU, lenS1, lenAct]
            repeat refine ⟨by first | assumption | omega | (rw [spl_length (by simp; omega)]; simp; done) | (intros; omega), ?_⟩
            refine hK8 _ ?_
            try clear hK8 K8
            refine vwp_seq_k fun K30 hK30 => ?_
            refine vwp_live [0, 1, 2, 7, 8] ?_
            try simp only [argSlots, pruneS, inN, eq_self, reduceIte, ite_true, Nat.reduceAdd, Nat.reduceBEq, Bool.or_true, Bool.true_or, Bool.or_false, Bool.false_or, if_true, if_false, Bool.false_eq_true]
            refine vwp_region hT ?_
            simp [-List.reduceReplicate, PT.obs, RT.obs3, lenU, lenS1, lenAct]
            refine vcall_by0 [] (rtnew_spec a b) (by simp) (by simp [PT.obs]) (by simp) (by simp [PT.obs]) ?_
            rintro r ob' ⟨-, hq⟩
            obtain ⟨rfl, rfl⟩ := hq hn
            simp [-List.reduceReplicate, PT.obs, RT.obs3, lenU, lenS1, lenAct]
            repeat refine ⟨by first | assumption | omega | (rw [spl_length (by simp; omega)]; simp; done) | (intros; omega), ?_⟩
            refine hK30 _ ?_
            try clear hK30 K30
            refine vwp_seq_k fun K31 hK31 => ?_
            refine vwp_seq_k fun K32 hK32 => ?_
            refine vwp_live [2, 7, 8, 9, 10] ?_
            try simp only [argSlots, pruneS, inN, eq_self, reduceIte, ite_true, Nat.reduceAdd, Nat.reduceBEq, Bool.or_true, Bool.true_or, Bool.or_false, Bool.false_or, if_true, if_false, Bool.false_eq_true]
            refine vwp_region hT ?_
            simp [-List.reduceReplicate, PT.obs, RT.obs3, lenU, lenS1, lenAct]
            repeat refine ⟨by first | assumption | omega | (rw [spl_length (by simp; omega)]; simp; done) | (intros; omega), ?_⟩
            refine hK32 _ ?_
            try clear hK32 K32
            refine vwp_cond (by first | rfl | (simp; rfl)) (fun h9 => ?_) (fun h9 => ?_)
            · try (exfalso; simp at h9; done)
              all_goals
                try simp at h9
                refine vwp_seq_k fun K33 hK33 => ?_
                refine vwp_live [] ?_
                try simp only [argSlots, pruneS, inN, eq_self, reduceIte, ite_true, Nat.reduceAdd, Nat.reduceBEq, Bool.or_true, Bool.true_or, Bool.or_false, Bool.false_or, if_true, if_false, Bool.false_eq_true]
                refine vwp_region hT ?_
                simp [-List.reduceReplicate, PT.obs, RT.obs3, lenU, lenS1, lenAct]
                repeat refine ⟨by first | assumption | omega | (rw [spl_length (by simp; omega)]; simp; done) | (intros; omega), ?_⟩
                refine hK33 _ ?_
                try clear hK33 K33
                refine vwp_ret ?_
                try simp only [thenQ, inBlk]
                refine hR _ _ ?_
                refine ret_only [6] [] [] (by simp) (by simp) rfl (by simp) (r := .bool true) (by simp [Try.f6]) rfl
            · try (exfalso; simp at h9; done)
              all_goals
                try simp at h9
                refine vwp_skip ?_
                try simp only [thenQ, inBlk]
                refine hK31 _ ?_
                try clear hK31 K31
                refine vwp_seq_k fun K34 hK34 => ?_
                refine vwp_seq_k fun K35 hK35 => ?_
                refine vwp_live [2, 7, 9] ?_
                try simp only [argSlots, pruneS, inN, eq_self, reduceIte, ite_true, Nat.reduceAdd, Nat.reduceBEq, Bool.or_true, Bool.true_or, Bool.or_false, Bool.false_or, if_true, if_false, Bool.false_eq_true]
                refine vwp_region hT ?_
                simp [-List.reduceReplicate, PT.obs, RT.obs3, lenU, lenS1, lenAct]
                repeat refine ⟨by first | assumption | omega | (rw [spl_length (by simp; omega)]; simp; done) | (intros; omega), ?_⟩
                refine hK35 _ ?_
                try clear hK35 K35
                refine vwp_block ?_
                refine vwp_loop_k (fun m st => ∃ j : Int, st = ⟨[(2, .fs l.length (rowsV l)), (7, .nilp), (9, .nilp), (11, .int .i64 j)], []⟩) 0 ⟨0, rfl⟩ ?_
                rintro m st ⟨j, rfl⟩
                intro K36 hK36
                refine vwp_seq_k fun K37 hK37 => ?_
                refine vwp_seq_k fun K38 hK38 => ?_
                refine vwp_live [2, 7, 9, 11] ?_
                try simp only [argSlots, pruneS, inN, eq_self, reduceIte, ite_true, Nat.reduceAdd, Nat.reduceBEq, Bool.or_true, Bool.true_or, Bool.or_false, Bool.false_or, if_true, if_false, Bool.false_eq_true]
                refine vwp_region hT ?_
                simp [-List.reduceReplicate, PT.obs, RT.obs3, lenU, lenS1, lenAct]
                repeat refine ⟨by first | assumption | omega | (rw [spl_length (by simp; omega)]; simp; done) | (intros; omega), ?_⟩
                refine hK38 _ ?_
                try clear hK38 K38
                refine vwp_cond (by first | rfl | (simp; rfl)) (fun h10 => ?_) (fun h10 => ?_)
                · try (exfalso; simp at h10; done)
                  all_goals
                    try simp at h10
                    refine vwp_skip ?_
                    try simp only [thenQ, inBlk]
                    refine hK37 _ ?_
                    try clear hK37 K37
                    refine vwp_seq_k fun K39 hK39 => ?_
                    refine vwp_block ?_
                    refine vwp_seq_k fun K40 hK40 => ?_
                    skip
                · try (exfalso; simp at h10; done)
                  all_goals
                    try simp at h10
                    refine vwp_exit ?_
                    simp only [inBlk, thenQ, if_true]
                    refine hK34 _ ?_
                    try clear hK34 K34
                    refine vwp_seq_k fun K41 hK41 => ?_
                    refine vwp_live [] ?_
                    try simp only [argSlots, pruneS, inN, eq_self, reduceIte, ite_true, Nat.reduceAdd, Nat.reduceBEq, Bool.or_true, Bool.true_or, Bool.or_false, Bool.false_or, if_true, if_false, Bool.false_eq_true]
                    refine vwp_region hT ?_
                    simp [-List.reduceReplicate, PT.obs, RT.obs3, lenU, lenS1, lenAct]
                    repeat refine ⟨by first | assumption | omega | (rw [spl_length (by simp; omega)]; simp; done) | (intros; omega), ?_⟩
                    refine hK41 _ ?_
                    try clear hK41 K41
                    refine vwp_ret ?_
                    try simp only [thenQ, inBlk]
                    refine hR _ _ ?_
                    refine ret_only [6] [] [] (by simp) (by simp) rfl (by simp) (r := .bool true) (by simp [Try.f6]) rfl
end Go.Proofs.Ytibhpkolbffdaaa
