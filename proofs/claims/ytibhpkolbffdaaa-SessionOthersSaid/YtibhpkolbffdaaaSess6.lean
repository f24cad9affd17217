/- SessionQuota: what it answers. -/
import Derived.Test.YtibhpkolbffdaaaSess5
namespace Go.Proofs.Ytibhpkolbffdaaa
open Go Go.VX Go.RowKit
set_option linter.unusedVariables false
set_option linter.unusedSimpArgs false
set_option maxHeartbeats 20000000
set_option maxRecDepth 100000


theorem PT.many_mono (t : PT) (who : Int) {a b : Int} (h : a ≤ b) : t.many who b ≤ t.many who a := by
  unfold PT.many
  refine List.countP_mono_left fun s _ => ?_
  simp only [Bool.and_eq_true, decide_eq_true_eq]
  exact fun q => ⟨q.1, by omega⟩
def PT.le (t : PT) (now : Int) : Prop := ∀ who, (t.many who now : Int) ≤ t.quota
theorem PT.find_none_some {t : PT} {tok now : Int} (h : t.find tok now = none) {i : Nat} {s : S1} (hq : fIdx (fun s => tok == s.tok) t.ss 0 = some (i, s)) : ¬ now < s.over := by
  unfold PT.find at h
  rw [hq] at h
  simp only at h
  split at h
  · cases h
  · assumption
theorem PT.many_put {t : PT} {tok who over now : Int} (h : t.find tok now = none) (w : Int) : (t.put tok who over).many w now ≤ t.many w now + (if w = who then 1 else 0) := by
  unfold PT.put PT.many
  rcases hq : fIdx (fun s => tok == s.tok) t.ss 0 with _ | ⟨i, s⟩
  · rw [hq]
    simp only [List.countP_append, List.countP_singleton]
    grind
  · rw [hq]
    simp only
    obtain ⟨a, b, e, rfl, h1, _⟩ := fIdx_some hq
    have hk : s.tok = tok := (beq_iff_eq.1 h1).symm
    have hn := PT.find_none_some h hq
    rw [Nat.zero_add, e, modify_mid hk]
    simp only [List.countP_append, List.countP_cons]
    grind
theorem PT.put_quota (t : PT) (a b c : Int) : (t.put a b c).quota = t.quota := by
  unfold PT.put
  split <;> rfl
theorem PT.act_quota (t : PT) (x : Act) : (t.act x).2.quota = t.quota := by
  unfold PT.act PT.add PT.login PT.logout
  have := t.put_quota
  grind
theorem PT.act_life (t : PT) (x : Act) : (t.act x).2.life = t.life := by
  unfold PT.act PT.add PT.login PT.logout PT.put
  grind
theorem PT.le_act {t : PT} {x : Act} (h : t.le x.now) : (t.act x).2.le x.now := by
  intro w
  rw [t.act_quota]
  have hw := h w
  unfold PT.act
  split
  · have : (t.add x.name x.secret x.who).2.many w x.now = t.many w x.now := by
      unfold PT.add PT.many
      grind
    rw [this]; exact hw
  split
  · show (((t.login x.name x.secret x.draw x.now).2.many w x.now : Nat) : Int) ≤ t.quota
    unfold PT.login
    split
    · exact hw
    split
    · exact hw
    rename_i i u hq
    split
    · exact hw
    split
    · exact hw
    split
    · exact hw
    · rename_i hf hm
      have hf0 : t.find x.draw x.now = none := by
        rcases hx : t.find x.draw x.now with _ | s
        · rfl
        · rw [hx] at hf; simp at hf
      have := PT.many_put (who := u.who) (over := x.now + t.life) hf0 w
      show (((t.put x.draw u.who (x.now + t.life)).many w x.now : Nat) : Int) ≤ t.quota
      by_cases e : w = u.who
      · subst e
        rw [if_pos rfl] at this
        omega
      · rw [if_neg e] at this
        omega
  split
  · show (((t.logout x.draw x.now).2.many w x.now : Nat) : Int) ≤ t.quota
    unfold PT.logout
    split
    · split
      · refine Int.le_trans (Int.ofNat_le.2 ?_) hw
        exact List.Sublist.countP_le (List.eraseIdx_sublist _ _)
      · exact hw
    · exact hw
  · exact hw
theorem squota_spec (a b : Int) (l : List Act) (hl : l.length ≤ 140737488355328) (hb : ∀ x ∈ l, x.name.size ≤ 140737488355328 ∧ x.secret.size ≤ 140737488355328) :
    VC P 7 [.int .i64 a, .int .i64 b, .fs l.length (rowsV l)] [] (fun r ob' => r = .bool true) := by
  refine VC_of_vwp_k ent_7 Try.func7 rfl (by simp [Try.ntmps7]) fun R hR => ?_
  refine vwp_seq_k fun K1 hK1 => ?_
  refine vwp_live [0, 1, 2] ?_
  try simp only [argSlots, pruneS, inN, eq_self, reduceIte, ite_true, Nat.reduceAdd, Nat.reduceBEq, Bool.or_true, Bool.true_or, Bool.or_false, Bool.false_or, if_true, if_false, Bool.false_eq_true]
  refine vwp_region hT ?_
  simp [-List.reduceReplicate, PT.obs, lenAct, Try.ntmps7]
  repeat refine ⟨by first | assumption | omega | (rw [spl_length (by simp; omega)]; simp; done) | (intros; omega), ?_⟩
  refine hK1 _ ?_
  try clear hK1 K1
  refine vwp_seq_k fun K2 hK2 => ?_
  refine vwp_seq_k fun K3 hK3 => ?_
  refine vwp_live [0, 1, 2] ?_
  try simp only [argSlots, pruneS, inN, eq_self, reduceIte, ite_true, Nat.reduceAdd, Nat.reduceBEq, Bool.or_true, Bool.true_or, Bool.or_false, Bool.false_or, if_true, if_false, Bool.false_eq_true]
  refine vwp_region hT ?_
  simp [-List.reduceReplicate, PT.obs, lenAct]
  refine vcall_by0 [] (awake18_spec) (by simp) (by simp [PT.obs]) (by simp) (by simp [PT.obs]) ?_
  rintro r ob' ⟨rfl, rfl⟩
  simp [-List.reduceReplicate, PT.obs, lenAct]
  repeat refine ⟨by first | assumption | omega | (rw [spl_length (by simp; omega)]; simp; done) | (intros; omega), ?_⟩
  refine hK3 _ ?_
  try clear hK3 K3
  refine vwp_cond (by first | rfl | (simp; rfl)) (fun h1 => ?_) (fun h1 => ?_)
  · try (exfalso; simp at h1; done)
    all_goals
      try simp at h1
      refine vwp_seq_k fun K4 hK4 => ?_
      refine vwp_live [] ?_
      try simp only [argSlots, pruneS, inN, eq_self, reduceIte, ite_true, Nat.reduceAdd, Nat.reduceBEq, Bool.or_true, Bool.true_or, Bool.or_false, Bool.false_or, if_true, if_false, Bool.false_eq_true]
      refine vwp_region hT ?_
      simp [-List.reduceReplicate, PT.obs, lenAct]
      repeat refine ⟨by first | assumption | omega | (rw [spl_length (by simp; omega)]; simp; done) | (intros; omega), ?_⟩
      refine hK4 _ ?_
      try clear hK4 K4
      refine vwp_ret ?_
      try simp only [thenQ, inBlk]
      refine hR _ _ ?_
      refine ret_only [6] [] [] (by simp) (by simp) rfl (by simp) (r := .bool true) (by simp [Try.f7]) rfl
  · try (exfalso; simp at h1; done)
    all_goals
      try simp at h1
      refine vwp_skip ?_
      try simp only [thenQ, inBlk]
      refine hK2 _ ?_
      try clear hK2 K2
      refine vwp_seq_k fun K5 hK5 => ?_
      refine vwp_seq_k fun K6 hK6 => ?_
      refine vwp_live [0, 1, 2] ?_
      try simp only [argSlots, pruneS, inN, eq_self, reduceIte, ite_true, Nat.reduceAdd, Nat.reduceBEq, Bool.or_true, Bool.true_or, Bool.or_false, Bool.false_or, if_true, if_false, Bool.false_eq_true]
      refine vwp_region hT ?_
      simp [-List.reduceReplicate, PT.obs, lenAct]
      refine vcall_by0 [] (large18_spec l hl hb) (by simp) (by simp [PT.obs]) (by simp) (by simp [PT.obs]) ?_
      rintro r ob' ⟨⟨v, rfl, hv⟩, rfl⟩
      simp [-List.reduceReplicate, PT.obs, lenAct]
      repeat refine ⟨by first | assumption | omega | (rw [spl_length (by simp; omega)]; simp; done) | (intros; omega), ?_⟩
      refine hK6 _ ?_
      try clear hK6 K6
      refine vwp_cond (by first | rfl | (simp; rfl)) (fun h2 => ?_) (fun h2 => ?_)
      · try (exfalso; simp at h2; done)
        all_goals
          try simp at h2
          refine vwp_seq_k fun K7 hK7 => ?_
          refine vwp_live [] ?_
          try simp only [argSlots, pruneS, inN, eq_self, reduceIte, ite_true, Nat.reduceAdd, Nat.reduceBEq, Bool.or_true, Bool.true_or, Bool.or_false, Bool.false_or, if_true, if_false, Bool.false_eq_true]
          refine vwp_region hT ?_
          simp [-List.reduceReplicate, PT.obs, lenAct]
          repeat refine ⟨by first | assumption | omega | (rw [spl_length (by simp; omega)]; simp; done) | (intros; omega), ?_⟩
          refine hK7 _ ?_
          try clear hK7 K7
          refine vwp_ret ?_
          try simp only [thenQ, inBlk]
          refine hR _ _ ?_
          refine ret_only [6] [] [] (by simp) (by simp) rfl (by simp) (r := .bool true) (by simp [Try.f7]) rfl
      · try (exfalso; simp at h2; done)
        all_goals
          try simp at h2
          refine vwp_skip ?_
          try simp only [thenQ, inBlk]
          refine hK5 _ ?_
          try clear hK5 K5
          refine vwp_seq_k fun K8 hK8 => ?_
          by_cases hn : newOK a b
          · have hsm := hv (by assumption)
            refine vwp_live [0, 1, 2] ?_
            try simp only [argSlots, pruneS, inN, eq_self, reduceIte, ite_true, Nat.reduceAdd, Nat.reduceBEq, Bool.or_true, Bool.true_or, Bool.or_false, Bool.false_or, if_true, if_false, Bool.false_eq_true]
            refine vwp_region hT ?_
            simp [-List.reduceReplicate, PT.obs, lenAct]
            refine vcall_by0 [] (snew_spec a b) (by simp) (by simp [PT.obs]) (by simp) (by simp [PT.obs]) ?_
            rintro r ob' ⟨hq, -⟩
            obtain ⟨rfl, rfl⟩ := hq hn
            simp [-List.reduceReplicate, PT.obs, lenAct]
            repeat refine ⟨by first | assumption | omega | (rw [spl_length (by simp; omega)]; simp; done) | (intros; omega), ?_⟩
            refine hK8 _ ?_
            try clear hK8 K8
            refine vwp_seq_k fun K9 hK9 => ?_
            refine vwp_seq_k fun K10 hK10 => ?_
            refine vwp_live [1, 2, 7, 8] ?_
            try simp only [argSlots, pruneS, inN, eq_self, reduceIte, ite_true, Nat.reduceAdd, Nat.reduceBEq, Bool.or_true, Bool.true_or, Bool.or_false, Bool.false_or, if_true, if_false, Bool.false_eq_true]
            refine vwp_region hT ?_
            simp [-List.reduceReplicate, PT.obs, lenAct]
            repeat refine ⟨by first | assumption | omega | (rw [spl_length (by simp; omega)]; simp; done) | (intros; omega), ?_⟩
            refine hK10 _ ?_
            try clear hK10 K10
            refine vwp_cond (by first | rfl | (simp; rfl)) (fun h3 => ?_) (fun h3 => ?_)
            · try (exfalso; simp at h3; done)
              all_goals
                try simp at h3
                refine vwp_seq_k fun K11 hK11 => ?_
                refine vwp_live [8] ?_
                try simp only [argSlots, pruneS, inN, eq_self, reduceIte, ite_true, Nat.reduceAdd, Nat.reduceBEq, Bool.or_true, Bool.true_or, Bool.or_false, Bool.false_or, if_true, if_false, Bool.false_eq_true]
                refine vwp_region hT ?_
                simp [-List.reduceReplicate, PT.obs, lenAct]
                repeat refine ⟨by first | assumption | omega | (rw [spl_length (by simp; omega)]; simp; done) | (intros; omega), ?_⟩
                refine hK11 _ ?_
                try clear hK11 K11
                refine vwp_ret ?_
                try simp only [thenQ, inBlk]
                refine hR _ _ ?_
                refine ret_only [6] [] [] (by simp) (by simp) rfl (by simp) (r := .bool true) (by simp [Try.f7]) rfl
            · try (exfalso; simp at h3; done)
              all_goals
                try simp at h3
                refine vwp_skip ?_
                try simp only [thenQ, inBlk]
                refine hK9 _ ?_
                try clear hK9 K9
                refine vwp_seq_k fun K12 hK12 => ?_
                refine vwp_live [1, 2, 7] ?_
                try simp only [argSlots, pruneS, inN, eq_self, reduceIte, ite_true, Nat.reduceAdd, Nat.reduceBEq, Bool.or_true, Bool.true_or, Bool.or_false, Bool.false_or, if_true, if_false, Bool.false_eq_true]
                refine vwp_region hT ?_
                simp [-List.reduceReplicate, PT.obs, lenAct]
                repeat refine ⟨by first | assumption | omega | (rw [spl_length (by simp; omega)]; simp; done) | (intros; omega), ?_⟩
                refine hK12 _ ?_
                try clear hK12 K12
                refine vwp_seq_k fun K13 hK13 => ?_
                refine vwp_seq_k fun K14 hK14 => ?_
                refine vwp_live [1, 2, 7, 9] ?_
                try simp only [argSlots, pruneS, inN, eq_self, reduceIte, ite_true, Nat.reduceAdd, Nat.reduceBEq, Bool.or_true, Bool.true_or, Bool.or_false, Bool.false_or, if_true, if_false, Bool.false_eq_true]
                refine vwp_region hT ?_
                simp [-List.reduceReplicate, PT.obs, lenAct]
                repeat refine ⟨by first | assumption | omega | (rw [spl_length (by simp; omega)]; simp; done) | (intros; omega), ?_⟩
                refine hK14 _ ?_
                try clear hK14 K14
                refine vwp_block ?_
                refine vwp_gh (Gh.to [1, 7, 9, 27, 28, 29] [0, 1, 2] [(1, .int .i64 b), (7, .ptr 0 4 0), (9, .int .i64 0), (27, .fs l.length (rowsV l)), (28, .int .i64 (l.length : Int)), (29, .int .i64 ((0 : Nat) : Int))] ((PT.new a b).obs) (by simp) (by simp [PT.obs, lenAct]) rfl (by simp) (by simp)) ?_
                refine vwp_loop_k (fun m st => ∃ (i : Nat) (p : PT) (now : Int), p.fit i ∧ p.quota = b ∧ p.le now ∧ 0 ≤ now ∧ now ≤ i * 1073741824 ∧ i ≤ l.length ∧ m = l.length - i ∧ st = ⟨[(1, .int .i64 b), (7, .ptr 0 4 0), (9, .int .i64 now), (27, .fs l.length (rowsV l)), (28, .int .i64 (l.length : Int)), (29, .int .i64 ((i : Nat) : Int))], p.obs⟩) l.length ⟨0, _, 0, PT.fit.new hn, rfl, fun w => (by have := hn.2.2.1; show ((0 : Nat) : Int) ≤ b; omega), by omega, by omega, by omega, by simp, rfl⟩ ?_
                rintro m st ⟨i, p, now, hfit, hquo, hle, hn0, hn1, hi, rfl, rfl⟩
                intro K15 hK15
                refine vwp_seq_k fun K16 hK16 => ?_
                refine vwp_live [1, 7, 9, 27, 28, 29] ?_
                try simp only [argSlots, pruneS, inN, eq_self, reduceIte, ite_true, Nat.reduceAdd, Nat.reduceBEq, Bool.or_true, Bool.true_or, Bool.or_false, Bool.false_or, if_true, if_false, Bool.false_eq_true]
                refine vwp_region hT ?_
                simp [-List.reduceReplicate, PT.obs, lenAct]
                repeat refine ⟨by first | assumption | omega | (rw [spl_length (by simp; omega)]; simp; done) | (intros; omega), ?_⟩
                refine hK16 _ ?_
                try clear hK16 K16
                refine vwp_seq_k fun K17 hK17 => ?_
                refine vwp_cond (by first | rfl | (simp; rfl)) (fun h4 => ?_) (fun h4 => ?_)
                · try (exfalso; simp at h4; done)
                  all_goals
                    try simp at h4
                    refine vwp_skip ?_
                    try simp only [thenQ, inBlk]
                    refine hK17 _ ?_
                    try clear hK17 K17
                    refine vwp_seq_k fun K18 hK18 => ?_
                    refine vwp_block ?_
                    refine vwp_seq_k fun K19 hK19 => ?_
                    obtain ⟨x, hx⟩ : ∃ x, l[i]? = some x := ⟨_, List.getElem?_eq_getElem (by omega)⟩
                    have hdr := dropAct hx
                    have hfs := hfit.s
                    have hfu := hfit.u
                    refine vwp_live [1, 7, 9, 27, 28, 29] ?_
                    try simp only [argSlots, pruneS, inN, eq_self, reduceIte, ite_true, Nat.reduceAdd, Nat.reduceBEq, Bool.or_true, Bool.true_or, Bool.or_false, Bool.false_or, if_true, if_false, Bool.false_eq_true]
                    refine vwp_region hT ?_
                    simp [-List.reduceReplicate, PT.obs, lenAct, hdr]
                    repeat refine ⟨by first | assumption | omega | (rw [spl_length (by simp; omega)]; simp; done) | (intros; omega), ?_⟩
                    refine hK19 _ ?_
                    try clear hK19 K19
                    refine vwp_cut_k (fun st => ∃ n2 : Int, now ≤ n2 ∧ 0 ≤ n2 ∧ n2 ≤ (i + 1) * 1073741824 ∧ Gh ⟨Try.f7.ntmps, 0⟩ st ⟨[(1, .int .i64 b), (7, .ptr 0 4 0), (9, .int .i64 n2), (11, .ptr 3 6 0), (27, .fs l.length (rowsV l)), (28, .int .i64 (l.length : Int)), (29, .int .i64 (i : Int))], p.obs ++ [.live x.cells]⟩) (fun K20 hK20 => ?_) ?_
                    · refine vwp_seq_k fun K21 hK21 => ?_
                      refine vwp_live [1, 7, 9, 11, 27, 28, 29] ?_
                      try simp only [argSlots, pruneS, inN, eq_self, reduceIte, ite_true, Nat.reduceAdd, Nat.reduceBEq, Bool.or_true, Bool.true_or, Bool.or_false, Bool.false_or, if_true, if_false, Bool.false_eq_true]
                      refine vwp_region hT ?_
                      simp [-List.reduceReplicate, PT.obs, lenAct]
                      repeat refine ⟨by first | assumption | omega | (rw [spl_length (by simp; omega)]; simp; done) | (intros; omega), ?_⟩
                      refine hK21 _ ?_
                      try clear hK21 K21
                      refine vwp_cond (by first | rfl | (simp; rfl)) (fun h5 => ?_) (fun h5 => ?_)
                      · try (exfalso; simp at h5; done)
                        all_goals
                          try simp at h5
                          have w1 : IntKind.i64.wrap (now + x.now) = now + x.now := w64 (by omega) (by omega)
                          refine vwp_live [1, 7, 9, 11, 27, 28, 29] ?_
                          try simp only [argSlots, pruneS, inN, eq_self, reduceIte, ite_true, Nat.reduceAdd, Nat.reduceBEq, Bool.or_true, Bool.true_or, Bool.or_false, Bool.false_or, if_true, if_false, Bool.false_eq_true]
                          refine vwp_region hT ?_
                          simp [-List.reduceReplicate, PT.obs, lenAct, w1]
                          repeat refine ⟨by first | assumption | omega | (rw [spl_length (by simp; omega)]; simp; done) | (intros; omega), ?_⟩
                          refine hK20 _ ?_
                          refine ⟨now + x.now, by omega, by omega, by omega, ?_⟩
                          refine Gh.to [1, 7, 9, 11, 27, 28, 29] [0, 1, 2, 3] _ (_) ?_ ?_ rfl ?_ ?_
                          · simp
                          · simp [PT.obs]
                          · simp [PT.obs]
                          · simp [PT.obs]
                      · try (exfalso; simp at h5; done)
                        all_goals
                          try simp at h5
                          refine vwp_skip ?_
                          try simp only [thenQ, inBlk]
                          refine hK20 _ ?_
                          refine ⟨now, by omega, by omega, by omega, ?_⟩
                          refine Gh.to [1, 7, 9, 11, 27, 28, 29] [0, 1, 2, 3] _ (_) ?_ ?_ rfl ?_ ?_
                          · simp
                          · simp [PT.obs]
                          · simp [PT.obs]
                          · simp [PT.obs]
                    · rintro st ⟨n2, hn2, hn20, hn21, hg⟩
                      refine vwp_gh hg ?_
                      clear hg
                      have hle' : p.le n2 := fun w => Int.le_trans (Int.ofNat_le.2 (p.many_mono w hn2)) (hle w)
                      have hle2 := PT.le_act (t := p) (x := { x with now := n2 }) hle'
                      have hfit2 := hfit.act { x with now := n2 }
                      have hq2 : (p.act { x with now := n2 }).2.quota = b := (p.act_quota _).trans hquo
                      refine vwp_seq_k fun K22 hK22 => ?_
                      refine vwp_live [1, 7, 9, 11, 27, 28, 29] ?_
                      try simp only [argSlots, pruneS, inN, eq_self, reduceIte, ite_true, Nat.reduceAdd, Nat.reduceBEq, Bool.or_true, Bool.true_or, Bool.or_false, Bool.false_or, if_true, if_false, Bool.false_eq_true]
                      refine vwp_region hT ?_
                      simp [-List.reduceReplicate, PT.obs, lenAct]
                      repeat refine ⟨by first | assumption | omega | (rw [spl_length (by simp; omega)]; simp; done) | (intros; omega), ?_⟩
                      refine hK22 _ ?_
                      try clear hK22 K22
                      refine vwp_seq_k fun K23 hK23 => ?_
                      refine vwp_live [1, 7, 9, 11, 27, 28, 29] ?_
                      try simp only [argSlots, pruneS, inN, eq_self, reduceIte, ite_true, Nat.reduceAdd, Nat.reduceBEq, Bool.or_true, Bool.true_or, Bool.or_false, Bool.false_or, if_true, if_false, Bool.false_eq_true]
                      refine vwp_region hT ?_
                      simp [-List.reduceReplicate, PT.obs, lenAct]
                      refine vcall_by0 [0, 1, 2] (do18_spec p (hfit.ok (by omega)) { x with now := n2 }) (by simp) (by simp [PT.obs]) (by simp) (by simp [PT.obs]) ?_
                      rintro r' ob' ⟨rfl, rfl⟩
                      simp [-List.reduceReplicate, PT.obs, lenAct]
                      repeat refine ⟨by omega, ?_⟩
                      refine hK23 _ ?_
                      generalize (p.act { x with now := n2 }).2 = p2 at hle2 hfit2 hq2 ⊢
                      simp only at hle2 hfit2 hq2
                      have hfs2 := hfit2.s
                      try clear hK23 K23
                      refine vwp_seq_k fun K24 hK24 => ?_
                      refine vwp_live [1, 7, 9, 27, 28, 29] ?_
                      try simp only [argSlots, pruneS, inN, eq_self, reduceIte, ite_true, Nat.reduceAdd, Nat.reduceBEq, Bool.or_true, Bool.true_or, Bool.or_false, Bool.false_or, if_true, if_false, Bool.false_eq_true]
                      refine vwp_region hT ?_
                      simp [-List.reduceReplicate, PT.obs, lenAct]
                      repeat refine ⟨by first | assumption | omega | (rw [spl_length (by simp; omega)]; simp; done) | (intros; omega), ?_⟩
                      refine hK24 _ ?_
                      try clear hK24 K24
                      refine vwp_block ?_
                      refine vwp_gh (st' := ⟨[(1, .int .i64 b), (7, .ptr 0 4 0), (9, .int .i64 n2), (12, .int .i64 (-2)), (27, .fs l.length (rowsV l)), (28, .int .i64 (l.length : Int)), (29, .int .i64 (i : Int))], p2.obs⟩) ?_ ?_
                      · refine Gh.to [1, 7, 9, 12, 27, 28, 29] [0, 1, 2] _ (_) ?_ ?_ rfl ?_ ?_
                        · simp
                        · simp [PT.obs]
                        · simp [PT.obs]
                        · simp [PT.obs]
                      refine vwp_loop_k (fun m st => ∃ j : Int, -2 ≤ j ∧ j ≤ 32 ∧ m = (32 - j).toNat ∧ st = ⟨[(1, .int .i64 b), (7, .ptr 0 4 0), (9, .int .i64 n2), (12, .int .i64 j), (27, .fs l.length (rowsV l)), (28, .int .i64 (l.length : Int)), (29, .int .i64 (i : Int))], p2.obs⟩) 34 ⟨-2, by omega, by omega, by omega, rfl⟩ ?_
                      rintro m st ⟨j, hj0, hj1, rfl, rfl⟩
                      intro K25 hK25
                      refine vwp_seq_k fun K26 hK26 => ?_
                      refine vwp_seq_k fun K27 hK27 => ?_
                      refine vwp_live [1, 7, 9, 12, 27, 28, 29] ?_
                      try simp only [argSlots, pruneS, inN, eq_self, reduceIte, ite_true, Nat.reduceAdd, Nat.reduceBEq, Bool.or_true, Bool.true_or, Bool.or_false, Bool.false_or, if_true, if_false, Bool.false_eq_true]
                      refine vwp_region hT ?_
                      simp [-List.reduceReplicate, PT.obs, lenAct]
                      repeat refine ⟨by first | assumption | omega | (rw [spl_length (by simp; omega)]; simp; done) | (intros; omega), ?_⟩
                      refine hK27 _ ?_
                      try clear hK27 K27
                      refine vwp_cond (by first | rfl | (simp; rfl)) (fun h6 => ?_) (fun h6 => ?_)
                      · try (exfalso; simp at h6; done)
                        all_goals
                          try simp at h6
                          refine vwp_skip ?_
                          try simp only [thenQ, inBlk]
                          refine hK26 _ ?_
                          try clear hK26 K26
                          refine vwp_seq_k fun K28 hK28 => ?_
                          refine vwp_block ?_
                          refine vwp_seq_k fun K29 hK29 => ?_
                          have hlj := hle2 j
                          refine vwp_live [1, 7, 9, 12, 27, 28, 29] ?_
                          try simp only [argSlots, pruneS, inN, eq_self, reduceIte, ite_true, Nat.reduceAdd, Nat.reduceBEq, Bool.or_true, Bool.true_or, Bool.or_false, Bool.false_or, if_true, if_false, Bool.false_eq_true]
                          refine vwp_region hT ?_
                          simp [-List.reduceReplicate, PT.obs, lenAct]
                          refine vcall_by0 [0, 1, 2] (many_spec p2 (by omega) j n2) (by simp) (by simp [PT.obs]) (by simp) (by simp [PT.obs]) ?_
                          rintro r' ob' ⟨rfl, rfl⟩
                          simp [-List.reduceReplicate, PT.obs, lenAct]
                          repeat refine ⟨by first | assumption | omega | (rw [spl_length (by simp; omega)]; simp; done) | (intros; omega), ?_⟩
                          refine hK29 _ ?_
                          try clear hK29 K29
                          refine vwp_cond (by first | rfl | (simp; rfl)) (fun h7 => ?_) (fun h7 => ?_)
                          · try (exfalso; simp at h7; done)
                            all_goals
                              try simp at h7
                              refine vwp_seq_k fun K30 hK30 => ?_
                              refine vwp_live [] ?_
                              try simp only [argSlots, pruneS, inN, eq_self, reduceIte, ite_true, Nat.reduceAdd, Nat.reduceBEq, Bool.or_true, Bool.true_or, Bool.or_false, Bool.false_or, if_true, if_false, Bool.false_eq_true]
                              refine vwp_region hT ?_
                              simp [-List.reduceReplicate, PT.obs, lenAct]
                              repeat refine ⟨by first | assumption | omega | (rw [spl_length (by simp; omega)]; simp; done) | (intros; omega), ?_⟩
                              refine hK30 _ ?_
                              try clear hK30 K30
                              refine vwp_ret ?_
                              try simp only [thenQ, inBlk]
                              refine hR _ _ ?_
                              exfalso; omega
                          · try (exfalso; simp at h7; done)
                            all_goals
                              try simp at h7
                              refine vwp_skip ?_
                              try simp only [thenQ, inBlk]
                              refine hK28 _ ?_
                              try clear hK28 K28
                              refine vwp_live [1, 7, 9, 12, 27, 28, 29] ?_
                              try simp only [argSlots, pruneS, inN, eq_self, reduceIte, ite_true, Nat.reduceAdd, Nat.reduceBEq, Bool.or_true, Bool.true_or, Bool.or_false, Bool.false_or, if_true, if_false, Bool.false_eq_true]
                              refine vwp_region hT ?_
                              simp [-List.reduceReplicate, PT.obs, lenAct]
                              repeat refine ⟨by first | assumption | omega | (rw [spl_length (by simp; omega)]; simp; done) | (intros; omega), ?_⟩
                              refine hK25 _ ?_
                              refine ⟨⟨[(1, .int .i64 b), (7, .ptr 0 4 0), (9, .int .i64 n2), (12, .int .i64 (j + 1)), (27, .fs l.length (rowsV l)), (28, .int .i64 (l.length : Int)), (29, .int .i64 (i : Int))], p2.obs⟩, ?_, (32 - (j + 1)).toNat, by omega, j + 1, by omega, by omega, rfl, rfl⟩
                              refine Gh.to [1, 7, 9, 12, 27, 28, 29] [0, 1, 2] _ (_) ?_ ?_ rfl ?_ ?_
                              · simp
                              · simp [PT.obs]
                              · simp [PT.obs]
                              · simp [PT.obs]; exact w64 (by omega) (by omega)
                      · try (exfalso; simp at h6; done)
                        all_goals
                          try simp at h6
                          refine vwp_exit ?_
                          simp only [inBlk, thenQ, if_true]
                          refine hK18 _ ?_
                          try clear hK18 K18
                          refine vwp_live [1, 7, 9, 27, 28, 29] ?_
                          try simp only [argSlots, pruneS, inN, eq_self, reduceIte, ite_true, Nat.reduceAdd, Nat.reduceBEq, Bool.or_true, Bool.true_or, Bool.or_false, Bool.false_or, if_true, if_false, Bool.false_eq_true]
                          refine vwp_region hT ?_
                          simp [-List.reduceReplicate, PT.obs, lenAct]
                          repeat refine ⟨by first | assumption | omega | (rw [spl_length (by simp; omega)]; simp; done) | (intros; omega), ?_⟩
                          refine hK15 _ ?_
                          refine ⟨⟨[(1, .int .i64 b), (7, .ptr 0 4 0), (9, .int .i64 n2), (27, .fs l.length (rowsV l)), (28, .int .i64 (l.length : Int)), (29, .int .i64 ((i + 1 : Nat) : Int))], p2.obs⟩, ?_, l.length - (i + 1), by omega, i + 1, p2, n2, hfit2, hq2, hle2, by omega, by omega, by omega, rfl, rfl⟩
                          refine Gh.to [1, 7, 9, 27, 28, 29] [0, 1, 2] _ (_) ?_ ?_ rfl ?_ ?_
                          · simp
                          · simp [PT.obs]
                          · simp [PT.obs]
                          · simp [PT.obs]; exact w64 (by omega) (by omega)
                · try (exfalso; simp at h4; done)
                  all_goals
                    try simp at h4
                    refine vwp_exit ?_
                    simp only [inBlk, thenQ, if_true]
                    refine hK13 _ ?_
                    try clear hK13 K13
                    refine vwp_seq_k fun K31 hK31 => ?_
                    refine vwp_live [] ?_
                    try simp only [argSlots, pruneS, inN, eq_self, reduceIte, ite_true, Nat.reduceAdd, Nat.reduceBEq, Bool.or_true, Bool.true_or, Bool.or_false, Bool.false_or, if_true, if_false, Bool.false_eq_true]
                    refine vwp_region hT ?_
                    simp [-List.reduceReplicate, PT.obs, lenAct]
                    repeat refine ⟨by first | assumption | omega | (rw [spl_length (by simp; omega)]; simp; done) | (intros; omega), ?_⟩
                    refine hK31 _ ?_
                    try clear hK31 K31
                    refine vwp_ret ?_
                    try simp only [thenQ, inBlk]
                    refine hR _ _ ?_
                    refine ret_only [6] [] [] (by simp) (by simp) rfl (by simp) (r := .bool true) (by simp [Try.f7]) rfl
          · refine vwp_live [0, 1, 2] ?_
            try simp only [argSlots, pruneS, inN, eq_self, reduceIte, ite_true, Nat.reduceAdd, Nat.reduceBEq, Bool.or_true, Bool.true_or, Bool.or_false, Bool.false_or, if_true, if_false, Bool.false_eq_true]
            refine vwp_region hT ?_
            simp [-List.reduceReplicate, PT.obs, lenAct]
            refine vcall_by0 [] (snew_spec a b) (by simp) (by simp [PT.obs]) (by simp) (by simp [PT.obs]) ?_
            rintro r ob' ⟨-, hq⟩
            obtain ⟨rfl, rfl⟩ := hq hn
            simp [-List.reduceReplicate, PT.obs, lenAct]
            repeat refine ⟨by first | assumption | omega | (rw [spl_length (by simp; omega)]; simp; done) | (intros; omega), ?_⟩
            refine hK8 _ ?_
            try clear hK8 K8
            refine vwp_seq_k fun K32 hK32 => ?_
            refine vwp_seq_k fun K33 hK33 => ?_
            refine vwp_live [1, 2, 7, 8] ?_
            try simp only [argSlots, pruneS, inN, eq_self, reduceIte, ite_true, Nat.reduceAdd, Nat.reduceBEq, Bool.or_true, Bool.true_or, Bool.or_false, Bool.false_or, if_true, if_false, Bool.false_eq_true]
            refine vwp_region hT ?_
            simp [-List.reduceReplicate, PT.obs, lenAct]
            repeat refine ⟨by first | assumption | omega | (rw [spl_length (by simp; omega)]; simp; done) | (intros; omega), ?_⟩
            refine hK33 _ ?_
            try clear hK33 K33
            refine vwp_cond (by first | rfl | (simp; rfl)) (fun h8 => ?_) (fun h8 => ?_)
            · try (exfalso; simp at h8; done)
              all_goals
                try simp at h8
                refine vwp_seq_k fun K34 hK34 => ?_
                refine vwp_live [8] ?_
                try simp only [argSlots, pruneS, inN, eq_self, reduceIte, ite_true, Nat.reduceAdd, Nat.reduceBEq, Bool.or_true, Bool.true_or, Bool.or_false, Bool.false_or, if_true, if_false, Bool.false_eq_true]
                refine vwp_region hT ?_
                simp [-List.reduceReplicate, PT.obs, lenAct]
                repeat refine ⟨by first | assumption | omega | (rw [spl_length (by simp; omega)]; simp; done) | (intros; omega), ?_⟩
                refine hK34 _ ?_
                try clear hK34 K34
                refine vwp_ret ?_
                try simp only [thenQ, inBlk]
                refine hR _ _ ?_
                refine ret_only [6] [] [] (by simp) (by simp) rfl (by simp) (r := .bool true) (by simp [Try.f7]) rfl
            · try (exfalso; simp at h8; done)
              all_goals
                try simp at h8
                refine vwp_skip ?_
                try simp only [thenQ, inBlk]
                refine hK32 _ ?_
                try clear hK32 K32
                refine vwp_seq_k fun K35 hK35 => ?_
                skip
end Go.Proofs.Ytibhpkolbffdaaa
