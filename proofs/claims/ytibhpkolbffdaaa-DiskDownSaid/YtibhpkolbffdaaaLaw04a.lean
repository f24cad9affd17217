/- Operations on a disk, one and many. -/
import Derived.Test.YtibhpkolbffdaaaDisk2
import Derived.Test.YtibhpkolbffdaaaDisk3
import Derived.Test.YtibhpkolbffdaaaSame
namespace Go.Proofs.Ytibhpkolbffdaaa
open Go Go.VX Go.RowKit
set_option linter.unusedVariables false
set_option linter.unusedSimpArgs false
set_option maxHeartbeats 20000000
set_option maxRecDepth 100000

structure DOp where
  do_ : Int
  a : Int
  c : Int
  b : List Int
abbrev DOp.cells (x : DOp) : List V := [.int .i64 x.do_, .int .i64 x.a, .int .i64 x.c, .fs x.b.length (bts x.b)]
def opsV (l : List DOp) : List V := l.flatMap DOp.cells
theorem opsV_length (l : List DOp) : (opsV l).length = l.length * 4 := by
  induction l with
  | nil => rfl
  | cons x l ih => simp only [opsV, List.flatMap_cons, List.length_append] at ih ⊢; rw [ih]; simp; omega
theorem opsV_drop : ∀ {l : List DOp} {i : Nat} {x : DOp}, l[i]? = some x → List.drop (i * 4) (opsV l) = x.cells ++ opsV (l.drop (i + 1))
  | [], i, x, h => by simp at h
  | y :: l, 0, x, h => by simp at h; subst h; simp [opsV]
  | y :: l, i + 1, x, h => by
    have e : (i + 1) * 4 = 4 + i * 4 := by omega
    have e2 : opsV (y :: l) = y.cells ++ opsV l := rfl
    rw [e, e2, ← List.drop_drop]
    have e3 : List.drop 4 (y.cells ++ opsV l) = opsV l := rfl
    rw [e3, opsV_drop (by simpa using h)]
    rfl

def Dk.step (d : Dk) (n : Nat) (x : DOp) : Int × Dk :=
  if x.do_ = 0 then d.write n x.a x.b else if x.do_ = 1 then (0, d.fused x.a x.c) else if x.do_ = 2 then (0, d.crashed) else if x.do_ = 3 then d.turned x.a (IntKind.u8.wrap x.c) else (0, d)

theorem do_spec (d : Dk) (n : Nat) (hd : d.ok n) (x : DOp) :
    VC P 14 [.ptr 0 5 0, .agg x.cells] (d.obs n) (fun r ob' => r = .int .i64 (d.step n x).1 ∧ ob' = (d.step n x).2.obs n) := by
  refine VC_of_vwp_k ent_14 Try.func14 rfl (by simp [Try.ntmps14]) fun R hR => ?_
  refine vwp_seq_k fun K1 hK1 => ?_
  refine vwp_live [0, 1] ?_
  try simp only [argSlots, pruneS, inN, eq_self, reduceIte, ite_true, Nat.reduceAdd, Nat.reduceBEq, Bool.or_true, Bool.true_or, Bool.or_false, Bool.false_or, if_true, if_false, Bool.false_eq_true]
  refine vwp_region hT ?_
  simp [-List.reduceReplicate, Dk.obs, Try.ntmps14]
  repeat refine ⟨by first | assumption | omega | (rw [spl_length (by simp; omega)]; simp; done) | (intros; omega), ?_⟩
  refine hK1 _ ?_
  try clear hK1 K1
  refine vwp_seq_k fun K2 hK2 => ?_
  refine vwp_seq_k fun K3 hK3 => ?_
  refine vwp_live [0, 3] ?_
  try simp only [argSlots, pruneS, inN, eq_self, reduceIte, ite_true, Nat.reduceAdd, Nat.reduceBEq, Bool.or_true, Bool.true_or, Bool.or_false, Bool.false_or, if_true, if_false, Bool.false_eq_true]
  refine vwp_region hT ?_
  simp [-List.reduceReplicate, Dk.obs]
  repeat refine ⟨by first | assumption | omega | (rw [spl_length (by simp; omega)]; simp; done) | (intros; omega), ?_⟩
  refine hK3 _ ?_
  try clear hK3 K3
  refine vwp_block ?_
  refine vwp_seq_k fun K4 hK4 => ?_
  refine vwp_live [0, 3, 6] ?_
  try simp only [argSlots, pruneS, inN, eq_self, reduceIte, ite_true, Nat.reduceAdd, Nat.reduceBEq, Bool.or_true, Bool.true_or, Bool.or_false, Bool.false_or, if_true, if_false, Bool.false_eq_true]
  refine vwp_region hT ?_
  simp [-List.reduceReplicate, Dk.obs]
  repeat refine ⟨by first | assumption | omega | (rw [spl_length (by simp; omega)]; simp; done) | (intros; omega), ?_⟩
  refine hK4 _ ?_
  try clear hK4 K4
  refine vwp_cond (by simp; rfl) (fun h1 => ?_) (fun h1 => ?_)
  · try (exfalso; simp at h1; done)
    all_goals
      try simp at h1
      refine vwp_seq_k fun K5 hK5 => ?_
      refine vwp_live [0, 3] ?_
      try simp only [argSlots, pruneS, inN, eq_self, reduceIte, ite_true, Nat.reduceAdd, Nat.reduceBEq, Bool.or_true, Bool.true_or, Bool.or_false, Bool.false_or, if_true, if_false, Bool.false_eq_true]
      refine vwp_region hT ?_
      simp [-List.reduceReplicate, Dk.obs]
      refine vcall_by0 [0, 1] (write_spec d n hd x.a x.b) (by simp) (by simp [Dk.obs]) (by simp) (by simp [Dk.obs]) ?_
      rintro r ob' ⟨rfl, rfl⟩
      simp [-List.reduceReplicate, Dk.obs]
      repeat refine ⟨by first | assumption | omega | (rw [spl_length (by simp; omega)]; simp; done) | (intros; omega), ?_⟩
      refine hK5 _ ?_
      try clear hK5 K5
      refine vwp_ret ?_
      try simp only [thenQ, inBlk]
      refine hR _ _ ?_
      have hw : d.step n x = d.write n x.a x.b := (by unfold Dk.step; simp [*])
      rw [hw]
      refine ret_only [4] [0, 1] ((d.write n x.a x.b).2.obs n) (by simp) (by simp [Dk.obs]) rfl (by simp) (r := .int .i64 ((d.write n x.a x.b).1)) (by simp [Try.f14]) ⟨rfl, rfl⟩
  · try (exfalso; simp at h1; done)
    all_goals
      try simp at h1
      refine vwp_seq_k fun K6 hK6 => ?_
      refine vwp_live [0, 3, 6] ?_
      try simp only [argSlots, pruneS, inN, eq_self, reduceIte, ite_true, Nat.reduceAdd, Nat.reduceBEq, Bool.or_true, Bool.true_or, Bool.or_false, Bool.false_or, if_true, if_false, Bool.false_eq_true]
      refine vwp_region hT ?_
      simp [-List.reduceReplicate, Dk.obs]
      repeat refine ⟨by first | assumption | omega | (rw [spl_length (by simp; omega)]; simp; done) | (intros; omega), ?_⟩
      refine hK6 _ ?_
      try clear hK6 K6
      refine vwp_cond (by simp; rfl) (fun h2 => ?_) (fun h2 => ?_)
      · try (exfalso; simp at h2; done)
        all_goals
          try simp at h2
          refine vwp_live [0, 3] ?_
          try simp only [argSlots, pruneS, inN, eq_self, reduceIte, ite_true, Nat.reduceAdd, Nat.reduceBEq, Bool.or_true, Bool.true_or, Bool.or_false, Bool.false_or, if_true, if_false, Bool.false_eq_true]
          refine vwp_region hT ?_
          simp [-List.reduceReplicate, Dk.obs]
          refine vcall_by0 [0, 1] (fuse_spec d n x.a x.c) (by simp) (by simp [Dk.obs]) (by simp) (by simp [Dk.obs]) ?_
          rintro r ob' ⟨rfl, rfl⟩
          simp [-List.reduceReplicate, Dk.obs]
          repeat refine ⟨by first | assumption | omega | (rw [spl_length (by simp; omega)]; simp; done) | (intros; omega), ?_⟩
          refine hK2 _ ?_
          try clear hK2 K2
          refine vwp_seq_k fun K7 hK7 => ?_
          refine vwp_live [] ?_
          try simp only [argSlots, pruneS, inN, eq_self, reduceIte, ite_true, Nat.reduceAdd, Nat.reduceBEq, Bool.or_true, Bool.true_or, Bool.or_false, Bool.false_or, if_true, if_false, Bool.false_eq_true]
          refine vwp_region hT ?_
          simp [-List.reduceReplicate, Dk.obs]
          repeat refine ⟨by first | assumption | omega | (rw [spl_length (by simp; omega)]; simp; done) | (intros; omega), ?_⟩
          refine hK7 _ ?_
          try clear hK7 K7
          refine vwp_ret ?_
          try simp only [thenQ, inBlk]
          refine hR _ _ ?_
          by_cases q1 : x.do_ = 1
          · first | (exfalso; omega) | (have hw : d.step n x = (0, d.fused x.a x.c) := (by unfold Dk.step; simp [*]); rw [hw]; refine ret_only [4] [0, 1] ((d.fused x.a x.c).obs n) (by simp) (by simp [Dk.obs]) rfl (by simp) (r := .int .i64 (0)) (by simp [Try.f14]) ⟨rfl, rfl⟩)
          · by_cases q2 : x.do_ = 2
            · first | (exfalso; omega) | (have hw : d.step n x = (0, d.crashed) := (by unfold Dk.step; simp [*]); rw [hw]; refine ret_only [4] [0, 1] (d.crashed.obs n) (by simp) (by simp [Dk.obs]) rfl (by simp) (r := .int .i64 (0)) (by simp [Try.f14]) ⟨rfl, rfl⟩)
            · first | (exfalso; omega) | (have hw : d.step n x = (0, d) := (by unfold Dk.step; simp [*]); rw [hw]; refine ret_only [4] [0, 1] (d.obs n) (by simp) (by simp [Dk.obs]) rfl (by simp) (r := .int .i64 (0)) (by simp [Try.f14]) ⟨rfl, rfl⟩)
      · try (exfalso; simp at h2; done)
        all_goals
          try simp at h2
          refine vwp_seq_k fun K8 hK8 => ?_
          refine vwp_live [0, 3, 6] ?_
          try simp only [argSlots, pruneS, inN, eq_self, reduceIte, ite_true, Nat.reduceAdd, Nat.reduceBEq, Bool.or_true, Bool.true_or, Bool.or_false, Bool.false_or, if_true, if_false, Bool.false_eq_true]
          refine vwp_region hT ?_
          simp [-List.reduceReplicate, Dk.obs]
          repeat refine ⟨by first | assumption | omega | (rw [spl_length (by simp; omega)]; simp; done) | (intros; omega), ?_⟩
          refine hK8 _ ?_
          try clear hK8 K8
          refine vwp_cond (by simp; rfl) (fun h3 => ?_) (fun h3 => ?_)
          · try (exfalso; simp at h3; done)
            all_goals
              try simp at h3
              refine vwp_live [0] ?_
              try simp only [argSlots, pruneS, inN, eq_self, reduceIte, ite_true, Nat.reduceAdd, Nat.reduceBEq, Bool.or_true, Bool.true_or, Bool.or_false, Bool.false_or, if_true, if_false, Bool.false_eq_true]
              refine vwp_region hT ?_
              simp [-List.reduceReplicate, Dk.obs]
              refine vcall_by0 [0, 1] (crash_spec d n) (by simp) (by simp [Dk.obs]) (by simp) (by simp [Dk.obs]) ?_
              rintro r ob' ⟨rfl, rfl⟩
              simp [-List.reduceReplicate, Dk.obs]
              repeat refine ⟨by first | assumption | omega | (rw [spl_length (by simp; omega)]; simp; done) | (intros; omega), ?_⟩
              refine hK2 _ ?_
              try clear hK2 K2
              refine vwp_seq_k fun K9 hK9 => ?_
              refine vwp_live [] ?_
              try simp only [argSlots, pruneS, inN, eq_self, reduceIte, ite_true, Nat.reduceAdd, Nat.reduceBEq, Bool.or_true, Bool.true_or, Bool.or_false, Bool.false_or, if_true, if_false, Bool.false_eq_true]
              refine vwp_region hT ?_
              simp [-List.reduceReplicate, Dk.obs]
              repeat refine ⟨by first | assumption | omega | (rw [spl_length (by simp; omega)]; simp; done) | (intros; omega), ?_⟩
              refine hK9 _ ?_
              try clear hK9 K9
              refine vwp_ret ?_
              try simp only [thenQ, inBlk]
              refine hR _ _ ?_
              by_cases q1 : x.do_ = 1
              · first | (exfalso; omega) | (have hw : d.step n x = (0, d.fused x.a x.c) := (by unfold Dk.step; simp [*]); rw [hw]; refine ret_only [4] [0, 1] ((d.fused x.a x.c).obs n) (by simp) (by simp [Dk.obs]) rfl (by simp) (r := .int .i64 (0)) (by simp [Try.f14]) ⟨rfl, rfl⟩)
              · by_cases q2 : x.do_ = 2
                · first | (exfalso; omega) | (have hw : d.step n x = (0, d.crashed) := (by unfold Dk.step; simp [*]); rw [hw]; refine ret_only [4] [0, 1] (d.crashed.obs n) (by simp) (by simp [Dk.obs]) rfl (by simp) (r := .int .i64 (0)) (by simp [Try.f14]) ⟨rfl, rfl⟩)
                · first | (exfalso; omega) | (have hw : d.step n x = (0, d) := (by unfold Dk.step; simp [*]); rw [hw]; refine ret_only [4] [0, 1] (d.obs n) (by simp) (by simp [Dk.obs]) rfl (by simp) (r := .int .i64 (0)) (by simp [Try.f14]) ⟨rfl, rfl⟩)
          · try (exfalso; simp at h3; done)
            all_goals
              try simp at h3
              refine vwp_seq_k fun K10 hK10 => ?_
              refine vwp_live [0, 3, 6] ?_
              try simp only [argSlots, pruneS, inN, eq_self, reduceIte, ite_true, Nat.reduceAdd, Nat.reduceBEq, Bool.or_true, Bool.true_or, Bool.or_false, Bool.false_or, if_true, if_false, Bool.false_eq_true]
              refine vwp_region hT ?_
              simp [-List.reduceReplicate, Dk.obs]
              repeat refine ⟨by first | assumption | omega | (rw [spl_length (by simp; omega)]; simp; done) | (intros; omega), ?_⟩
              refine hK10 _ ?_
              try clear hK10 K10
              refine vwp_cond (by simp; rfl) (fun h4 => ?_) (fun h4 => ?_)
              · try (exfalso; simp at h4; done)
                all_goals
                  try simp at h4
                  refine vwp_seq_k fun K11 hK11 => ?_
                  refine vwp_live [0, 3] ?_
                  try simp only [argSlots, pruneS, inN, eq_self, reduceIte, ite_true, Nat.reduceAdd, Nat.reduceBEq, Bool.or_true, Bool.true_or, Bool.or_false, Bool.false_or, if_true, if_false, Bool.false_eq_true]
                  refine vwp_region hT ?_
                  simp [-List.reduceReplicate, Dk.obs]
                  refine vcall_by0 [0, 1] (turn_spec d n hd x.a (IntKind.u8.wrap x.c)) (by simp) (by simp [Dk.obs]) (by simp) (by simp [Dk.obs]) ?_
                  rintro r ob' ⟨rfl, rfl⟩
                  simp [-List.reduceReplicate, Dk.obs]
                  repeat refine ⟨by first | assumption | omega | (rw [spl_length (by simp; omega)]; simp; done) | (intros; omega), ?_⟩
                  refine hK11 _ ?_
                  try clear hK11 K11
                  refine vwp_ret ?_
                  try simp only [thenQ, inBlk]
                  refine hR _ _ ?_
                  have hw : d.step n x = d.turned x.a (IntKind.u8.wrap x.c) := (by unfold Dk.step; simp [*])
                  rw [hw]
                  refine ret_only [4] [0, 1] ((d.turned x.a (IntKind.u8.wrap x.c)).2.obs n) (by simp) (by simp [Dk.obs]) rfl (by simp) (r := .int .i64 ((d.turned x.a (IntKind.u8.wrap x.c)).1)) (by simp [Try.f14]) ⟨rfl, rfl⟩
              · try (exfalso; simp at h4; done)
                all_goals
                  try simp at h4
                  refine vwp_skip ?_
                  try simp only [thenQ, inBlk]
                  refine hK2 _ ?_
                  try clear hK2 K2
                  refine vwp_seq_k fun K12 hK12 => ?_
                  refine vwp_live [] ?_
                  try simp only [argSlots, pruneS, inN, eq_self, reduceIte, ite_true, Nat.reduceAdd, Nat.reduceBEq, Bool.or_true, Bool.true_or, Bool.or_false, Bool.false_or, if_true, if_false, Bool.false_eq_true]
                  refine vwp_region hT ?_
                  simp [-List.reduceReplicate, Dk.obs]
                  repeat refine ⟨by first | assumption | omega | (rw [spl_length (by simp; omega)]; simp; done) | (intros; omega), ?_⟩
                  refine hK12 _ ?_
                  try clear hK12 K12
                  refine vwp_ret ?_
                  try simp only [thenQ, inBlk]
                  refine hR _ _ ?_
                  by_cases q1 : x.do_ = 1
                  · first | (exfalso; omega) | (have hw : d.step n x = (0, d.fused x.a x.c) := (by unfold Dk.step; simp [*]); rw [hw]; refine ret_only [4] [0, 1] ((d.fused x.a x.c).obs n) (by simp) (by simp [Dk.obs]) rfl (by simp) (r := .int .i64 (0)) (by simp [Try.f14]) ⟨rfl, rfl⟩)
                  · by_cases q2 : x.do_ = 2
                    · first | (exfalso; omega) | (have hw : d.step n x = (0, d.crashed) := (by unfold Dk.step; simp [*]); rw [hw]; refine ret_only [4] [0, 1] (d.crashed.obs n) (by simp) (by simp [Dk.obs]) rfl (by simp) (r := .int .i64 (0)) (by simp [Try.f14]) ⟨rfl, rfl⟩)
                    · first | (exfalso; omega) | (have hw : d.step n x = (0, d) := (by unfold Dk.step; simp [*]); rw [hw]; refine ret_only [4] [0, 1] (d.obs n) (by simp) (by simp [Dk.obs]) rfl (by simp) (r := .int .i64 (0)) (by simp [Try.f14]) ⟨rfl, rfl⟩)

def sumB (l : List DOp) : Nat := (l.map fun x => x.b.length).sum
theorem sumB_take {l : List DOp} {i : Nat} {x : DOp} (h : l[i]? = some x) : sumB (l.take (i + 1)) = sumB (l.take i) + x.b.length := by
  unfold sumB
  rw [List.take_add_one, h]
  simp

/-- What is looked at is not large. -/
def smallOps (l : List DOp) : Prop := l.length ≤ 60 ∧ sumB l ≤ 4000
theorem large_spec (l : List DOp) (hl : l.length ≤ 140737488355328) (hb : ∀ x ∈ l, x.b.length ≤ 140737488355328) :
    VC P 11 [.fs l.length (opsV l)] [] (fun r ob' => (∃ v, r = .bool v ∧ (v = false → smallOps l)) ∧ ob' = []) := by
  refine VC_of_vwp_k ent_11 Try.func11 rfl (by simp [Try.ntmps11]) fun R hR => ?_
  refine vwp_seq_k fun K1 hK1 => ?_
  refine vwp_live [0] ?_
  try simp only [argSlots, pruneS, inN, eq_self, reduceIte, ite_true, Nat.reduceAdd, Nat.reduceBEq, Bool.or_true, Bool.true_or, Bool.or_false, Bool.false_or, if_true, if_false, Bool.false_eq_true]
  refine vwp_region hT ?_
  simp [-List.reduceReplicate, Try.ntmps11]
  repeat refine ⟨by first | assumption | omega | (rw [spl_length (by simp; omega)]; simp; done) | (intros; omega), ?_⟩
  refine hK1 _ ?_
  try clear hK1 K1
  refine vwp_seq_k fun K2 hK2 => ?_
  refine vwp_live [0] ?_
  try simp only [argSlots, pruneS, inN, eq_self, reduceIte, ite_true, Nat.reduceAdd, Nat.reduceBEq, Bool.or_true, Bool.true_or, Bool.or_false, Bool.false_or, if_true, if_false, Bool.false_eq_true]
  refine vwp_region hT ?_
  simp [-List.reduceReplicate]
  repeat refine ⟨by first | assumption | omega | (rw [spl_length (by simp; omega)]; simp; done) | (intros; omega), ?_⟩
  refine hK2 _ ?_
  try clear hK2 K2
  refine vwp_seq_k fun K3 hK3 => ?_
  refine vwp_seq_k fun K4 hK4 => ?_
  refine vwp_live [0, 3] ?_
  try simp only [argSlots, pruneS, inN, eq_self, reduceIte, ite_true, Nat.reduceAdd, Nat.reduceBEq, Bool.or_true, Bool.true_or, Bool.or_false, Bool.false_or, if_true, if_false, Bool.false_eq_true]
  refine vwp_region hT ?_
  simp [-List.reduceReplicate]
  repeat refine ⟨by first | assumption | omega | (rw [spl_length (by simp; omega)]; simp; done) | (intros; omega), ?_⟩
  refine hK4 _ ?_
  try clear hK4 K4
  refine vwp_block ?_
  refine vwp_gh (Gh.to [0, 3, 4] [] [(0, .fs l.length (opsV l)), (3, .int .i64 0), (4, .int .i64 0)] [] (by simp) (by simp) rfl (by simp) (by simp)) ?_
  refine vwp_loop_k (fun m st => ∃ i s : Nat, i ≤ l.length ∧ m = l.length - i ∧ s = sumB (l.take i) ∧ s ≤ 140737488359328 ∧ st = ⟨[(0, .fs l.length (opsV l)), (3, .int .i64 s), (4, .int .i64 i)], []⟩) l.length ⟨0, 0, by simp, by simp, by simp [sumB], by simp, rfl⟩ ?_
  rintro m st ⟨i, s, hi, rfl, hs, hs2, rfl⟩
  intro K5 hK5
  refine vwp_seq_k fun K6 hK6 => ?_
  refine vwp_seq_k fun K7 hK7 => ?_
  refine vwp_live [0, 3, 4] ?_
  try simp only [argSlots, pruneS, inN, eq_self, reduceIte, ite_true, Nat.reduceAdd, Nat.reduceBEq, Bool.or_true, Bool.true_or, Bool.or_false, Bool.false_or, if_true, if_false, Bool.false_eq_true]
  refine vwp_region hT ?_
  simp [-List.reduceReplicate]
  repeat refine ⟨by first | assumption | omega | (rw [spl_length (by simp; omega)]; simp; done) | (intros; omega), ?_⟩
  refine hK7 _ ?_
  try clear hK7 K7
  refine vwp_cond (by simp; rfl) (fun h1 => ?_) (fun h1 => ?_)
  · try (exfalso; simp at h1; done)
    all_goals
      try simp at h1
      refine vwp_skip ?_
      try simp only [thenQ, inBlk]
      refine hK6 _ ?_
      try clear hK6 K6
      refine vwp_seq_k fun K8 hK8 => ?_
      refine vwp_block ?_
      obtain ⟨x, hx⟩ : ∃ x, l[i]? = some x := ⟨_, List.getElem?_eq_getElem (by omega)⟩
      have hxb := hb x (List.mem_of_getElem? hx)
      have hdr := opsV_drop hx
      refine vwp_live [0, 3, 4] ?_
      try simp only [argSlots, pruneS, inN, eq_self, reduceIte, ite_true, Nat.reduceAdd, Nat.reduceBEq, Bool.or_true, Bool.true_or, Bool.or_false, Bool.false_or, if_true, if_false, Bool.false_eq_true]
      refine vwp_region hT ?_
      simp [-List.reduceReplicate, hdr, opsV_length]
      repeat refine ⟨by first | assumption | omega | (rw [spl_length (by simp; omega)]; simp; done) | (intros; omega), ?_⟩
      refine hK8 _ ?_
      try clear hK8 K8
      refine vwp_live [0, 3, 4] ?_
      try simp only [argSlots, pruneS, inN, eq_self, reduceIte, ite_true, Nat.reduceAdd, Nat.reduceBEq, Bool.or_true, Bool.true_or, Bool.or_false, Bool.false_or, if_true, if_false, Bool.false_eq_true]
      refine vwp_region hT ?_
      simp [-List.reduceReplicate]
      repeat refine ⟨by first | assumption | omega | (rw [spl_length (by simp; omega)]; simp; done) | (intros; omega), ?_⟩
      refine hK5 _ ?_
      refine ⟨_, Gh.to [0, 3, 4] [] [(0, .fs l.length (opsV l)), (3, .int .i64 ((s + x.b.length : Nat) : Int)), (4, .int .i64 ((i + 1 : Nat) : Int))] [] (by simp) (by simp) rfl (by simp) (by simp; exact ⟨w64 (by omega) (by omega), w64 (by omega) (by omega)⟩), l.length - (i + 1), by omega, i + 1, s + x.b.length, by omega, rfl, by rw [sumB_take hx, hs], by omega, rfl⟩
  · try (exfalso; simp at h1; done)
    all_goals
      try simp at h1
      refine vwp_exit ?_
      simp only [inBlk, thenQ, if_true]
      refine hK3 _ ?_
      try clear hK3 K3
      refine vwp_seq_k fun K9 hK9 => ?_
      refine vwp_live [0, 3] ?_
      try simp only [argSlots, pruneS, inN, eq_self, reduceIte, ite_true, Nat.reduceAdd, Nat.reduceBEq, Bool.or_true, Bool.true_or, Bool.or_false, Bool.false_or, if_true, if_false, Bool.false_eq_true]
      refine vwp_region hT ?_
      simp [-List.reduceReplicate]
      repeat refine ⟨by first | assumption | omega | (rw [spl_length (by simp; omega)]; simp; done) | (intros; omega), ?_⟩
      refine hK9 _ ?_
      try clear hK9 K9
      refine vwp_ret ?_
      try simp only [thenQ, inBlk]
      refine hR _ _ ?_
      refine ⟨_, Gh.refl _ _, ?_⟩
      simp [retQ, Try.f11, smallOps]
      by_cases hs3 : s ≤ 4000
      · have e : i = l.length := by omega
        rw [e, List.take_length] at hs
        omega
      · omega
end Go.Proofs.Ytibhpkolbffdaaa
