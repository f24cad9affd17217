/- The calls whose answers the document fixes; acts, one and many. -/
import Derived.Test.YtibhpkolbffdaaaSess2
namespace Go.Proofs.Ytibhpkolbffdaaa
open Go Go.VX Go.RowKit
set_option linter.unusedVariables false
set_option linter.unusedSimpArgs false
set_option maxHeartbeats 20000000
set_option maxRecDepth 100000


abbrev sAnn : ByteArray := ⟨#[97, 110, 110]⟩
abbrev sS : ByteArray := ⟨#[115]⟩
abbrev sX : ByteArray := ⟨#[120]⟩
def aw1 : PT := ⟨10, 1, [⟨sAnn, sS, 3⟩], [0], 1, [], [], 0⟩
def aw2 : PT := ⟨10, 1, [⟨sAnn, sS, 3⟩], [0], 1, [⟨77, 3, 15⟩], [0], 1⟩
def aw3 : PT := ⟨10, 1, [⟨sAnn, sS, 3⟩], [0], 1, [], [], 1⟩
theorem aw_a : (PT.new 10 1).add sAnn sS 3 = (0, aw1) := by kernel_rfl
theorem aw_b : aw1.add sAnn sX 4 = (6, aw1) := by kernel_rfl
theorem aw_c : aw1.login sAnn sS 77 5 = ((77, 0), aw2) := by kernel_rfl
theorem aw_d : aw2.login sAnn sX 78 5 = ((0, 11), aw2) := by kernel_rfl
theorem aw_g : aw2.login sAnn sS 78 5 = ((0, 4), aw2) := by kernel_rfl
theorem aw_h : aw2.who 77 14 = (3, 0) := by kernel_rfl
theorem aw_i : aw2.who 77 15 = (0, 11) := by kernel_rfl
theorem aw_m : aw2.many 3 14 = 1 := by kernel_rfl
theorem aw_j : aw2.logout 77 14 = (0, aw3) := by kernel_rfl
theorem aw_k : aw3.who 77 14 = (0, 11) := by kernel_rfl
theorem awake18_spec : VC P 27 [] [] (fun r ob' => r = .bool true ∧ ob' = []) := by
  refine VC_of_vwp_k ent_27 Try.func27 rfl (by simp [Try.ntmps27]) fun R hR => ?_
  refine vwp_seq_k fun K1 hK1 => ?_
  refine vwp_live [] ?_
  try simp only [argSlots, pruneS, inN, eq_self, reduceIte, ite_true, Nat.reduceAdd, Nat.reduceBEq, Bool.or_true, Bool.true_or, Bool.or_false, Bool.false_or, if_true, if_false, Bool.false_eq_true]
  refine vwp_region hT ?_
  simp [-List.reduceReplicate, PT.obs, Try.ntmps27]
  repeat refine ⟨by first | assumption | omega | (rw [spl_length (by simp; omega)]; simp; done) | (intros; omega), ?_⟩
  refine hK1 _ ?_
  try clear hK1 K1
  refine vwp_seq_k fun K2 hK2 => ?_
  refine vwp_live [] ?_
  try simp only [argSlots, pruneS, inN, eq_self, reduceIte, ite_true, Nat.reduceAdd, Nat.reduceBEq, Bool.or_true, Bool.true_or, Bool.or_false, Bool.false_or, if_true, if_false, Bool.false_eq_true]
  refine vwp_region hT ?_
  simp [-List.reduceReplicate, PT.obs]
  refine vcall_by0 [] (snew_spec 10 1) (by simp) (by simp [PT.obs]) (by simp) (by simp [PT.obs]) ?_
  rintro r ob' ⟨hq, -⟩
  obtain ⟨rfl, rfl⟩ := hq (by unfold newOK; omega)
  simp [-List.reduceReplicate, PT.obs]
  repeat refine ⟨by first | assumption | omega | (rw [spl_length (by simp; omega)]; simp; done) | (intros; omega), ?_⟩
  refine hK2 _ ?_
  try clear hK2 K2
  refine vwp_seq_k fun K3 hK3 => ?_
  refine vwp_live [1, 2] ?_
  try simp only [argSlots, pruneS, inN, eq_self, reduceIte, ite_true, Nat.reduceAdd, Nat.reduceBEq, Bool.or_true, Bool.true_or, Bool.or_false, Bool.false_or, if_true, if_false, Bool.false_eq_true]
  refine vwp_region hT ?_
  simp [-List.reduceReplicate, PT.obs]
  refine vcall_by0 [] (snew_spec 0 1) (by simp) (by simp [PT.obs]) (by simp) (by simp [PT.obs]) ?_
  rintro r ob' ⟨-, hq⟩
  obtain ⟨rfl, rfl⟩ := hq (by unfold newOK; omega)
  simp [-List.reduceReplicate, PT.obs]
  repeat refine ⟨by first | assumption | omega | (rw [spl_length (by simp; omega)]; simp; done) | (intros; omega), ?_⟩
  refine hK3 _ ?_
  try clear hK3 K3
  refine vwp_seq_k fun K4 hK4 => ?_
  refine vwp_seq_k fun K5 hK5 => ?_
  refine vwp_live [1, 2, 4] ?_
  try simp only [argSlots, pruneS, inN, eq_self, reduceIte, ite_true, Nat.reduceAdd, Nat.reduceBEq, Bool.or_true, Bool.true_or, Bool.or_false, Bool.false_or, if_true, if_false, Bool.false_eq_true]
  refine vwp_region hT ?_
  simp [-List.reduceReplicate, PT.obs]
  repeat refine ⟨by first | assumption | omega | (rw [spl_length (by simp; omega)]; simp; done) | (intros; omega), ?_⟩
  refine hK5 _ ?_
  try clear hK5 K5
  refine vwp_cond (by first | rfl | (simp; rfl)) (fun h1 => ?_) (fun h1 => ?_)
  · try (exfalso; simp at h1; done)
    all_goals
      try simp at h1
      refine vwp_seq_k fun K6 hK6 => ?_
      refine vwp_live [] ?_
      try simp only [argSlots, pruneS, inN, eq_self, reduceIte, ite_true, Nat.reduceAdd, Nat.reduceBEq, Bool.or_true, Bool.true_or, Bool.or_false, Bool.false_or, if_true, if_false, Bool.false_eq_true]
      refine vwp_region hT ?_
      simp [-List.reduceReplicate, PT.obs]
      repeat refine ⟨by first | assumption | omega | (rw [spl_length (by simp; omega)]; simp; done) | (intros; omega), ?_⟩
      refine hK6 _ ?_
      try clear hK6 K6
      refine vwp_ret ?_
      try simp only [thenQ, inBlk]
      refine hR _ _ ?_
      refine ret_only [0] [] [] (by simp) (by simp) rfl (by simp) (r := .bool true) (by simp [Try.f27]) ⟨rfl, rfl⟩
  · try (exfalso; simp at h1; done)
    all_goals
      try simp at h1
      refine vwp_skip ?_
      try simp only [thenQ, inBlk]
      refine hK4 _ ?_
      try clear hK4 K4
      refine vwp_seq_k fun K7 hK7 => ?_
      refine vwp_live [1, 2, 4] ?_
      try simp only [argSlots, pruneS, inN, eq_self, reduceIte, ite_true, Nat.reduceAdd, Nat.reduceBEq, Bool.or_true, Bool.true_or, Bool.or_false, Bool.false_or, if_true, if_false, Bool.false_eq_true]
      refine vwp_region hT ?_
      simp [-List.reduceReplicate, PT.obs]
      refine vcall_by0 [0, 1, 2] (add_spec (PT.new 10 1) sAnn sS 3) (by simp) (by simp [PT.obs]) (by simp) (by simp [PT.obs]) ?_
      rintro r ob' ⟨rfl, rfl⟩
      rw [aw_a]
      simp [-List.reduceReplicate, PT.obs]
      repeat refine ⟨by first | assumption | omega | (rw [spl_length (by simp; omega)]; simp; done) | (intros; omega), ?_⟩
      refine hK7 _ ?_
      try clear hK7 K7
      refine vwp_seq_k fun K8 hK8 => ?_
      refine vwp_live [1, 2, 4, 5] ?_
      try simp only [argSlots, pruneS, inN, eq_self, reduceIte, ite_true, Nat.reduceAdd, Nat.reduceBEq, Bool.or_true, Bool.true_or, Bool.or_false, Bool.false_or, if_true, if_false, Bool.false_eq_true]
      refine vwp_region hT ?_
      simp [-List.reduceReplicate, PT.obs]
      refine vcall_by0 [0, 1, 2] (add_spec aw1 sAnn sX 4) (by simp) (by simp [PT.obs]) (by simp) (by simp [PT.obs]) ?_
      rintro r ob' ⟨rfl, rfl⟩
      rw [aw_b]
      simp [-List.reduceReplicate, PT.obs]
      repeat refine ⟨by first | assumption | omega | (rw [spl_length (by simp; omega)]; simp; done) | (intros; omega), ?_⟩
      refine hK8 _ ?_
      try clear hK8 K8
      refine vwp_seq_k fun K9 hK9 => ?_
      refine vwp_live [1, 2, 4, 5, 6] ?_
      try simp only [argSlots, pruneS, inN, eq_self, reduceIte, ite_true, Nat.reduceAdd, Nat.reduceBEq, Bool.or_true, Bool.true_or, Bool.or_false, Bool.false_or, if_true, if_false, Bool.false_eq_true]
      refine vwp_region hT ?_
      simp [-List.reduceReplicate, PT.obs]
      refine vcall_by0 [0, 1, 2] (login_spec aw1 (by decide) (by decide) (by decide) sAnn sS 77 5) (by simp) (by simp [PT.obs]) (by simp) (by simp [PT.obs]) ?_
      rintro r ob' ⟨rfl, rfl⟩
      rw [aw_c]
      simp [-List.reduceReplicate, PT.obs]
      repeat refine ⟨by first | assumption | omega | (rw [spl_length (by simp; omega)]; simp; done) | (intros; omega), ?_⟩
      refine hK9 _ ?_
      try clear hK9 K9
      refine vwp_seq_k fun K10 hK10 => ?_
      refine vwp_live [1, 2, 4, 5, 6, 7, 8] ?_
      try simp only [argSlots, pruneS, inN, eq_self, reduceIte, ite_true, Nat.reduceAdd, Nat.reduceBEq, Bool.or_true, Bool.true_or, Bool.or_false, Bool.false_or, if_true, if_false, Bool.false_eq_true]
      refine vwp_region hT ?_
      simp [-List.reduceReplicate, PT.obs]
      refine vcall_by0 [0, 1, 2] (login_spec aw2 (by decide) (by decide) (by decide) sAnn sX 78 5) (by simp) (by simp [PT.obs]) (by simp) (by simp [PT.obs]) ?_
      rintro r ob' ⟨rfl, rfl⟩
      rw [aw_d]
      simp [-List.reduceReplicate, PT.obs]
      repeat refine ⟨by first | assumption | omega | (rw [spl_length (by simp; omega)]; simp; done) | (intros; omega), ?_⟩
      refine hK10 _ ?_
      try clear hK10 K10
      refine vwp_seq_k fun K11 hK11 => ?_
      refine vwp_live [1, 2, 4, 5, 6, 7, 8, 10] ?_
      try simp only [argSlots, pruneS, inN, eq_self, reduceIte, ite_true, Nat.reduceAdd, Nat.reduceBEq, Bool.or_true, Bool.true_or, Bool.or_false, Bool.false_or, if_true, if_false, Bool.false_eq_true]
      refine vwp_region hT ?_
      simp [-List.reduceReplicate, PT.obs]
      refine vcall_by0 [0, 1, 2] (login_spec aw2 (by decide) (by decide) (by decide) sAnn sS 78 5) (by simp) (by simp [PT.obs]) (by simp) (by simp [PT.obs]) ?_
      rintro r ob' ⟨rfl, rfl⟩
      rw [aw_g]
      simp [-List.reduceReplicate, PT.obs]
      repeat refine ⟨by first | assumption | omega | (rw [spl_length (by simp; omega)]; simp; done) | (intros; omega), ?_⟩
      refine hK11 _ ?_
      try clear hK11 K11
      refine vwp_seq_k fun K12 hK12 => ?_
      refine vwp_live [1, 2, 4, 5, 6, 7, 8, 10, 12] ?_
      try simp only [argSlots, pruneS, inN, eq_self, reduceIte, ite_true, Nat.reduceAdd, Nat.reduceBEq, Bool.or_true, Bool.true_or, Bool.or_false, Bool.false_or, if_true, if_false, Bool.false_eq_true]
      refine vwp_region hT ?_
      simp [-List.reduceReplicate, PT.obs]
      refine vcall_by0 [0, 1, 2] (who_spec aw2 77 14) (by simp) (by simp [PT.obs]) (by simp) (by simp [PT.obs]) ?_
      rintro r ob' ⟨rfl, rfl⟩
      rw [aw_h]
      simp [-List.reduceReplicate, PT.obs]
      repeat refine ⟨by first | assumption | omega | (rw [spl_length (by simp; omega)]; simp; done) | (intros; omega), ?_⟩
      refine hK12 _ ?_
      try clear hK12 K12
      refine vwp_seq_k fun K13 hK13 => ?_
      refine vwp_live [1, 2, 4, 5, 6, 7, 8, 10, 12, 13, 14] ?_
      try simp only [argSlots, pruneS, inN, eq_self, reduceIte, ite_true, Nat.reduceAdd, Nat.reduceBEq, Bool.or_true, Bool.true_or, Bool.or_false, Bool.false_or, if_true, if_false, Bool.false_eq_true]
      refine vwp_region hT ?_
      simp [-List.reduceReplicate, PT.obs]
      refine vcall_by0 [0, 1, 2] (who_spec aw2 77 15) (by simp) (by simp [PT.obs]) (by simp) (by simp [PT.obs]) ?_
      rintro r ob' ⟨rfl, rfl⟩
      rw [aw_i]
      simp [-List.reduceReplicate, PT.obs]
      repeat refine ⟨by first | assumption | omega | (rw [spl_length (by simp; omega)]; simp; done) | (intros; omega), ?_⟩
      refine hK13 _ ?_
      try clear hK13 K13
      refine vwp_seq_k fun K14 hK14 => ?_
      refine vwp_live [1, 2, 4, 5, 6, 7, 8, 10, 12, 13, 14, 16] ?_
      try simp only [argSlots, pruneS, inN, eq_self, reduceIte, ite_true, Nat.reduceAdd, Nat.reduceBEq, Bool.or_true, Bool.true_or, Bool.or_false, Bool.false_or, if_true, if_false, Bool.false_eq_true]
      refine vwp_region hT ?_
      simp [-List.reduceReplicate, PT.obs]
      refine vcall_by0 [0, 1, 2] (many_spec aw2 (by decide) 3 14) (by simp) (by simp [PT.obs]) (by simp) (by simp [PT.obs]) ?_
      rintro r ob' ⟨rfl, rfl⟩
      rw [aw_m]
      simp [-List.reduceReplicate, PT.obs]
      repeat refine ⟨by first | assumption | omega | (rw [spl_length (by simp; omega)]; simp; done) | (intros; omega), ?_⟩
      refine hK14 _ ?_
      try clear hK14 K14
      refine vwp_seq_k fun K15 hK15 => ?_
      refine vwp_live [1, 2, 4, 5, 6, 7, 8, 10, 12, 13, 14, 16, 17] ?_
      try simp only [argSlots, pruneS, inN, eq_self, reduceIte, ite_true, Nat.reduceAdd, Nat.reduceBEq, Bool.or_true, Bool.true_or, Bool.or_false, Bool.false_or, if_true, if_false, Bool.false_eq_true]
      refine vwp_region hT ?_
      simp [-List.reduceReplicate, PT.obs]
      refine vcall_by0 [0, 1, 2] (logout_spec aw2 77 14) (by simp) (by simp [PT.obs]) (by simp) (by simp [PT.obs]) ?_
      rintro r ob' ⟨rfl, rfl⟩
      rw [aw_j]
      simp [-List.reduceReplicate, PT.obs]
      repeat refine ⟨by first | assumption | omega | (rw [spl_length (by simp; omega)]; simp; done) | (intros; omega), ?_⟩
      refine hK15 _ ?_
      try clear hK15 K15
      refine vwp_seq_k fun K16 hK16 => ?_
      refine vwp_live [1, 2, 4, 5, 6, 7, 8, 10, 12, 13, 14, 16, 17, 18] ?_
      try simp only [argSlots, pruneS, inN, eq_self, reduceIte, ite_true, Nat.reduceAdd, Nat.reduceBEq, Bool.or_true, Bool.true_or, Bool.or_false, Bool.false_or, if_true, if_false, Bool.false_eq_true]
      refine vwp_region hT ?_
      simp [-List.reduceReplicate, PT.obs]
      refine vcall_by0 [0, 1, 2] (who_spec aw3 77 14) (by simp) (by simp [PT.obs]) (by simp) (by simp [PT.obs]) ?_
      rintro r ob' ⟨rfl, rfl⟩
      rw [aw_k]
      simp [-List.reduceReplicate, PT.obs]
      repeat refine ⟨by first | assumption | omega | (rw [spl_length (by simp; omega)]; simp; done) | (intros; omega), ?_⟩
      refine hK16 _ ?_
      try clear hK16 K16
      refine vwp_seq_k fun K17 hK17 => ?_
      refine vwp_live [2, 4, 5, 6, 7, 8, 10, 12, 13, 14, 16, 17, 18, 20] ?_
      try simp only [argSlots, pruneS, inN, eq_self, reduceIte, ite_true, Nat.reduceAdd, Nat.reduceBEq, Bool.or_true, Bool.true_or, Bool.or_false, Bool.false_or, if_true, if_false, Bool.false_eq_true]
      refine vwp_region hT ?_
      simp [-List.reduceReplicate, PT.obs]
      repeat refine ⟨by first | assumption | omega | (rw [spl_length (by simp; omega)]; simp; done) | (intros; omega), ?_⟩
      refine hK17 _ ?_
      try clear hK17 K17
      refine vwp_ret ?_
      try simp only [thenQ, inBlk]
      refine hR _ _ ?_
      refine ret_only [0] [] [] (by simp) (by simp) rfl (by simp) (r := .bool true) (by simp [Try.f27]) ⟨rfl, rfl⟩

structure Act where
  do_ : Int
  name : ByteArray
  secret : ByteArray
  who : Int
  draw : Int
  now : Int
structure Rep where
  tok : Int
  who : Int
  e : Int

abbrev Act.cells (x : Act) : List V := [.int .i64 x.do_, .str x.name, .str x.secret, .int .i64 x.who, .int .i64 x.draw, .int .i64 x.now]
instance : Row Act := ⟨Act.cells, 6, fun _ => rfl, fun _ _ => rfl⟩
@[simp] theorem cellsAct (x : Act) : Row.cells x = Act.cells x := rfl
theorem lenAct (l : List Act) : (rowsV l).length = l.length * 6 := rowsV_length l
theorem rowAct {l : List Act} {i : Nat} {x : Act} (h : l[i]? = some x) : List.take 6 (List.drop (i * 6) (rowsV l)) = Act.cells x := rowsV_row h
theorem dropAct {l : List Act} {i : Nat} {x : Act} (h : l[i]? = some x) : List.drop (i * 6) (rowsV l) = Act.cells x ++ rowsV (l.drop (i + 1)) := rowsV_drop h
theorem snocAct (l : List Act) (x : Act) : rowsV l ++ Act.cells x = rowsV (l ++ [x]) := (rowsV_snoc l x).symm
theorem putAct {l : List Act} {i : Nat} (h : i < l.length) (y : Act) : List.take (i * 6) (rowsV l) ++ (Act.cells y ++ List.drop (i * 6 + 6) (rowsV l)) = rowsV (l.set i y) := rowsV_put h y
theorem getAct {l : List Act} {i : Nat} {x : Act} (h : l[i]? = some x) : (rowsV l)[i * 6]? = some (.int .i64 x.do_) ∧ (rowsV l)[i * 6 + 1]? = some (.str x.name) ∧ (rowsV l)[i * 6 + 2]? = some (.str x.secret) ∧ (rowsV l)[i * 6 + 3]? = some (.int .i64 x.who) ∧ (rowsV l)[i * 6 + 4]? = some (.int .i64 x.draw) ∧ (rowsV l)[i * 6 + 5]? = some (.int .i64 x.now) :=
  ⟨rowsV_get (j := 0) h (by show 0 < 6; omega), rowsV_get (j := 1) h (by show 1 < 6; omega), rowsV_get (j := 2) h (by show 2 < 6; omega), rowsV_get (j := 3) h (by show 3 < 6; omega), rowsV_get (j := 4) h (by show 4 < 6; omega), rowsV_get (j := 5) h (by show 5 < 6; omega)⟩

abbrev Rep.cells (x : Rep) : List V := [.int .i64 x.tok, .int .i64 x.who, .int .i64 x.e]
instance : Row Rep := ⟨Rep.cells, 3, fun _ => rfl, fun _ _ => rfl⟩
@[simp] theorem cellsRep (x : Rep) : Row.cells x = Rep.cells x := rfl
theorem lenRep (l : List Rep) : (rowsV l).length = l.length * 3 := rowsV_length l
theorem rowRep {l : List Rep} {i : Nat} {x : Rep} (h : l[i]? = some x) : List.take 3 (List.drop (i * 3) (rowsV l)) = Rep.cells x := rowsV_row h
theorem dropRep {l : List Rep} {i : Nat} {x : Rep} (h : l[i]? = some x) : List.drop (i * 3) (rowsV l) = Rep.cells x ++ rowsV (l.drop (i + 1)) := rowsV_drop h
theorem snocRep (l : List Rep) (x : Rep) : rowsV l ++ Rep.cells x = rowsV (l ++ [x]) := (rowsV_snoc l x).symm
theorem putRep {l : List Rep} {i : Nat} (h : i < l.length) (y : Rep) : List.take (i * 3) (rowsV l) ++ (Rep.cells y ++ List.drop (i * 3 + 3) (rowsV l)) = rowsV (l.set i y) := rowsV_put h y
theorem getRep {l : List Rep} {i : Nat} {x : Rep} (h : l[i]? = some x) : (rowsV l)[i * 3]? = some (.int .i64 x.tok) ∧ (rowsV l)[i * 3 + 1]? = some (.int .i64 x.who) ∧ (rowsV l)[i * 3 + 2]? = some (.int .i64 x.e) :=
  ⟨rowsV_get (j := 0) h (by show 0 < 3; omega), rowsV_get (j := 1) h (by show 1 < 3; omega), rowsV_get (j := 2) h (by show 2 < 3; omega)⟩

def sumN (l : List Act) : Nat := (l.map fun x => x.name.size + x.secret.size).sum
theorem sumN_take {l : List Act} {i : Nat} {x : Act} (h : l[i]? = some x) : sumN (l.take (i + 1)) = sumN (l.take i) + (x.name.size + x.secret.size) := by
  unfold sumN
  rw [take_snoc h]
  simp
def PT.act (t : PT) (x : Act) : Rep × PT :=
  if x.do_ = 0 then (⟨0, 0, (t.add x.name x.secret x.who).1⟩, (t.add x.name x.secret x.who).2)
  else if x.do_ = 1 then (⟨(t.login x.name x.secret x.draw x.now).1.1, 0, (t.login x.name x.secret x.draw x.now).1.2⟩, (t.login x.name x.secret x.draw x.now).2)
  else if x.do_ = 2 then (⟨0, 0, (t.logout x.draw x.now).1⟩, (t.logout x.draw x.now).2)
  else (⟨0, (t.who x.draw x.now).1, (t.who x.draw x.now).2⟩, t)
structure PT.ok (t : PT) : Prop where
  l1 : 1 ≤ t.life
  l2 : t.life ≤ 1099511627776
  s : t.ss.length ≤ 100000
theorem large18_spec (l : List Act) (hl : l.length ≤ 140737488355328) (hb : ∀ x ∈ l, x.name.size ≤ 140737488355328 ∧ x.secret.size ≤ 140737488355328) :
    VC P 28 [.fs l.length (rowsV l)] [] (fun r ob' => (∃ v, r = .bool v ∧ (v = false → l.length ≤ 60)) ∧ ob' = []) := by
  refine VC_of_vwp_k ent_28 Try.func28 rfl (by simp [Try.ntmps28]) fun R hR => ?_
  refine vwp_seq_k fun K1 hK1 => ?_
  refine vwp_live [0] ?_
  try simp only [argSlots, pruneS, inN, eq_self, reduceIte, ite_true, Nat.reduceAdd, Nat.reduceBEq, Bool.or_true, Bool.true_or, Bool.or_false, Bool.false_or, if_true, if_false, Bool.false_eq_true]
  refine vwp_region hT ?_
  simp [-List.reduceReplicate, lenAct, Try.ntmps28]
  repeat refine ⟨by first | assumption | omega | (rw [spl_length (by simp; omega)]; simp; done) | (intros; omega), ?_⟩
  refine hK1 _ ?_
  try clear hK1 K1
  refine vwp_seq_k fun K2 hK2 => ?_
  refine vwp_live [0] ?_
  try simp only [argSlots, pruneS, inN, eq_self, reduceIte, ite_true, Nat.reduceAdd, Nat.reduceBEq, Bool.or_true, Bool.true_or, Bool.or_false, Bool.false_or, if_true, if_false, Bool.false_eq_true]
  refine vwp_region hT ?_
  simp [-List.reduceReplicate, lenAct]
  repeat refine ⟨by first | assumption | omega | (rw [spl_length (by simp; omega)]; simp; done) | (intros; omega), ?_⟩
  refine hK2 _ ?_
  try clear hK2 K2
  refine vwp_seq_k fun K3 hK3 => ?_
  refine vwp_seq_k fun K4 hK4 => ?_
  refine vwp_live [0, 3] ?_
  try simp only [argSlots, pruneS, inN, eq_self, reduceIte, ite_true, Nat.reduceAdd, Nat.reduceBEq, Bool.or_true, Bool.true_or, Bool.or_false, Bool.false_or, if_true, if_false, Bool.false_eq_true]
  refine vwp_region hT ?_
  simp [-List.reduceReplicate, lenAct]
  repeat refine ⟨by first | assumption | omega | (rw [spl_length (by simp; omega)]; simp; done) | (intros; omega), ?_⟩
  refine hK4 _ ?_
  try clear hK4 K4
  refine vwp_block ?_
  refine vwp_gh (Gh.to [0, 3, 4] [] [(0, .fs l.length (rowsV l)), (3, .int .i64 0), (4, .int .i64 0)] [] (by simp) (by simp) rfl (by simp) (by simp)) ?_
  refine vwp_loop_k (fun m st => ∃ i s : Nat, i ≤ l.length ∧ m = l.length - i ∧ s = sumN (l.take i) ∧ s ≤ 281474976720000 ∧ st = ⟨[(0, .fs l.length (rowsV l)), (3, .int .i64 s), (4, .int .i64 i)], []⟩) l.length ⟨0, 0, by simp, by simp, by simp [sumN], by simp, rfl⟩ ?_
  rintro m st ⟨i, s, hi, rfl, hs, hs2, rfl⟩
  intro K5 hK5
  refine vwp_seq_k fun K6 hK6 => ?_
  refine vwp_seq_k fun K7 hK7 => ?_
  refine vwp_live [0, 3, 4] ?_
  try simp only [argSlots, pruneS, inN, eq_self, reduceIte, ite_true, Nat.reduceAdd, Nat.reduceBEq, Bool.or_true, Bool.true_or, Bool.or_false, Bool.false_or, if_true, if_false, Bool.false_eq_true]
  refine vwp_region hT ?_
  simp [-List.reduceReplicate, lenAct]
  repeat refine ⟨by first | assumption | omega | (rw [spl_length (by simp; omega)]; simp; done) | (intros; omega), ?_⟩
  refine hK7 _ ?_
  try clear hK7 K7
  refine vwp_cond (by first | rfl | (simp; rfl)) (fun h1 => ?_) (fun h1 => ?_)
  · try (exfalso; simp at h1; done)
    all_goals
      try simp at h1
      refine vwp_skip ?_
      try simp only [thenQ, inBlk]
      refine hK6 _ ?_
      try clear hK6 K6
      refine vwp_seq_k fun K8 hK8 => ?_
      refine vwp_block ?_
      obtain ⟨x, hx⟩ : ∃ x, l[i]? = some x := ⟨_, List.getElem?_eq_getElem (by omega)⟩
      have hxb := hb x (List.mem_of_getElem? hx)
      obtain ⟨g0, g1, g2, g3, g4, g5⟩ := getAct hx
      refine vwp_live [0, 3, 4] ?_
      try simp only [argSlots, pruneS, inN, eq_self, reduceIte, ite_true, Nat.reduceAdd, Nat.reduceBEq, Bool.or_true, Bool.true_or, Bool.or_false, Bool.false_or, if_true, if_false, Bool.false_eq_true]
      refine vwp_still hT hm (by kernel_rfl) ?_
      simp [-List.reduceReplicate, lenAct, g1, g2]
      repeat refine ⟨by first | assumption | omega | (rw [spl_length (by simp; omega)]; simp; done) | (intros; omega), ?_⟩
      refine hK8 _ ?_
      try clear hK8 K8
      refine vwp_live [0, 3, 4] ?_
      try simp only [argSlots, pruneS, inN, eq_self, reduceIte, ite_true, Nat.reduceAdd, Nat.reduceBEq, Bool.or_true, Bool.true_or, Bool.or_false, Bool.false_or, if_true, if_false, Bool.false_eq_true]
      refine vwp_region hT ?_
      simp [-List.reduceReplicate, lenAct]
      repeat refine ⟨by first | assumption | omega | (rw [spl_length (by simp; omega)]; simp; done) | (intros; omega), ?_⟩
      refine hK5 _ ?_
      refine ⟨_, Gh.to [0, 3, 4] [] [(0, .fs l.length (rowsV l)), (3, .int .i64 ((s + (x.name.size + x.secret.size) : Nat) : Int)), (4, .int .i64 ((i + 1 : Nat) : Int))] [] (by simp) (by simp) rfl (by simp) (by simp; refine ⟨?_, w64 (by omega) (by omega)⟩; rw [w64 (x := (x.name.size : Int) + x.secret.size) (by omega) (by omega)]; exact w64 (by omega) (by omega)), l.length - (i + 1), by omega, i + 1, s + (x.name.size + x.secret.size), by omega, rfl, by rw [sumN_take hx, hs], by omega, rfl⟩
  · try (exfalso; simp at h1; done)
    all_goals
      try simp at h1
      refine vwp_exit ?_
      simp only [inBlk, thenQ, if_true]
      refine hK3 _ ?_
      try clear hK3 K3
      refine vwp_seq_k fun K9 hK9 => ?_
      refine vwp_live [0, 3] ?_
      try simp only [argSlots, pruneS, inN, eq_self, reduceIte, ite_true, Nat.reduceAdd, Nat.reduceBEq, Bool.or_true, Bool.true_or, Bool.or_false, Bool.false_or, if_true, if_false, Bool.false_eq_true]
      refine vwp_region hT ?_
      simp [-List.reduceReplicate, lenAct]
      repeat refine ⟨by first | assumption | omega | (rw [spl_length (by simp; omega)]; simp; done) | (intros; omega), ?_⟩
      refine hK9 _ ?_
      try clear hK9 K9
      refine vwp_ret ?_
      try simp only [thenQ, inBlk]
      refine hR _ _ ?_
      refine ret_only [2] [] [] (by simp) (by simp) rfl (by simp) (r := .bool (decide (60 < (l.length : Int)) || decide (5000 < (s : Int)))) (by simp [Try.f28]) ?_
      refine ⟨⟨_, rfl, fun h => ?_⟩, rfl⟩
      simp at h
      omega

theorem PT.act0 (t : PT) (x : Act) (h : x.do_ = 0) : t.act x = (⟨0, 0, (t.add x.name x.secret x.who).1⟩, (t.add x.name x.secret x.who).2) := by unfold PT.act; rw [if_pos h]
theorem PT.act1 (t : PT) (x : Act) (h : x.do_ = 1) : t.act x = (⟨(t.login x.name x.secret x.draw x.now).1.1, 0, (t.login x.name x.secret x.draw x.now).1.2⟩, (t.login x.name x.secret x.draw x.now).2) := by unfold PT.act; rw [if_neg (by omega), if_pos h]
theorem PT.act2 (t : PT) (x : Act) (h : x.do_ = 2) : t.act x = (⟨0, 0, (t.logout x.draw x.now).1⟩, (t.logout x.draw x.now).2) := by unfold PT.act; rw [if_neg (by omega), if_neg (by omega), if_pos h]
theorem PT.act3 (t : PT) (x : Act) (h0 : ¬ x.do_ = 0) (h1 : ¬ x.do_ = 1) (h2 : ¬ x.do_ = 2) : t.act x = (⟨0, (t.who x.draw x.now).1, (t.who x.draw x.now).2⟩, t) := by unfold PT.act; rw [if_neg h0, if_neg h1, if_neg h2]
theorem do18_spec (t : PT) (hd : t.ok) (x : Act) :
    VC P 31 [.ptr 0 4 0, .agg x.cells] t.obs (fun r ob' => r = .agg (t.act x).1.cells ∧ ob' = (t.act x).2.obs) := by
  refine VC_of_vwp_c hT ent_31 Try.func31 rfl (by simp [Try.ntmps31]) fun R hR => ?_
  refine vwp_seq_k fun K1 hK1 => ?_
  refine vwp_live [0, 1] ?_
  try simp only [argSlots, pruneS, inN, eq_self, reduceIte, ite_true, Nat.reduceAdd, Nat.reduceBEq, Bool.or_true, Bool.true_or, Bool.or_false, Bool.false_or, if_true, if_false, Bool.false_eq_true]
  refine vwp_region hT ?_
  simp [-List.reduceReplicate, PT.obs, Try.ntmps31]
  repeat refine ⟨by first | assumption | omega | (rw [spl_length (by simp; omega)]; simp; done) | (intros; omega), ?_⟩
  refine hK1 _ ?_
  try clear hK1 K1
  refine vwp_seq_k fun K2 hK2 => ?_
  refine vwp_live [0, 3, 4] ?_
  try simp only [argSlots, pruneS, inN, eq_self, reduceIte, ite_true, Nat.reduceAdd, Nat.reduceBEq, Bool.or_true, Bool.true_or, Bool.or_false, Bool.false_or, if_true, if_false, Bool.false_eq_true]
  refine vwp_region hT ?_
  simp [-List.reduceReplicate, PT.obs]
  repeat refine ⟨by first | assumption | omega | (rw [spl_length (by simp; omega)]; simp; done) | (intros; omega), ?_⟩
  refine hK2 _ ?_
  try clear hK2 K2
  refine vwp_seq_k fun K3 hK3 => ?_
  refine vwp_seq_k fun K4 hK4 => ?_
  refine vwp_live [0, 3, 4, 5] ?_
  try simp only [argSlots, pruneS, inN, eq_self, reduceIte, ite_true, Nat.reduceAdd, Nat.reduceBEq, Bool.or_true, Bool.true_or, Bool.or_false, Bool.false_or, if_true, if_false, Bool.false_eq_true]
  refine vwp_region hT ?_
  simp [-List.reduceReplicate, PT.obs]
  repeat refine ⟨by first | assumption | omega | (rw [spl_length (by simp; omega)]; simp; done) | (intros; omega), ?_⟩
  refine hK4 _ ?_
  try clear hK4 K4
  refine vwp_block ?_
  refine vwp_seq_k fun K5 hK5 => ?_
  refine vwp_live [0, 3, 4, 5, 8] ?_
  try simp only [argSlots, pruneS, inN, eq_self, reduceIte, ite_true, Nat.reduceAdd, Nat.reduceBEq, Bool.or_true, Bool.true_or, Bool.or_false, Bool.false_or, if_true, if_false, Bool.false_eq_true]
  refine vwp_region hT ?_
  simp [-List.reduceReplicate, PT.obs]
  repeat refine ⟨by first | assumption | omega | (rw [spl_length (by simp; omega)]; simp; done) | (intros; omega), ?_⟩
  refine hK5 _ ?_
  try clear hK5 K5
  refine vwp_cond (by first | rfl | (simp; rfl)) (fun h1 => ?_) (fun h1 => ?_)
  · try (exfalso; simp at h1; done)
    all_goals
      try simp at h1
      refine vwp_live [0, 3, 4, 5] ?_
      try simp only [argSlots, pruneS, inN, eq_self, reduceIte, ite_true, Nat.reduceAdd, Nat.reduceBEq, Bool.or_true, Bool.true_or, Bool.or_false, Bool.false_or, if_true, if_false, Bool.false_eq_true]
      refine vwp_region hT ?_
      simp [-List.reduceReplicate, PT.obs]
      refine vcall_by0 [0, 1, 2] (add_spec t x.name x.secret x.who) (by simp) (by simp [PT.obs]) (by simp) (by simp [PT.obs]) ?_
      rintro r ob' ⟨rfl, rfl⟩
      simp [-List.reduceReplicate, PT.obs]
      repeat refine ⟨by first | assumption | omega | (rw [spl_length (by simp; omega)]; simp; done) | (intros; omega), ?_⟩
      refine hK3 _ ?_
      try clear hK3 K3
      refine vwp_seq_k fun K6 hK6 => ?_
      refine vwp_live [4, 5] ?_
      try simp only [argSlots, pruneS, inN, eq_self, reduceIte, ite_true, Nat.reduceAdd, Nat.reduceBEq, Bool.or_true, Bool.true_or, Bool.or_false, Bool.false_or, if_true, if_false, Bool.false_eq_true]
      refine vwp_region hT ?_
      simp [-List.reduceReplicate, PT.obs]
      repeat refine ⟨by first | assumption | omega | (rw [spl_length (by simp; omega)]; simp; done) | (intros; omega), ?_⟩
      refine hK6 _ ?_
      try clear hK6 K6
      refine vwp_ret ?_
      try simp only [thenQ, inBlk]
      refine hR _ _ ?_
      first | rw [t.act0 x h1] | rw [t.act1 x h2] | rw [t.act2 x h3] | rw [t.act3 x h1 h2 h3]
      refine retc_only [0, 1, 2] (_) (p := True) (xs := [.agg (Rep.cells _)]) (xs' := [.agg (Rep.cells _)]) ?_ trivial (by simp) ?_ rfl ?_ ?_ rfl (by simp) ⟨rfl, rfl⟩
      · simp [Try.f31]
      · simp [PT.obs]
      · simp
      · simp
  · try (exfalso; simp at h1; done)
    all_goals
      try simp at h1
      refine vwp_seq_k fun K7 hK7 => ?_
      refine vwp_live [0, 3, 4, 5, 8] ?_
      try simp only [argSlots, pruneS, inN, eq_self, reduceIte, ite_true, Nat.reduceAdd, Nat.reduceBEq, Bool.or_true, Bool.true_or, Bool.or_false, Bool.false_or, if_true, if_false, Bool.false_eq_true]
      refine vwp_region hT ?_
      simp [-List.reduceReplicate, PT.obs]
      repeat refine ⟨by first | assumption | omega | (rw [spl_length (by simp; omega)]; simp; done) | (intros; omega), ?_⟩
      refine hK7 _ ?_
      try clear hK7 K7
      refine vwp_cond (by first | rfl | (simp; rfl)) (fun h2 => ?_) (fun h2 => ?_)
      · try (exfalso; simp at h2; done)
        all_goals
          try simp at h2
          refine vwp_live [0, 3, 4, 5] ?_
          try simp only [argSlots, pruneS, inN, eq_self, reduceIte, ite_true, Nat.reduceAdd, Nat.reduceBEq, Bool.or_true, Bool.true_or, Bool.or_false, Bool.false_or, if_true, if_false, Bool.false_eq_true]
          refine vwp_region hT ?_
          simp [-List.reduceReplicate, PT.obs]
          refine vcall_by0 [0, 1, 2] (login_spec t (by have := hd.s; omega) hd.l1 hd.l2 x.name x.secret x.draw x.now) (by simp) (by simp [PT.obs]) (by simp) (by simp [PT.obs]) ?_
          rintro r ob' ⟨rfl, rfl⟩
          simp [-List.reduceReplicate, PT.obs]
          repeat refine ⟨by first | assumption | omega | (rw [spl_length (by simp; omega)]; simp; done) | (intros; omega), ?_⟩
          refine hK3 _ ?_
          try clear hK3 K3
          refine vwp_seq_k fun K8 hK8 => ?_
          refine vwp_live [4, 5] ?_
          try simp only [argSlots, pruneS, inN, eq_self, reduceIte, ite_true, Nat.reduceAdd, Nat.reduceBEq, Bool.or_true, Bool.true_or, Bool.or_false, Bool.false_or, if_true, if_false, Bool.false_eq_true]
          refine vwp_region hT ?_
          simp [-List.reduceReplicate, PT.obs]
          repeat refine ⟨by first | assumption | omega | (rw [spl_length (by simp; omega)]; simp; done) | (intros; omega), ?_⟩
          refine hK8 _ ?_
          try clear hK8 K8
          refine vwp_ret ?_
          try simp only [thenQ, inBlk]
          refine hR _ _ ?_
          first | rw [t.act0 x h1] | rw [t.act1 x h2] | rw [t.act2 x h3] | rw [t.act3 x h1 h2 h3]
          refine retc_only [0, 1, 2] (_) (p := True) (xs := [.agg (Rep.cells _)]) (xs' := [.agg (Rep.cells _)]) ?_ trivial (by simp) ?_ rfl ?_ ?_ rfl (by simp) ⟨rfl, rfl⟩
          · simp [Try.f31]
          · simp [PT.obs]
          · simp
          · simp
      · try (exfalso; simp at h2; done)
        all_goals
          try simp at h2
          refine vwp_seq_k fun K9 hK9 => ?_
          refine vwp_live [0, 3, 4, 5, 8] ?_
          try simp only [argSlots, pruneS, inN, eq_self, reduceIte, ite_true, Nat.reduceAdd, Nat.reduceBEq, Bool.or_true, Bool.true_or, Bool.or_false, Bool.false_or, if_true, if_false, Bool.false_eq_true]
          refine vwp_region hT ?_
          simp [-List.reduceReplicate, PT.obs]
          repeat refine ⟨by first | assumption | omega | (rw [spl_length (by simp; omega)]; simp; done) | (intros; omega), ?_⟩
          refine hK9 _ ?_
          try clear hK9 K9
          refine vwp_cond (by first | rfl | (simp; rfl)) (fun h3 => ?_) (fun h3 => ?_)
          · try (exfalso; simp at h3; done)
            all_goals
              try simp at h3
              refine vwp_live [0, 3, 4, 5] ?_
              try simp only [argSlots, pruneS, inN, eq_self, reduceIte, ite_true, Nat.reduceAdd, Nat.reduceBEq, Bool.or_true, Bool.true_or, Bool.or_false, Bool.false_or, if_true, if_false, Bool.false_eq_true]
              refine vwp_region hT ?_
              simp [-List.reduceReplicate, PT.obs]
              refine vcall_by0 [0, 1, 2] (logout_spec t x.draw x.now) (by simp) (by simp [PT.obs]) (by simp) (by simp [PT.obs]) ?_
              rintro r ob' ⟨rfl, rfl⟩
              simp [-List.reduceReplicate, PT.obs]
              repeat refine ⟨by first | assumption | omega | (rw [spl_length (by simp; omega)]; simp; done) | (intros; omega), ?_⟩
              refine hK3 _ ?_
              try clear hK3 K3
              refine vwp_seq_k fun K10 hK10 => ?_
              refine vwp_live [4, 5] ?_
              try simp only [argSlots, pruneS, inN, eq_self, reduceIte, ite_true, Nat.reduceAdd, Nat.reduceBEq, Bool.or_true, Bool.true_or, Bool.or_false, Bool.false_or, if_true, if_false, Bool.false_eq_true]
              refine vwp_region hT ?_
              simp [-List.reduceReplicate, PT.obs]
              repeat refine ⟨by first | assumption | omega | (rw [spl_length (by simp; omega)]; simp; done) | (intros; omega), ?_⟩
              refine hK10 _ ?_
              try clear hK10 K10
              refine vwp_ret ?_
              try simp only [thenQ, inBlk]
              refine hR _ _ ?_
              first | rw [t.act0 x h1] | rw [t.act1 x h2] | rw [t.act2 x h3] | rw [t.act3 x h1 h2 h3]
              refine retc_only [0, 1, 2] (_) (p := True) (xs := [.agg (Rep.cells _)]) (xs' := [.agg (Rep.cells _)]) ?_ trivial (by simp) ?_ rfl ?_ ?_ rfl (by simp) ⟨rfl, rfl⟩
              · simp [Try.f31]
              · simp [PT.obs]
              · simp
              · simp
          · try (exfalso; simp at h3; done)
            all_goals
              try simp at h3
              refine vwp_live [0, 3, 4, 5] ?_
              try simp only [argSlots, pruneS, inN, eq_self, reduceIte, ite_true, Nat.reduceAdd, Nat.reduceBEq, Bool.or_true, Bool.true_or, Bool.or_false, Bool.false_or, if_true, if_false, Bool.false_eq_true]
              refine vwp_region hT ?_
              simp [-List.reduceReplicate, PT.obs]
              refine vcall_by0 [0, 1, 2] (who_spec t x.draw x.now) (by simp) (by simp [PT.obs]) (by simp) (by simp [PT.obs]) ?_
              rintro r ob' ⟨rfl, rfl⟩
              simp [-List.reduceReplicate, PT.obs]
              repeat refine ⟨by first | assumption | omega | (rw [spl_length (by simp; omega)]; simp; done) | (intros; omega), ?_⟩
              refine hK3 _ ?_
              try clear hK3 K3
              refine vwp_seq_k fun K11 hK11 => ?_
              refine vwp_live [4, 5] ?_
              try simp only [argSlots, pruneS, inN, eq_self, reduceIte, ite_true, Nat.reduceAdd, Nat.reduceBEq, Bool.or_true, Bool.true_or, Bool.or_false, Bool.false_or, if_true, if_false, Bool.false_eq_true]
              refine vwp_region hT ?_
              simp [-List.reduceReplicate, PT.obs]
              repeat refine ⟨by first | assumption | omega | (rw [spl_length (by simp; omega)]; simp; done) | (intros; omega), ?_⟩
              refine hK11 _ ?_
              try clear hK11 K11
              refine vwp_ret ?_
              try simp only [thenQ, inBlk]
              refine hR _ _ ?_
              first | rw [t.act0 x h1] | rw [t.act1 x h2] | rw [t.act2 x h3] | rw [t.act3 x h1 h2 h3]
              refine retc_only [0, 1, 2] (_) (p := True) (xs := [.agg (Rep.cells _)]) (xs' := [.agg (Rep.cells _)]) ?_ trivial (by simp) ?_ rfl ?_ ?_ rfl (by simp) ⟨rfl, rfl⟩
              · simp [Try.f31]
              · simp [PT.obs]
              · simp
              · simp
end Go.Proofs.Ytibhpkolbffdaaa
