/- Sessions, in short. -/
import Derived.Test.YtibhpkolbffdaaaVXSeen
import Derived.Test.YtibhpkolbffdaaaDisk0
namespace Go.Proofs.Ytibhpkolbffdaaa
open Go Go.VX Go.RowKit
set_option linter.unusedVariables false
set_option linter.unusedSimpArgs false
set_option maxHeartbeats 20000000
set_option maxRecDepth 100000


structure U where
  name : ByteArray
  secret : ByteArray
  who : Int
structure S1 where
  tok : Int
  who : Int
  over : Int
abbrev U.ent (u : U) : V × V := (.str u.name, .agg [.str u.secret, .int .i64 u.who])
abbrev S1.ent (s : S1) : V × V := (.int .i64 s.tok, .agg [.int .i64 s.who, .int .i64 s.over])
/-- A table, as the program holds it. -/
structure PT where
  life : Int
  quota : Int
  us : List U
  ubs : List Nat
  uck : Nat
  ss : List S1
  sbs : List Nat
  sck : Nat
def PT.obs (t : PT) : List Ob := [.live [.int .i64 t.life, .int .i64 t.quota, .mp 1, .mp 2], .map (t.us.map U.ent) t.ubs t.uck, .map (t.ss.map S1.ent) t.sbs t.sck]

@[simp] theorem rnO_U (f : Nat → Nat) (l : List U) (bs : List Nat) (ck : Nat) : rnO f (.map (l.map U.ent) bs ck) = .map (l.map U.ent) bs ck := rnO_map f U.ent (fun _ => rfl) l bs ck
@[simp] theorem rnO_S (f : Nat → Nat) (l : List S1) (bs : List Nat) (ck : Nat) : rnO f (.map (l.map S1.ent) bs ck) = .map (l.map S1.ent) bs ck := rnO_map f S1.ent (fun _ => rfl) l bs ck
@[simp] theorem rnO_Se (f : Nat → Nat) (l : List S1) (i : Nat) (bs : List Nat) (ck : Nat) : rnO f (.map ((l.map S1.ent).eraseIdx i) bs ck) = .map ((l.map S1.ent).eraseIdx i) bs ck := by
  rw [← map_eraseIdx]; exact rnO_S f _ bs ck
@[simp] theorem rnO_Up (f : Nat → Nat) (l : List U) (a b : ByteArray) (c : Int) (bs : List Nat) (ck : Nat) : rnO f (.map (l.map U.ent ++ [(.str a, .agg [.str b, .int .i64 c])]) bs ck) = .map (l.map U.ent ++ [(.str a, .agg [.str b, .int .i64 c])]) bs ck := by
  have : l.map U.ent ++ [(.str a, .agg [.str b, .int .i64 c])] = (l ++ [(⟨a, b, c⟩ : U)]).map U.ent := by simp
  rw [this]; exact rnO_U f _ bs ck
@[simp] theorem rnO_Sp (f : Nat → Nat) (l : List S1) (a b c : Int) (bs : List Nat) (ck : Nat) : rnO f (.map (l.map S1.ent ++ [(.int .i64 a, .agg [.int .i64 b, .int .i64 c])]) bs ck) = .map (l.map S1.ent ++ [(.int .i64 a, .agg [.int .i64 b, .int .i64 c])]) bs ck := by
  have : l.map S1.ent ++ [(.int .i64 a, .agg [.int .i64 b, .int .i64 c])] = (l ++ [(⟨a, b, c⟩ : S1)]).map S1.ent := by simp
  rw [this]; exact rnO_S f _ bs ck
theorem ent_modify (l : List S1) (i : Nat) (b c : Int) : (l.map S1.ent).modify i (fun e => (e.1, .agg [.int .i64 b, .int .i64 c])) = (l.modify i fun s => ⟨s.tok, b, c⟩).map S1.ent := (map_modify S1.ent _ _ (fun _ => rfl) l i).symm
@[simp] theorem rnO_Sm (f : Nat → Nat) (l : List S1) (i : Nat) (b c : Int) (bs : List Nat) (ck : Nat) : rnO f (.map ((l.map S1.ent).modify i (fun e => (e.1, .agg [.int .i64 b, .int .i64 c]))) bs ck) = .map ((l.map S1.ent).modify i (fun e => (e.1, .agg [.int .i64 b, .int .i64 c]))) bs ck := by
  rw [ent_modify]; exact rnO_S f _ bs ck
def fIdx {α : Type} (p : α → Bool) : List α → Nat → Option (Nat × α)
  | [], _ => none
  | a :: l, i => if p a = true then some (i, a) else fIdx p l (i + 1)
theorem vfindK_U (n : ByteArray) : ∀ (l : List U) (i : Nat), vfindK (.str n) (l.map U.ent) i = some ((fIdx (fun u => decide (n = u.name)) l i).map fun q => (q.1, q.2.ent.2))
  | [], i => rfl
  | u :: l, i => by
    simp only [List.map_cons, vfindK, sameK, fIdx]
    by_cases h : n = u.name
    · simp [h]
    · simp only [h, decide_false, Bool.false_eq_true, if_false]
      exact vfindK_U n l (i + 1)
theorem vfindK_S (n : Int) : ∀ (l : List S1) (i : Nat), vfindK (.int .i64 n) (l.map S1.ent) i = some ((fIdx (fun s => n == s.tok) l i).map fun q => (q.1, q.2.ent.2))
  | [], i => rfl
  | u :: l, i => by
    simp only [List.map_cons, vfindK, sameK, fIdx, if_true]
    by_cases h : n = u.tok
    · simp [h]
    · have h' : (n == u.tok) = false := by simpa using h
      simp only [h', Bool.false_eq_true, if_false]
      exact vfindK_S n l (i + 1)
def mayB (s : ByteArray) : Bool := !decide (s.toList = []) && decide ((s.size : Int) ≤ 20)
theorem may_spec (s : ByteArray) : VC P 49 [.str s] [] (fun r ob' => r = .bool (mayB s) ∧ ob' = []) := by
  refine VC_of_vwp_k ent_49 Try.func49 rfl (by simp [Try.ntmps49]) fun R hR => ?_
  refine vwp_seq_k fun K1 hK1 => ?_
  refine vwp_live [0] ?_
  try simp only [argSlots, pruneS, inN, eq_self, reduceIte, ite_true, Nat.reduceAdd, Nat.reduceBEq, Bool.or_true, Bool.true_or, Bool.or_false, Bool.false_or, if_true, if_false, Bool.false_eq_true]
  refine vwp_region hT ?_
  simp [-List.reduceReplicate, Try.ntmps49]
  repeat refine ⟨by first | assumption | omega | (rw [spl_length (by simp; omega)]; simp; done) | (intros; omega), ?_⟩
  refine hK1 _ ?_
  try clear hK1 K1
  refine vwp_seq_k fun K2 hK2 => ?_
  refine vwp_live [0] ?_
  try simp only [argSlots, pruneS, inN, eq_self, reduceIte, ite_true, Nat.reduceAdd, Nat.reduceBEq, Bool.or_true, Bool.true_or, Bool.or_false, Bool.false_or, if_true, if_false, Bool.false_eq_true]
  refine vwp_region hT ?_
  simp [-List.reduceReplicate]
  repeat refine ⟨by first | assumption | omega | (rw [spl_length (by simp; omega)]; simp; done) | (intros; omega), ?_⟩
  refine hK2 _ ?_
  try clear hK2 K2
  refine vwp_ret ?_
  try simp only [thenQ, inBlk]
  refine hR _ _ ?_
  refine ⟨_, Gh.refl _ _, ?_⟩
  simp [retQ, Try.f49, mayB]

def PT.new (life quota : Int) : PT := ⟨life, quota, [], [], 0, [], [], 0⟩
def newOK (life quota : Int) : Prop := 1 ≤ life ∧ life ≤ 1099511627776 ∧ 1 ≤ quota ∧ quota ≤ 100
theorem snew_spec (life quota : Int) : VC P 29 [.int .i64 life, .int .i64 quota] [] (fun r ob' => (newOK life quota → r = .tup [.ptr 0 4 0, .int .i64 0] ∧ ob' = (PT.new life quota).obs) ∧ (¬ newOK life quota → r = .tup [.nilp, .int .i64 1] ∧ ob' = [])) := by
  refine VC_of_vwp_k ent_29 Try.func29 rfl (by simp [Try.ntmps29]) fun R hR => ?_
  refine vwp_seq_k fun K1 hK1 => ?_
  refine vwp_live [0, 1] ?_
  try simp only [argSlots, pruneS, inN, eq_self, reduceIte, ite_true, Nat.reduceAdd, Nat.reduceBEq, Bool.or_true, Bool.true_or, Bool.or_false, Bool.false_or, if_true, if_false, Bool.false_eq_true]
  refine vwp_region hT ?_
  simp [-List.reduceReplicate, Try.ntmps29]
  repeat refine ⟨by first | assumption | omega | (rw [spl_length (by simp; omega)]; simp; done) | (intros; omega), ?_⟩
  refine hK1 _ ?_
  try clear hK1 K1
  refine vwp_seq_k fun K2 hK2 => ?_
  refine vwp_seq_k fun K3 hK3 => ?_
  refine vwp_live [0, 1] ?_
  try simp only [argSlots, pruneS, inN, eq_self, reduceIte, ite_true, Nat.reduceAdd, Nat.reduceBEq, Bool.or_true, Bool.true_or, Bool.or_false, Bool.false_or, if_true, if_false, Bool.false_eq_true]
  refine vwp_region hT ?_
  simp [-List.reduceReplicate]
  repeat refine ⟨by first | assumption | omega | (rw [spl_length (by simp; omega)]; simp; done) | (intros; omega), ?_⟩
  refine hK3 _ ?_
  try clear hK3 K3
  refine vwp_cond (by first | rfl | (simp; rfl)) (fun h1 => ?_) (fun h1 => ?_)
  · try (exfalso; simp at h1; done)
    all_goals
      try simp at h1
      refine vwp_seq_k fun K4 hK4 => ?_
      refine vwp_live [] ?_
      try simp only [argSlots, pruneS, inN, eq_self, reduceIte, ite_true, Nat.reduceAdd, Nat.reduceBEq, Bool.or_true, Bool.true_or, Bool.or_false, Bool.false_or, if_true, if_false, Bool.false_eq_true]
      refine vwp_region hT ?_
      simp [-List.reduceReplicate]
      repeat refine ⟨by first | assumption | omega | (rw [spl_length (by simp; omega)]; simp; done) | (intros; omega), ?_⟩
      refine hK4 _ ?_
      try clear hK4 K4
      refine vwp_ret ?_
      try simp only [thenQ, inBlk]
      refine hR _ _ ?_
      refine ⟨_, Gh.refl _ _, ?_⟩
      have hn : ¬ newOK life quota := by unfold newOK; omega
      simp [retQ, Try.f29, hn]
  · try (exfalso; simp at h1; done)
    all_goals
      try simp at h1
      refine vwp_skip ?_
      try simp only [thenQ, inBlk]
      refine hK2 _ ?_
      try clear hK2 K2
      refine vwp_seq_k fun K5 hK5 => ?_
      refine vwp_live [0, 1] ?_
      try simp only [argSlots, pruneS, inN, eq_self, reduceIte, ite_true, Nat.reduceAdd, Nat.reduceBEq, Bool.or_true, Bool.true_or, Bool.or_false, Bool.false_or, if_true, if_false, Bool.false_eq_true]
      refine vwp_region hT ?_
      simp [-List.reduceReplicate]
      repeat refine ⟨by first | assumption | omega | (rw [spl_length (by simp; omega)]; simp; done) | (intros; omega), ?_⟩
      refine hK5 _ ?_
      try clear hK5 K5
      refine vwp_ret ?_
      try simp only [thenQ, inBlk]
      refine hR _ _ ?_
      have hn : newOK life quota := by unfold newOK; omega
      refine ret_only [4, 5] [2, 0, 1] ((PT.new life quota).obs) (by simp) (by simp [PT.obs, PT.new]) rfl (by simp) (r := .tup [.ptr 0 4 0, .int .i64 0]) (by simp [Try.f29]) ?_
      simp [hn]
end Go.Proofs.Ytibhpkolbffdaaa
