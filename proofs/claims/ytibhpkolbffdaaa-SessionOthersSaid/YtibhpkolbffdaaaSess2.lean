/- What the functions of the document's table make of it. -/
import Derived.Test.YtibhpkolbffdaaaVXSplit
import Derived.Test.YtibhpkolbffdaaaSess1
namespace Go.Proofs.Ytibhpkolbffdaaa
open Go Go.VX Go.RowKit
set_option linter.unusedVariables false
set_option linter.unusedSimpArgs false
set_option maxHeartbeats 20000000
set_option maxRecDepth 100000


abbrev U.cells (x : U) : List V := [.str x.name, .str x.secret, .int .i64 x.who]
instance : Row U := ⟨U.cells, 3, fun _ => rfl, fun _ _ => rfl⟩
@[simp] theorem cellsU (x : U) : Row.cells x = U.cells x := rfl
theorem lenU (l : List U) : (rowsV l).length = l.length * 3 := rowsV_length l
theorem rowU {l : List U} {i : Nat} {x : U} (h : l[i]? = some x) : List.take 3 (List.drop (i * 3) (rowsV l)) = U.cells x := rowsV_row h
theorem dropU {l : List U} {i : Nat} {x : U} (h : l[i]? = some x) : List.drop (i * 3) (rowsV l) = U.cells x ++ rowsV (l.drop (i + 1)) := rowsV_drop h
theorem snocU (l : List U) (x : U) : rowsV l ++ U.cells x = rowsV (l ++ [x]) := (rowsV_snoc l x).symm
theorem putU {l : List U} {i : Nat} (h : i < l.length) (y : U) : List.take (i * 3) (rowsV l) ++ (U.cells y ++ List.drop (i * 3 + 3) (rowsV l)) = rowsV (l.set i y) := rowsV_put h y
theorem getU {l : List U} {i : Nat} {x : U} (h : l[i]? = some x) : (rowsV l)[i * 3]? = some (.str x.name) ∧ (rowsV l)[i * 3 + 1]? = some (.str x.secret) ∧ (rowsV l)[i * 3 + 2]? = some (.int .i64 x.who) :=
  ⟨rowsV_get (j := 0) h (by show 0 < 3; omega), rowsV_get (j := 1) h (by show 1 < 3; omega), rowsV_get (j := 2) h (by show 2 < 3; omega)⟩

abbrev S1.cells (x : S1) : List V := [.int .i64 x.tok, .int .i64 x.who, .int .i64 x.over]
instance : Row S1 := ⟨S1.cells, 3, fun _ => rfl, fun _ _ => rfl⟩
@[simp] theorem cellsS1 (x : S1) : Row.cells x = S1.cells x := rfl
theorem lenS1 (l : List S1) : (rowsV l).length = l.length * 3 := rowsV_length l
theorem rowS1 {l : List S1} {i : Nat} {x : S1} (h : l[i]? = some x) : List.take 3 (List.drop (i * 3) (rowsV l)) = S1.cells x := rowsV_row h
theorem dropS1 {l : List S1} {i : Nat} {x : S1} (h : l[i]? = some x) : List.drop (i * 3) (rowsV l) = S1.cells x ++ rowsV (l.drop (i + 1)) := rowsV_drop h
theorem snocS1 (l : List S1) (x : S1) : rowsV l ++ S1.cells x = rowsV (l ++ [x]) := (rowsV_snoc l x).symm
theorem putS1 {l : List S1} {i : Nat} (h : i < l.length) (y : S1) : List.take (i * 3) (rowsV l) ++ (S1.cells y ++ List.drop (i * 3 + 3) (rowsV l)) = rowsV (l.set i y) := rowsV_put h y
theorem getS1 {l : List S1} {i : Nat} {x : S1} (h : l[i]? = some x) : (rowsV l)[i * 3]? = some (.int .i64 x.tok) ∧ (rowsV l)[i * 3 + 1]? = some (.int .i64 x.who) ∧ (rowsV l)[i * 3 + 2]? = some (.int .i64 x.over) :=
  ⟨rowsV_get (j := 0) h (by show 0 < 3; omega), rowsV_get (j := 1) h (by show 1 < 3; omega), rowsV_get (j := 2) h (by show 2 < 3; omega)⟩
structure RT where
  life : Int
  quota : Int
  us : List U
  ss : List S1
def RT.obsG (t : RT) (g : List Ob) : List Ob := [.live [.int .i64 t.life, .int .i64 t.quota, .sl 1 (t.us.length * 3) 3 0 t.us.length, .sl (2 + g.length) (t.ss.length * 3) 3 0 t.ss.length], .live (rowsV t.us)] ++ g ++ [.live (rowsV t.ss)]
def RT.obs (t : RT) : List Ob := [.live [.int .i64 t.life, .int .i64 t.quota, .sl 1 (t.us.length * 3) 3 0 t.us.length, .sl 2 (t.ss.length * 3) 3 0 t.ss.length], .live (rowsV t.us), .live (rowsV t.ss)]
def RT.new (life quota : Int) : RT := ⟨life, quota, [], []⟩
theorem rtnew_spec (life quota : Int) : VC P 30 [.int .i64 life, .int .i64 quota] [] (fun r ob' => (newOK life quota → r = .tup [.ptr 0 4 0, .int .i64 0] ∧ ob' = (RT.new life quota).obs) ∧ (¬ newOK life quota → r = .tup [.nilp, .int .i64 1] ∧ ob' = [])) := by
  refine VC_of_vwp_k ent_30 Try.func30 rfl (by simp [Try.ntmps30]) fun R hR => ?_
  refine vwp_seq_k fun K1 hK1 => ?_
  refine vwp_live [0, 1] ?_
  try simp only [argSlots, pruneS, inN, eq_self, reduceIte, ite_true, Nat.reduceAdd, Nat.reduceBEq, Bool.or_true, Bool.true_or, Bool.or_false, Bool.false_or, if_true, if_false, Bool.false_eq_true]
  refine vwp_region hT ?_
  simp [-List.reduceReplicate, Try.ntmps30]
  repeat refine ⟨by first | assumption | omega | (rw [spl_length (by simp; omega)]; simp; done) | (intros; omega), ?_⟩
  refine hK1 _ ?_
  try clear hK1 K1
  refine vwp_seq_k fun K2 hK2 => ?_
  refine vwp_seq_k fun K3 hK3 => ?_
  refine vwp_live [0, 1] ?_
  try simp only [argSlots, pruneS, inN, eq_self, reduceIte, ite_true, Nat.reduceAdd, Nat.reduceBEq, Bool.or_true, Bool.true_or, Bool.or_false, Bool.false_or, if_true, if_false, Bool.false_eq_true]
  refine vwp_region hT ?_
  simp [-List.reduceReplicate]
  repeat refine ⟨by first | assumption | omega | (rw [spl_length (by simp; omega)]; simp; done) | (intros; omega), ?_⟩
  refine hK3 _ ?_
  try clear hK3 K3
  refine vwp_cond (by first | rfl | (simp; rfl)) (fun h1 => ?_) (fun h1 => ?_)
  · try (exfalso; simp at h1; done)
    all_goals
      try simp at h1
      refine vwp_seq_k fun K4 hK4 => ?_
      refine vwp_live [] ?_
      try simp only [argSlots, pruneS, inN, eq_self, reduceIte, ite_true, Nat.reduceAdd, Nat.reduceBEq, Bool.or_true, Bool.true_or, Bool.or_false, Bool.false_or, if_true, if_false, Bool.false_eq_true]
      refine vwp_region hT ?_
      simp [-List.reduceReplicate]
      repeat refine ⟨by first | assumption | omega | (rw [spl_length (by simp; omega)]; simp; done) | (intros; omega), ?_⟩
      refine hK4 _ ?_
      try clear hK4 K4
      refine vwp_ret ?_
      try simp only [thenQ, inBlk]
      refine hR _ _ ?_
      refine ⟨_, Gh.refl _ _, ?_⟩
      have hn : ¬ newOK life quota := by unfold newOK; omega
      simp [retQ, Try.f30, hn]
  · try (exfalso; simp at h1; done)
    all_goals
      try simp at h1
      refine vwp_skip ?_
      try simp only [thenQ, inBlk]
      refine hK2 _ ?_
      try clear hK2 K2
      refine vwp_seq_k fun K5 hK5 => ?_
      refine vwp_live [0, 1] ?_
      try simp only [argSlots, pruneS, inN, eq_self, reduceIte, ite_true, Nat.reduceAdd, Nat.reduceBEq, Bool.or_true, Bool.true_or, Bool.or_false, Bool.false_or, if_true, if_false, Bool.false_eq_true]
      refine vwp_region hT ?_
      simp [-List.reduceReplicate]
      repeat refine ⟨by first | assumption | omega | (rw [spl_length (by simp; omega)]; simp; done) | (intros; omega), ?_⟩
      refine hK5 _ ?_
      try clear hK5 K5
      refine vwp_ret ?_
      try simp only [thenQ, inBlk]
      refine hR _ _ ?_
      have hn : newOK life quota := by unfold newOK; omega
      refine ⟨_, (Gh.virtC 0 2 3 (cs := [.int .i64 life, .int .i64 quota, .nils, .nils]) (by simp) (by simp)).trans ((Gh.virtC 0 3 3 (cs := [.int .i64 life, .int .i64 quota, .sl 1 0 3 0 0, .nils]) (by simp) (by simp)).trans (Gh.refl _ _)), ?_⟩
      simp [retQ, Try.f30, hn, RT.obs, RT.new]


def RT.user (t : RT) (name : ByteArray) : Int := oI (t.us.findIdx? fun u => decide (u.name.toList = name.toList))
def RT.at (t : RT) (tok now : Int) : Int := oI (t.ss.findIdx? fun s => decide (s.tok = tok ∧ now < s.over))
def RT.out (t : RT) (tok : Int) : RT := { t with ss := t.ss.filter fun s => decide (s.tok ≠ tok) }
@[simp] theorem RT.out_us (t : RT) (tok : Int) : (t.out tok).us = t.us := rfl
@[simp] theorem RT.out_life (t : RT) (tok : Int) : (t.out tok).life = t.life := rfl
@[simp] theorem RT.out_quota (t : RT) (tok : Int) : (t.out tok).quota = t.quota := rfl
theorem RT.out_len (t : RT) (tok : Int) : (t.out tok).ss.length ≤ t.ss.length := List.length_filter_le _ _
def RT.many (t : RT) (who now : Int) : Nat := t.ss.countP fun s => decide (s.who = who) && decide (now < s.over)
theorem user_spec (t : RT) (hl : t.us.length < 9223372036854775807) (name : ByteArray) : VC P 45 [.ptr 0 4 0, .str name] t.obs (fun r ob' => r = .int .i64 (t.user name) ∧ ob' = t.obs) := by
  refine VC_of_vwp_k ent_45 Try.func45 rfl (by simp [Try.ntmps45]) fun R hR => ?_
  refine vwp_seq_k fun K1 hK1 => ?_
  refine vwp_live [0, 1] ?_
  try simp only [argSlots, pruneS, inN, eq_self, reduceIte, ite_true, Nat.reduceAdd, Nat.reduceBEq, Bool.or_true, Bool.true_or, Bool.or_false, Bool.false_or, if_true, if_false, Bool.false_eq_true]
  refine vwp_region hT ?_
  simp [-List.reduceReplicate, RT.obs, lenU, lenS1, Try.ntmps45]
  repeat refine ⟨by first | assumption | omega | (rw [spl_length (by simp; omega)]; simp; done) | (intros; omega), ?_⟩
  refine hK1 _ ?_
  try clear hK1 K1
  refine vwp_seq_k fun K2 hK2 => ?_
  refine vwp_seq_k fun K3 hK3 => ?_
  refine vwp_live [0, 1] ?_
  try simp only [argSlots, pruneS, inN, eq_self, reduceIte, ite_true, Nat.reduceAdd, Nat.reduceBEq, Bool.or_true, Bool.true_or, Bool.or_false, Bool.false_or, if_true, if_false, Bool.false_eq_true]
  refine vwp_region hT ?_
  simp [-List.reduceReplicate, RT.obs, lenU, lenS1]
  repeat refine ⟨by first | assumption | omega | (rw [spl_length (by simp; omega)]; simp; done) | (intros; omega), ?_⟩
  refine hK3 _ ?_
  try clear hK3 K3
  refine vwp_block ?_
  refine vwp_loop_k (fun m st => ∃ i : Nat, i ≤ t.us.length ∧ m = t.us.length - i ∧ (∀ j x, j < i → t.us[j]? = some x → (fun u : U => decide (u.name.toList = name.toList)) x = false) ∧ st = ⟨[(0, .ptr 0 4 0), (1, .str name), (5, .int .i64 (i : Int))], t.obs⟩) t.us.length ⟨0, by omega, by simp, by omega, by simp [RT.obs]⟩ ?_
  rintro m st ⟨i, hi, rfl, hno, rfl⟩
  intro K4 hK4
  refine vwp_seq_k fun K5 hK5 => ?_
  refine vwp_seq_k fun K6 hK6 => ?_
  refine vwp_live [0, 1, 5] ?_
  try simp only [argSlots, pruneS, inN, eq_self, reduceIte, ite_true, Nat.reduceAdd, Nat.reduceBEq, Bool.or_true, Bool.true_or, Bool.or_false, Bool.false_or, if_true, if_false, Bool.false_eq_true]
  refine vwp_region hT ?_
  simp [-List.reduceReplicate, RT.obs, lenU, lenS1]
  repeat refine ⟨by first | assumption | omega | (rw [spl_length (by simp; omega)]; simp; done) | (intros; omega), ?_⟩
  refine hK6 _ ?_
  try clear hK6 K6
  refine vwp_cond (by first | rfl | (simp; rfl)) (fun h1 => ?_) (fun h1 => ?_)
  · try (exfalso; simp at h1; done)
    all_goals
      try simp at h1
      refine vwp_skip ?_
      try simp only [thenQ, inBlk]
      refine hK5 _ ?_
      try clear hK5 K5
      refine vwp_seq_k fun K7 hK7 => ?_
      refine vwp_block ?_
      refine vwp_seq_k fun K8 hK8 => ?_
      obtain ⟨x, hx⟩ : ∃ x, t.us[i]? = some x := ⟨_, List.getElem?_eq_getElem (by omega)⟩
      obtain ⟨g0, g1, g2⟩ := getU hx
      refine vwp_live [0, 1, 5] ?_
      try simp only [argSlots, pruneS, inN, eq_self, reduceIte, ite_true, Nat.reduceAdd, Nat.reduceBEq, Bool.or_true, Bool.true_or, Bool.or_false, Bool.false_or, if_true, if_false, Bool.false_eq_true]
      refine vwp_region hT ?_
      simp [-List.reduceReplicate, RT.obs, lenU, lenS1, g0, g1, g2]
      repeat refine ⟨by first | assumption | omega | (rw [spl_length (by simp; omega)]; simp; done) | (intros; omega), ?_⟩
      refine hK8 _ ?_
      try clear hK8 K8
      refine vwp_cond (by first | rfl | (simp; rfl)) (fun h2 => ?_) (fun h2 => ?_)
      · try (exfalso; simp at h2; done)
        all_goals
          try simp at h2
          refine vwp_seq_k fun K9 hK9 => ?_
          refine vwp_live [5] ?_
          try simp only [argSlots, pruneS, inN, eq_self, reduceIte, ite_true, Nat.reduceAdd, Nat.reduceBEq, Bool.or_true, Bool.true_or, Bool.or_false, Bool.false_or, if_true, if_false, Bool.false_eq_true]
          refine vwp_region hT ?_
          simp [-List.reduceReplicate, RT.obs, lenU, lenS1]
          repeat refine ⟨by first | assumption | omega | (rw [spl_length (by simp; omega)]; simp; done) | (intros; omega), ?_⟩
          refine hK9 _ ?_
          try clear hK9 K9
          refine vwp_ret ?_
          try simp only [thenQ, inBlk]
          refine hR _ _ ?_
          have hu : t.user name = i := by
            unfold RT.user
            rw [findIdx_some (p := (fun u : U => decide (u.name.toList = name.toList))) hx (by simp; grind) hno]
            rfl
          rw [hu]
          refine ret_only [4] [0, 1, 2] (t.obs) (by simp) (by simp [RT.obs]) rfl (by simp) (r := .int .i64 (i : Int)) (by simp [Try.f45]) ⟨rfl, rfl⟩
      · try (exfalso; simp at h2; done)
        all_goals
          try simp at h2
          refine vwp_skip ?_
          try simp only [thenQ, inBlk]
          refine hK7 _ ?_
          try clear hK7 K7
          refine vwp_live [0, 1, 5] ?_
          try simp only [argSlots, pruneS, inN, eq_self, reduceIte, ite_true, Nat.reduceAdd, Nat.reduceBEq, Bool.or_true, Bool.true_or, Bool.or_false, Bool.false_or, if_true, if_false, Bool.false_eq_true]
          refine vwp_region hT ?_
          simp [-List.reduceReplicate, RT.obs, lenU, lenS1]
          repeat refine ⟨by first | assumption | omega | (rw [spl_length (by simp; omega)]; simp; done) | (intros; omega), ?_⟩
          refine hK4 _ ?_
          refine ⟨⟨[(0, .ptr 0 4 0), (1, .str name), (5, .int .i64 ((i + 1 : Nat) : Int))], t.obs⟩, ?_, t.us.length - (i + 1), by omega, i + 1, by omega, rfl, fun j y hj hy => ?_, rfl⟩
          · refine Gh.to [0, 1, 5] [0, 1, 2] _ (_) ?_ ?_ rfl ?_ ?_
            · simp
            · simp [RT.obs]
            · simp [RT.obs]
            · simp [RT.obs]; exact w64 (by omega) (by omega)
          · by_cases e : j = i
            · subst e
              cases hx.symm.trans hy
              simp; grind
            · exact hno j y (by omega) hy
  · try (exfalso; simp at h1; done)
    all_goals
      try simp at h1
      refine vwp_exit ?_
      simp only [inBlk, thenQ, if_true]
      refine hK2 _ ?_
      try clear hK2 K2
      refine vwp_seq_k fun K10 hK10 => ?_
      refine vwp_live [] ?_
      try simp only [argSlots, pruneS, inN, eq_self, reduceIte, ite_true, Nat.reduceAdd, Nat.reduceBEq, Bool.or_true, Bool.true_or, Bool.or_false, Bool.false_or, if_true, if_false, Bool.false_eq_true]
      refine vwp_region hT ?_
      simp [-List.reduceReplicate, RT.obs, lenU, lenS1]
      repeat refine ⟨by first | assumption | omega | (rw [spl_length (by simp; omega)]; simp; done) | (intros; omega), ?_⟩
      refine hK10 _ ?_
      try clear hK10 K10
      refine vwp_ret ?_
      try simp only [thenQ, inBlk]
      refine hR _ _ ?_
      have hu : t.user name = -1 := by
        unfold RT.user
        rw [findIdx_none (p := (fun u : U => decide (u.name.toList = name.toList))) fun j y hj hy => hno j y (by omega) hy]
        rfl
      rw [hu]
      refine ret_only [4] [0, 1, 2] (t.obs) (by simp) (by simp [RT.obs]) rfl (by simp) (r := .int .i64 (-1)) (by simp [Try.f45]) ⟨rfl, rfl⟩
theorem at_spec (t : RT) (hl : t.ss.length < 9223372036854775807) (tok now : Int) : VC P 46 [.ptr 0 4 0, .int .i64 tok, .int .i64 now] t.obs (fun r ob' => r = .int .i64 (t.at tok now) ∧ ob' = t.obs) := by
  refine VC_of_vwp_k ent_46 Try.func46 rfl (by simp [Try.ntmps46]) fun R hR => ?_
  refine vwp_seq_k fun K1 hK1 => ?_
  refine vwp_live [0, 1, 2] ?_
  try simp only [argSlots, pruneS, inN, eq_self, reduceIte, ite_true, Nat.reduceAdd, Nat.reduceBEq, Bool.or_true, Bool.true_or, Bool.or_false, Bool.false_or, if_true, if_false, Bool.false_eq_true]
  refine vwp_region hT ?_
  simp [-List.reduceReplicate, RT.obs, lenU, lenS1, Try.ntmps46]
  repeat refine ⟨by first | assumption | omega | (rw [spl_length (by simp; omega)]; simp; done) | (intros; omega), ?_⟩
  refine hK1 _ ?_
  try clear hK1 K1
  refine vwp_seq_k fun K2 hK2 => ?_
  refine vwp_seq_k fun K3 hK3 => ?_
  refine vwp_live [0, 1, 2] ?_
  try simp only [argSlots, pruneS, inN, eq_self, reduceIte, ite_true, Nat.reduceAdd, Nat.reduceBEq, Bool.or_true, Bool.true_or, Bool.or_false, Bool.false_or, if_true, if_false, Bool.false_eq_true]
  refine vwp_region hT ?_
  simp [-List.reduceReplicate, RT.obs, lenU, lenS1]
  repeat refine ⟨by first | assumption | omega | (rw [spl_length (by simp; omega)]; simp; done) | (intros; omega), ?_⟩
  refine hK3 _ ?_
  try clear hK3 K3
  refine vwp_block ?_
  refine vwp_loop_k (fun m st => ∃ i : Nat, i ≤ t.ss.length ∧ m = t.ss.length - i ∧ (∀ j x, j < i → t.ss[j]? = some x → (fun s : S1 => decide (s.tok = tok ∧ now < s.over)) x = false) ∧ st = ⟨[(0, .ptr 0 4 0), (1, .int .i64 tok), (2, .int .i64 now), (7, .int .i64 (i : Int))], t.obs⟩) t.ss.length ⟨0, by omega, by simp, by omega, by simp [RT.obs]⟩ ?_
  rintro m st ⟨i, hi, rfl, hno, rfl⟩
  intro K4 hK4
  refine vwp_seq_k fun K5 hK5 => ?_
  refine vwp_seq_k fun K6 hK6 => ?_
  refine vwp_live [0, 1, 2, 7] ?_
  try simp only [argSlots, pruneS, inN, eq_self, reduceIte, ite_true, Nat.reduceAdd, Nat.reduceBEq, Bool.or_true, Bool.true_or, Bool.or_false, Bool.false_or, if_true, if_false, Bool.false_eq_true]
  refine vwp_region hT ?_
  simp [-List.reduceReplicate, RT.obs, lenU, lenS1]
  repeat refine ⟨by first | assumption | omega | (rw [spl_length (by simp; omega)]; simp; done) | (intros; omega), ?_⟩
  refine hK6 _ ?_
  try clear hK6 K6
  refine vwp_cond (by first | rfl | (simp; rfl)) (fun h1 => ?_) (fun h1 => ?_)
  · try (exfalso; simp at h1; done)
    all_goals
      try simp at h1
      refine vwp_skip ?_
      try simp only [thenQ, inBlk]
      refine hK5 _ ?_
      try clear hK5 K5
      refine vwp_seq_k fun K7 hK7 => ?_
      refine vwp_block ?_
      refine vwp_seq_k fun K8 hK8 => ?_
      obtain ⟨x, hx⟩ : ∃ x, t.ss[i]? = some x := ⟨_, List.getElem?_eq_getElem (by omega)⟩
      obtain ⟨g0, g1, g2⟩ := getS1 hx
      refine vwp_live [0, 1, 2, 7] ?_
      try simp only [argSlots, pruneS, inN, eq_self, reduceIte, ite_true, Nat.reduceAdd, Nat.reduceBEq, Bool.or_true, Bool.true_or, Bool.or_false, Bool.false_or, if_true, if_false, Bool.false_eq_true]
      refine vwp_region hT ?_
      simp [-List.reduceReplicate, RT.obs, lenU, lenS1, g0, g1, g2]
      repeat refine ⟨by first | assumption | omega | (rw [spl_length (by simp; omega)]; simp; done) | (intros; omega), ?_⟩
      refine hK8 _ ?_
      try clear hK8 K8
      refine vwp_cond (by first | rfl | (simp; rfl)) (fun h2 => ?_) (fun h2 => ?_)
      · try (exfalso; simp at h2; done)
        all_goals
          try simp at h2
          refine vwp_seq_k fun K9 hK9 => ?_
          refine vwp_live [7] ?_
          try simp only [argSlots, pruneS, inN, eq_self, reduceIte, ite_true, Nat.reduceAdd, Nat.reduceBEq, Bool.or_true, Bool.true_or, Bool.or_false, Bool.false_or, if_true, if_false, Bool.false_eq_true]
          refine vwp_region hT ?_
          simp [-List.reduceReplicate, RT.obs, lenU, lenS1]
          repeat refine ⟨by first | assumption | omega | (rw [spl_length (by simp; omega)]; simp; done) | (intros; omega), ?_⟩
          refine hK9 _ ?_
          try clear hK9 K9
          refine vwp_ret ?_
          try simp only [thenQ, inBlk]
          refine hR _ _ ?_
          have hu : t.at tok now = i := by
            unfold RT.at
            rw [findIdx_some (p := (fun s : S1 => decide (s.tok = tok ∧ now < s.over))) hx (by simp; grind) hno]
            rfl
          rw [hu]
          refine ret_only [6] [0, 1, 2] (t.obs) (by simp) (by simp [RT.obs]) rfl (by simp) (r := .int .i64 (i : Int)) (by simp [Try.f46]) ⟨rfl, rfl⟩
      · try (exfalso; simp at h2; done)
        all_goals
          try simp at h2
          refine vwp_skip ?_
          try simp only [thenQ, inBlk]
          refine hK7 _ ?_
          try clear hK7 K7
          refine vwp_live [0, 1, 2, 7] ?_
          try simp only [argSlots, pruneS, inN, eq_self, reduceIte, ite_true, Nat.reduceAdd, Nat.reduceBEq, Bool.or_true, Bool.true_or, Bool.or_false, Bool.false_or, if_true, if_false, Bool.false_eq_true]
          refine vwp_region hT ?_
          simp [-List.reduceReplicate, RT.obs, lenU, lenS1]
          repeat refine ⟨by first | assumption | omega | (rw [spl_length (by simp; omega)]; simp; done) | (intros; omega), ?_⟩
          refine hK4 _ ?_
          refine ⟨⟨[(0, .ptr 0 4 0), (1, .int .i64 tok), (2, .int .i64 now), (7, .int .i64 ((i + 1 : Nat) : Int))], t.obs⟩, ?_, t.ss.length - (i + 1), by omega, i + 1, by omega, rfl, fun j y hj hy => ?_, rfl⟩
          · refine Gh.to [0, 1, 2, 7] [0, 1, 2] _ (_) ?_ ?_ rfl ?_ ?_
            · simp
            · simp [RT.obs]
            · simp [RT.obs]
            · simp [RT.obs]; exact w64 (by omega) (by omega)
          · by_cases e : j = i
            · subst e
              cases hx.symm.trans hy
              simp; grind
            · exact hno j y (by omega) hy
  · try (exfalso; simp at h1; done)
    all_goals
      try simp at h1
      refine vwp_exit ?_
      simp only [inBlk, thenQ, if_true]
      refine hK2 _ ?_
      try clear hK2 K2
      refine vwp_seq_k fun K10 hK10 => ?_
      refine vwp_live [] ?_
      try simp only [argSlots, pruneS, inN, eq_self, reduceIte, ite_true, Nat.reduceAdd, Nat.reduceBEq, Bool.or_true, Bool.true_or, Bool.or_false, Bool.false_or, if_true, if_false, Bool.false_eq_true]
      refine vwp_region hT ?_
      simp [-List.reduceReplicate, RT.obs, lenU, lenS1]
      repeat refine ⟨by first | assumption | omega | (rw [spl_length (by simp; omega)]; simp; done) | (intros; omega), ?_⟩
      refine hK10 _ ?_
      try clear hK10 K10
      refine vwp_ret ?_
      try simp only [thenQ, inBlk]
      refine hR _ _ ?_
      have hu : t.at tok now = -1 := by
        unfold RT.at
        rw [findIdx_none (p := (fun s : S1 => decide (s.tok = tok ∧ now < s.over))) fun j y hj hy => hno j y (by omega) hy]
        rfl
      rw [hu]
      refine ret_only [6] [0, 1, 2] (t.obs) (by simp) (by simp [RT.obs]) rfl (by simp) (r := .int .i64 (-1)) (by simp [Try.f46]) ⟨rfl, rfl⟩
theorem out_spec (t : RT) (hl : t.ss.length ≤ 100000) (tok : Int) : VC P 47 [.ptr 0 4 0, .int .i64 tok] t.obs (fun r ob' => ob' = (t.out tok).obsG [.live (rowsV t.ss)]) := by
  refine VC_of_vwp_k ent_47 Try.func47 rfl (by simp [Try.ntmps47]) fun R hR => ?_
  refine vwp_seq_k fun K1 hK1 => ?_
  refine vwp_live [0, 1] ?_
  try simp only [argSlots, pruneS, inN, eq_self, reduceIte, ite_true, Nat.reduceAdd, Nat.reduceBEq, Bool.or_true, Bool.true_or, Bool.or_false, Bool.false_or, if_true, if_false, Bool.false_eq_true]
  refine vwp_region hT ?_
  simp [-List.reduceReplicate, RT.obs, lenU, lenS1, Try.ntmps47, zerosV]
  repeat refine ⟨by first | assumption | omega | (rw [spl_length (by simp; omega)]; simp; done) | (intros; omega), ?_⟩
  refine hK1 _ ?_
  try clear hK1 K1
  refine vwp_seq_k fun K2 hK2 => ?_
  refine vwp_seq_k fun K3 hK3 => ?_
  refine vwp_live [0, 1, 4] ?_
  try simp only [argSlots, pruneS, inN, eq_self, reduceIte, ite_true, Nat.reduceAdd, Nat.reduceBEq, Bool.or_true, Bool.true_or, Bool.or_false, Bool.false_or, if_true, if_false, Bool.false_eq_true]
  refine vwp_region hT ?_
  simp [-List.reduceReplicate, RT.obs, lenU, lenS1]
  repeat refine ⟨by first | assumption | omega | (rw [spl_length (by simp; omega)]; simp; done) | (intros; omega), ?_⟩
  refine hK3 _ ?_
  try clear hK3 K3
  refine vwp_block ?_
  refine vwp_loop_k (fun m st => ∃ i : Nat, i ≤ t.ss.length ∧ m = t.ss.length - i ∧ st = ⟨[(0, .ptr 0 4 0), (1, .int .i64 tok), (4, .sl 3 (((t.ss.take i).filter (fun s => decide (s.tok ≠ tok))).length * 3) 3 0 ((t.ss.take i).filter (fun s => decide (s.tok ≠ tok))).length), (5, .int .i64 ((i : Nat) : Int))], t.obs ++ [.live (rowsV ((t.ss.take i).filter (fun s => decide (s.tok ≠ tok))))]⟩) t.ss.length ⟨0, by omega, by simp, by simp [RT.obs]⟩ ?_
  rintro m st ⟨i, hi, rfl, rfl⟩
  intro K4 hK4
  refine vwp_seq_k fun K5 hK5 => ?_
  refine vwp_seq_k fun K6 hK6 => ?_
  refine vwp_live [0, 1, 4, 5] ?_
  try simp only [argSlots, pruneS, inN, eq_self, reduceIte, ite_true, Nat.reduceAdd, Nat.reduceBEq, Bool.or_true, Bool.true_or, Bool.or_false, Bool.false_or, if_true, if_false, Bool.false_eq_true]
  refine vwp_region hT ?_
  simp [-List.reduceReplicate, RT.obs, lenU, lenS1]
  repeat refine ⟨by first | assumption | omega | (rw [spl_length (by simp; omega)]; simp; done) | (intros; omega), ?_⟩
  refine hK6 _ ?_
  try clear hK6 K6
  refine vwp_cond (by first | rfl | (simp; rfl)) (fun h1 => ?_) (fun h1 => ?_)
  · try (exfalso; simp at h1; done)
    all_goals
      try simp at h1
      refine vwp_skip ?_
      try simp only [thenQ, inBlk]
      refine hK5 _ ?_
      try clear hK5 K5
      refine vwp_seq_k fun K7 hK7 => ?_
      refine vwp_block ?_
      refine vwp_seq_k fun K8 hK8 => ?_
      obtain ⟨x, hx⟩ : ∃ x, t.ss[i]? = some x := ⟨_, List.getElem?_eq_getElem (by omega)⟩
      have hr := rowS1 hx
      obtain ⟨g0, g1, g2⟩ := getS1 hx
      have hfl : ((t.ss.take i).filter fun s => decide (s.tok ≠ tok)).length ≤ i := Nat.le_trans (List.length_filter_le _ _) (by simp; omega)
      simp only [ne_eq, decide_not] at hfl
      refine vwp_live [0, 1, 4, 5] ?_
      try simp only [argSlots, pruneS, inN, eq_self, reduceIte, ite_true, Nat.reduceAdd, Nat.reduceBEq, Bool.or_true, Bool.true_or, Bool.or_false, Bool.false_or, if_true, if_false, Bool.false_eq_true]
      refine vwp_region hT ?_
      simp [-List.reduceReplicate, RT.obs, lenU, lenS1, g0, g1, g2]
      repeat refine ⟨by first | assumption | omega | (rw [spl_length (by simp; omega)]; simp; done) | (intros; omega), ?_⟩
      refine hK8 _ ?_
      try clear hK8 K8
      refine vwp_cond (by first | rfl | (simp; rfl)) (fun h2 => ?_) (fun h2 => ?_)
      · try (exfalso; simp at h2; done)
        all_goals
          try simp at h2
          refine vwp_live [0, 1, 4, 5] ?_
          try simp only [argSlots, pruneS, inN, eq_self, reduceIte, ite_true, Nat.reduceAdd, Nat.reduceBEq, Bool.or_true, Bool.true_or, Bool.or_false, Bool.false_or, if_true, if_false, Bool.false_eq_true]
          refine vwp_region hT ?_
          simp [-List.reduceReplicate, RT.obs, lenU, lenS1, hr, dropS1 hx, zerosV, spl]
          repeat refine ⟨by first | assumption | omega | (rw [spl_length (by simp; omega)]; simp; done) | (intros; omega), ?_⟩
          refine hK7 _ ?_
          try clear hK7 K7
          refine vwp_live [0, 1, 4, 5] ?_
          try simp only [argSlots, pruneS, inN, eq_self, reduceIte, ite_true, Nat.reduceAdd, Nat.reduceBEq, Bool.or_true, Bool.true_or, Bool.or_false, Bool.false_or, if_true, if_false, Bool.false_eq_true]
          refine vwp_region hT ?_
          simp [-List.reduceReplicate, RT.obs, lenU, lenS1]
          repeat refine ⟨by first | assumption | omega | (rw [spl_length (by simp; omega)]; simp; done) | (intros; omega), ?_⟩
          refine hK4 _ ?_
          have hF : (t.ss.take (i + 1)).filter (fun s => decide (s.tok ≠ tok)) = (t.ss.take i).filter (fun s => decide (s.tok ≠ tok)) ++ [x] := by
            rw [take_snoc hx, List.filter_append]
            simp [h2]
          refine ⟨⟨[(0, .ptr 0 4 0), (1, .int .i64 tok), (4, .sl 3 (((t.ss.take (i + 1)).filter (fun s => decide (s.tok ≠ tok))).length * 3) 3 0 ((t.ss.take (i + 1)).filter (fun s => decide (s.tok ≠ tok))).length), (5, .int .i64 ((i + 1 : Nat) : Int))], t.obs ++ [.live (rowsV ((t.ss.take (i + 1)).filter (fun s => decide (s.tok ≠ tok))))]⟩, ?_, t.ss.length - (i + 1), by omega, i + 1, by omega, rfl, rfl⟩
          rw [hF]
          refine Gh.to [0, 1, 4, 5] [0, 1, 2, 3] _ (_) ?_ ?_ rfl ?_ ?_
          · simp
          · simp [RT.obs, rowsV_snoc]
          · simp [RT.obs, rowsV_snoc]
          · simp [RT.obs, rowsV_snoc]; ((repeat' apply And.intro) <;> first | omega | exact w64 (by omega) (by omega))
      · try (exfalso; simp at h2; done)
        all_goals
          try simp at h2
          refine vwp_skip ?_
          try simp only [thenQ, inBlk]
          refine hK7 _ ?_
          try clear hK7 K7
          refine vwp_live [0, 1, 4, 5] ?_
          try simp only [argSlots, pruneS, inN, eq_self, reduceIte, ite_true, Nat.reduceAdd, Nat.reduceBEq, Bool.or_true, Bool.true_or, Bool.or_false, Bool.false_or, if_true, if_false, Bool.false_eq_true]
          refine vwp_region hT ?_
          simp [-List.reduceReplicate, RT.obs, lenU, lenS1]
          repeat refine ⟨by first | assumption | omega | (rw [spl_length (by simp; omega)]; simp; done) | (intros; omega), ?_⟩
          refine hK4 _ ?_
          have hF : (t.ss.take (i + 1)).filter (fun s => decide (s.tok ≠ tok)) = (t.ss.take i).filter (fun s => decide (s.tok ≠ tok)) := by
            rw [take_snoc hx, List.filter_append]
            simp [h2]
          refine ⟨⟨[(0, .ptr 0 4 0), (1, .int .i64 tok), (4, .sl 3 (((t.ss.take (i + 1)).filter (fun s => decide (s.tok ≠ tok))).length * 3) 3 0 ((t.ss.take (i + 1)).filter (fun s => decide (s.tok ≠ tok))).length), (5, .int .i64 ((i + 1 : Nat) : Int))], t.obs ++ [.live (rowsV ((t.ss.take (i + 1)).filter (fun s => decide (s.tok ≠ tok))))]⟩, ?_, t.ss.length - (i + 1), by omega, i + 1, by omega, rfl, rfl⟩
          rw [hF]
          refine Gh.to [0, 1, 4, 5] [0, 1, 2, 3] _ (_) ?_ ?_ rfl ?_ ?_
          · simp
          · simp [RT.obs, rowsV_snoc]
          · simp [RT.obs, rowsV_snoc]
          · simp [RT.obs, rowsV_snoc]; ((repeat' apply And.intro) <;> first | omega | exact w64 (by omega) (by omega))
  · try (exfalso; simp at h1; done)
    all_goals
      try simp at h1
      refine vwp_exit ?_
      simp only [inBlk, thenQ, if_true]
      refine hK2 _ ?_
      try clear hK2 K2
      refine vwp_live [0, 4] ?_
      try simp only [argSlots, pruneS, inN, eq_self, reduceIte, ite_true, Nat.reduceAdd, Nat.reduceBEq, Bool.or_true, Bool.true_or, Bool.or_false, Bool.false_or, if_true, if_false, Bool.false_eq_true]
      refine vwp_region hT ?_
      simp [-List.reduceReplicate, RT.obs, lenU, lenS1]
      repeat refine ⟨by first | assumption | omega | (rw [spl_length (by simp; omega)]; simp; done) | (intros; omega), ?_⟩
      refine hR _ _ ?_
      rw [List.take_of_length_le h1]
      refine norm_only [] [0, 1, 2, 3] ((t.out tok).obsG [.live (rowsV t.ss)]) (by simp) (by simp [RT.obs, RT.obsG, RT.out]) rfl (by simp) (r := .tup []) (by simp [Try.f47]) rfl
theorem rmany_spec (t : RT) (hl : t.ss.length ≤ 100000) (who now : Int) : VC P 37 [.ptr 0 4 0, .int .i64 who, .int .i64 now] t.obs (fun r ob' => r = .int .i64 (t.many who now : Nat) ∧ ob' = t.obs) := by
  refine VC_of_vwp_k ent_37 Try.func37 rfl (by simp [Try.ntmps37]) fun R hR => ?_
  refine vwp_seq_k fun K1 hK1 => ?_
  refine vwp_live [0, 1, 2] ?_
  try simp only [argSlots, pruneS, inN, eq_self, reduceIte, ite_true, Nat.reduceAdd, Nat.reduceBEq, Bool.or_true, Bool.true_or, Bool.or_false, Bool.false_or, if_true, if_false, Bool.false_eq_true]
  refine vwp_region hT ?_
  simp [-List.reduceReplicate, RT.obs, lenU, lenS1, Try.ntmps37]
  repeat refine ⟨by first | assumption | omega | (rw [spl_length (by simp; omega)]; simp; done) | (intros; omega), ?_⟩
  refine hK1 _ ?_
  try clear hK1 K1
  refine vwp_seq_k fun K2 hK2 => ?_
  refine vwp_live [0, 1, 2] ?_
  try simp only [argSlots, pruneS, inN, eq_self, reduceIte, ite_true, Nat.reduceAdd, Nat.reduceBEq, Bool.or_true, Bool.true_or, Bool.or_false, Bool.false_or, if_true, if_false, Bool.false_eq_true]
  refine vwp_region hT ?_
  simp [-List.reduceReplicate, RT.obs, lenU, lenS1]
  repeat refine ⟨by first | assumption | omega | (rw [spl_length (by simp; omega)]; simp; done) | (intros; omega), ?_⟩
  refine hK2 _ ?_
  try clear hK2 K2
  refine vwp_seq_k fun K3 hK3 => ?_
  refine vwp_seq_k fun K4 hK4 => ?_
  refine vwp_live [0, 1, 2, 7] ?_
  try simp only [argSlots, pruneS, inN, eq_self, reduceIte, ite_true, Nat.reduceAdd, Nat.reduceBEq, Bool.or_true, Bool.true_or, Bool.or_false, Bool.false_or, if_true, if_false, Bool.false_eq_true]
  refine vwp_region hT ?_
  simp [-List.reduceReplicate, RT.obs, lenU, lenS1]
  repeat refine ⟨by first | assumption | omega | (rw [spl_length (by simp; omega)]; simp; done) | (intros; omega), ?_⟩
  refine hK4 _ ?_
  try clear hK4 K4
  refine vwp_block ?_
  refine vwp_loop_k (fun m st => ∃ i : Nat, i ≤ t.ss.length ∧ m = t.ss.length - i ∧ st = ⟨[(0, .ptr 0 4 0), (1, .int .i64 who), (2, .int .i64 now), (7, .int .i64 ((((t.ss.take i).countP fun s => decide (s.who = who) && decide (now < s.over)) : Nat) : Int)), (8, .int .i64 ((i : Nat) : Int))], t.obs⟩) t.ss.length ⟨0, by omega, by simp, by simp [RT.obs]⟩ ?_
  rintro m st ⟨i, hi, rfl, rfl⟩
  intro K5 hK5
  refine vwp_seq_k fun K6 hK6 => ?_
  refine vwp_seq_k fun K7 hK7 => ?_
  refine vwp_live [0, 1, 2, 7, 8] ?_
  try simp only [argSlots, pruneS, inN, eq_self, reduceIte, ite_true, Nat.reduceAdd, Nat.reduceBEq, Bool.or_true, Bool.true_or, Bool.or_false, Bool.false_or, if_true, if_false, Bool.false_eq_true]
  refine vwp_region hT ?_
  simp [-List.reduceReplicate, RT.obs, lenU, lenS1]
  repeat refine ⟨by first | assumption | omega | (rw [spl_length (by simp; omega)]; simp; done) | (intros; omega), ?_⟩
  refine hK7 _ ?_
  try clear hK7 K7
  refine vwp_cond (by first | rfl | (simp; rfl)) (fun h1 => ?_) (fun h1 => ?_)
  · try (exfalso; simp at h1; done)
    all_goals
      try simp at h1
      refine vwp_skip ?_
      try simp only [thenQ, inBlk]
      refine hK6 _ ?_
      try clear hK6 K6
      refine vwp_seq_k fun K8 hK8 => ?_
      refine vwp_block ?_
      refine vwp_seq_k fun K9 hK9 => ?_
      obtain ⟨x, hx⟩ : ∃ x, t.ss[i]? = some x := ⟨_, List.getElem?_eq_getElem (by omega)⟩
      obtain ⟨g0, g1, g2⟩ := getS1 hx
      have hcl := Nat.le_trans (List.countP_le_length (p := fun s : S1 => decide (s.who = who) && decide (now < s.over)) (l := t.ss.take i)) (Nat.le_of_eq (List.length_take_of_le hi))
      refine vwp_live [0, 1, 2, 7, 8] ?_
      try simp only [argSlots, pruneS, inN, eq_self, reduceIte, ite_true, Nat.reduceAdd, Nat.reduceBEq, Bool.or_true, Bool.true_or, Bool.or_false, Bool.false_or, if_true, if_false, Bool.false_eq_true]
      refine vwp_region hT ?_
      simp [-List.reduceReplicate, RT.obs, lenU, lenS1, g0, g1, g2]
      repeat refine ⟨by first | assumption | omega | (rw [spl_length (by simp; omega)]; simp; done) | (intros; omega), ?_⟩
      refine hK9 _ ?_
      try clear hK9 K9
      refine vwp_cond (by first | rfl | (simp; rfl)) (fun h2 => ?_) (fun h2 => ?_)
      · try (exfalso; simp at h2; done)
        all_goals
          try simp at h2
          refine vwp_live [0, 1, 2, 7, 8] ?_
          try simp only [argSlots, pruneS, inN, eq_self, reduceIte, ite_true, Nat.reduceAdd, Nat.reduceBEq, Bool.or_true, Bool.true_or, Bool.or_false, Bool.false_or, if_true, if_false, Bool.false_eq_true]
          refine vwp_region hT ?_
          simp [-List.reduceReplicate, RT.obs, lenU, lenS1]
          repeat refine ⟨by first | assumption | omega | (rw [spl_length (by simp; omega)]; simp; done) | (intros; omega), ?_⟩
          refine hK8 _ ?_
          try clear hK8 K8
          refine vwp_live [0, 1, 2, 7, 8] ?_
          try simp only [argSlots, pruneS, inN, eq_self, reduceIte, ite_true, Nat.reduceAdd, Nat.reduceBEq, Bool.or_true, Bool.true_or, Bool.or_false, Bool.false_or, if_true, if_false, Bool.false_eq_true]
          refine vwp_region hT ?_
          simp [-List.reduceReplicate, RT.obs, lenU, lenS1]
          repeat refine ⟨by first | assumption | omega | (rw [spl_length (by simp; omega)]; simp; done) | (intros; omega), ?_⟩
          refine hK5 _ ?_
          have hC : ((t.ss.take (i + 1)).countP fun s => decide (s.who = who) && decide (now < s.over)) = ((t.ss.take i).countP fun s => decide (s.who = who) && decide (now < s.over)) + (if x.who = who ∧ now < x.over then 1 else 0) := by
            rw [take_snoc hx, List.countP_append, List.countP_singleton]
            simp
          refine ⟨⟨[(0, .ptr 0 4 0), (1, .int .i64 who), (2, .int .i64 now), (7, .int .i64 ((((t.ss.take (i + 1)).countP fun s => decide (s.who = who) && decide (now < s.over)) : Nat) : Int)), (8, .int .i64 ((i + 1 : Nat) : Int))], t.obs⟩, ?_, t.ss.length - (i + 1), by omega, i + 1, by omega, rfl, rfl⟩
          rw [hC]
          rw [if_pos (by omega)]
          refine Gh.to [0, 1, 2, 7, 8] [0, 1, 2] _ (_) ?_ ?_ rfl ?_ ?_
          · simp
          · simp [RT.obs]
          · simp [RT.obs]
          · simp [RT.obs]; ((repeat' apply And.intro) <;> first | omega | exact w64 (by omega) (by omega))
      · try (exfalso; simp at h2; done)
        all_goals
          try simp at h2
          refine vwp_skip ?_
          try simp only [thenQ, inBlk]
          refine hK8 _ ?_
          try clear hK8 K8
          refine vwp_live [0, 1, 2, 7, 8] ?_
          try simp only [argSlots, pruneS, inN, eq_self, reduceIte, ite_true, Nat.reduceAdd, Nat.reduceBEq, Bool.or_true, Bool.true_or, Bool.or_false, Bool.false_or, if_true, if_false, Bool.false_eq_true]
          refine vwp_region hT ?_
          simp [-List.reduceReplicate, RT.obs, lenU, lenS1]
          repeat refine ⟨by first | assumption | omega | (rw [spl_length (by simp; omega)]; simp; done) | (intros; omega), ?_⟩
          refine hK5 _ ?_
          have hC : ((t.ss.take (i + 1)).countP fun s => decide (s.who = who) && decide (now < s.over)) = ((t.ss.take i).countP fun s => decide (s.who = who) && decide (now < s.over)) + (if x.who = who ∧ now < x.over then 1 else 0) := by
            rw [take_snoc hx, List.countP_append, List.countP_singleton]
            simp
          refine ⟨⟨[(0, .ptr 0 4 0), (1, .int .i64 who), (2, .int .i64 now), (7, .int .i64 ((((t.ss.take (i + 1)).countP fun s => decide (s.who = who) && decide (now < s.over)) : Nat) : Int)), (8, .int .i64 ((i + 1 : Nat) : Int))], t.obs⟩, ?_, t.ss.length - (i + 1), by omega, i + 1, by omega, rfl, rfl⟩
          rw [hC]
          rw [if_neg (by omega)]
          refine Gh.to [0, 1, 2, 7, 8] [0, 1, 2] _ (_) ?_ ?_ rfl ?_ ?_
          · simp
          · simp [RT.obs]
          · simp [RT.obs]
          · simp [RT.obs]; ((repeat' apply And.intro) <;> first | omega | exact w64 (by omega) (by omega))
  · try (exfalso; simp at h1; done)
    all_goals
      try simp at h1
      refine vwp_exit ?_
      simp only [inBlk, thenQ, if_true]
      refine hK3 _ ?_
      try clear hK3 K3
      refine vwp_seq_k fun K10 hK10 => ?_
      refine vwp_live [7] ?_
      try simp only [argSlots, pruneS, inN, eq_self, reduceIte, ite_true, Nat.reduceAdd, Nat.reduceBEq, Bool.or_true, Bool.true_or, Bool.or_false, Bool.false_or, if_true, if_false, Bool.false_eq_true]
      refine vwp_region hT ?_
      simp [-List.reduceReplicate, RT.obs, lenU, lenS1]
      repeat refine ⟨by first | assumption | omega | (rw [spl_length (by simp; omega)]; simp; done) | (intros; omega), ?_⟩
      refine hK10 _ ?_
      try clear hK10 K10
      refine vwp_ret ?_
      try simp only [thenQ, inBlk]
      refine hR _ _ ?_
      rw [List.take_of_length_le h1]
      refine ret_only [6] [0, 1, 2] (t.obs) (by simp) (by simp [RT.obs]) rfl (by simp) (r := .int .i64 (t.many who now : Nat)) (by simp [Try.f37, RT.many]) ⟨rfl, rfl⟩

def RT.add (t : RT) (name secret : ByteArray) (who : Int) : Int × RT :=
  if mayB name = false ∨ mayB secret = false ∨ who < -2 ∨ 31 < who then (1, t)
  else if 0 ≤ t.user name then (6, t) else if 50 ≤ t.us.length then (4, t) else (0, { t with us := t.us ++ [⟨name, secret, who⟩] })
theorem radd_spec (t : RT) (hl : t.us.length ≤ 100000) (name secret : ByteArray) (who : Int) : VC P 32 [.ptr 0 4 0, .str name, .str secret, .int .i64 who] t.obs (fun r ob' => r = .int .i64 (t.add name secret who).1 ∧ ob' = (t.add name secret who).2.obs) := by
  refine VC_of_vwp_k ent_32 Try.func32 rfl (by simp [Try.ntmps32]) fun R hR => ?_
  refine vwp_seq_k fun K1 hK1 => ?_
  refine vwp_live [0, 1, 2, 3] ?_
  try simp only [argSlots, pruneS, inN, eq_self, reduceIte, ite_true, Nat.reduceAdd, Nat.reduceBEq, Bool.or_true, Bool.true_or, Bool.or_false, Bool.false_or, if_true, if_false, Bool.false_eq_true]
  refine vwp_region hT ?_
  simp [-List.reduceReplicate, RT.obs, lenU, lenS1, Try.ntmps32]
  repeat refine ⟨by first | assumption | omega | (rw [spl_length (by simp; omega)]; simp; done) | (intros; omega), ?_⟩
  refine hK1 _ ?_
  try clear hK1 K1
  refine vwp_seq_k fun K2 hK2 => ?_
  refine vwp_seq_k fun K3 hK3 => ?_
  refine vwp_live [0, 1, 2, 3] ?_
  try simp only [argSlots, pruneS, inN, eq_self, reduceIte, ite_true, Nat.reduceAdd, Nat.reduceBEq, Bool.or_true, Bool.true_or, Bool.or_false, Bool.false_or, if_true, if_false, Bool.false_eq_true]
  refine vwp_region hT ?_
  simp [-List.reduceReplicate, RT.obs, lenU, lenS1]
  repeat refine ⟨by first | assumption | omega | (rw [spl_length (by simp; omega)]; simp; done) | (intros; omega), ?_⟩
  refine hK3 _ ?_
  try clear hK3 K3
  refine vwp_cond (by first | rfl | (simp; rfl)) (fun h1 => ?_) (fun h1 => ?_)
  · try (exfalso; simp at h1; done)
    all_goals
      try simp at h1
      refine vwp_seq_k fun K4 hK4 => ?_
      refine vwp_live [] ?_
      try simp only [argSlots, pruneS, inN, eq_self, reduceIte, ite_true, Nat.reduceAdd, Nat.reduceBEq, Bool.or_true, Bool.true_or, Bool.or_false, Bool.false_or, if_true, if_false, Bool.false_eq_true]
      refine vwp_region hT ?_
      simp [-List.reduceReplicate, RT.obs, lenU, lenS1]
      repeat refine ⟨by first | assumption | omega | (rw [spl_length (by simp; omega)]; simp; done) | (intros; omega), ?_⟩
      refine hK4 _ ?_
      try clear hK4 K4
      refine vwp_ret ?_
      try simp only [thenQ, inBlk]
      refine hR _ _ ?_
      have hw : t.add name secret who = (1, t) := by
        unfold RT.add mayB
        grind
      rw [hw]
      refine ret_only [8] [0, 1, 2] ((t).obs) (by simp) (by simp [RT.obs, rowsV_snoc]) rfl (by simp) (r := .int .i64 1) (by simp [Try.f32]) ⟨rfl, rfl⟩
  · try (exfalso; simp at h1; done)
    all_goals
      try simp at h1
      refine vwp_skip ?_
      try simp only [thenQ, inBlk]
      refine hK2 _ ?_
      try clear hK2 K2
      refine vwp_seq_k fun K5 hK5 => ?_
      refine vwp_seq_k fun K6 hK6 => ?_
      refine vwp_live [0, 1, 2, 3] ?_
      try simp only [argSlots, pruneS, inN, eq_self, reduceIte, ite_true, Nat.reduceAdd, Nat.reduceBEq, Bool.or_true, Bool.true_or, Bool.or_false, Bool.false_or, if_true, if_false, Bool.false_eq_true]
      refine vwp_region hT ?_
      simp [-List.reduceReplicate, RT.obs, lenU, lenS1]
      refine vcall_by0 [0, 1, 2] (user_spec t (by omega) name) (by simp) (by simp [RT.obs, lenU, lenS1]) (by simp) (by simp [RT.obs, lenU, lenS1]) ?_
      rintro r ob' ⟨rfl, rfl⟩
      simp [-List.reduceReplicate, RT.obs, lenU, lenS1]
      repeat refine ⟨by first | assumption | omega | (rw [spl_length (by simp; omega)]; simp; done) | (intros; omega), ?_⟩
      refine hK6 _ ?_
      try clear hK6 K6
      refine vwp_cond (by first | rfl | (simp; rfl)) (fun h2 => ?_) (fun h2 => ?_)
      · try (exfalso; simp at h2; done)
        all_goals
          try simp at h2
          refine vwp_seq_k fun K7 hK7 => ?_
          refine vwp_live [] ?_
          try simp only [argSlots, pruneS, inN, eq_self, reduceIte, ite_true, Nat.reduceAdd, Nat.reduceBEq, Bool.or_true, Bool.true_or, Bool.or_false, Bool.false_or, if_true, if_false, Bool.false_eq_true]
          refine vwp_region hT ?_
          simp [-List.reduceReplicate, RT.obs, lenU, lenS1]
          repeat refine ⟨by first | assumption | omega | (rw [spl_length (by simp; omega)]; simp; done) | (intros; omega), ?_⟩
          refine hK7 _ ?_
          try clear hK7 K7
          refine vwp_ret ?_
          try simp only [thenQ, inBlk]
          refine hR _ _ ?_
          have hw : t.add name secret who = (6, t) := by
            unfold RT.add mayB
            grind
          rw [hw]
          refine ret_only [8] [0, 1, 2] ((t).obs) (by simp) (by simp [RT.obs, rowsV_snoc]) rfl (by simp) (r := .int .i64 6) (by simp [Try.f32]) ⟨rfl, rfl⟩
      · try (exfalso; simp at h2; done)
        all_goals
          try simp at h2
          refine vwp_skip ?_
          try simp only [thenQ, inBlk]
          refine hK5 _ ?_
          try clear hK5 K5
          refine vwp_seq_k fun K8 hK8 => ?_
          refine vwp_seq_k fun K9 hK9 => ?_
          refine vwp_live [0, 1, 2, 3] ?_
          try simp only [argSlots, pruneS, inN, eq_self, reduceIte, ite_true, Nat.reduceAdd, Nat.reduceBEq, Bool.or_true, Bool.true_or, Bool.or_false, Bool.false_or, if_true, if_false, Bool.false_eq_true]
          refine vwp_region hT ?_
          simp [-List.reduceReplicate, RT.obs, lenU, lenS1]
          repeat refine ⟨by first | assumption | omega | (rw [spl_length (by simp; omega)]; simp; done) | (intros; omega), ?_⟩
          refine hK9 _ ?_
          try clear hK9 K9
          refine vwp_cond (by first | rfl | (simp; rfl)) (fun h3 => ?_) (fun h3 => ?_)
          · try (exfalso; simp at h3; done)
            all_goals
              try simp at h3
              refine vwp_seq_k fun K10 hK10 => ?_
              refine vwp_live [] ?_
              try simp only [argSlots, pruneS, inN, eq_self, reduceIte, ite_true, Nat.reduceAdd, Nat.reduceBEq, Bool.or_true, Bool.true_or, Bool.or_false, Bool.false_or, if_true, if_false, Bool.false_eq_true]
              refine vwp_region hT ?_
              simp [-List.reduceReplicate, RT.obs, lenU, lenS1]
              repeat refine ⟨by first | assumption | omega | (rw [spl_length (by simp; omega)]; simp; done) | (intros; omega), ?_⟩
              refine hK10 _ ?_
              try clear hK10 K10
              refine vwp_ret ?_
              try simp only [thenQ, inBlk]
              refine hR _ _ ?_
              have hw : t.add name secret who = (4, t) := by
                unfold RT.add mayB
                grind
              rw [hw]
              refine ret_only [8] [0, 1, 2] ((t).obs) (by simp) (by simp [RT.obs, rowsV_snoc]) rfl (by simp) (r := .int .i64 4) (by simp [Try.f32]) ⟨rfl, rfl⟩
          · try (exfalso; simp at h3; done)
            all_goals
              try simp at h3
              refine vwp_skip ?_
              try simp only [thenQ, inBlk]
              refine hK8 _ ?_
              try clear hK8 K8
              refine vwp_seq_k fun K11 hK11 => ?_
              refine vwp_live [0, 1, 2, 3] ?_
              try simp only [argSlots, pruneS, inN, eq_self, reduceIte, ite_true, Nat.reduceAdd, Nat.reduceBEq, Bool.or_true, Bool.true_or, Bool.or_false, Bool.false_or, if_true, if_false, Bool.false_eq_true]
              refine vwp_region hT ?_
              simp [-List.reduceReplicate, RT.obs, lenU, lenS1, zerosV, spl]
              repeat refine ⟨by first | assumption | omega | (rw [spl_length (by simp; omega)]; simp; done) | (intros; omega), ?_⟩
              refine hK11 _ ?_
              try clear hK11 K11
              refine vwp_seq_k fun K12 hK12 => ?_
              refine vwp_live [] ?_
              try simp only [argSlots, pruneS, inN, eq_self, reduceIte, ite_true, Nat.reduceAdd, Nat.reduceBEq, Bool.or_true, Bool.true_or, Bool.or_false, Bool.false_or, if_true, if_false, Bool.false_eq_true]
              refine vwp_region hT ?_
              simp [-List.reduceReplicate, RT.obs, lenU, lenS1]
              repeat refine ⟨by first | assumption | omega | (rw [spl_length (by simp; omega)]; simp; done) | (intros; omega), ?_⟩
              refine hK12 _ ?_
              try clear hK12 K12
              refine vwp_ret ?_
              try simp only [thenQ, inBlk]
              refine hR _ _ ?_
              have hw : t.add name secret who = (0, { t with us := t.us ++ [⟨name, secret, who⟩] }) := by
                unfold RT.add mayB
                grind
              rw [hw]
              refine ret_only [8] [0, 1, 2] (({ t with us := t.us ++ [(⟨name, secret, who⟩ : U)] }).obs) (by simp) (by simp [RT.obs, rowsV_snoc]; omega) rfl (by simp) (r := .int .i64 0) (by simp [Try.f32]) ⟨rfl, rfl⟩

theorem RT.at_none {t : RT} {tok now : Int} (h : t.at tok now < 0) : ∀ x ∈ t.ss, ¬ (x.tok = tok ∧ now < x.over) := by
  unfold RT.at at h
  rcases hf : t.ss.findIdx? fun s => decide (s.tok = tok ∧ now < s.over) with _ | i
  · intro x hx
    rw [List.findIdx?_eq_none_iff] at hf
    simpa using hf x hx
  · rw [hf] at h; simp only [oI] at h; omega
theorem RT.at_some {t : RT} {tok now : Int} (h : ¬ t.at tok now < 0) : ∃ (i : Nat) (x : S1), t.at tok now = i ∧ i < t.ss.length ∧ t.ss[i]? = some x ∧ x.tok = tok ∧ now < x.over := by
  unfold RT.at at h ⊢
  rcases hf : t.ss.findIdx? fun s => decide (s.tok = tok ∧ now < s.over) with _ | i
  · rw [hf] at h; exact absurd (by simp [oI]) h
  · obtain ⟨hi, h1, _⟩ := List.findIdx?_eq_some_iff_getElem.1 hf
    exact ⟨i, t.ss[i], by rw [hf]; rfl, hi, List.getElem?_eq_getElem hi, by simpa using h1⟩
theorem RT.user_some {t : RT} {name : ByteArray} (h : ¬ t.user name < 0) : ∃ (i : Nat) (x : U), t.user name = i ∧ i < t.us.length ∧ t.us[i]? = some x ∧ x.name.toList = name.toList := by
  unfold RT.user at h ⊢
  rcases hf : t.us.findIdx? fun u => decide (u.name.toList = name.toList) with _ | i
  · rw [hf] at h; exact absurd (by simp [oI]) h
  · obtain ⟨hi, h1, _⟩ := List.findIdx?_eq_some_iff_getElem.1 hf
    exact ⟨i, t.us[i], by rw [hf]; rfl, hi, List.getElem?_eq_getElem hi, by simpa using h1⟩
theorem RT.obsG_nil (t : RT) : t.obsG [] = t.obs := rfl
def RT.who (t : RT) (tok now : Int) : Int × Int := if t.at tok now < 0 then (0, 11) else match t.ss[(t.at tok now).toNat]? with
  | some x => (x.who, 0)
  | none => (0, 0)
def RT.logout (t : RT) (tok now : Int) : Int × RT := if t.at tok now < 0 then (11, t) else (0, t.out tok)
def RT.push (t : RT) (s : S1) : RT := { t with ss := t.ss ++ [s] }
def RT.login (t : RT) (name secret : ByteArray) (draw now : Int) : (Int × Int) × RT :=
  if now < 0 ∨ 1099511627776 < now then ((0, 1), t) else
  if t.user name < 0 then ((0, 11), t) else
  match t.us[(t.user name).toNat]? with
  | none => ((0, 11), t)
  | some u => if u.secret.toList ≠ secret.toList then ((0, 11), t) else if ¬ t.at draw now < 0 then ((0, 6), t) else
    if t.quota ≤ t.many u.who now then ((0, 4), t) else ((draw, 0), (t.out draw).push ⟨draw, u.who, now + t.life⟩)
theorem rwho_spec (t : RT) (hl : t.ss.length ≤ 100000) (tok now : Int) : VC P 35 [.ptr 0 4 0, .int .i64 tok, .int .i64 now] t.obs (fun r ob' => r = .tup [.int .i64 (t.who tok now).1, .int .i64 (t.who tok now).2] ∧ ob' = t.obs) := by
  refine VC_of_vwp_k ent_35 Try.func35 rfl (by simp [Try.ntmps35]) fun R hR => ?_
  refine vwp_seq_k fun K1 hK1 => ?_
  refine vwp_live [0, 1, 2] ?_
  try simp only [argSlots, pruneS, inN, eq_self, reduceIte, ite_true, Nat.reduceAdd, Nat.reduceBEq, Bool.or_true, Bool.true_or, Bool.or_false, Bool.false_or, if_true, if_false, Bool.false_eq_true]
  refine vwp_region hT ?_
  simp [-List.reduceReplicate, RT.obs, lenU, lenS1, Try.ntmps35]
  repeat refine ⟨by first | assumption | omega | (rw [spl_length (by simp; omega)]; simp; done) | (intros; omega), ?_⟩
  refine hK1 _ ?_
  try clear hK1 K1
  refine vwp_seq_k fun K2 hK2 => ?_
  refine vwp_live [0, 1, 2] ?_
  try simp only [argSlots, pruneS, inN, eq_self, reduceIte, ite_true, Nat.reduceAdd, Nat.reduceBEq, Bool.or_true, Bool.true_or, Bool.or_false, Bool.false_or, if_true, if_false, Bool.false_eq_true]
  refine vwp_region hT ?_
  simp [-List.reduceReplicate, RT.obs, lenU, lenS1]
  refine vcall_by0 [0, 1, 2] (at_spec t (by omega) tok now) (by simp) (by simp [RT.obs, lenU, lenS1]) (by simp) (by simp [RT.obs, lenU, lenS1]) ?_
  rintro r ob' ⟨rfl, rfl⟩
  simp [-List.reduceReplicate, RT.obs, lenU, lenS1]
  repeat refine ⟨by first | assumption | omega | (rw [spl_length (by simp; omega)]; simp; done) | (intros; omega), ?_⟩
  refine hK2 _ ?_
  try clear hK2 K2
  refine vwp_seq_k fun K3 hK3 => ?_
  refine vwp_seq_k fun K4 hK4 => ?_
  refine vwp_live [0, 8] ?_
  try simp only [argSlots, pruneS, inN, eq_self, reduceIte, ite_true, Nat.reduceAdd, Nat.reduceBEq, Bool.or_true, Bool.true_or, Bool.or_false, Bool.false_or, if_true, if_false, Bool.false_eq_true]
  refine vwp_region hT ?_
  simp [-List.reduceReplicate, RT.obs, lenU, lenS1]
  repeat refine ⟨by first | assumption | omega | (rw [spl_length (by simp; omega)]; simp; done) | (intros; omega), ?_⟩
  refine hK4 _ ?_
  try clear hK4 K4
  refine vwp_cond (by first | rfl | (simp; rfl)) (fun h1 => ?_) (fun h1 => ?_)
  · try (exfalso; simp at h1; done)
    all_goals
      try simp at h1
      refine vwp_seq_k fun K5 hK5 => ?_
      refine vwp_live [] ?_
      try simp only [argSlots, pruneS, inN, eq_self, reduceIte, ite_true, Nat.reduceAdd, Nat.reduceBEq, Bool.or_true, Bool.true_or, Bool.or_false, Bool.false_or, if_true, if_false, Bool.false_eq_true]
      refine vwp_region hT ?_
      simp [-List.reduceReplicate, RT.obs, lenU, lenS1]
      repeat refine ⟨by first | assumption | omega | (rw [spl_length (by simp; omega)]; simp; done) | (intros; omega), ?_⟩
      refine hK5 _ ?_
      try clear hK5 K5
      refine vwp_ret ?_
      try simp only [thenQ, inBlk]
      refine hR _ _ ?_
      have hw : t.who tok now = (0, 11) := by
        unfold RT.who
        rw [if_pos (by omega)]
      rw [hw]
      refine ret_only [6, 7] [0, 1, 2] (t.obs) (by simp) (by simp [RT.obs]) rfl (by simp) (r := .tup [.int .i64 0, .int .i64 11]) (by simp [Try.f35]) ⟨rfl, rfl⟩
  · try (exfalso; simp at h1; done)
    all_goals
      try simp at h1
      refine vwp_skip ?_
      try simp only [thenQ, inBlk]
      refine hK3 _ ?_
      try clear hK3 K3
      refine vwp_seq_k fun K6 hK6 => ?_
      have h1' := h1
      obtain ⟨i, x, e, hxl, hx, _⟩ := RT.at_some (by omega : ¬ t.at tok now < 0)
      rw [e]
      obtain ⟨g0, g1, g2⟩ := getS1 hx
      refine vwp_live [0, 8] ?_
      try simp only [argSlots, pruneS, inN, eq_self, reduceIte, ite_true, Nat.reduceAdd, Nat.reduceBEq, Bool.or_true, Bool.true_or, Bool.or_false, Bool.false_or, if_true, if_false, Bool.false_eq_true]
      refine vwp_region hT ?_
      simp [-List.reduceReplicate, RT.obs, lenU, lenS1, g0, g1, g2]
      repeat refine ⟨by first | assumption | omega | (rw [spl_length (by simp; omega)]; simp; done) | (intros; omega), ?_⟩
      refine hK6 _ ?_
      try clear hK6 K6
      refine vwp_ret ?_
      try simp only [thenQ, inBlk]
      refine hR _ _ ?_
      have hw : t.who tok now = (x.who, 0) := by
        unfold RT.who
        rw [e, if_neg (by omega)]
        simp [hx]
      rw [hw]
      refine ret_only [6, 7] [0, 1, 2] (t.obs) (by simp) (by simp [RT.obs]) rfl (by simp) (r := .tup [.int .i64 x.who, .int .i64 0]) (by simp [Try.f35]) ⟨rfl, rfl⟩
theorem rlogout_spec (t : RT) (hl : t.ss.length ≤ 100000) (tok now : Int) : VC P 34 [.ptr 0 4 0, .int .i64 tok, .int .i64 now] t.obs (fun r ob' => r = .int .i64 (t.logout tok now).1 ∧ ob' = (t.logout tok now).2.obsG (if t.at tok now < 0 then [] else [.live (rowsV t.ss)])) := by
  refine VC_of_vwp_k ent_34 Try.func34 rfl (by simp [Try.ntmps34]) fun R hR => ?_
  refine vwp_seq_k fun K1 hK1 => ?_
  refine vwp_live [0, 1, 2] ?_
  try simp only [argSlots, pruneS, inN, eq_self, reduceIte, ite_true, Nat.reduceAdd, Nat.reduceBEq, Bool.or_true, Bool.true_or, Bool.or_false, Bool.false_or, if_true, if_false, Bool.false_eq_true]
  refine vwp_region hT ?_
  simp [-List.reduceReplicate, RT.obs, lenU, lenS1, Try.ntmps34]
  repeat refine ⟨by first | assumption | omega | (rw [spl_length (by simp; omega)]; simp; done) | (intros; omega), ?_⟩
  refine hK1 _ ?_
  try clear hK1 K1
  refine vwp_seq_k fun K2 hK2 => ?_
  refine vwp_seq_k fun K3 hK3 => ?_
  refine vwp_live [0, 1, 2] ?_
  try simp only [argSlots, pruneS, inN, eq_self, reduceIte, ite_true, Nat.reduceAdd, Nat.reduceBEq, Bool.or_true, Bool.true_or, Bool.or_false, Bool.false_or, if_true, if_false, Bool.false_eq_true]
  refine vwp_region hT ?_
  simp [-List.reduceReplicate, RT.obs, lenU, lenS1]
  refine vcall_by0 [0, 1, 2] (at_spec t (by omega) tok now) (by simp) (by simp [RT.obs, lenU, lenS1]) (by simp) (by simp [RT.obs, lenU, lenS1]) ?_
  rintro r ob' ⟨rfl, rfl⟩
  simp [-List.reduceReplicate, RT.obs, lenU, lenS1]
  repeat refine ⟨by first | assumption | omega | (rw [spl_length (by simp; omega)]; simp; done) | (intros; omega), ?_⟩
  refine hK3 _ ?_
  try clear hK3 K3
  refine vwp_cond (by first | rfl | (simp; rfl)) (fun h1 => ?_) (fun h1 => ?_)
  · try (exfalso; simp at h1; done)
    all_goals
      try simp at h1
      refine vwp_seq_k fun K4 hK4 => ?_
      refine vwp_live [] ?_
      try simp only [argSlots, pruneS, inN, eq_self, reduceIte, ite_true, Nat.reduceAdd, Nat.reduceBEq, Bool.or_true, Bool.true_or, Bool.or_false, Bool.false_or, if_true, if_false, Bool.false_eq_true]
      refine vwp_region hT ?_
      simp [-List.reduceReplicate, RT.obs, lenU, lenS1]
      repeat refine ⟨by first | assumption | omega | (rw [spl_length (by simp; omega)]; simp; done) | (intros; omega), ?_⟩
      refine hK4 _ ?_
      try clear hK4 K4
      refine vwp_ret ?_
      try simp only [thenQ, inBlk]
      refine hR _ _ ?_
      have hw : t.logout tok now = (11, t) := by
        unfold RT.logout
        rw [if_pos (by omega)]
      rw [hw, if_pos (by omega)]
      refine ret_only [6] [0, 1, 2] (t.obs) (by simp) (by simp [RT.obs]) rfl (by simp) (r := .int .i64 11) (by simp [Try.f34]) ⟨rfl, rfl⟩
  · try (exfalso; simp at h1; done)
    all_goals
      try simp at h1
      refine vwp_skip ?_
      try simp only [thenQ, inBlk]
      refine hK2 _ ?_
      try clear hK2 K2
      refine vwp_seq_k fun K5 hK5 => ?_
      refine vwp_live [0, 1] ?_
      try simp only [argSlots, pruneS, inN, eq_self, reduceIte, ite_true, Nat.reduceAdd, Nat.reduceBEq, Bool.or_true, Bool.true_or, Bool.or_false, Bool.false_or, if_true, if_false, Bool.false_eq_true]
      refine vwp_region hT ?_
      simp [-List.reduceReplicate, RT.obs, lenU, lenS1, RT.obsG]
      refine vcall_by0 [0, 1, 2] (out_spec t (by omega) tok) (by simp) (by simp [RT.obs, lenU, lenS1]) (by simp) (by simp [RT.obs, lenU, lenS1]) ?_
      rintro r ob' rfl
      simp [-List.reduceReplicate, RT.obs, lenU, lenS1, RT.obsG]
      repeat refine ⟨by first | assumption | omega | (rw [spl_length (by simp; omega)]; simp; done) | (intros; omega), ?_⟩
      refine hK5 _ ?_
      try clear hK5 K5
      refine vwp_seq_k fun K6 hK6 => ?_
      refine vwp_live [] ?_
      try simp only [argSlots, pruneS, inN, eq_self, reduceIte, ite_true, Nat.reduceAdd, Nat.reduceBEq, Bool.or_true, Bool.true_or, Bool.or_false, Bool.false_or, if_true, if_false, Bool.false_eq_true]
      refine vwp_region hT ?_
      simp [-List.reduceReplicate, RT.obs, lenU, lenS1]
      repeat refine ⟨by first | assumption | omega | (rw [spl_length (by simp; omega)]; simp; done) | (intros; omega), ?_⟩
      refine hK6 _ ?_
      try clear hK6 K6
      refine vwp_ret ?_
      try simp only [thenQ, inBlk]
      refine hR _ _ ?_
      have hw : t.logout tok now = (0, t.out tok) := by
        unfold RT.logout
        rw [if_neg (by omega)]
      rw [hw, if_neg (by omega)]
      refine ret_only [6] [0, 1, 2, 3] ((t.out tok).obsG [.live (rowsV t.ss)]) (by simp) (by simp [RT.obs, RT.obsG, RT.out]) rfl (by simp) (r := .int .i64 0) (by simp [Try.f34]) ⟨rfl, rfl⟩
theorem rlogin_spec (t : RT) (hl : t.ss.length ≤ 100000) (hu : t.us.length ≤ 100000) (hf1 : 1 ≤ t.life) (hf2 : t.life ≤ 1099511627776) (name secret : ByteArray) (draw now : Int) : VC P 33 [.ptr 0 4 0, .str name, .str secret, .int .i64 draw, .int .i64 now] t.obs (fun r ob' => r = .tup [.int .i64 (t.login name secret draw now).1.1, .int .i64 (t.login name secret draw now).1.2] ∧ ob' = (t.login name secret draw now).2.obsG (if (t.login name secret draw now).1.2 = 0 then [.live (rowsV t.ss)] else [])) := by
  refine VC_of_vwp_k ent_33 Try.func33 rfl (by simp [Try.ntmps33]) fun R hR => ?_
  refine vwp_seq_k fun K1 hK1 => ?_
  refine vwp_live [0, 1, 2, 3, 4] ?_
  try simp only [argSlots, pruneS, inN, eq_self, reduceIte, ite_true, Nat.reduceAdd, Nat.reduceBEq, Bool.or_true, Bool.true_or, Bool.or_false, Bool.false_or, if_true, if_false, Bool.false_eq_true]
  refine vwp_region hT ?_
  simp [-List.reduceReplicate, RT.obs, lenU, lenS1, Try.ntmps33]
  repeat refine ⟨by first | assumption | omega | (rw [spl_length (by simp; omega)]; simp; done) | (intros; omega), ?_⟩
  refine hK1 _ ?_
  try clear hK1 K1
  refine vwp_seq_k fun K2 hK2 => ?_
  refine vwp_seq_k fun K3 hK3 => ?_
  refine vwp_live [0, 1, 2, 3, 4] ?_
  try simp only [argSlots, pruneS, inN, eq_self, reduceIte, ite_true, Nat.reduceAdd, Nat.reduceBEq, Bool.or_true, Bool.true_or, Bool.or_false, Bool.false_or, if_true, if_false, Bool.false_eq_true]
  refine vwp_region hT ?_
  simp [-List.reduceReplicate, RT.obs, lenU, lenS1]
  repeat refine ⟨by first | assumption | omega | (rw [spl_length (by simp; omega)]; simp; done) | (intros; omega), ?_⟩
  refine hK3 _ ?_
  try clear hK3 K3
  refine vwp_cond (by first | rfl | (simp; rfl)) (fun h1 => ?_) (fun h1 => ?_)
  · try (exfalso; simp at h1; done)
    all_goals
      try simp at h1
      refine vwp_seq_k fun K4 hK4 => ?_
      refine vwp_live [] ?_
      try simp only [argSlots, pruneS, inN, eq_self, reduceIte, ite_true, Nat.reduceAdd, Nat.reduceBEq, Bool.or_true, Bool.true_or, Bool.or_false, Bool.false_or, if_true, if_false, Bool.false_eq_true]
      refine vwp_region hT ?_
      simp [-List.reduceReplicate, RT.obs, lenU, lenS1]
      repeat refine ⟨by first | assumption | omega | (rw [spl_length (by simp; omega)]; simp; done) | (intros; omega), ?_⟩
      refine hK4 _ ?_
      try clear hK4 K4
      refine vwp_ret ?_
      try simp only [thenQ, inBlk]
      refine hR _ _ ?_
      have hw : t.login name secret draw now = ((0, 1), t) := by
        unfold RT.login
        
        grind
      rw [hw]
      refine ret_only [10, 11] [0, 1, 2] (t.obs) (by simp) (by simp [RT.obs]) rfl (by simp) (r := .tup [.int .i64 (0), .int .i64 (1)]) (by simp [Try.f33]) ⟨rfl, rfl⟩
  · try (exfalso; simp at h1; done)
    all_goals
      try simp at h1
      refine vwp_skip ?_
      try simp only [thenQ, inBlk]
      refine hK2 _ ?_
      try clear hK2 K2
      refine vwp_seq_k fun K5 hK5 => ?_
      refine vwp_live [0, 1, 2, 3, 4] ?_
      try simp only [argSlots, pruneS, inN, eq_self, reduceIte, ite_true, Nat.reduceAdd, Nat.reduceBEq, Bool.or_true, Bool.true_or, Bool.or_false, Bool.false_or, if_true, if_false, Bool.false_eq_true]
      refine vwp_region hT ?_
      simp [-List.reduceReplicate, RT.obs, lenU, lenS1]
      refine vcall_by0 [0, 1, 2] (user_spec t (by omega) name) (by simp) (by simp [RT.obs, lenU, lenS1]) (by simp) (by simp [RT.obs, lenU, lenS1]) ?_
      rintro r ob' ⟨rfl, rfl⟩
      simp [-List.reduceReplicate, RT.obs, lenU, lenS1]
      repeat refine ⟨by first | assumption | omega | (rw [spl_length (by simp; omega)]; simp; done) | (intros; omega), ?_⟩
      refine hK5 _ ?_
      try clear hK5 K5
      refine vwp_seq_k fun K6 hK6 => ?_
      refine vwp_seq_k fun K7 hK7 => ?_
      by_cases hun : t.user name < 0
      · refine vwp_live [0, 2, 3, 4, 12] ?_
        try simp only [argSlots, pruneS, inN, eq_self, reduceIte, ite_true, Nat.reduceAdd, Nat.reduceBEq, Bool.or_true, Bool.true_or, Bool.or_false, Bool.false_or, if_true, if_false, Bool.false_eq_true]
        refine vwp_regionI hT ?_
        simp [-List.reduceReplicate, RT.obs, lenU, lenS1, hun]
        repeat refine ⟨by first | assumption | omega | (rw [spl_length (by simp; omega)]; simp; done) | (intros; omega), ?_⟩
        refine hK7 _ ?_
        try clear hK7 K7
        refine vwp_cond (by first | rfl | (simp; rfl)) (fun h2 => ?_) (fun h2 => ?_)
        · try (exfalso; simp at h2; done)
          all_goals
            try simp at h2
            refine vwp_seq_k fun K8 hK8 => ?_
            refine vwp_live [] ?_
            try simp only [argSlots, pruneS, inN, eq_self, reduceIte, ite_true, Nat.reduceAdd, Nat.reduceBEq, Bool.or_true, Bool.true_or, Bool.or_false, Bool.false_or, if_true, if_false, Bool.false_eq_true]
            refine vwp_region hT ?_
            simp [-List.reduceReplicate, RT.obs, lenU, lenS1]
            repeat refine ⟨by first | assumption | omega | (rw [spl_length (by simp; omega)]; simp; done) | (intros; omega), ?_⟩
            refine hK8 _ ?_
            try clear hK8 K8
            refine vwp_ret ?_
            try simp only [thenQ, inBlk]
            refine hR _ _ ?_
            have hw : t.login name secret draw now = ((0, 11), t) := by
              unfold RT.login
              
              grind
            rw [hw]
            refine ret_only [10, 11] [0, 1, 2] (t.obs) (by simp) (by simp [RT.obs]) rfl (by simp) (r := .tup [.int .i64 (0), .int .i64 (11)]) (by simp [Try.f33]) ⟨rfl, rfl⟩
        · try (exfalso; simp at h2; done)
          all_goals
            try simp at h2
            refine vwp_skip ?_
            try simp only [thenQ, inBlk]
            refine hK6 _ ?_
            try clear hK6 K6
            refine vwp_seq_k fun K9 hK9 => ?_
            refine vwp_seq_k fun K10 hK10 => ?_
            refine vwp_live [0, 3, 4, 12] ?_
            try simp only [argSlots, pruneS, inN, eq_self, reduceIte, ite_true, Nat.reduceAdd, Nat.reduceBEq, Bool.or_true, Bool.true_or, Bool.or_false, Bool.false_or, if_true, if_false, Bool.false_eq_true]
            refine vwp_region hT ?_
            simp [-List.reduceReplicate, RT.obs, lenU, lenS1]
            refine vcall_by0 [0, 1, 2] (at_spec t (by omega) draw now) (by simp) (by simp [RT.obs, lenU, lenS1]) (by simp) (by simp [RT.obs, lenU, lenS1]) ?_
            rintro r ob' ⟨rfl, rfl⟩
            simp [-List.reduceReplicate, RT.obs, lenU, lenS1]
            repeat refine ⟨by first | assumption | omega | (rw [spl_length (by simp; omega)]; simp; done) | (intros; omega), ?_⟩
            refine hK10 _ ?_
            try clear hK10 K10
            refine vwp_cond (by first | rfl | (simp; rfl)) (fun h3 => ?_) (fun h3 => ?_)
            · try (exfalso; simp at h3; done)
              all_goals
                try simp at h3
                refine vwp_seq_k fun K11 hK11 => ?_
                refine vwp_live [] ?_
                try simp only [argSlots, pruneS, inN, eq_self, reduceIte, ite_true, Nat.reduceAdd, Nat.reduceBEq, Bool.or_true, Bool.true_or, Bool.or_false, Bool.false_or, if_true, if_false, Bool.false_eq_true]
                refine vwp_region hT ?_
                simp [-List.reduceReplicate, RT.obs, lenU, lenS1]
                repeat refine ⟨by first | assumption | omega | (rw [spl_length (by simp; omega)]; simp; done) | (intros; omega), ?_⟩
                refine hK11 _ ?_
                try clear hK11 K11
                refine vwp_ret ?_
                try simp only [thenQ, inBlk]
                refine hR _ _ ?_
                have hw : t.login name secret draw now = ((0, 6), t) := by
                  unfold RT.login
                  rw [e]
                  grind
                rw [hw]
                refine ret_only [10, 11] [0, 1, 2] (t.obs) (by simp) (by simp [RT.obs]) rfl (by simp) (r := .tup [.int .i64 (0), .int .i64 (6)]) (by simp [Try.f33]) ⟨rfl, rfl⟩
            · try (exfalso; simp at h3; done)
              all_goals
                try simp at h3
                refine vwp_skip ?_
                try simp only [thenQ, inBlk]
                refine hK9 _ ?_
                try clear hK9 K9
                refine vwp_seq_k fun K12 hK12 => ?_
                refine vwp_seq_k fun K13 hK13 => ?_
                refine vwp_live [0, 3, 4, 12] ?_
                try simp only [argSlots, pruneS, inN, eq_self, reduceIte, ite_true, Nat.reduceAdd, Nat.reduceBEq, Bool.or_true, Bool.true_or, Bool.or_false, Bool.false_or, if_true, if_false, Bool.false_eq_true]
                refine vwp_calm hT hm (by kernel_rfl) ?_
                simp [-List.reduceReplicate, RT.obs, lenU, lenS1, g0, g1, g2]
                repeat refine ⟨by omega, ?_⟩
                refine ⟨.int .i64 (t.many u.who now : Nat), fun sl => ?_, ?_⟩
                · refine vcall_by0 [0, 1, 2] (rmany_spec t hl u.who now) (by simp) (by simp [RT.obs, lenU, lenS1]) (by simp) (by simp [RT.obs, lenU, lenS1]) ?_
                  rintro r ob' ⟨rfl, rfl⟩
                  simp [RT.obs]
                simp [-List.reduceReplicate, RT.obs, lenU, lenS1, g0, g1, g2]
                repeat refine ⟨by first | assumption | omega | (rw [spl_length (by simp; omega)]; simp; done) | (intros; omega), ?_⟩
                refine hK13 _ ?_
                try clear hK13 K13
                refine vwp_cond (by first | rfl | (simp; rfl)) (fun h4 => ?_) (fun h4 => ?_)
                · try (exfalso; simp at h4; done)
                  all_goals
                    try simp at h4
                    refine vwp_seq_k fun K14 hK14 => ?_
                    refine vwp_live [] ?_
                    try simp only [argSlots, pruneS, inN, eq_self, reduceIte, ite_true, Nat.reduceAdd, Nat.reduceBEq, Bool.or_true, Bool.true_or, Bool.or_false, Bool.false_or, if_true, if_false, Bool.false_eq_true]
                    refine vwp_region hT ?_
                    simp [-List.reduceReplicate, RT.obs, lenU, lenS1]
                    repeat refine ⟨by first | assumption | omega | (rw [spl_length (by simp; omega)]; simp; done) | (intros; omega), ?_⟩
                    refine hK14 _ ?_
                    try clear hK14 K14
                    refine vwp_ret ?_
                    try simp only [thenQ, inBlk]
                    refine hR _ _ ?_
                    have hw : t.login name secret draw now = ((0, 4), t) := by
                      unfold RT.login
                      rw [e]
                      grind
                    rw [hw]
                    refine ret_only [10, 11] [0, 1, 2] (t.obs) (by simp) (by simp [RT.obs]) rfl (by simp) (r := .tup [.int .i64 (0), .int .i64 (4)]) (by simp [Try.f33]) ⟨rfl, rfl⟩
                · try (exfalso; simp at h4; done)
                  all_goals
                    try simp at h4
                    refine vwp_skip ?_
                    try simp only [thenQ, inBlk]
                    refine hK12 _ ?_
                    try clear hK12 K12
                    refine vwp_seq_k fun K15 hK15 => ?_
                    refine vwp_live [0, 3, 4, 12] ?_
                    try simp only [argSlots, pruneS, inN, eq_self, reduceIte, ite_true, Nat.reduceAdd, Nat.reduceBEq, Bool.or_true, Bool.true_or, Bool.or_false, Bool.false_or, if_true, if_false, Bool.false_eq_true]
                    refine vwp_region hT ?_
                    simp [-List.reduceReplicate, RT.obs, lenU, lenS1, RT.obsG]
                    refine vcall_by0 [0, 1, 2] (out_spec t (by omega) draw) (by simp) (by simp [RT.obs, lenU, lenS1]) (by simp) (by simp [RT.obs, lenU, lenS1]) ?_
                    rintro r ob' rfl
                    simp [-List.reduceReplicate, RT.obs, lenU, lenS1, RT.obsG]
                    repeat refine ⟨by first | assumption | omega | (rw [spl_length (by simp; omega)]; simp; done) | (intros; omega), ?_⟩
                    refine hK15 _ ?_
                    try clear hK15 K15
                    refine vwp_seq_k fun K16 hK16 => ?_
                    have hol := t.out_len draw
                    have w1 : IntKind.i64.wrap (now + t.life) = now + t.life := w64 (by omega) (by omega)
                    refine vwp_live [0, 3, 4, 12] ?_
                    try simp only [argSlots, pruneS, inN, eq_self, reduceIte, ite_true, Nat.reduceAdd, Nat.reduceBEq, Bool.or_true, Bool.true_or, Bool.or_false, Bool.false_or, if_true, if_false, Bool.false_eq_true]
                    refine vwp_storm hT hm [.pure, .pure, .win 0 1, .win 0 1, .win 0 1, .pure, .pure, .win 0 0, .win 0 0, .win 0 0, .pure, .win 0 0, .win 0 0, .win 0 0, .pure, .pure, .win 0 0, .win 0 0, .win 0 0, .win 0 0, .win 0 0, .mv, .mv, .win 2 2, .win 2 2, .mv] [[], [], [1], [1, 2], [1, 2, 3], [], [], [6], [6, 7], [6, 7, 8], [], [6, 7, 8, 9, 10], [6, 7, 8, 9, 10, 11], [6, 7, 8, 9, 10, 11, 12], [], [], [15], [15, 16], [15, 16, 17], [14, 15, 16, 17, 18], [5, 6, 7, 8, 9, 10, 11, 12, 13, 14, 15, 16, 17, 18, 19], [5, 6, 7, 8, 9, 10, 11, 12, 13, 14, 15, 16, 17, 18, 19, 20], [1, 2, 3, 4, 5, 6, 7, 8, 9, 10, 11, 12, 13, 14, 15, 16, 17, 18, 19, 20, 21], [0, 1, 2, 3, 4, 5, 6, 7, 8, 9, 10, 11, 12, 13, 14, 15, 16, 17, 18, 19, 20, 21, 22], [0, 1, 2, 3, 4, 5, 6, 7, 8, 9, 10, 11, 12, 13, 14, 15, 16, 17, 18, 19, 20, 21, 22, 23], [0, 1, 2, 3, 4, 5, 6, 7, 8, 9, 10, 11, 12, 13, 14, 15, 16, 17, 18, 19, 20, 21, 22, 23, 24]] (by kernel_rfl) ?_
                    simp [-List.reduceReplicate, RT.obs, lenU, lenS1, g0, g1, g2, zerosV, spl, w1]
                    repeat refine ⟨by first | assumption | omega | (rw [spl_length (by simp; omega)]; simp; done) | (intros; omega), ?_⟩
                    refine hK16 _ ?_
                    try clear hK16 K16
                    refine vwp_seq_k fun K17 hK17 => ?_
                    refine vwp_live [3] ?_
                    try simp only [argSlots, pruneS, inN, eq_self, reduceIte, ite_true, Nat.reduceAdd, Nat.reduceBEq, Bool.or_true, Bool.true_or, Bool.or_false, Bool.false_or, if_true, if_false, Bool.false_eq_true]
                    refine vwp_region hT ?_
                    simp [-List.reduceReplicate, RT.obs, lenU, lenS1]
                    repeat refine ⟨by first | assumption | omega | (rw [spl_length (by simp; omega)]; simp; done) | (intros; omega), ?_⟩
                    refine hK17 _ ?_
                    try clear hK17 K17
                    refine vwp_ret ?_
                    try simp only [thenQ, inBlk]
                    refine hR _ _ ?_
                    trace_state
                    have hw : t.login name secret draw now = ((draw, 0), (t.out draw).push ⟨draw, u.who, now + t.life⟩) := by
                      unfold RT.login
                      rw [e]
                      grind
                    rw [hw]
                    refine ret_only [10, 11] [0, 1, 2, 3] (((t.out draw).push ⟨draw, u.who, now + t.life⟩).obsG [.live (rowsV t.ss)]) (by simp) (by simp [RT.obs, RT.obsG, RT.out, RT.push, rowsV_snoc]; omega) rfl (by simp) (r := .tup [.int .i64 (draw), .int .i64 (0)]) (by simp [Try.f33]) ⟨rfl, rfl⟩
      · obtain ⟨i, u, e, hxl, hx, _⟩ := RT.user_some hun
        rw [e]
        obtain ⟨g0, g1, g2⟩ := getU hx
        have hi0 : ¬ (i : Int) < 0 := by omega
        refine vwp_live [0, 2, 3, 4, 12] ?_
        try simp only [argSlots, pruneS, inN, eq_self, reduceIte, ite_true, Nat.reduceAdd, Nat.reduceBEq, Bool.or_true, Bool.true_or, Bool.or_false, Bool.false_or, if_true, if_false, Bool.false_eq_true]
        refine vwp_region hT ?_
        simp [-List.reduceReplicate, RT.obs, lenU, lenS1, g0, g1, g2, hi0]
        repeat refine ⟨by first | assumption | omega | (rw [spl_length (by simp; omega)]; simp; done) | (intros; omega), ?_⟩
        refine hK7 _ ?_
        try clear hK7 K7
        refine vwp_cond (by first | rfl | (simp; rfl)) (fun h5 => ?_) (fun h5 => ?_)
        · try (exfalso; simp at h5; done)
          all_goals
            try simp at h5
            refine vwp_seq_k fun K18 hK18 => ?_
            refine vwp_live [] ?_
            try simp only [argSlots, pruneS, inN, eq_self, reduceIte, ite_true, Nat.reduceAdd, Nat.reduceBEq, Bool.or_true, Bool.true_or, Bool.or_false, Bool.false_or, if_true, if_false, Bool.false_eq_true]
            refine vwp_region hT ?_
            simp [-List.reduceReplicate, RT.obs, lenU, lenS1]
            repeat refine ⟨by first | assumption | omega | (rw [spl_length (by simp; omega)]; simp; done) | (intros; omega), ?_⟩
            refine hK18 _ ?_
            try clear hK18 K18
            refine vwp_ret ?_
            try simp only [thenQ, inBlk]
            refine hR _ _ ?_
            have hw : t.login name secret draw now = ((0, 11), t) := by
              unfold RT.login
              
              grind
            rw [hw]
            refine ret_only [10, 11] [0, 1, 2] (t.obs) (by simp) (by simp [RT.obs]) rfl (by simp) (r := .tup [.int .i64 (0), .int .i64 (11)]) (by simp [Try.f33]) ⟨rfl, rfl⟩
        · try (exfalso; simp at h5; done)
          all_goals
            try simp at h5
            refine vwp_skip ?_
            try simp only [thenQ, inBlk]
            refine hK6 _ ?_
            try clear hK6 K6
            refine vwp_seq_k fun K19 hK19 => ?_
            refine vwp_seq_k fun K20 hK20 => ?_
            refine vwp_live [0, 3, 4, 12] ?_
            try simp only [argSlots, pruneS, inN, eq_self, reduceIte, ite_true, Nat.reduceAdd, Nat.reduceBEq, Bool.or_true, Bool.true_or, Bool.or_false, Bool.false_or, if_true, if_false, Bool.false_eq_true]
            refine vwp_region hT ?_
            simp [-List.reduceReplicate, RT.obs, lenU, lenS1]
            refine vcall_by0 [0, 1, 2] (at_spec t (by omega) draw now) (by simp) (by simp [RT.obs, lenU, lenS1]) (by simp) (by simp [RT.obs, lenU, lenS1]) ?_
            rintro r ob' ⟨rfl, rfl⟩
            simp [-List.reduceReplicate, RT.obs, lenU, lenS1]
            repeat refine ⟨by first | assumption | omega | (rw [spl_length (by simp; omega)]; simp; done) | (intros; omega), ?_⟩
            refine hK20 _ ?_
            try clear hK20 K20
            refine vwp_cond (by first | rfl | (simp; rfl)) (fun h6 => ?_) (fun h6 => ?_)
            · try (exfalso; simp at h6; done)
              all_goals
                try simp at h6
                refine vwp_seq_k fun K21 hK21 => ?_
                refine vwp_live [] ?_
                try simp only [argSlots, pruneS, inN, eq_self, reduceIte, ite_true, Nat.reduceAdd, Nat.reduceBEq, Bool.or_true, Bool.true_or, Bool.or_false, Bool.false_or, if_true, if_false, Bool.false_eq_true]
                refine vwp_region hT ?_
                simp [-List.reduceReplicate, RT.obs, lenU, lenS1]
                repeat refine ⟨by first | assumption | omega | (rw [spl_length (by simp; omega)]; simp; done) | (intros; omega), ?_⟩
                refine hK21 _ ?_
                try clear hK21 K21
                refine vwp_ret ?_
                try simp only [thenQ, inBlk]
                refine hR _ _ ?_
                have hw : t.login name secret draw now = ((0, 6), t) := by
                  unfold RT.login
                  rw [e]
                  grind
                rw [hw]
                refine ret_only [10, 11] [0, 1, 2] (t.obs) (by simp) (by simp [RT.obs]) rfl (by simp) (r := .tup [.int .i64 (0), .int .i64 (6)]) (by simp [Try.f33]) ⟨rfl, rfl⟩
            · try (exfalso; simp at h6; done)
              all_goals
                try simp at h6
                refine vwp_skip ?_
                try simp only [thenQ, inBlk]
                refine hK19 _ ?_
                try clear hK19 K19
                refine vwp_seq_k fun K22 hK22 => ?_
                refine vwp_seq_k fun K23 hK23 => ?_
                refine vwp_live [0, 3, 4, 12] ?_
                try simp only [argSlots, pruneS, inN, eq_self, reduceIte, ite_true, Nat.reduceAdd, Nat.reduceBEq, Bool.or_true, Bool.true_or, Bool.or_false, Bool.false_or, if_true, if_false, Bool.false_eq_true]
                refine vwp_calm hT hm (by kernel_rfl) ?_
                simp [-List.reduceReplicate, RT.obs, lenU, lenS1, g0, g1, g2]
                repeat refine ⟨by omega, ?_⟩
                refine ⟨.int .i64 (t.many u.who now : Nat), fun sl => ?_, ?_⟩
                · refine vcall_by0 [0, 1, 2] (rmany_spec t hl u.who now) (by simp) (by simp [RT.obs, lenU, lenS1]) (by simp) (by simp [RT.obs, lenU, lenS1]) ?_
                  rintro r ob' ⟨rfl, rfl⟩
                  simp [RT.obs]
                simp [-List.reduceReplicate, RT.obs, lenU, lenS1, g0, g1, g2]
                repeat refine ⟨by first | assumption | omega | (rw [spl_length (by simp; omega)]; simp; done) | (intros; omega), ?_⟩
                refine hK23 _ ?_
                try clear hK23 K23
                refine vwp_cond (by first | rfl | (simp; rfl)) (fun h7 => ?_) (fun h7 => ?_)
                · try (exfalso; simp at h7; done)
                  all_goals
                    try simp at h7
                    refine vwp_seq_k fun K24 hK24 => ?_
                    refine vwp_live [] ?_
                    try simp only [argSlots, pruneS, inN, eq_self, reduceIte, ite_true, Nat.reduceAdd, Nat.reduceBEq, Bool.or_true, Bool.true_or, Bool.or_false, Bool.false_or, if_true, if_false, Bool.false_eq_true]
                    refine vwp_region hT ?_
                    simp [-List.reduceReplicate, RT.obs, lenU, lenS1]
                    repeat refine ⟨by first | assumption | omega | (rw [spl_length (by simp; omega)]; simp; done) | (intros; omega), ?_⟩
                    refine hK24 _ ?_
                    try clear hK24 K24
                    refine vwp_ret ?_
                    try simp only [thenQ, inBlk]
                    refine hR _ _ ?_
                    have hw : t.login name secret draw now = ((0, 4), t) := by
                      unfold RT.login
                      rw [e]
                      grind
                    rw [hw]
                    refine ret_only [10, 11] [0, 1, 2] (t.obs) (by simp) (by simp [RT.obs]) rfl (by simp) (r := .tup [.int .i64 (0), .int .i64 (4)]) (by simp [Try.f33]) ⟨rfl, rfl⟩
                · try (exfalso; simp at h7; done)
                  all_goals
                    try simp at h7
                    refine vwp_skip ?_
                    try simp only [thenQ, inBlk]
                    refine hK22 _ ?_
                    try clear hK22 K22
                    refine vwp_seq_k fun K25 hK25 => ?_
                    refine vwp_live [0, 3, 4, 12] ?_
                    try simp only [argSlots, pruneS, inN, eq_self, reduceIte, ite_true, Nat.reduceAdd, Nat.reduceBEq, Bool.or_true, Bool.true_or, Bool.or_false, Bool.false_or, if_true, if_false, Bool.false_eq_true]
                    refine vwp_region hT ?_
                    simp [-List.reduceReplicate, RT.obs, lenU, lenS1, RT.obsG]
                    refine vcall_by0 [0, 1, 2] (out_spec t (by omega) draw) (by simp) (by simp [RT.obs, lenU, lenS1]) (by simp) (by simp [RT.obs, lenU, lenS1]) ?_
                    rintro r ob' rfl
                    simp [-List.reduceReplicate, RT.obs, lenU, lenS1, RT.obsG]
                    repeat refine ⟨by first | assumption | omega | (rw [spl_length (by simp; omega)]; simp; done) | (intros; omega), ?_⟩
                    refine hK25 _ ?_
                    try clear hK25 K25
                    refine vwp_seq_k fun K26 hK26 => ?_
                    have hol := t.out_len draw
                    have w1 : IntKind.i64.wrap (now + t.life) = now + t.life := w64 (by omega) (by omega)
                    refine vwp_live [0, 3, 4, 12] ?_
                    try simp only [argSlots, pruneS, inN, eq_self, reduceIte, ite_true, Nat.reduceAdd, Nat.reduceBEq, Bool.or_true, Bool.true_or, Bool.or_false, Bool.false_or, if_true, if_false, Bool.false_eq_true]
                    refine vwp_storm hT hm [.pure, .pure, .win 0 1, .win 0 1, .win 0 1, .pure, .pure, .win 0 0, .win 0 0, .win 0 0, .pure, .win 0 0, .win 0 0, .win 0 0, .pure, .pure, .win 0 0, .win 0 0, .win 0 0, .win 0 0, .win 0 0, .mv, .mv, .win 2 2, .win 2 2, .mv] [[], [], [1], [1, 2], [1, 2, 3], [], [], [6], [6, 7], [6, 7, 8], [], [6, 7, 8, 9, 10], [6, 7, 8, 9, 10, 11], [6, 7, 8, 9, 10, 11, 12], [], [], [15], [15, 16], [15, 16, 17], [14, 15, 16, 17, 18], [5, 6, 7, 8, 9, 10, 11, 12, 13, 14, 15, 16, 17, 18, 19], [5, 6, 7, 8, 9, 10, 11, 12, 13, 14, 15, 16, 17, 18, 19, 20], [1, 2, 3, 4, 5, 6, 7, 8, 9, 10, 11, 12, 13, 14, 15, 16, 17, 18, 19, 20, 21], [0, 1, 2, 3, 4, 5, 6, 7, 8, 9, 10, 11, 12, 13, 14, 15, 16, 17, 18, 19, 20, 21, 22], [0, 1, 2, 3, 4, 5, 6, 7, 8, 9, 10, 11, 12, 13, 14, 15, 16, 17, 18, 19, 20, 21, 22, 23], [0, 1, 2, 3, 4, 5, 6, 7, 8, 9, 10, 11, 12, 13, 14, 15, 16, 17, 18, 19, 20, 21, 22, 23, 24]] (by kernel_rfl) ?_
                    simp [-List.reduceReplicate, RT.obs, lenU, lenS1, g0, g1, g2, zerosV, spl, w1]
                    repeat refine ⟨by first | assumption | omega | (rw [spl_length (by simp; omega)]; simp; done) | (intros; omega), ?_⟩
                    refine hK26 _ ?_
                    try clear hK26 K26
                    refine vwp_seq_k fun K27 hK27 => ?_
                    refine vwp_live [3] ?_
                    try simp only [argSlots, pruneS, inN, eq_self, reduceIte, ite_true, Nat.reduceAdd, Nat.reduceBEq, Bool.or_true, Bool.true_or, Bool.or_false, Bool.false_or, if_true, if_false, Bool.false_eq_true]
                    refine vwp_region hT ?_
                    simp [-List.reduceReplicate, RT.obs, lenU, lenS1]
                    repeat refine ⟨by first | assumption | omega | (rw [spl_length (by simp; omega)]; simp; done) | (intros; omega), ?_⟩
                    refine hK27 _ ?_
                    try clear hK27 K27
                    refine vwp_ret ?_
                    try simp only [thenQ, inBlk]
                    refine hR _ _ ?_
                    trace_state
                    have hw : t.login name secret draw now = ((draw, 0), (t.out draw).push ⟨draw, u.who, now + t.life⟩) := by
                      unfold RT.login
                      rw [e]
                      grind
                    rw [hw]
                    refine ret_only [10, 11] [0, 1, 2, 3] (((t.out draw).push ⟨draw, u.who, now + t.life⟩).obsG [.live (rowsV t.ss)]) (by simp) (by simp [RT.obs, RT.obsG, RT.out, RT.push, rowsV_snoc]; omega) rfl (by simp) (r := .tup [.int .i64 (draw), .int .i64 (0)]) (by simp [Try.f33]) ⟨rfl, rfl⟩
end Go.Proofs.Ytibhpkolbffdaaa
