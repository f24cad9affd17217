/- What the functions of session make of a table. -/
import Derived.Test.YtibhpkolbffdaaaSess0
namespace Go.Proofs.Ytibhpkolbffdaaa
open Go Go.VX Go.RowKit
set_option linter.unusedVariables false
set_option linter.unusedSimpArgs false
set_option maxHeartbeats 20000000
set_option maxRecDepth 100000

def PT.find (t : PT) (tok now : Int) : Option S1 :=
  match fIdx (fun s => tok == s.tok) t.ss 0 with
  | some (_, s) => if now < s.over then some s else none
  | none => none
/-- What find answers: what lies there, and whether it counts. -/
def PT.raw (t : PT) (tok : Int) : Int × Int :=
  match fIdx (fun s => tok == s.tok) t.ss 0 with
  | some (_, s) => (s.who, s.over)
  | none => (0, 0)
theorem find_spec (t : PT) (tok now : Int) : VC P 48 [.ptr 0 4 0, .int .i64 tok, .int .i64 now] t.obs (fun r ob' => r = .tup [.agg [.int .i64 (t.raw tok).1, .int .i64 (t.raw tok).2], .bool (t.find tok now).isSome] ∧ ob' = t.obs) := by
  refine VC_of_vwp_c hT ent_48 Try.func48 rfl (by simp [Try.ntmps48]) fun R hR => ?_
  refine vwp_seq_k fun K1 hK1 => ?_
  refine vwp_live [0, 1, 2] ?_
  try simp only [argSlots, pruneS, inN, eq_self, reduceIte, ite_true, Nat.reduceAdd, Nat.reduceBEq, Bool.or_true, Bool.true_or, Bool.or_false, Bool.false_or, if_true, if_false, Bool.false_eq_true]
  refine vwp_region hT ?_
  simp [-List.reduceReplicate, PT.obs, Try.ntmps48]
  repeat refine ⟨by first | assumption | omega | (rw [spl_length (by simp; omega)]; simp; done) | (intros; omega), ?_⟩
  refine hK1 _ ?_
  try clear hK1 K1
  refine vwp_seq_k fun K2 hK2 => ?_
  rcases hq : fIdx (fun s => tok == s.tok) t.ss 0 with _ | ⟨i, s⟩
  · refine vwp_live [0, 1, 2, 6] ?_
    try simp only [argSlots, pruneS, inN, eq_self, reduceIte, ite_true, Nat.reduceAdd, Nat.reduceBEq, Bool.or_true, Bool.true_or, Bool.or_false, Bool.false_or, if_true, if_false, Bool.false_eq_true]
    refine vwp_region hT ?_
    simp [-List.reduceReplicate, PT.obs, vfindK_S, hq]
    repeat refine ⟨by first | assumption | omega | (rw [spl_length (by simp; omega)]; simp; done) | (intros; omega), ?_⟩
    refine hK2 _ ?_
    try clear hK2 K2
    refine vwp_seq_k fun K3 hK3 => ?_
    refine vwp_live [2, 6, 8, 9] ?_
    try simp only [argSlots, pruneS, inN, eq_self, reduceIte, ite_true, Nat.reduceAdd, Nat.reduceBEq, Bool.or_true, Bool.true_or, Bool.or_false, Bool.false_or, if_true, if_false, Bool.false_eq_true]
    refine vwp_storm hT hm [.win 0 0, .pure, .pure, .pure, .win 0 1, .win 0 1, .win 0 1, .pure, .mv, .pure] [[], [], [1], [1, 2], [1, 2], [1, 2, 4], [1, 2, 3, 4, 5], [1, 2, 3, 4, 5, 6], [0, 1, 2], [0, 1, 2, 3, 4, 5, 6, 7, 8]] (by kernel_rfl) ?_
    simp [-List.reduceReplicate, PT.obs]
    repeat refine ⟨by first | assumption | omega | (rw [spl_length (by simp; omega)]; simp; done) | (intros; omega), ?_⟩
    refine hK3 _ ?_
    try clear hK3 K3
    refine vwp_ret ?_
    try simp only [thenQ, inBlk]
    refine hR _ _ ?_
    refine retc_only [0, 1, 2] (t.obs) (p := True) (xs := [.agg [.int .i64 (t.raw tok).1, .int .i64 (t.raw tok).2], .bool (t.find tok now).isSome]) (xs' := [.agg [.int .i64 (t.raw tok).1, .int .i64 (t.raw tok).2], .bool (t.find tok now).isSome]) ?_ trivial (by simp) ?_ rfl ?_ ?_ rfl (by simp) ⟨rfl, rfl⟩
    · simp [Try.f48, PT.raw, PT.find, hq]
    · simp [PT.obs]
    · simp
    · simp
  · refine vwp_live [0, 1, 2, 6] ?_
    try simp only [argSlots, pruneS, inN, eq_self, reduceIte, ite_true, Nat.reduceAdd, Nat.reduceBEq, Bool.or_true, Bool.true_or, Bool.or_false, Bool.false_or, if_true, if_false, Bool.false_eq_true]
    refine vwp_region hT ?_
    simp [-List.reduceReplicate, PT.obs, vfindK_S, hq]
    repeat refine ⟨by first | assumption | omega | (rw [spl_length (by simp; omega)]; simp; done) | (intros; omega), ?_⟩
    refine hK2 _ ?_
    try clear hK2 K2
    refine vwp_seq_k fun K4 hK4 => ?_
    refine vwp_live [2, 6, 8, 9] ?_
    try simp only [argSlots, pruneS, inN, eq_self, reduceIte, ite_true, Nat.reduceAdd, Nat.reduceBEq, Bool.or_true, Bool.true_or, Bool.or_false, Bool.false_or, if_true, if_false, Bool.false_eq_true]
    refine vwp_storm hT hm [.win 0 0, .pure, .pure, .pure, .win 0 1, .win 0 1, .win 0 1, .pure, .mv, .pure] [[], [], [1], [1, 2], [1, 2], [1, 2, 4], [1, 2, 3, 4, 5], [1, 2, 3, 4, 5, 6], [0, 1, 2], [0, 1, 2, 3, 4, 5, 6, 7, 8]] (by kernel_rfl) ?_
    simp [-List.reduceReplicate, PT.obs]
    repeat refine ⟨by first | assumption | omega | (rw [spl_length (by simp; omega)]; simp; done) | (intros; omega), ?_⟩
    refine hK4 _ ?_
    try clear hK4 K4
    refine vwp_ret ?_
    try simp only [thenQ, inBlk]
    refine hR _ _ ?_
    by_cases hns : now < s.over
    · refine retc_only [0, 1, 2] (t.obs) (p := True) (xs := [.agg [.int .i64 (t.raw tok).1, .int .i64 (t.raw tok).2], .bool (t.find tok now).isSome]) (xs' := [.agg [.int .i64 (t.raw tok).1, .int .i64 (t.raw tok).2], .bool (t.find tok now).isSome]) ?_ trivial (by simp) ?_ rfl ?_ ?_ rfl (by simp) ⟨rfl, rfl⟩
      · simp [Try.f48, PT.raw, PT.find, hq, hns]
      · simp [PT.obs]
      · simp
      · simp
    · refine retc_only [0, 1, 2] (t.obs) (p := True) (xs := [.agg [.int .i64 (t.raw tok).1, .int .i64 (t.raw tok).2], .bool (t.find tok now).isSome]) (xs' := [.agg [.int .i64 (t.raw tok).1, .int .i64 (t.raw tok).2], .bool (t.find tok now).isSome]) ?_ trivial (by simp) ?_ rfl ?_ ?_ rfl (by simp) ⟨rfl, rfl⟩
      · simp [Try.f48, PT.raw, PT.find, hq, hns]
      · simp [PT.obs]
      · simp
      · simp
theorem PT.find_raw {t : PT} {tok now : Int} {s : S1} (h : t.find tok now = some s) : t.raw tok = (s.who, s.over) := by
  unfold PT.find at h
  unfold PT.raw
  split at h
  · split at h
    · cases h; simp_all
    · cases h
  · cases h
def PT.who (t : PT) (tok now : Int) : Int × Int := match t.find tok now with
  | some s => (s.who, 0)
  | none => (0, 11)
def PT.logout (t : PT) (tok now : Int) : Int × PT := match fIdx (fun s => tok == s.tok) t.ss 0 with
  | some (i, s) => if now < s.over then (0, { t with ss := t.ss.eraseIdx i, sbs := t.sbs.eraseIdx i }) else (11, t)
  | none => (11, t)
theorem who_spec (t : PT) (tok now : Int) : VC P 38 [.ptr 0 4 0, .int .i64 tok, .int .i64 now] t.obs (fun r ob' => r = .tup [.int .i64 (t.who tok now).1, .int .i64 (t.who tok now).2] ∧ ob' = t.obs) := by
  refine VC_of_vwp_k ent_38 Try.func38 rfl (by simp [Try.ntmps38]) fun R hR => ?_
  refine vwp_seq_k fun K1 hK1 => ?_
  refine vwp_live [0, 1, 2] ?_
  try simp only [argSlots, pruneS, inN, eq_self, reduceIte, ite_true, Nat.reduceAdd, Nat.reduceBEq, Bool.or_true, Bool.true_or, Bool.or_false, Bool.false_or, if_true, if_false, Bool.false_eq_true]
  refine vwp_region hT ?_
  simp [-List.reduceReplicate, PT.obs, Try.ntmps38]
  repeat refine ⟨by first | assumption | omega | (rw [spl_length (by simp; omega)]; simp; done) | (intros; omega), ?_⟩
  refine hK1 _ ?_
  try clear hK1 K1
  refine vwp_seq_k fun K2 hK2 => ?_
  rcases hf : t.find tok now with _ | s
  · refine vwp_live [0, 1, 2] ?_
    try simp only [argSlots, pruneS, inN, eq_self, reduceIte, ite_true, Nat.reduceAdd, Nat.reduceBEq, Bool.or_true, Bool.true_or, Bool.or_false, Bool.false_or, if_true, if_false, Bool.false_eq_true]
    refine vwp_region hT ?_
    simp [-List.reduceReplicate, PT.obs, hf]
    refine vcall_by0 [0, 1, 2] (find_spec t tok now) (by simp) (by simp [PT.obs]) (by simp) (by simp [PT.obs]) ?_
    rintro r ob' ⟨rfl, rfl⟩
    simp [-List.reduceReplicate, PT.obs, hf]
    repeat refine ⟨by first | assumption | omega | (rw [spl_length (by simp; omega)]; simp; done) | (intros; omega), ?_⟩
    refine hK2 _ ?_
    try clear hK2 K2
    refine vwp_seq_k fun K3 hK3 => ?_
    refine vwp_seq_k fun K4 hK4 => ?_
    refine vwp_live [8, 9] ?_
    try simp only [argSlots, pruneS, inN, eq_self, reduceIte, ite_true, Nat.reduceAdd, Nat.reduceBEq, Bool.or_true, Bool.true_or, Bool.or_false, Bool.false_or, if_true, if_false, Bool.false_eq_true]
    refine vwp_region hT ?_
    simp [-List.reduceReplicate, PT.obs]
    repeat refine ⟨by first | assumption | omega | (rw [spl_length (by simp; omega)]; simp; done) | (intros; omega), ?_⟩
    refine hK4 _ ?_
    try clear hK4 K4
    refine vwp_cond (by first | rfl | (simp; rfl)) (fun h1 => ?_) (fun h1 => ?_)
    · try (exfalso; simp at h1; done)
      all_goals
        try simp at h1
        refine vwp_seq_k fun K5 hK5 => ?_
        refine vwp_live [] ?_
        try simp only [argSlots, pruneS, inN, eq_self, reduceIte, ite_true, Nat.reduceAdd, Nat.reduceBEq, Bool.or_true, Bool.true_or, Bool.or_false, Bool.false_or, if_true, if_false, Bool.false_eq_true]
        refine vwp_region hT ?_
        simp [-List.reduceReplicate, PT.obs]
        repeat refine ⟨by first | assumption | omega | (rw [spl_length (by simp; omega)]; simp; done) | (intros; omega), ?_⟩
        refine hK5 _ ?_
        try clear hK5 K5
        refine vwp_ret ?_
        try simp only [thenQ, inBlk]
        refine hR _ _ ?_
        refine ret_only [6, 7] [0, 1, 2] (t.obs) (by simp) (by simp [PT.obs]) rfl (by simp) (r := .tup [.int .i64 0, .int .i64 11]) (by simp [Try.f38]) ?_
        simp [PT.who, hf]
    · try (exfalso; simp at h1; done)
      all_goals
        try simp at h1
        refine vwp_skip ?_
        try simp only [thenQ, inBlk]
        refine hK3 _ ?_
        try clear hK3 K3
        refine vwp_seq_k fun K6 hK6 => ?_
        refine vwp_live [8] ?_
        try simp only [argSlots, pruneS, inN, eq_self, reduceIte, ite_true, Nat.reduceAdd, Nat.reduceBEq, Bool.or_true, Bool.true_or, Bool.or_false, Bool.false_or, if_true, if_false, Bool.false_eq_true]
        refine vwp_region hT ?_
        simp [-List.reduceReplicate, PT.obs]
        repeat refine ⟨by first | assumption | omega | (rw [spl_length (by simp; omega)]; simp; done) | (intros; omega), ?_⟩
        refine hK6 _ ?_
        try clear hK6 K6
        refine vwp_ret ?_
        try simp only [thenQ, inBlk]
        refine hR _ _ ?_
        refine ret_only [6, 7] [0, 1, 2] (t.obs) (by simp) (by simp [PT.obs]) rfl (by simp) (r := .tup [.int .i64 s.who, .int .i64 0]) (by simp [Try.f38]) ?_
        simp [PT.who, hf]
  · have hr := PT.find_raw hf
    refine vwp_live [0, 1, 2] ?_
    try simp only [argSlots, pruneS, inN, eq_self, reduceIte, ite_true, Nat.reduceAdd, Nat.reduceBEq, Bool.or_true, Bool.true_or, Bool.or_false, Bool.false_or, if_true, if_false, Bool.false_eq_true]
    refine vwp_region hT ?_
    simp [-List.reduceReplicate, PT.obs, hf, hr]
    refine vcall_by0 [0, 1, 2] (find_spec t tok now) (by simp) (by simp [PT.obs]) (by simp) (by simp [PT.obs]) ?_
    rintro r ob' ⟨rfl, rfl⟩
    simp [-List.reduceReplicate, PT.obs, hf, hr]
    repeat refine ⟨by first | assumption | omega | (rw [spl_length (by simp; omega)]; simp; done) | (intros; omega), ?_⟩
    refine hK2 _ ?_
    try clear hK2 K2
    refine vwp_seq_k fun K7 hK7 => ?_
    refine vwp_seq_k fun K8 hK8 => ?_
    refine vwp_live [8, 9] ?_
    try simp only [argSlots, pruneS, inN, eq_self, reduceIte, ite_true, Nat.reduceAdd, Nat.reduceBEq, Bool.or_true, Bool.true_or, Bool.or_false, Bool.false_or, if_true, if_false, Bool.false_eq_true]
    refine vwp_region hT ?_
    simp [-List.reduceReplicate, PT.obs]
    repeat refine ⟨by first | assumption | omega | (rw [spl_length (by simp; omega)]; simp; done) | (intros; omega), ?_⟩
    refine hK8 _ ?_
    try clear hK8 K8
    refine vwp_cond (by first | rfl | (simp; rfl)) (fun h2 => ?_) (fun h2 => ?_)
    · try (exfalso; simp at h2; done)
      all_goals
        try simp at h2
        refine vwp_seq_k fun K9 hK9 => ?_
        refine vwp_live [] ?_
        try simp only [argSlots, pruneS, inN, eq_self, reduceIte, ite_true, Nat.reduceAdd, Nat.reduceBEq, Bool.or_true, Bool.true_or, Bool.or_false, Bool.false_or, if_true, if_false, Bool.false_eq_true]
        refine vwp_region hT ?_
        simp [-List.reduceReplicate, PT.obs]
        repeat refine ⟨by first | assumption | omega | (rw [spl_length (by simp; omega)]; simp; done) | (intros; omega), ?_⟩
        refine hK9 _ ?_
        try clear hK9 K9
        refine vwp_ret ?_
        try simp only [thenQ, inBlk]
        refine hR _ _ ?_
        refine ret_only [6, 7] [0, 1, 2] (t.obs) (by simp) (by simp [PT.obs]) rfl (by simp) (r := .tup [.int .i64 0, .int .i64 11]) (by simp [Try.f38]) ?_
        simp [PT.who, hf]
    · try (exfalso; simp at h2; done)
      all_goals
        try simp at h2
        refine vwp_skip ?_
        try simp only [thenQ, inBlk]
        refine hK7 _ ?_
        try clear hK7 K7
        refine vwp_seq_k fun K10 hK10 => ?_
        refine vwp_live [8] ?_
        try simp only [argSlots, pruneS, inN, eq_self, reduceIte, ite_true, Nat.reduceAdd, Nat.reduceBEq, Bool.or_true, Bool.true_or, Bool.or_false, Bool.false_or, if_true, if_false, Bool.false_eq_true]
        refine vwp_region hT ?_
        simp [-List.reduceReplicate, PT.obs]
        repeat refine ⟨by first | assumption | omega | (rw [spl_length (by simp; omega)]; simp; done) | (intros; omega), ?_⟩
        refine hK10 _ ?_
        try clear hK10 K10
        refine vwp_ret ?_
        try simp only [thenQ, inBlk]
        refine hR _ _ ?_
        refine ret_only [6, 7] [0, 1, 2] (t.obs) (by simp) (by simp [PT.obs]) rfl (by simp) (r := .tup [.int .i64 s.who, .int .i64 0]) (by simp [Try.f38]) ?_
        simp [PT.who, hf]
theorem logout_spec (t : PT) (tok now : Int) : VC P 41 [.ptr 0 4 0, .int .i64 tok, .int .i64 now] t.obs (fun r ob' => r = .int .i64 (t.logout tok now).1 ∧ ob' = (t.logout tok now).2.obs) := by
  rcases hq : fIdx (fun s => tok == s.tok) t.ss 0 with _ | ⟨i, s⟩
  · refine VC_of_vwp_k ent_41 Try.func41 rfl (by simp [Try.ntmps41]) fun R hR => ?_
    refine vwp_seq_k fun K1 hK1 => ?_
    refine vwp_live [0, 1, 2] ?_
    try simp only [argSlots, pruneS, inN, eq_self, reduceIte, ite_true, Nat.reduceAdd, Nat.reduceBEq, Bool.or_true, Bool.true_or, Bool.or_false, Bool.false_or, if_true, if_false, Bool.false_eq_true]
    refine vwp_region hT ?_
    simp [-List.reduceReplicate, PT.obs, Try.ntmps41]
    repeat refine ⟨by first | assumption | omega | (rw [spl_length (by simp; omega)]; simp; done) | (intros; omega), ?_⟩
    refine hK1 _ ?_
    try clear hK1 K1
    refine vwp_seq_k fun K2 hK2 => ?_
    refine vwp_seq_k fun K3 hK3 => ?_
    have hf : t.find tok now = none := by simp [PT.find, hq]
    refine vwp_live [0, 1, 2] ?_
    try simp only [argSlots, pruneS, inN, eq_self, reduceIte, ite_true, Nat.reduceAdd, Nat.reduceBEq, Bool.or_true, Bool.true_or, Bool.or_false, Bool.false_or, if_true, if_false, Bool.false_eq_true]
    refine vwp_region hT ?_
    simp [-List.reduceReplicate, PT.obs, hf]
    refine vcall_by0 [0, 1, 2] (find_spec t tok now) (by simp) (by simp [PT.obs]) (by simp) (by simp [PT.obs]) ?_
    rintro r ob' ⟨rfl, rfl⟩
    simp [-List.reduceReplicate, PT.obs, hf]
    repeat refine ⟨by first | assumption | omega | (rw [spl_length (by simp; omega)]; simp; done) | (intros; omega), ?_⟩
    refine hK3 _ ?_
    try clear hK3 K3
    refine vwp_seq_k fun K4 hK4 => ?_
    refine vwp_live [0, 1, 8] ?_
    try simp only [argSlots, pruneS, inN, eq_self, reduceIte, ite_true, Nat.reduceAdd, Nat.reduceBEq, Bool.or_true, Bool.true_or, Bool.or_false, Bool.false_or, if_true, if_false, Bool.false_eq_true]
    refine vwp_region hT ?_
    simp [-List.reduceReplicate, PT.obs]
    repeat refine ⟨by first | assumption | omega | (rw [spl_length (by simp; omega)]; simp; done) | (intros; omega), ?_⟩
    refine hK4 _ ?_
    try clear hK4 K4
    refine vwp_cond (by first | rfl | (simp; rfl)) (fun h1 => ?_) (fun h1 => ?_)
    · try (exfalso; simp at h1; done)
      all_goals
        try simp at h1
        refine vwp_seq_k fun K5 hK5 => ?_
        refine vwp_live [] ?_
        try simp only [argSlots, pruneS, inN, eq_self, reduceIte, ite_true, Nat.reduceAdd, Nat.reduceBEq, Bool.or_true, Bool.true_or, Bool.or_false, Bool.false_or, if_true, if_false, Bool.false_eq_true]
        refine vwp_region hT ?_
        simp [-List.reduceReplicate, PT.obs]
        repeat refine ⟨by first | assumption | omega | (rw [spl_length (by simp; omega)]; simp; done) | (intros; omega), ?_⟩
        refine hK5 _ ?_
        try clear hK5 K5
        refine vwp_ret ?_
        try simp only [thenQ, inBlk]
        refine hR _ _ ?_
        refine ret_only [6] [0, 1, 2] (t.obs) (by simp) (by simp [PT.obs]) rfl (by simp) (r := .int .i64 11) (by simp [Try.f41]) ?_
        simp [PT.logout, hq]
    · try (exfalso; simp at h1; done)
      all_goals
        try simp at h1
        refine vwp_skip ?_
        try simp only [thenQ, inBlk]
        refine hK2 _ ?_
        try clear hK2 K2
        refine vwp_seq_k fun K6 hK6 => ?_
        skip
  by_cases hns : now < s.over
  · refine VC_of_vwp_k ent_41 Try.func41 rfl (by simp [Try.ntmps41]) fun R hR => ?_
    refine vwp_seq_k fun K1 hK1 => ?_
    refine vwp_live [0, 1, 2] ?_
    try simp only [argSlots, pruneS, inN, eq_self, reduceIte, ite_true, Nat.reduceAdd, Nat.reduceBEq, Bool.or_true, Bool.true_or, Bool.or_false, Bool.false_or, if_true, if_false, Bool.false_eq_true]
    refine vwp_region hT ?_
    simp [-List.reduceReplicate, PT.obs, Try.ntmps41]
    repeat refine ⟨by first | assumption | omega | (rw [spl_length (by simp; omega)]; simp; done) | (intros; omega), ?_⟩
    refine hK1 _ ?_
    try clear hK1 K1
    refine vwp_seq_k fun K2 hK2 => ?_
    refine vwp_seq_k fun K3 hK3 => ?_
    have hf : t.find tok now = some s := by simp [PT.find, hq, hns]
    have hr := PT.find_raw hf
    refine vwp_live [0, 1, 2] ?_
    try simp only [argSlots, pruneS, inN, eq_self, reduceIte, ite_true, Nat.reduceAdd, Nat.reduceBEq, Bool.or_true, Bool.true_or, Bool.or_false, Bool.false_or, if_true, if_false, Bool.false_eq_true]
    refine vwp_region hT ?_
    simp [-List.reduceReplicate, PT.obs, hf, hr]
    refine vcall_by0 [0, 1, 2] (find_spec t tok now) (by simp) (by simp [PT.obs]) (by simp) (by simp [PT.obs]) ?_
    rintro r ob' ⟨rfl, rfl⟩
    simp [-List.reduceReplicate, PT.obs, hf, hr]
    repeat refine ⟨by first | assumption | omega | (rw [spl_length (by simp; omega)]; simp; done) | (intros; omega), ?_⟩
    refine hK3 _ ?_
    try clear hK3 K3
    refine vwp_seq_k fun K4 hK4 => ?_
    refine vwp_live [0, 1, 8] ?_
    try simp only [argSlots, pruneS, inN, eq_self, reduceIte, ite_true, Nat.reduceAdd, Nat.reduceBEq, Bool.or_true, Bool.true_or, Bool.or_false, Bool.false_or, if_true, if_false, Bool.false_eq_true]
    refine vwp_region hT ?_
    simp [-List.reduceReplicate, PT.obs]
    repeat refine ⟨by first | assumption | omega | (rw [spl_length (by simp; omega)]; simp; done) | (intros; omega), ?_⟩
    refine hK4 _ ?_
    try clear hK4 K4
    refine vwp_cond (by first | rfl | (simp; rfl)) (fun h1 => ?_) (fun h1 => ?_)
    · try (exfalso; simp at h1; done)
      all_goals
        try simp at h1
        refine vwp_seq_k fun K5 hK5 => ?_
        refine vwp_live [] ?_
        try simp only [argSlots, pruneS, inN, eq_self, reduceIte, ite_true, Nat.reduceAdd, Nat.reduceBEq, Bool.or_true, Bool.true_or, Bool.or_false, Bool.false_or, if_true, if_false, Bool.false_eq_true]
        refine vwp_region hT ?_
        simp [-List.reduceReplicate, PT.obs]
        repeat refine ⟨by first | assumption | omega | (rw [spl_length (by simp; omega)]; simp; done) | (intros; omega), ?_⟩
        refine hK5 _ ?_
        try clear hK5 K5
        refine vwp_ret ?_
        try simp only [thenQ, inBlk]
        refine hR _ _ ?_
        refine ret_only [6] [0, 1, 2] ((t.logout tok now).2.obs) (by simp) (by simp [PT.obs, PT.logout, hq, hns, map_eraseIdx]) rfl (by simp) (r := .int .i64 0) (by simp [Try.f41, PT.logout, hq, hns, map_eraseIdx]) ?_
        simp [PT.logout, hq, hns]
    · try (exfalso; simp at h1; done)
      all_goals
        try simp at h1
        refine vwp_skip ?_
        try simp only [thenQ, inBlk]
        refine hK2 _ ?_
        try clear hK2 K2
        refine vwp_seq_k fun K6 hK6 => ?_
        refine vwp_live [0, 1] ?_
        try simp only [argSlots, pruneS, inN, eq_self, reduceIte, ite_true, Nat.reduceAdd, Nat.reduceBEq, Bool.or_true, Bool.true_or, Bool.or_false, Bool.false_or, if_true, if_false, Bool.false_eq_true]
        refine vwp_region hT ?_
        simp [-List.reduceReplicate, PT.obs, vfindK_S, hq]
        repeat refine ⟨by first | assumption | omega | (rw [spl_length (by simp; omega)]; simp; done) | (intros; omega), ?_⟩
        refine hK6 _ ?_
        try clear hK6 K6
        refine vwp_seq_k fun K7 hK7 => ?_
        refine vwp_live [] ?_
        try simp only [argSlots, pruneS, inN, eq_self, reduceIte, ite_true, Nat.reduceAdd, Nat.reduceBEq, Bool.or_true, Bool.true_or, Bool.or_false, Bool.false_or, if_true, if_false, Bool.false_eq_true]
        refine vwp_region hT ?_
        simp [-List.reduceReplicate, PT.obs]
        repeat refine ⟨by first | assumption | omega | (rw [spl_length (by simp; omega)]; simp; done) | (intros; omega), ?_⟩
        refine hK7 _ ?_
        try clear hK7 K7
        refine vwp_ret ?_
        try simp only [thenQ, inBlk]
        refine hR _ _ ?_
        refine ret_only [6] [0, 1, 2] ((t.logout tok now).2.obs) (by simp) (by simp [PT.obs, PT.logout, hq, hns, map_eraseIdx]) rfl (by simp) (r := .int .i64 0) (by simp [Try.f41, PT.logout, hq, hns, map_eraseIdx]) ?_
        simp [PT.logout, hq, hns]
  · refine VC_of_vwp_k ent_41 Try.func41 rfl (by simp [Try.ntmps41]) fun R hR => ?_
    refine vwp_seq_k fun K1 hK1 => ?_
    refine vwp_live [0, 1, 2] ?_
    try simp only [argSlots, pruneS, inN, eq_self, reduceIte, ite_true, Nat.reduceAdd, Nat.reduceBEq, Bool.or_true, Bool.true_or, Bool.or_false, Bool.false_or, if_true, if_false, Bool.false_eq_true]
    refine vwp_region hT ?_
    simp [-List.reduceReplicate, PT.obs, Try.ntmps41]
    repeat refine ⟨by first | assumption | omega | (rw [spl_length (by simp; omega)]; simp; done) | (intros; omega), ?_⟩
    refine hK1 _ ?_
    try clear hK1 K1
    refine vwp_seq_k fun K2 hK2 => ?_
    refine vwp_seq_k fun K3 hK3 => ?_
    have hf : t.find tok now = none := by simp [PT.find, hq, hns]
    refine vwp_live [0, 1, 2] ?_
    try simp only [argSlots, pruneS, inN, eq_self, reduceIte, ite_true, Nat.reduceAdd, Nat.reduceBEq, Bool.or_true, Bool.true_or, Bool.or_false, Bool.false_or, if_true, if_false, Bool.false_eq_true]
    refine vwp_region hT ?_
    simp [-List.reduceReplicate, PT.obs, hf]
    refine vcall_by0 [0, 1, 2] (find_spec t tok now) (by simp) (by simp [PT.obs]) (by simp) (by simp [PT.obs]) ?_
    rintro r ob' ⟨rfl, rfl⟩
    simp [-List.reduceReplicate, PT.obs, hf]
    repeat refine ⟨by first | assumption | omega | (rw [spl_length (by simp; omega)]; simp; done) | (intros; omega), ?_⟩
    refine hK3 _ ?_
    try clear hK3 K3
    refine vwp_seq_k fun K4 hK4 => ?_
    refine vwp_live [0, 1, 8] ?_
    try simp only [argSlots, pruneS, inN, eq_self, reduceIte, ite_true, Nat.reduceAdd, Nat.reduceBEq, Bool.or_true, Bool.true_or, Bool.or_false, Bool.false_or, if_true, if_false, Bool.false_eq_true]
    refine vwp_region hT ?_
    simp [-List.reduceReplicate, PT.obs]
    repeat refine ⟨by first | assumption | omega | (rw [spl_length (by simp; omega)]; simp; done) | (intros; omega), ?_⟩
    refine hK4 _ ?_
    try clear hK4 K4
    refine vwp_cond (by first | rfl | (simp; rfl)) (fun h1 => ?_) (fun h1 => ?_)
    · try (exfalso; simp at h1; done)
      all_goals
        try simp at h1
        refine vwp_seq_k fun K5 hK5 => ?_
        refine vwp_live [] ?_
        try simp only [argSlots, pruneS, inN, eq_self, reduceIte, ite_true, Nat.reduceAdd, Nat.reduceBEq, Bool.or_true, Bool.true_or, Bool.or_false, Bool.false_or, if_true, if_false, Bool.false_eq_true]
        refine vwp_region hT ?_
        simp [-List.reduceReplicate, PT.obs]
        repeat refine ⟨by first | assumption | omega | (rw [spl_length (by simp; omega)]; simp; done) | (intros; omega), ?_⟩
        refine hK5 _ ?_
        try clear hK5 K5
        refine vwp_ret ?_
        try simp only [thenQ, inBlk]
        refine hR _ _ ?_
        refine ret_only [6] [0, 1, 2] (t.obs) (by simp) (by simp [PT.obs]) rfl (by simp) (r := .int .i64 11) (by simp [Try.f41]) ?_
        simp [PT.logout, hq, hns]
    · try (exfalso; simp at h1; done)
      all_goals
        try simp at h1
        refine vwp_skip ?_
        try simp only [thenQ, inBlk]
        refine hK2 _ ?_
        try clear hK2 K2
        refine vwp_seq_k fun K6 hK6 => ?_
        skip

def PT.many (t : PT) (who now : Int) : Nat := t.ss.countP fun s => s.who == who && decide (now < s.over)
theorem many_spec (t : PT) (hl : t.ss.length < 9223372036854775807) (who now : Int) : VC P 36 [.ptr 0 4 0, .int .i64 who, .int .i64 now] t.obs (fun r ob' => r = .int .i64 (t.many who now : Nat) ∧ ob' = t.obs) := by
  refine VC_of_vwp_k ent_36 Try.func36 rfl (by simp [Try.ntmps36]) fun R hR => ?_
  refine vwp_seq_k fun K1 hK1 => ?_
  refine vwp_live [0, 1, 2] ?_
  try simp only [argSlots, pruneS, inN, eq_self, reduceIte, ite_true, Nat.reduceAdd, Nat.reduceBEq, Bool.or_true, Bool.true_or, Bool.or_false, Bool.false_or, if_true, if_false, Bool.false_eq_true]
  refine vwp_region hT ?_
  simp [-List.reduceReplicate, PT.obs, Try.ntmps36]
  repeat refine ⟨by first | assumption | omega | (rw [spl_length (by simp; omega)]; simp; done) | (intros; omega), ?_⟩
  refine hK1 _ ?_
  try clear hK1 K1
  refine vwp_seq_k fun K2 hK2 => ?_
  refine vwp_live [0, 1, 2] ?_
  try simp only [argSlots, pruneS, inN, eq_self, reduceIte, ite_true, Nat.reduceAdd, Nat.reduceBEq, Bool.or_true, Bool.true_or, Bool.or_false, Bool.false_or, if_true, if_false, Bool.false_eq_true]
  refine vwp_region hT ?_
  simp [-List.reduceReplicate, PT.obs]
  repeat refine ⟨by first | assumption | omega | (rw [spl_length (by simp; omega)]; simp; done) | (intros; omega), ?_⟩
  refine hK2 _ ?_
  try clear hK2 K2
  refine vwp_seq_k fun K3 hK3 => ?_
  refine vwp_seq_k fun K4 hK4 => ?_
  refine vwp_live [0, 1, 2, 7] ?_
  try simp only [argSlots, pruneS, inN, eq_self, reduceIte, ite_true, Nat.reduceAdd, Nat.reduceBEq, Bool.or_true, Bool.true_or, Bool.or_false, Bool.false_or, if_true, if_false, Bool.false_eq_true]
  refine vwp_region hT ?_
  simp [-List.reduceReplicate, PT.obs]
  repeat refine ⟨by first | assumption | omega | (rw [spl_length (by simp; omega)]; simp; done) | (intros; omega), ?_⟩
  refine hK4 _ ?_
  try clear hK4 K4
  refine vwp_block ?_
  refine vwp_map 2 (es := t.ss.map S1.ent) (bs := t.sbs) (ck := t.sck) (by simp) fun hml hmn hmk => ?_
  simp only [List.length_map] at hml
  refine vwp_gh (st' := ⟨[(1, .int .i64 who), (2, .int .i64 now), (7, .int .i64 (cntIs (fun s => s.who == who && decide (now < s.over)) t.ss [] : Nat)), (14, .ptr 3 0 0)], t.obs ++ [.iter (.mp 2) t.sck [] t.sck]⟩) ?_ ?_
  · refine Gh.to [1, 2, 7, 14] [0, 1, 2, 3] _ (_) ?_ ?_ rfl ?_ ?_
    · simp
    · simp [PT.obs, cntIs]
    · simp [PT.obs, cntIs]
    · simp [PT.obs, cntIs]
  refine vwp_loop_k (fun m st => ∃ seen is : List Nat, Seen t.sbs seen is ∧ m = t.sbs.length - is.length ∧ st = ⟨[(1, .int .i64 who), (2, .int .i64 now), (7, .int .i64 (cntIs (fun s => s.who == who && decide (now < s.over)) t.ss is : Nat)), (14, .ptr 3 0 0)], t.obs ++ [.iter (.mp 2) t.sck seen t.sck]⟩) t.sbs.length ⟨[], [], Seen.nil _, by simp, rfl⟩ ?_
  rintro m st ⟨seen, is, hseen, rfl, rfl⟩
  intro K5 hK5
  refine vwp_seq_k fun K6 hK6 => ?_
  refine vwp_live [1, 2, 7, 14] ?_
  try simp only [argSlots, pruneS, inN, eq_self, reduceIte, ite_true, Nat.reduceAdd, Nat.reduceBEq, Bool.or_true, Bool.true_or, Bool.or_false, Bool.false_or, if_true, if_false, Bool.false_eq_true]
  refine vwp_region hT ?_
  simp [-List.reduceReplicate, PT.obs]
  refine ⟨?_, fun hall => ?_⟩
  · rintro i n kk vv hi s hs rfl rfl hns
    have hfb : vfindB n t.sbs (t.ss.map S1.ent) = some s.ent := vfindB_get hmn hi (by simp [hs])
    have hfr := hseen.fresh hi hns
    have hsl := (hseen.step hi hns).le
    have hcl := cntIs_le (fun s => s.who == who && decide (now < s.over)) t.ss is
    simp only [List.length_append, List.length_cons, List.length_nil] at hsl
    repeat refine ⟨by first | assumption | omega | (rw [spl_length (by simp; omega)]; simp; done) | (intros; omega), ?_⟩
    refine hK6 _ ?_
    try clear hK6 K6
    refine vwp_seq_k fun K7 hK7 => ?_
    refine vwp_cond (by first | rfl | (simp; rfl)) (fun h1 => ?_) (fun h1 => ?_)
    · try (exfalso; simp at h1; done)
      all_goals
        try simp at h1
        refine vwp_skip ?_
        try simp only [thenQ, inBlk]
        refine hK7 _ ?_
        try clear hK7 K7
        refine vwp_block ?_
        refine vwp_seq_k fun K8 hK8 => ?_
        refine vwp_live [1, 2, 7, 14] ?_
        try simp only [argSlots, pruneS, inN, eq_self, reduceIte, ite_true, Nat.reduceAdd, Nat.reduceBEq, Bool.or_true, Bool.true_or, Bool.or_false, Bool.false_or, if_true, if_false, Bool.false_eq_true]
        refine vwp_region hT ?_
        simp [-List.reduceReplicate, PT.obs, hfb]
        repeat refine ⟨by first | assumption | omega | (rw [spl_length (by simp; omega)]; simp; done) | (intros; omega), ?_⟩
        refine hK8 _ ?_
        try clear hK8 K8
        refine vwp_seq_k fun K9 hK9 => ?_
        refine vwp_live [1, 2, 7, 9, 14] ?_
        try simp only [argSlots, pruneS, inN, eq_self, reduceIte, ite_true, Nat.reduceAdd, Nat.reduceBEq, Bool.or_true, Bool.true_or, Bool.or_false, Bool.false_or, if_true, if_false, Bool.false_eq_true]
        refine vwp_region hT ?_
        simp [-List.reduceReplicate, PT.obs]
        repeat refine ⟨by first | assumption | omega | (rw [spl_length (by simp; omega)]; simp; done) | (intros; omega), ?_⟩
        refine hK9 _ ?_
        try clear hK9 K9
        refine vwp_cond (by first | rfl | (simp; rfl)) (fun h2 => ?_) (fun h2 => ?_)
        · try (exfalso; simp at h2; done)
          all_goals
            try simp at h2
            refine vwp_live [1, 2, 7, 14] ?_
            try simp only [argSlots, pruneS, inN, eq_self, reduceIte, ite_true, Nat.reduceAdd, Nat.reduceBEq, Bool.or_true, Bool.true_or, Bool.or_false, Bool.false_or, if_true, if_false, Bool.false_eq_true]
            refine vwp_region hT ?_
            simp [-List.reduceReplicate, PT.obs]
            repeat refine ⟨by first | assumption | omega | (rw [spl_length (by simp; omega)]; simp; done) | (intros; omega), ?_⟩
            refine hK5 _ ?_
            refine ⟨⟨[(1, .int .i64 who), (2, .int .i64 now), (7, .int .i64 (cntIs (fun s => s.who == who && decide (now < s.over)) t.ss (is ++ [i]) : Nat)), (14, .ptr 3 0 0)], t.obs ++ [.iter (.mp 2) t.sck (seen ++ [n]) t.sck]⟩, ?_, t.sbs.length - (is ++ [i]).length, by simp; omega, seen ++ [n], is ++ [i], hseen.step hi hns, rfl, rfl⟩
            rw [cntIs_step _ _ _ hs]
            refine Gh.to [1, 2, 7, 14] [0, 1, 2, 3] _ (_) ?_ ?_ rfl ?_ ?_
            · simp
            · simp [PT.obs]
            · simp [PT.obs]
            · simp [PT.obs]; (try (split <;> simp_all)); (try exact w64 (by omega) (by omega)); (try omega)
        · try (exfalso; simp at h2; done)
          all_goals
            try simp at h2
            refine vwp_skip ?_
            try simp only [thenQ, inBlk]
            refine hK5 _ ?_
            refine ⟨⟨[(1, .int .i64 who), (2, .int .i64 now), (7, .int .i64 (cntIs (fun s => s.who == who && decide (now < s.over)) t.ss (is ++ [i]) : Nat)), (14, .ptr 3 0 0)], t.obs ++ [.iter (.mp 2) t.sck (seen ++ [n]) t.sck]⟩, ?_, t.sbs.length - (is ++ [i]).length, by simp; omega, seen ++ [n], is ++ [i], hseen.step hi hns, rfl, rfl⟩
            rw [cntIs_step _ _ _ hs]
            refine Gh.to [1, 2, 7, 14] [0, 1, 2, 3] _ (_) ?_ ?_ rfl ?_ ?_
            · simp
            · simp [PT.obs]
            · simp [PT.obs]
            · simp [PT.obs]; (try (split <;> simp_all)); (try exact w64 (by omega) (by omega)); (try omega)
    · try (exfalso; simp at h1; done)
      all_goals
        try simp at h1
        refine vwp_exit ?_
        simp only [inBlk, thenQ, if_true]
        refine hK3 _ ?_
        try clear hK3 K3
        refine vwp_seq_k fun K10 hK10 => ?_
        refine vwp_live [7] ?_
        try simp only [argSlots, pruneS, inN, eq_self, reduceIte, ite_true, Nat.reduceAdd, Nat.reduceBEq, Bool.or_true, Bool.true_or, Bool.or_false, Bool.false_or, if_true, if_false, Bool.false_eq_true]
        refine vwp_region hT ?_
        simp [-List.reduceReplicate, PT.obs]
        repeat refine ⟨by first | assumption | omega | (rw [spl_length (by simp; omega)]; simp; done) | (intros; omega), ?_⟩
        refine hK10 _ ?_
        try clear hK10 K10
        refine vwp_ret ?_
        try simp only [thenQ, inBlk]
        refine hR _ _ ?_
        rw [cntIs_all _ hseen hmn hml hall]
        refine ret_only [6] [0, 1, 2] (t.obs) (by simp) (by simp [PT.obs, PT.many]) rfl (by simp) (r := .int .i64 (t.many who now : Nat)) (by simp [Try.f36, PT.many]) ?_
        simp
  · repeat refine ⟨by first | assumption | omega | (rw [spl_length (by simp; omega)]; simp; done) | (intros; omega), ?_⟩
    refine hK6 _ ?_
    try clear hK6 K6
    refine vwp_seq_k fun K11 hK11 => ?_
    refine vwp_cond (by first | rfl | (simp; rfl)) (fun h3 => ?_) (fun h3 => ?_)
    · try (exfalso; simp at h3; done)
      all_goals
        try simp at h3
        refine vwp_skip ?_
        try simp only [thenQ, inBlk]
        refine hK11 _ ?_
        try clear hK11 K11
        refine vwp_block ?_
        refine vwp_seq_k fun K12 hK12 => ?_
        refine vwp_live [1, 2, 7, 14] ?_
        try simp only [argSlots, pruneS, inN, eq_self, reduceIte, ite_true, Nat.reduceAdd, Nat.reduceBEq, Bool.or_true, Bool.true_or, Bool.or_false, Bool.false_or, if_true, if_false, Bool.false_eq_true]
        refine vwp_region hT ?_
        simp [-List.reduceReplicate, PT.obs, hfb]
        repeat refine ⟨by first | assumption | omega | (rw [spl_length (by simp; omega)]; simp; done) | (intros; omega), ?_⟩
        refine hK12 _ ?_
        try clear hK12 K12
        refine vwp_seq_k fun K13 hK13 => ?_
        refine vwp_live [1, 2, 7, 9, 14] ?_
        try simp only [argSlots, pruneS, inN, eq_self, reduceIte, ite_true, Nat.reduceAdd, Nat.reduceBEq, Bool.or_true, Bool.true_or, Bool.or_false, Bool.false_or, if_true, if_false, Bool.false_eq_true]
        refine vwp_region hT ?_
        simp [-List.reduceReplicate, PT.obs]
        repeat refine ⟨by first | assumption | omega | (rw [spl_length (by simp; omega)]; simp; done) | (intros; omega), ?_⟩
        refine hK13 _ ?_
        try clear hK13 K13
        refine vwp_cond (by first | rfl | (simp; rfl)) (fun h4 => ?_) (fun h4 => ?_)
        · try (exfalso; simp at h4; done)
          all_goals
            try simp at h4
            refine vwp_live [1, 2, 7, 14] ?_
            try simp only [argSlots, pruneS, inN, eq_self, reduceIte, ite_true, Nat.reduceAdd, Nat.reduceBEq, Bool.or_true, Bool.true_or, Bool.or_false, Bool.false_or, if_true, if_false, Bool.false_eq_true]
            refine vwp_region hT ?_
            simp [-List.reduceReplicate, PT.obs]
            repeat refine ⟨by first | assumption | omega | (rw [spl_length (by simp; omega)]; simp; done) | (intros; omega), ?_⟩
            refine hK5 _ ?_
            refine ⟨⟨[(1, .int .i64 who), (2, .int .i64 now), (7, .int .i64 (cntIs (fun s => s.who == who && decide (now < s.over)) t.ss (is ++ [i]) : Nat)), (14, .ptr 3 0 0)], t.obs ++ [.iter (.mp 2) t.sck (seen ++ [n]) t.sck]⟩, ?_, t.sbs.length - (is ++ [i]).length, by simp; omega, seen ++ [n], is ++ [i], hseen.step hi hns, rfl, rfl⟩
            rw [cntIs_step _ _ _ hs]
            refine Gh.to [1, 2, 7, 14] [0, 1, 2, 3] _ (_) ?_ ?_ rfl ?_ ?_
            · simp
            · simp [PT.obs]
            · simp [PT.obs]
            · simp [PT.obs]; (try (split <;> simp_all)); (try exact w64 (by omega) (by omega)); (try omega)
        · try (exfalso; simp at h4; done)
          all_goals
            try simp at h4
            refine vwp_skip ?_
            try simp only [thenQ, inBlk]
            refine hK5 _ ?_
            refine ⟨⟨[(1, .int .i64 who), (2, .int .i64 now), (7, .int .i64 (cntIs (fun s => s.who == who && decide (now < s.over)) t.ss (is ++ [i]) : Nat)), (14, .ptr 3 0 0)], t.obs ++ [.iter (.mp 2) t.sck (seen ++ [n]) t.sck]⟩, ?_, t.sbs.length - (is ++ [i]).length, by simp; omega, seen ++ [n], is ++ [i], hseen.step hi hns, rfl, rfl⟩
            rw [cntIs_step _ _ _ hs]
            refine Gh.to [1, 2, 7, 14] [0, 1, 2, 3] _ (_) ?_ ?_ rfl ?_ ?_
            · simp
            · simp [PT.obs]
            · simp [PT.obs]
            · simp [PT.obs]; (try (split <;> simp_all)); (try exact w64 (by omega) (by omega)); (try omega)
    · try (exfalso; simp at h3; done)
      all_goals
        try simp at h3
        refine vwp_exit ?_
        simp only [inBlk, thenQ, if_true]
        refine hK3 _ ?_
        try clear hK3 K3
        refine vwp_seq_k fun K14 hK14 => ?_
        refine vwp_live [7] ?_
        try simp only [argSlots, pruneS, inN, eq_self, reduceIte, ite_true, Nat.reduceAdd, Nat.reduceBEq, Bool.or_true, Bool.true_or, Bool.or_false, Bool.false_or, if_true, if_false, Bool.false_eq_true]
        refine vwp_region hT ?_
        simp [-List.reduceReplicate, PT.obs]
        repeat refine ⟨by first | assumption | omega | (rw [spl_length (by simp; omega)]; simp; done) | (intros; omega), ?_⟩
        refine hK14 _ ?_
        try clear hK14 K14
        refine vwp_ret ?_
        try simp only [thenQ, inBlk]
        refine hR _ _ ?_
        rw [cntIs_all _ hseen hmn hml hall]
        refine ret_only [6] [0, 1, 2] (t.obs) (by simp) (by simp [PT.obs, PT.many]) rfl (by simp) (r := .int .i64 (t.many who now : Nat)) (by simp [Try.f36, PT.many]) ?_
        simp

def PT.add (t : PT) (name secret : ByteArray) (who : Int) : Int × PT :=
  if mayB name = false ∨ mayB secret = false ∨ who < -2 ∨ 31 < who then (1, t)
  else match fIdx (fun u => decide (name = u.name)) t.us 0 with
    | some _ => (6, t)
    | none => if t.us.length = 50 then (4, t) else (0, { t with us := t.us ++ [⟨name, secret, who⟩], ubs := t.ubs ++ [t.uck], uck := t.uck + 1 })
def PT.put (t : PT) (tok who over : Int) : PT := match fIdx (fun s => tok == s.tok) t.ss 0 with
  | some (i, _) => { t with ss := t.ss.modify i fun s => ⟨s.tok, who, over⟩ }
  | none => { t with ss := t.ss ++ [⟨tok, who, over⟩], sbs := t.sbs ++ [t.sck], sck := t.sck + 1 }
def PT.login (t : PT) (name secret : ByteArray) (draw now : Int) : (Int × Int) × PT :=
  if now < 0 ∨ 1099511627776 < now then ((0, 1), t) else
  match fIdx (fun u => decide (name = u.name)) t.us 0 with
  | none => ((0, 11), t)
  | some (_, u) => if u.secret.toList ≠ secret.toList then ((0, 11), t) else if (t.find draw now).isSome = true then ((0, 6), t) else
    if t.quota ≤ t.many u.who now then ((0, 4), t) else ((draw, 0), t.put draw u.who (now + t.life))
theorem add_spec (t : PT) (name secret : ByteArray) (who : Int) : VC P 40 [.ptr 0 4 0, .str name, .str secret, .int .i64 who] t.obs (fun r ob' => r = .int .i64 (t.add name secret who).1 ∧ ob' = (t.add name secret who).2.obs) := by
  refine VC_of_vwp_k ent_40 Try.func40 rfl (by simp [Try.ntmps40]) fun R hR => ?_
  refine vwp_seq_k fun K1 hK1 => ?_
  refine vwp_live [0, 1, 2, 3] ?_
  try simp only [argSlots, pruneS, inN, eq_self, reduceIte, ite_true, Nat.reduceAdd, Nat.reduceBEq, Bool.or_true, Bool.true_or, Bool.or_false, Bool.false_or, if_true, if_false, Bool.false_eq_true]
  refine vwp_region hT ?_
  simp [-List.reduceReplicate, PT.obs, Try.ntmps40]
  repeat refine ⟨by first | assumption | omega | (rw [spl_length (by simp; omega)]; simp; done) | (intros; omega), ?_⟩
  refine hK1 _ ?_
  try clear hK1 K1
  refine vwp_seq_k fun K2 hK2 => ?_
  rcases hq : fIdx (fun u => decide (name = u.name)) t.us 0 with _ | ⟨i, u⟩
  · refine vwp_live [0, 1, 2, 3] ?_
    try simp only [argSlots, pruneS, inN, eq_self, reduceIte, ite_true, Nat.reduceAdd, Nat.reduceBEq, Bool.or_true, Bool.true_or, Bool.or_false, Bool.false_or, if_true, if_false, Bool.false_eq_true]
    refine vwp_region hT ?_
    simp [-List.reduceReplicate, PT.obs, vfindK_U, hq]
    repeat refine ⟨by first | assumption | omega | (rw [spl_length (by simp; omega)]; simp; done) | (intros; omega), ?_⟩
    refine hK2 _ ?_
    try clear hK2 K2
    refine vwp_seq_k fun K3 hK3 => ?_
    refine vwp_block ?_
    refine vwp_seq_k fun K4 hK4 => ?_
    rcases hm1 : mayB name with _ | _
    · refine vwp_live [0, 1, 2, 3, 10] ?_
      try simp only [argSlots, pruneS, inN, eq_self, reduceIte, ite_true, Nat.reduceAdd, Nat.reduceBEq, Bool.or_true, Bool.true_or, Bool.or_false, Bool.false_or, if_true, if_false, Bool.false_eq_true]
      refine vwp_region hT ?_
      simp [-List.reduceReplicate, PT.obs, hm1]
      refine vcall_by0 [] (may_spec name) (by simp) (by simp [PT.obs]) (by simp) (by simp [PT.obs]) ?_
      rintro r ob' ⟨rfl, rfl⟩
      simp [-List.reduceReplicate, PT.obs, hm1]
      repeat refine ⟨by first | assumption | omega | (rw [spl_length (by simp; omega)]; simp; done) | (intros; omega), ?_⟩
      refine hK4 _ ?_
      try clear hK4 K4
      refine vwp_cond (by first | rfl | (simp; rfl)) (fun h1 => ?_) (fun h1 => ?_)
      · try (exfalso; simp at h1; done)
        all_goals
          try simp at h1
          refine vwp_seq_k fun K5 hK5 => ?_
          refine vwp_live [] ?_
          try simp only [argSlots, pruneS, inN, eq_self, reduceIte, ite_true, Nat.reduceAdd, Nat.reduceBEq, Bool.or_true, Bool.true_or, Bool.or_false, Bool.false_or, if_true, if_false, Bool.false_eq_true]
          refine vwp_region hT ?_
          simp [-List.reduceReplicate, PT.obs]
          repeat refine ⟨by first | assumption | omega | (rw [spl_length (by simp; omega)]; simp; done) | (intros; omega), ?_⟩
          refine hK5 _ ?_
          try clear hK5 K5
          refine vwp_ret ?_
          try simp only [thenQ, inBlk]
          refine hR _ _ ?_
          have hw : t.add name secret who = (1, t) := by
            unfold PT.add
            grind
          rw [hw]
          refine ret_only [8] [0, 1, 2] ((t).obs) (by simp) (by simp [PT.obs]) rfl (by simp) (r := .int .i64 1) (by simp [Try.f40]) ⟨rfl, rfl⟩
      · try (exfalso; simp at h1; done)
        all_goals
          try simp at h1
          refine vwp_seq_k fun K6 hK6 => ?_
          refine vwp_live [0, 1, 2, 3, 10] ?_
          try simp only [argSlots, pruneS, inN, eq_self, reduceIte, ite_true, Nat.reduceAdd, Nat.reduceBEq, Bool.or_true, Bool.true_or, Bool.or_false, Bool.false_or, if_true, if_false, Bool.false_eq_true]
          refine vwp_region hT ?_
          simp [-List.reduceReplicate, PT.obs]
          repeat refine ⟨by first | assumption | omega | (rw [spl_length (by simp; omega)]; simp; done) | (intros; omega), ?_⟩
          refine hK6 _ ?_
          try clear hK6 K6
          refine vwp_cond (by first | rfl | (simp; rfl)) (fun h2 => ?_) (fun h2 => ?_)
          · try (exfalso; simp at h2; done)
            all_goals
              try simp at h2
              refine vwp_seq_k fun K7 hK7 => ?_
              refine vwp_live [] ?_
              try simp only [argSlots, pruneS, inN, eq_self, reduceIte, ite_true, Nat.reduceAdd, Nat.reduceBEq, Bool.or_true, Bool.true_or, Bool.or_false, Bool.false_or, if_true, if_false, Bool.false_eq_true]
              refine vwp_region hT ?_
              simp [-List.reduceReplicate, PT.obs]
              repeat refine ⟨by first | assumption | omega | (rw [spl_length (by simp; omega)]; simp; done) | (intros; omega), ?_⟩
              refine hK7 _ ?_
              try clear hK7 K7
              refine vwp_ret ?_
              try simp only [thenQ, inBlk]
              refine hR _ _ ?_
              have hw : t.add name secret who = (6, t) := by
                unfold PT.add
                grind
              rw [hw]
              refine ret_only [8] [0, 1, 2] ((t).obs) (by simp) (by simp [PT.obs]) rfl (by simp) (r := .int .i64 6) (by simp [Try.f40]) ⟨rfl, rfl⟩
          · try (exfalso; simp at h2; done)
            all_goals
              try simp at h2
              refine vwp_seq_k fun K8 hK8 => ?_
              refine vwp_live [0, 1, 2, 3] ?_
              try simp only [argSlots, pruneS, inN, eq_self, reduceIte, ite_true, Nat.reduceAdd, Nat.reduceBEq, Bool.or_true, Bool.true_or, Bool.or_false, Bool.false_or, if_true, if_false, Bool.false_eq_true]
              refine vwp_region hT ?_
              simp [-List.reduceReplicate, PT.obs]
              repeat refine ⟨by first | assumption | omega | (rw [spl_length (by simp; omega)]; simp; done) | (intros; omega), ?_⟩
              refine hK8 _ ?_
              try clear hK8 K8
              refine vwp_cond (by first | rfl | (simp; rfl)) (fun h3 => ?_) (fun h3 => ?_)
              · try (exfalso; simp at h3; done)
                all_goals
                  try simp at h3
                  refine vwp_seq_k fun K9 hK9 => ?_
                  refine vwp_live [] ?_
                  try simp only [argSlots, pruneS, inN, eq_self, reduceIte, ite_true, Nat.reduceAdd, Nat.reduceBEq, Bool.or_true, Bool.true_or, Bool.or_false, Bool.false_or, if_true, if_false, Bool.false_eq_true]
                  refine vwp_region hT ?_
                  simp [-List.reduceReplicate, PT.obs]
                  repeat refine ⟨by first | assumption | omega | (rw [spl_length (by simp; omega)]; simp; done) | (intros; omega), ?_⟩
                  refine hK9 _ ?_
                  try clear hK9 K9
                  refine vwp_ret ?_
                  try simp only [thenQ, inBlk]
                  refine hR _ _ ?_
                  have hw : t.add name secret who = (4, t) := by
                    unfold PT.add
                    grind
                  rw [hw]
                  refine ret_only [8] [0, 1, 2] ((t).obs) (by simp) (by simp [PT.obs]) rfl (by simp) (r := .int .i64 4) (by simp [Try.f40]) ⟨rfl, rfl⟩
              · try (exfalso; simp at h3; done)
                all_goals
                  try simp at h3
                  refine vwp_skip ?_
                  try simp only [thenQ, inBlk]
                  refine hK3 _ ?_
                  try clear hK3 K3
                  refine vwp_seq_k fun K10 hK10 => ?_
                  refine vwp_live [0, 1, 2, 3] ?_
                  try simp only [argSlots, pruneS, inN, eq_self, reduceIte, ite_true, Nat.reduceAdd, Nat.reduceBEq, Bool.or_true, Bool.true_or, Bool.or_false, Bool.false_or, if_true, if_false, Bool.false_eq_true]
                  refine vwp_region hT ?_
                  simp [-List.reduceReplicate, PT.obs, vfindK_U, hq]
                  repeat refine ⟨by first | assumption | omega | (rw [spl_length (by simp; omega)]; simp; done) | (intros; omega), ?_⟩
                  refine hK10 _ ?_
                  try clear hK10 K10
                  refine vwp_seq_k fun K11 hK11 => ?_
                  refine vwp_live [] ?_
                  try simp only [argSlots, pruneS, inN, eq_self, reduceIte, ite_true, Nat.reduceAdd, Nat.reduceBEq, Bool.or_true, Bool.true_or, Bool.or_false, Bool.false_or, if_true, if_false, Bool.false_eq_true]
                  refine vwp_region hT ?_
                  simp [-List.reduceReplicate, PT.obs]
                  repeat refine ⟨by first | assumption | omega | (rw [spl_length (by simp; omega)]; simp; done) | (intros; omega), ?_⟩
                  refine hK11 _ ?_
                  try clear hK11 K11
                  refine vwp_ret ?_
                  try simp only [thenQ, inBlk]
                  refine hR _ _ ?_
                  have hw : t.add name secret who = (0, { t with us := t.us ++ [⟨name, secret, who⟩], ubs := t.ubs ++ [t.uck], uck := t.uck + 1 }) := by
                    unfold PT.add
                    grind
                  rw [hw]
                  refine ret_only [8] [0, 1, 2] (({ t with us := t.us ++ [(⟨name, secret, who⟩ : U)], ubs := t.ubs ++ [t.uck], uck := t.uck + 1 }).obs) (by simp) (by simp [PT.obs]) rfl (by simp) (r := .int .i64 0) (by simp [Try.f40]) ⟨rfl, rfl⟩
    · refine vwp_live [0, 1, 2, 3, 10] ?_
      try simp only [argSlots, pruneS, inN, eq_self, reduceIte, ite_true, Nat.reduceAdd, Nat.reduceBEq, Bool.or_true, Bool.true_or, Bool.or_false, Bool.false_or, if_true, if_false, Bool.false_eq_true]
      refine vwp_region hT ?_
      simp [-List.reduceReplicate, PT.obs, hm1]
      refine vcall_by0 [] (may_spec name) (by simp) (by simp [PT.obs]) (by simp) (by simp [PT.obs]) ?_
      rintro r ob' ⟨rfl, rfl⟩
      simp [-List.reduceReplicate, PT.obs, hm1]
      refine vcall_by0 [] (may_spec secret) (by simp) (by simp [PT.obs]) (by simp) (by simp [PT.obs]) ?_
      rintro r ob' ⟨rfl, rfl⟩
      simp [-List.reduceReplicate, PT.obs, hm1]
      repeat refine ⟨by first | assumption | omega | (rw [spl_length (by simp; omega)]; simp; done) | (intros; omega), ?_⟩
      refine hK4 _ ?_
      try clear hK4 K4
      refine vwp_cond (by first | rfl | (simp; rfl)) (fun h4 => ?_) (fun h4 => ?_)
      · try (exfalso; simp at h4; done)
        all_goals
          try simp at h4
          refine vwp_seq_k fun K12 hK12 => ?_
          refine vwp_live [] ?_
          try simp only [argSlots, pruneS, inN, eq_self, reduceIte, ite_true, Nat.reduceAdd, Nat.reduceBEq, Bool.or_true, Bool.true_or, Bool.or_false, Bool.false_or, if_true, if_false, Bool.false_eq_true]
          refine vwp_region hT ?_
          simp [-List.reduceReplicate, PT.obs]
          repeat refine ⟨by first | assumption | omega | (rw [spl_length (by simp; omega)]; simp; done) | (intros; omega), ?_⟩
          refine hK12 _ ?_
          try clear hK12 K12
          refine vwp_ret ?_
          try simp only [thenQ, inBlk]
          refine hR _ _ ?_
          have hw : t.add name secret who = (1, t) := by
            unfold PT.add
            grind
          rw [hw]
          refine ret_only [8] [0, 1, 2] ((t).obs) (by simp) (by simp [PT.obs]) rfl (by simp) (r := .int .i64 1) (by simp [Try.f40]) ⟨rfl, rfl⟩
      · try (exfalso; simp at h4; done)
        all_goals
          try simp at h4
          refine vwp_seq_k fun K13 hK13 => ?_
          refine vwp_live [0, 1, 2, 3, 10] ?_
          try simp only [argSlots, pruneS, inN, eq_self, reduceIte, ite_true, Nat.reduceAdd, Nat.reduceBEq, Bool.or_true, Bool.true_or, Bool.or_false, Bool.false_or, if_true, if_false, Bool.false_eq_true]
          refine vwp_region hT ?_
          simp [-List.reduceReplicate, PT.obs]
          repeat refine ⟨by first | assumption | omega | (rw [spl_length (by simp; omega)]; simp; done) | (intros; omega), ?_⟩
          refine hK13 _ ?_
          try clear hK13 K13
          refine vwp_cond (by first | rfl | (simp; rfl)) (fun h5 => ?_) (fun h5 => ?_)
          · try (exfalso; simp at h5; done)
            all_goals
              try simp at h5
              refine vwp_seq_k fun K14 hK14 => ?_
              refine vwp_live [] ?_
              try simp only [argSlots, pruneS, inN, eq_self, reduceIte, ite_true, Nat.reduceAdd, Nat.reduceBEq, Bool.or_true, Bool.true_or, Bool.or_false, Bool.false_or, if_true, if_false, Bool.false_eq_true]
              refine vwp_region hT ?_
              simp [-List.reduceReplicate, PT.obs]
              repeat refine ⟨by first | assumption | omega | (rw [spl_length (by simp; omega)]; simp; done) | (intros; omega), ?_⟩
              refine hK14 _ ?_
              try clear hK14 K14
              refine vwp_ret ?_
              try simp only [thenQ, inBlk]
              refine hR _ _ ?_
              have hw : t.add name secret who = (6, t) := by
                unfold PT.add
                grind
              rw [hw]
              refine ret_only [8] [0, 1, 2] ((t).obs) (by simp) (by simp [PT.obs]) rfl (by simp) (r := .int .i64 6) (by simp [Try.f40]) ⟨rfl, rfl⟩
          · try (exfalso; simp at h5; done)
            all_goals
              try simp at h5
              refine vwp_seq_k fun K15 hK15 => ?_
              refine vwp_live [0, 1, 2, 3] ?_
              try simp only [argSlots, pruneS, inN, eq_self, reduceIte, ite_true, Nat.reduceAdd, Nat.reduceBEq, Bool.or_true, Bool.true_or, Bool.or_false, Bool.false_or, if_true, if_false, Bool.false_eq_true]
              refine vwp_region hT ?_
              simp [-List.reduceReplicate, PT.obs]
              repeat refine ⟨by first | assumption | omega | (rw [spl_length (by simp; omega)]; simp; done) | (intros; omega), ?_⟩
              refine hK15 _ ?_
              try clear hK15 K15
              refine vwp_cond (by first | rfl | (simp; rfl)) (fun h6 => ?_) (fun h6 => ?_)
              · try (exfalso; simp at h6; done)
                all_goals
                  try simp at h6
                  refine vwp_seq_k fun K16 hK16 => ?_
                  refine vwp_live [] ?_
                  try simp only [argSlots, pruneS, inN, eq_self, reduceIte, ite_true, Nat.reduceAdd, Nat.reduceBEq, Bool.or_true, Bool.true_or, Bool.or_false, Bool.false_or, if_true, if_false, Bool.false_eq_true]
                  refine vwp_region hT ?_
                  simp [-List.reduceReplicate, PT.obs]
                  repeat refine ⟨by first | assumption | omega | (rw [spl_length (by simp; omega)]; simp; done) | (intros; omega), ?_⟩
                  refine hK16 _ ?_
                  try clear hK16 K16
                  refine vwp_ret ?_
                  try simp only [thenQ, inBlk]
                  refine hR _ _ ?_
                  have hw : t.add name secret who = (4, t) := by
                    unfold PT.add
                    grind
                  rw [hw]
                  refine ret_only [8] [0, 1, 2] ((t).obs) (by simp) (by simp [PT.obs]) rfl (by simp) (r := .int .i64 4) (by simp [Try.f40]) ⟨rfl, rfl⟩
              · try (exfalso; simp at h6; done)
                all_goals
                  try simp at h6
                  refine vwp_skip ?_
                  try simp only [thenQ, inBlk]
                  refine hK3 _ ?_
                  try clear hK3 K3
                  refine vwp_seq_k fun K17 hK17 => ?_
                  refine vwp_live [0, 1, 2, 3] ?_
                  try simp only [argSlots, pruneS, inN, eq_self, reduceIte, ite_true, Nat.reduceAdd, Nat.reduceBEq, Bool.or_true, Bool.true_or, Bool.or_false, Bool.false_or, if_true, if_false, Bool.false_eq_true]
                  refine vwp_region hT ?_
                  simp [-List.reduceReplicate, PT.obs, vfindK_U, hq]
                  repeat refine ⟨by first | assumption | omega | (rw [spl_length (by simp; omega)]; simp; done) | (intros; omega), ?_⟩
                  refine hK17 _ ?_
                  try clear hK17 K17
                  refine vwp_seq_k fun K18 hK18 => ?_
                  refine vwp_live [] ?_
                  try simp only [argSlots, pruneS, inN, eq_self, reduceIte, ite_true, Nat.reduceAdd, Nat.reduceBEq, Bool.or_true, Bool.true_or, Bool.or_false, Bool.false_or, if_true, if_false, Bool.false_eq_true]
                  refine vwp_region hT ?_
                  simp [-List.reduceReplicate, PT.obs]
                  repeat refine ⟨by first | assumption | omega | (rw [spl_length (by simp; omega)]; simp; done) | (intros; omega), ?_⟩
                  refine hK18 _ ?_
                  try clear hK18 K18
                  refine vwp_ret ?_
                  try simp only [thenQ, inBlk]
                  refine hR _ _ ?_
                  have hw : t.add name secret who = (0, { t with us := t.us ++ [⟨name, secret, who⟩], ubs := t.ubs ++ [t.uck], uck := t.uck + 1 }) := by
                    unfold PT.add
                    grind
                  rw [hw]
                  refine ret_only [8] [0, 1, 2] (({ t with us := t.us ++ [(⟨name, secret, who⟩ : U)], ubs := t.ubs ++ [t.uck], uck := t.uck + 1 }).obs) (by simp) (by simp [PT.obs]) rfl (by simp) (r := .int .i64 0) (by simp [Try.f40]) ⟨rfl, rfl⟩
  · refine vwp_live [0, 1, 2, 3] ?_
    try simp only [argSlots, pruneS, inN, eq_self, reduceIte, ite_true, Nat.reduceAdd, Nat.reduceBEq, Bool.or_true, Bool.true_or, Bool.or_false, Bool.false_or, if_true, if_false, Bool.false_eq_true]
    refine vwp_region hT ?_
    simp [-List.reduceReplicate, PT.obs, vfindK_U, hq]
    repeat refine ⟨by first | assumption | omega | (rw [spl_length (by simp; omega)]; simp; done) | (intros; omega), ?_⟩
    refine hK2 _ ?_
    try clear hK2 K2
    refine vwp_seq_k fun K19 hK19 => ?_
    refine vwp_block ?_
    refine vwp_seq_k fun K20 hK20 => ?_
    rcases hm1 : mayB name with _ | _
    · refine vwp_live [0, 1, 2, 3, 10] ?_
      try simp only [argSlots, pruneS, inN, eq_self, reduceIte, ite_true, Nat.reduceAdd, Nat.reduceBEq, Bool.or_true, Bool.true_or, Bool.or_false, Bool.false_or, if_true, if_false, Bool.false_eq_true]
      refine vwp_region hT ?_
      simp [-List.reduceReplicate, PT.obs, hm1]
      refine vcall_by0 [] (may_spec name) (by simp) (by simp [PT.obs]) (by simp) (by simp [PT.obs]) ?_
      rintro r ob' ⟨rfl, rfl⟩
      simp [-List.reduceReplicate, PT.obs, hm1]
      repeat refine ⟨by first | assumption | omega | (rw [spl_length (by simp; omega)]; simp; done) | (intros; omega), ?_⟩
      refine hK20 _ ?_
      try clear hK20 K20
      refine vwp_cond (by first | rfl | (simp; rfl)) (fun h7 => ?_) (fun h7 => ?_)
      · try (exfalso; simp at h7; done)
        all_goals
          try simp at h7
          refine vwp_seq_k fun K21 hK21 => ?_
          refine vwp_live [] ?_
          try simp only [argSlots, pruneS, inN, eq_self, reduceIte, ite_true, Nat.reduceAdd, Nat.reduceBEq, Bool.or_true, Bool.true_or, Bool.or_false, Bool.false_or, if_true, if_false, Bool.false_eq_true]
          refine vwp_region hT ?_
          simp [-List.reduceReplicate, PT.obs]
          repeat refine ⟨by first | assumption | omega | (rw [spl_length (by simp; omega)]; simp; done) | (intros; omega), ?_⟩
          refine hK21 _ ?_
          try clear hK21 K21
          refine vwp_ret ?_
          try simp only [thenQ, inBlk]
          refine hR _ _ ?_
          have hw : t.add name secret who = (1, t) := by
            unfold PT.add
            grind
          rw [hw]
          refine ret_only [8] [0, 1, 2] ((t).obs) (by simp) (by simp [PT.obs]) rfl (by simp) (r := .int .i64 1) (by simp [Try.f40]) ⟨rfl, rfl⟩
      · try (exfalso; simp at h7; done)
        all_goals
          try simp at h7
          refine vwp_seq_k fun K22 hK22 => ?_
          refine vwp_live [0, 1, 2, 3, 10] ?_
          try simp only [argSlots, pruneS, inN, eq_self, reduceIte, ite_true, Nat.reduceAdd, Nat.reduceBEq, Bool.or_true, Bool.true_or, Bool.or_false, Bool.false_or, if_true, if_false, Bool.false_eq_true]
          refine vwp_region hT ?_
          simp [-List.reduceReplicate, PT.obs]
          repeat refine ⟨by first | assumption | omega | (rw [spl_length (by simp; omega)]; simp; done) | (intros; omega), ?_⟩
          refine hK22 _ ?_
          try clear hK22 K22
          refine vwp_cond (by first | rfl | (simp; rfl)) (fun h8 => ?_) (fun h8 => ?_)
          · try (exfalso; simp at h8; done)
            all_goals
              try simp at h8
              refine vwp_seq_k fun K23 hK23 => ?_
              refine vwp_live [] ?_
              try simp only [argSlots, pruneS, inN, eq_self, reduceIte, ite_true, Nat.reduceAdd, Nat.reduceBEq, Bool.or_true, Bool.true_or, Bool.or_false, Bool.false_or, if_true, if_false, Bool.false_eq_true]
              refine vwp_region hT ?_
              simp [-List.reduceReplicate, PT.obs]
              repeat refine ⟨by first | assumption | omega | (rw [spl_length (by simp; omega)]; simp; done) | (intros; omega), ?_⟩
              refine hK23 _ ?_
              try clear hK23 K23
              refine vwp_ret ?_
              try simp only [thenQ, inBlk]
              refine hR _ _ ?_
              have hw : t.add name secret who = (6, t) := by
                unfold PT.add
                grind
              rw [hw]
              refine ret_only [8] [0, 1, 2] ((t).obs) (by simp) (by simp [PT.obs]) rfl (by simp) (r := .int .i64 6) (by simp [Try.f40]) ⟨rfl, rfl⟩
          · try (exfalso; simp at h8; done)
            all_goals
              try simp at h8
              refine vwp_seq_k fun K24 hK24 => ?_
              refine vwp_live [0, 1, 2, 3] ?_
              try simp only [argSlots, pruneS, inN, eq_self, reduceIte, ite_true, Nat.reduceAdd, Nat.reduceBEq, Bool.or_true, Bool.true_or, Bool.or_false, Bool.false_or, if_true, if_false, Bool.false_eq_true]
              refine vwp_region hT ?_
              simp [-List.reduceReplicate, PT.obs]
              repeat refine ⟨by first | assumption | omega | (rw [spl_length (by simp; omega)]; simp; done) | (intros; omega), ?_⟩
              refine hK24 _ ?_
              try clear hK24 K24
              refine vwp_cond (by first | rfl | (simp; rfl)) (fun h9 => ?_) (fun h9 => ?_)
              · try (exfalso; simp at h9; done)
                all_goals
                  try simp at h9
                  refine vwp_seq_k fun K25 hK25 => ?_
                  refine vwp_live [] ?_
                  try simp only [argSlots, pruneS, inN, eq_self, reduceIte, ite_true, Nat.reduceAdd, Nat.reduceBEq, Bool.or_true, Bool.true_or, Bool.or_false, Bool.false_or, if_true, if_false, Bool.false_eq_true]
                  refine vwp_region hT ?_
                  simp [-List.reduceReplicate, PT.obs]
                  repeat refine ⟨by first | assumption | omega | (rw [spl_length (by simp; omega)]; simp; done) | (intros; omega), ?_⟩
                  refine hK25 _ ?_
                  try clear hK25 K25
                  refine vwp_ret ?_
                  try simp only [thenQ, inBlk]
                  refine hR _ _ ?_
                  have hw : t.add name secret who = (4, t) := by
                    unfold PT.add
                    grind
                  rw [hw]
                  refine ret_only [8] [0, 1, 2] ((t).obs) (by simp) (by simp [PT.obs]) rfl (by simp) (r := .int .i64 4) (by simp [Try.f40]) ⟨rfl, rfl⟩
              · try (exfalso; simp at h9; done)
                all_goals
                  try simp at h9
                  refine vwp_skip ?_
                  try simp only [thenQ, inBlk]
                  refine hK19 _ ?_
                  try clear hK19 K19
                  refine vwp_seq_k fun K26 hK26 => ?_
                  refine vwp_live [0, 1, 2, 3] ?_
                  try simp only [argSlots, pruneS, inN, eq_self, reduceIte, ite_true, Nat.reduceAdd, Nat.reduceBEq, Bool.or_true, Bool.true_or, Bool.or_false, Bool.false_or, if_true, if_false, Bool.false_eq_true]
                  refine vwp_region hT ?_
                  simp [-List.reduceReplicate, PT.obs, vfindK_U, hq]
                  repeat refine ⟨by first | assumption | omega | (rw [spl_length (by simp; omega)]; simp; done) | (intros; omega), ?_⟩
                  refine hK26 _ ?_
                  try clear hK26 K26
                  refine vwp_seq_k fun K27 hK27 => ?_
                  refine vwp_live [] ?_
                  try simp only [argSlots, pruneS, inN, eq_self, reduceIte, ite_true, Nat.reduceAdd, Nat.reduceBEq, Bool.or_true, Bool.true_or, Bool.or_false, Bool.false_or, if_true, if_false, Bool.false_eq_true]
                  refine vwp_region hT ?_
                  simp [-List.reduceReplicate, PT.obs]
                  repeat refine ⟨by first | assumption | omega | (rw [spl_length (by simp; omega)]; simp; done) | (intros; omega), ?_⟩
                  refine hK27 _ ?_
                  try clear hK27 K27
                  refine vwp_ret ?_
                  try simp only [thenQ, inBlk]
                  refine hR _ _ ?_
                  have hw : t.add name secret who = (0, { t with us := t.us ++ [⟨name, secret, who⟩], ubs := t.ubs ++ [t.uck], uck := t.uck + 1 }) := by
                    unfold PT.add
                    grind
                  rw [hw]
                  refine ret_only [8] [0, 1, 2] (({ t with us := t.us ++ [(⟨name, secret, who⟩ : U)], ubs := t.ubs ++ [t.uck], uck := t.uck + 1 }).obs) (by simp) (by simp [PT.obs]) rfl (by simp) (r := .int .i64 0) (by simp [Try.f40]) ⟨rfl, rfl⟩
    · refine vwp_live [0, 1, 2, 3, 10] ?_
      try simp only [argSlots, pruneS, inN, eq_self, reduceIte, ite_true, Nat.reduceAdd, Nat.reduceBEq, Bool.or_true, Bool.true_or, Bool.or_false, Bool.false_or, if_true, if_false, Bool.false_eq_true]
      refine vwp_region hT ?_
      simp [-List.reduceReplicate, PT.obs, hm1]
      refine vcall_by0 [] (may_spec name) (by simp) (by simp [PT.obs]) (by simp) (by simp [PT.obs]) ?_
      rintro r ob' ⟨rfl, rfl⟩
      simp [-List.reduceReplicate, PT.obs, hm1]
      refine vcall_by0 [] (may_spec secret) (by simp) (by simp [PT.obs]) (by simp) (by simp [PT.obs]) ?_
      rintro r ob' ⟨rfl, rfl⟩
      simp [-List.reduceReplicate, PT.obs, hm1]
      repeat refine ⟨by first | assumption | omega | (rw [spl_length (by simp; omega)]; simp; done) | (intros; omega), ?_⟩
      refine hK20 _ ?_
      try clear hK20 K20
      refine vwp_cond (by first | rfl | (simp; rfl)) (fun h10 => ?_) (fun h10 => ?_)
      · try (exfalso; simp at h10; done)
        all_goals
          try simp at h10
          refine vwp_seq_k fun K28 hK28 => ?_
          refine vwp_live [] ?_
          try simp only [argSlots, pruneS, inN, eq_self, reduceIte, ite_true, Nat.reduceAdd, Nat.reduceBEq, Bool.or_true, Bool.true_or, Bool.or_false, Bool.false_or, if_true, if_false, Bool.false_eq_true]
          refine vwp_region hT ?_
          simp [-List.reduceReplicate, PT.obs]
          repeat refine ⟨by first | assumption | omega | (rw [spl_length (by simp; omega)]; simp; done) | (intros; omega), ?_⟩
          refine hK28 _ ?_
          try clear hK28 K28
          refine vwp_ret ?_
          try simp only [thenQ, inBlk]
          refine hR _ _ ?_
          have hw : t.add name secret who = (1, t) := by
            unfold PT.add
            grind
          rw [hw]
          refine ret_only [8] [0, 1, 2] ((t).obs) (by simp) (by simp [PT.obs]) rfl (by simp) (r := .int .i64 1) (by simp [Try.f40]) ⟨rfl, rfl⟩
      · try (exfalso; simp at h10; done)
        all_goals
          try simp at h10
          refine vwp_seq_k fun K29 hK29 => ?_
          refine vwp_live [0, 1, 2, 3, 10] ?_
          try simp only [argSlots, pruneS, inN, eq_self, reduceIte, ite_true, Nat.reduceAdd, Nat.reduceBEq, Bool.or_true, Bool.true_or, Bool.or_false, Bool.false_or, if_true, if_false, Bool.false_eq_true]
          refine vwp_region hT ?_
          simp [-List.reduceReplicate, PT.obs]
          repeat refine ⟨by first | assumption | omega | (rw [spl_length (by simp; omega)]; simp; done) | (intros; omega), ?_⟩
          refine hK29 _ ?_
          try clear hK29 K29
          refine vwp_cond (by first | rfl | (simp; rfl)) (fun h11 => ?_) (fun h11 => ?_)
          · try (exfalso; simp at h11; done)
            all_goals
              try simp at h11
              refine vwp_seq_k fun K30 hK30 => ?_
              refine vwp_live [] ?_
              try simp only [argSlots, pruneS, inN, eq_self, reduceIte, ite_true, Nat.reduceAdd, Nat.reduceBEq, Bool.or_true, Bool.true_or, Bool.or_false, Bool.false_or, if_true, if_false, Bool.false_eq_true]
              refine vwp_region hT ?_
              simp [-List.reduceReplicate, PT.obs]
              repeat refine ⟨by first | assumption | omega | (rw [spl_length (by simp; omega)]; simp; done) | (intros; omega), ?_⟩
              refine hK30 _ ?_
              try clear hK30 K30
              refine vwp_ret ?_
              try simp only [thenQ, inBlk]
              refine hR _ _ ?_
              have hw : t.add name secret who = (6, t) := by
                unfold PT.add
                grind
              rw [hw]
              refine ret_only [8] [0, 1, 2] ((t).obs) (by simp) (by simp [PT.obs]) rfl (by simp) (r := .int .i64 6) (by simp [Try.f40]) ⟨rfl, rfl⟩
          · try (exfalso; simp at h11; done)
            all_goals
              try simp at h11
              refine vwp_seq_k fun K31 hK31 => ?_
              refine vwp_live [0, 1, 2, 3] ?_
              try simp only [argSlots, pruneS, inN, eq_self, reduceIte, ite_true, Nat.reduceAdd, Nat.reduceBEq, Bool.or_true, Bool.true_or, Bool.or_false, Bool.false_or, if_true, if_false, Bool.false_eq_true]
              refine vwp_region hT ?_
              simp [-List.reduceReplicate, PT.obs]
              repeat refine ⟨by first | assumption | omega | (rw [spl_length (by simp; omega)]; simp; done) | (intros; omega), ?_⟩
              refine hK31 _ ?_
              try clear hK31 K31
              refine vwp_cond (by first | rfl | (simp; rfl)) (fun h12 => ?_) (fun h12 => ?_)
              · try (exfalso; simp at h12; done)
                all_goals
                  try simp at h12
                  refine vwp_seq_k fun K32 hK32 => ?_
                  refine vwp_live [] ?_
                  try simp only [argSlots, pruneS, inN, eq_self, reduceIte, ite_true, Nat.reduceAdd, Nat.reduceBEq, Bool.or_true, Bool.true_or, Bool.or_false, Bool.false_or, if_true, if_false, Bool.false_eq_true]
                  refine vwp_region hT ?_
                  simp [-List.reduceReplicate, PT.obs]
                  repeat refine ⟨by first | assumption | omega | (rw [spl_length (by simp; omega)]; simp; done) | (intros; omega), ?_⟩
                  refine hK32 _ ?_
                  try clear hK32 K32
                  refine vwp_ret ?_
                  try simp only [thenQ, inBlk]
                  refine hR _ _ ?_
                  have hw : t.add name secret who = (4, t) := by
                    unfold PT.add
                    grind
                  rw [hw]
                  refine ret_only [8] [0, 1, 2] ((t).obs) (by simp) (by simp [PT.obs]) rfl (by simp) (r := .int .i64 4) (by simp [Try.f40]) ⟨rfl, rfl⟩
              · try (exfalso; simp at h12; done)
                all_goals
                  try simp at h12
                  refine vwp_skip ?_
                  try simp only [thenQ, inBlk]
                  refine hK19 _ ?_
                  try clear hK19 K19
                  refine vwp_seq_k fun K33 hK33 => ?_
                  refine vwp_live [0, 1, 2, 3] ?_
                  try simp only [argSlots, pruneS, inN, eq_self, reduceIte, ite_true, Nat.reduceAdd, Nat.reduceBEq, Bool.or_true, Bool.true_or, Bool.or_false, Bool.false_or, if_true, if_false, Bool.false_eq_true]
                  refine vwp_region hT ?_
                  simp [-List.reduceReplicate, PT.obs, vfindK_U, hq]
                  repeat refine ⟨by first | assumption | omega | (rw [spl_length (by simp; omega)]; simp; done) | (intros; omega), ?_⟩
                  refine hK33 _ ?_
                  try clear hK33 K33
                  refine vwp_seq_k fun K34 hK34 => ?_
                  refine vwp_live [] ?_
                  try simp only [argSlots, pruneS, inN, eq_self, reduceIte, ite_true, Nat.reduceAdd, Nat.reduceBEq, Bool.or_true, Bool.true_or, Bool.or_false, Bool.false_or, if_true, if_false, Bool.false_eq_true]
                  refine vwp_region hT ?_
                  simp [-List.reduceReplicate, PT.obs]
                  repeat refine ⟨by first | assumption | omega | (rw [spl_length (by simp; omega)]; simp; done) | (intros; omega), ?_⟩
                  refine hK34 _ ?_
                  try clear hK34 K34
                  refine vwp_ret ?_
                  try simp only [thenQ, inBlk]
                  refine hR _ _ ?_
                  have hw : t.add name secret who = (0, { t with us := t.us ++ [⟨name, secret, who⟩], ubs := t.ubs ++ [t.uck], uck := t.uck + 1 }) := by
                    unfold PT.add
                    grind
                  rw [hw]
                  refine ret_only [8] [0, 1, 2] (({ t with us := t.us ++ [(⟨name, secret, who⟩ : U)], ubs := t.ubs ++ [t.uck], uck := t.uck + 1 }).obs) (by simp) (by simp [PT.obs]) rfl (by simp) (r := .int .i64 0) (by simp [Try.f40]) ⟨rfl, rfl⟩
theorem login_spec (t : PT) (hl : t.ss.length < 9223372036854775807) (hf1 : 1 ≤ t.life) (hf2 : t.life ≤ 1099511627776) (name secret : ByteArray) (draw now : Int) : VC P 42 [.ptr 0 4 0, .str name, .str secret, .int .i64 draw, .int .i64 now] t.obs (fun r ob' => r = .tup [.int .i64 (t.login name secret draw now).1.1, .int .i64 (t.login name secret draw now).1.2] ∧ ob' = (t.login name secret draw now).2.obs) := by
  refine VC_of_vwp_k ent_42 Try.func42 rfl (by simp [Try.ntmps42]) fun R hR => ?_
  refine vwp_seq_k fun K1 hK1 => ?_
  refine vwp_live [0, 1, 2, 3, 4] ?_
  try simp only [argSlots, pruneS, inN, eq_self, reduceIte, ite_true, Nat.reduceAdd, Nat.reduceBEq, Bool.or_true, Bool.true_or, Bool.or_false, Bool.false_or, if_true, if_false, Bool.false_eq_true]
  refine vwp_region hT ?_
  simp [-List.reduceReplicate, PT.obs, Try.ntmps42]
  repeat refine ⟨by first | assumption | omega | (rw [spl_length (by simp; omega)]; simp; done) | (intros; omega), ?_⟩
  refine hK1 _ ?_
  try clear hK1 K1
  refine vwp_seq_k fun K2 hK2 => ?_
  rcases hq : fIdx (fun u => decide (name = u.name)) t.us 0 with _ | ⟨i, u⟩
  · refine vwp_live [0, 1, 2, 3, 4] ?_
    try simp only [argSlots, pruneS, inN, eq_self, reduceIte, ite_true, Nat.reduceAdd, Nat.reduceBEq, Bool.or_true, Bool.true_or, Bool.or_false, Bool.false_or, if_true, if_false, Bool.false_eq_true]
    refine vwp_region hT ?_
    simp [-List.reduceReplicate, PT.obs, vfindK_U, hq]
    repeat refine ⟨by first | assumption | omega | (rw [spl_length (by simp; omega)]; simp; done) | (intros; omega), ?_⟩
    refine hK2 _ ?_
    try clear hK2 K2
    refine vwp_seq_k fun K3 hK3 => ?_
    rcases hf : t.find draw now with _ | s
    · refine vwp_live [0, 2, 3, 4, 12, 13] ?_
      try simp only [argSlots, pruneS, inN, eq_self, reduceIte, ite_true, Nat.reduceAdd, Nat.reduceBEq, Bool.or_true, Bool.true_or, Bool.or_false, Bool.false_or, if_true, if_false, Bool.false_eq_true]
      refine vwp_region hT ?_
      simp [-List.reduceReplicate, PT.obs, hf]
      refine vcall_by0 [0, 1, 2] (find_spec t draw now) (by simp) (by simp [PT.obs]) (by simp) (by simp [PT.obs]) ?_
      rintro r ob' ⟨rfl, rfl⟩
      simp [-List.reduceReplicate, PT.obs, hf]
      repeat refine ⟨by first | assumption | omega | (rw [spl_length (by simp; omega)]; simp; done) | (intros; omega), ?_⟩
      refine hK3 _ ?_
      try clear hK3 K3
      refine vwp_seq_k fun K4 hK4 => ?_
      refine vwp_block ?_
      refine vwp_seq_k fun K5 hK5 => ?_
      refine vwp_live [0, 2, 3, 4, 12, 13, 15] ?_
      try simp only [argSlots, pruneS, inN, eq_self, reduceIte, ite_true, Nat.reduceAdd, Nat.reduceBEq, Bool.or_true, Bool.true_or, Bool.or_false, Bool.false_or, if_true, if_false, Bool.false_eq_true]
      refine vwp_region hT ?_
      simp [-List.reduceReplicate, PT.obs]
      repeat refine ⟨by first | assumption | omega | (rw [spl_length (by simp; omega)]; simp; done) | (intros; omega), ?_⟩
      refine hK5 _ ?_
      try clear hK5 K5
      refine vwp_cond (by first | rfl | (simp; rfl)) (fun h1 => ?_) (fun h1 => ?_)
      · try (exfalso; simp at h1; done)
        all_goals
          try simp at h1
          refine vwp_seq_k fun K6 hK6 => ?_
          refine vwp_live [] ?_
          try simp only [argSlots, pruneS, inN, eq_self, reduceIte, ite_true, Nat.reduceAdd, Nat.reduceBEq, Bool.or_true, Bool.true_or, Bool.or_false, Bool.false_or, if_true, if_false, Bool.false_eq_true]
          refine vwp_region hT ?_
          simp [-List.reduceReplicate, PT.obs]
          repeat refine ⟨by first | assumption | omega | (rw [spl_length (by simp; omega)]; simp; done) | (intros; omega), ?_⟩
          refine hK6 _ ?_
          try clear hK6 K6
          refine vwp_ret ?_
          try simp only [thenQ, inBlk]
          refine hR _ _ ?_
          have hw : t.login name secret draw now = ((0, 1), t) := by
            unfold PT.login
            grind
          rw [hw]
          refine ret_only [10, 11] [0, 1, 2] ((t).obs) (by simp) (by simp [PT.obs]) rfl (by simp) (r := .tup [.int .i64 0, .int .i64 1]) (by simp [Try.f42]) ⟨rfl, rfl⟩
      · try (exfalso; simp at h1; done)
        all_goals
          try simp at h1
          refine vwp_seq_k fun K7 hK7 => ?_
          refine vwp_live [0, 2, 3, 4, 12, 13, 15] ?_
          try simp only [argSlots, pruneS, inN, eq_self, reduceIte, ite_true, Nat.reduceAdd, Nat.reduceBEq, Bool.or_true, Bool.true_or, Bool.or_false, Bool.false_or, if_true, if_false, Bool.false_eq_true]
          refine vwp_region hT ?_
          simp [-List.reduceReplicate, PT.obs]
          repeat refine ⟨by first | assumption | omega | (rw [spl_length (by simp; omega)]; simp; done) | (intros; omega), ?_⟩
          refine hK7 _ ?_
          try clear hK7 K7
          refine vwp_cond (by first | rfl | (simp; rfl)) (fun h2 => ?_) (fun h2 => ?_)
          · try (exfalso; simp at h2; done)
            all_goals
              try simp at h2
              refine vwp_seq_k fun K8 hK8 => ?_
              refine vwp_live [] ?_
              try simp only [argSlots, pruneS, inN, eq_self, reduceIte, ite_true, Nat.reduceAdd, Nat.reduceBEq, Bool.or_true, Bool.true_or, Bool.or_false, Bool.false_or, if_true, if_false, Bool.false_eq_true]
              refine vwp_region hT ?_
              simp [-List.reduceReplicate, PT.obs]
              repeat refine ⟨by first | assumption | omega | (rw [spl_length (by simp; omega)]; simp; done) | (intros; omega), ?_⟩
              refine hK8 _ ?_
              try clear hK8 K8
              refine vwp_ret ?_
              try simp only [thenQ, inBlk]
              refine hR _ _ ?_
              have hw : t.login name secret draw now = ((0, 11), t) := by
                unfold PT.login
                grind
              rw [hw]
              refine ret_only [10, 11] [0, 1, 2] ((t).obs) (by simp) (by simp [PT.obs]) rfl (by simp) (r := .tup [.int .i64 0, .int .i64 11]) (by simp [Try.f42]) ⟨rfl, rfl⟩
          · try (exfalso; simp at h2; done)
            all_goals
              try simp at h2
              refine vwp_seq_k fun K9 hK9 => ?_
              refine vwp_live [0, 3, 4, 12, 15] ?_
              try simp only [argSlots, pruneS, inN, eq_self, reduceIte, ite_true, Nat.reduceAdd, Nat.reduceBEq, Bool.or_true, Bool.true_or, Bool.or_false, Bool.false_or, if_true, if_false, Bool.false_eq_true]
              refine vwp_region hT ?_
              simp [-List.reduceReplicate, PT.obs]
              repeat refine ⟨by first | assumption | omega | (rw [spl_length (by simp; omega)]; simp; done) | (intros; omega), ?_⟩
              refine hK9 _ ?_
              try clear hK9 K9
              refine vwp_cond (by first | rfl | (simp; rfl)) (fun h3 => ?_) (fun h3 => ?_)
              · try (exfalso; simp at h3; done)
                all_goals
                  try simp at h3
                  refine vwp_seq_k fun K10 hK10 => ?_
                  refine vwp_live [] ?_
                  try simp only [argSlots, pruneS, inN, eq_self, reduceIte, ite_true, Nat.reduceAdd, Nat.reduceBEq, Bool.or_true, Bool.true_or, Bool.or_false, Bool.false_or, if_true, if_false, Bool.false_eq_true]
                  refine vwp_region hT ?_
                  simp [-List.reduceReplicate, PT.obs]
                  repeat refine ⟨by first | assumption | omega | (rw [spl_length (by simp; omega)]; simp; done) | (intros; omega), ?_⟩
                  refine hK10 _ ?_
                  try clear hK10 K10
                  refine vwp_ret ?_
                  try simp only [thenQ, inBlk]
                  refine hR _ _ ?_
                  have hw : t.login name secret draw now = ((0, 6), t) := by
                    unfold PT.login
                    grind
                  rw [hw]
                  refine ret_only [10, 11] [0, 1, 2] ((t).obs) (by simp) (by simp [PT.obs]) rfl (by simp) (r := .tup [.int .i64 0, .int .i64 6]) (by simp [Try.f42]) ⟨rfl, rfl⟩
              · try (exfalso; simp at h3; done)
                all_goals
                  try simp at h3
                  refine vwp_seq_k fun K11 hK11 => ?_
                  refine vwp_live [0, 3, 4, 12] ?_
                  try simp only [argSlots, pruneS, inN, eq_self, reduceIte, ite_true, Nat.reduceAdd, Nat.reduceBEq, Bool.or_true, Bool.true_or, Bool.or_false, Bool.false_or, if_true, if_false, Bool.false_eq_true]
                  refine vwp_calm hT hm (by kernel_rfl) ?_
                  simp [-List.reduceReplicate, PT.obs]
                  refine ⟨.int .i64 (t.many u.who now : Nat), fun sl => ?_, ?_⟩
                  · refine vcall_by0 [0, 1, 2] (many_spec t hl u.who now) (by simp) (by simp [PT.obs]) (by simp) (by simp [PT.obs]) ?_
                    rintro r ob' ⟨rfl, rfl⟩
                    simp [PT.obs]
                  simp [-List.reduceReplicate, PT.obs]
                  repeat refine ⟨by first | assumption | omega | (rw [spl_length (by simp; omega)]; simp; done) | (intros; omega), ?_⟩
                  refine hK11 _ ?_
                  try clear hK11 K11
                  refine vwp_cond (by first | rfl | (simp; rfl)) (fun h4 => ?_) (fun h4 => ?_)
                  · try (exfalso; simp at h4; done)
                    all_goals
                      try simp at h4
                      refine vwp_seq_k fun K12 hK12 => ?_
                      refine vwp_live [] ?_
                      try simp only [argSlots, pruneS, inN, eq_self, reduceIte, ite_true, Nat.reduceAdd, Nat.reduceBEq, Bool.or_true, Bool.true_or, Bool.or_false, Bool.false_or, if_true, if_false, Bool.false_eq_true]
                      refine vwp_region hT ?_
                      simp [-List.reduceReplicate, PT.obs]
                      repeat refine ⟨by first | assumption | omega | (rw [spl_length (by simp; omega)]; simp; done) | (intros; omega), ?_⟩
                      refine hK12 _ ?_
                      try clear hK12 K12
                      refine vwp_ret ?_
                      try simp only [thenQ, inBlk]
                      refine hR _ _ ?_
                      have hw : t.login name secret draw now = ((0, 4), t) := by
                        unfold PT.login
                        grind
                      rw [hw]
                      refine ret_only [10, 11] [0, 1, 2] ((t).obs) (by simp) (by simp [PT.obs]) rfl (by simp) (r := .tup [.int .i64 0, .int .i64 4]) (by simp [Try.f42]) ⟨rfl, rfl⟩
                  · try (exfalso; simp at h4; done)
                    all_goals
                      try simp at h4
                      refine vwp_skip ?_
                      try simp only [thenQ, inBlk]
                      refine hK4 _ ?_
                      try clear hK4 K4
                      refine vwp_seq_k fun K13 hK13 => ?_
                      rcases hp : fIdx (fun s => draw == s.tok) t.ss 0 with _ | ⟨j, s1⟩
                      · have w1 : IntKind.i64.wrap (now + t.life) = now + t.life := w64 (by omega) (by omega)
                        refine vwp_live [0, 3, 4, 12] ?_
                        try simp only [argSlots, pruneS, inN, eq_self, reduceIte, ite_true, Nat.reduceAdd, Nat.reduceBEq, Bool.or_true, Bool.true_or, Bool.or_false, Bool.false_or, if_true, if_false, Bool.false_eq_true]
                        refine vwp_storm hT hm [.pure, .win 0 0, .win 0 0, .win 0 0, .pure, .win 0 0, .win 0 0, .pure, .pure, .win 0 0, .win 0 0, .win 0 0, .win 0 0, .win 0 0, .mv] [[], [0], [0, 1], [0, 1, 2], [], [], [5], [], [], [8], [8, 9], [8, 9, 10], [7, 8, 9, 10, 11], [5, 6, 7, 8, 9, 10, 11, 12], [0, 1, 2, 3, 4, 5, 6, 7, 8, 9, 10, 11, 12, 13]] (by kernel_rfl) ?_
                        simp [-List.reduceReplicate, PT.obs, w1, vfindK_S, hp]
                        repeat refine ⟨by first | assumption | omega | (rw [spl_length (by simp; omega)]; simp; done) | (intros; omega), ?_⟩
                        refine hK13 _ ?_
                        try clear hK13 K13
                        refine vwp_seq_k fun K14 hK14 => ?_
                        refine vwp_live [3] ?_
                        try simp only [argSlots, pruneS, inN, eq_self, reduceIte, ite_true, Nat.reduceAdd, Nat.reduceBEq, Bool.or_true, Bool.true_or, Bool.or_false, Bool.false_or, if_true, if_false, Bool.false_eq_true]
                        refine vwp_region hT ?_
                        simp [-List.reduceReplicate, PT.obs]
                        repeat refine ⟨by first | assumption | omega | (rw [spl_length (by simp; omega)]; simp; done) | (intros; omega), ?_⟩
                        refine hK14 _ ?_
                        try clear hK14 K14
                        refine vwp_ret ?_
                        try simp only [thenQ, inBlk]
                        refine hR _ _ ?_
                        have hw : t.login name secret draw now = ((draw, 0), t.put draw u.who (now + t.life)) := by
                          unfold PT.login
                          grind
                        rw [hw]
                        refine ret_only [10, 11] [0, 1, 2] ((t.put draw u.who (now + t.life)).obs) (by simp) (by simp [PT.obs, PT.put, hp, ent_modify]) rfl (by simp) (r := .tup [.int .i64 draw, .int .i64 0]) (by simp [Try.f42]) ⟨rfl, rfl⟩
                      · have w1 : IntKind.i64.wrap (now + t.life) = now + t.life := w64 (by omega) (by omega)
                        refine vwp_live [0, 3, 4, 12] ?_
                        try simp only [argSlots, pruneS, inN, eq_self, reduceIte, ite_true, Nat.reduceAdd, Nat.reduceBEq, Bool.or_true, Bool.true_or, Bool.or_false, Bool.false_or, if_true, if_false, Bool.false_eq_true]
                        refine vwp_storm hT hm [.pure, .win 0 0, .win 0 0, .win 0 0, .pure, .win 0 0, .win 0 0, .pure, .pure, .win 0 0, .win 0 0, .win 0 0, .win 0 0, .win 0 0, .mv] [[], [0], [0, 1], [0, 1, 2], [], [], [5], [], [], [8], [8, 9], [8, 9, 10], [7, 8, 9, 10, 11], [5, 6, 7, 8, 9, 10, 11, 12], [0, 1, 2, 3, 4, 5, 6, 7, 8, 9, 10, 11, 12, 13]] (by kernel_rfl) ?_
                        simp [-List.reduceReplicate, PT.obs, w1, vfindK_S, hp]
                        repeat refine ⟨by first | assumption | omega | (rw [spl_length (by simp; omega)]; simp; done) | (intros; omega), ?_⟩
                        refine hK13 _ ?_
                        try clear hK13 K13
                        refine vwp_seq_k fun K15 hK15 => ?_
                        refine vwp_live [3] ?_
                        try simp only [argSlots, pruneS, inN, eq_self, reduceIte, ite_true, Nat.reduceAdd, Nat.reduceBEq, Bool.or_true, Bool.true_or, Bool.or_false, Bool.false_or, if_true, if_false, Bool.false_eq_true]
                        refine vwp_region hT ?_
                        simp [-List.reduceReplicate, PT.obs]
                        repeat refine ⟨by first | assumption | omega | (rw [spl_length (by simp; omega)]; simp; done) | (intros; omega), ?_⟩
                        refine hK15 _ ?_
                        try clear hK15 K15
                        refine vwp_ret ?_
                        try simp only [thenQ, inBlk]
                        refine hR _ _ ?_
                        have hw : t.login name secret draw now = ((draw, 0), t.put draw u.who (now + t.life)) := by
                          unfold PT.login
                          grind
                        rw [hw]
                        refine ret_only [10, 11] [0, 1, 2] ((t.put draw u.who (now + t.life)).obs) (by simp) (by simp [PT.obs, PT.put, hp, ent_modify]) rfl (by simp) (r := .tup [.int .i64 draw, .int .i64 0]) (by simp [Try.f42]) ⟨rfl, rfl⟩
    · have hr := PT.find_raw hf
      refine vwp_live [0, 2, 3, 4, 12, 13] ?_
      try simp only [argSlots, pruneS, inN, eq_self, reduceIte, ite_true, Nat.reduceAdd, Nat.reduceBEq, Bool.or_true, Bool.true_or, Bool.or_false, Bool.false_or, if_true, if_false, Bool.false_eq_true]
      refine vwp_region hT ?_
      simp [-List.reduceReplicate, PT.obs, hf, hr]
      refine vcall_by0 [0, 1, 2] (find_spec t draw now) (by simp) (by simp [PT.obs]) (by simp) (by simp [PT.obs]) ?_
      rintro r ob' ⟨rfl, rfl⟩
      simp [-List.reduceReplicate, PT.obs, hf, hr]
      repeat refine ⟨by first | assumption | omega | (rw [spl_length (by simp; omega)]; simp; done) | (intros; omega), ?_⟩
      refine hK3 _ ?_
      try clear hK3 K3
      refine vwp_seq_k fun K16 hK16 => ?_
      refine vwp_block ?_
      refine vwp_seq_k fun K17 hK17 => ?_
      refine vwp_live [0, 2, 3, 4, 12, 13, 15] ?_
      try simp only [argSlots, pruneS, inN, eq_self, reduceIte, ite_true, Nat.reduceAdd, Nat.reduceBEq, Bool.or_true, Bool.true_or, Bool.or_false, Bool.false_or, if_true, if_false, Bool.false_eq_true]
      refine vwp_region hT ?_
      simp [-List.reduceReplicate, PT.obs]
      repeat refine ⟨by first | assumption | omega | (rw [spl_length (by simp; omega)]; simp; done) | (intros; omega), ?_⟩
      refine hK17 _ ?_
      try clear hK17 K17
      refine vwp_cond (by first | rfl | (simp; rfl)) (fun h5 => ?_) (fun h5 => ?_)
      · try (exfalso; simp at h5; done)
        all_goals
          try simp at h5
          refine vwp_seq_k fun K18 hK18 => ?_
          refine vwp_live [] ?_
          try simp only [argSlots, pruneS, inN, eq_self, reduceIte, ite_true, Nat.reduceAdd, Nat.reduceBEq, Bool.or_true, Bool.true_or, Bool.or_false, Bool.false_or, if_true, if_false, Bool.false_eq_true]
          refine vwp_region hT ?_
          simp [-List.reduceReplicate, PT.obs]
          repeat refine ⟨by first | assumption | omega | (rw [spl_length (by simp; omega)]; simp; done) | (intros; omega), ?_⟩
          refine hK18 _ ?_
          try clear hK18 K18
          refine vwp_ret ?_
          try simp only [thenQ, inBlk]
          refine hR _ _ ?_
          have hw : t.login name secret draw now = ((0, 1), t) := by
            unfold PT.login
            grind
          rw [hw]
          refine ret_only [10, 11] [0, 1, 2] ((t).obs) (by simp) (by simp [PT.obs]) rfl (by simp) (r := .tup [.int .i64 0, .int .i64 1]) (by simp [Try.f42]) ⟨rfl, rfl⟩
      · try (exfalso; simp at h5; done)
        all_goals
          try simp at h5
          refine vwp_seq_k fun K19 hK19 => ?_
          refine vwp_live [0, 2, 3, 4, 12, 13, 15] ?_
          try simp only [argSlots, pruneS, inN, eq_self, reduceIte, ite_true, Nat.reduceAdd, Nat.reduceBEq, Bool.or_true, Bool.true_or, Bool.or_false, Bool.false_or, if_true, if_false, Bool.false_eq_true]
          refine vwp_region hT ?_
          simp [-List.reduceReplicate, PT.obs]
          repeat refine ⟨by first | assumption | omega | (rw [spl_length (by simp; omega)]; simp; done) | (intros; omega), ?_⟩
          refine hK19 _ ?_
          try clear hK19 K19
          refine vwp_cond (by first | rfl | (simp; rfl)) (fun h6 => ?_) (fun h6 => ?_)
          · try (exfalso; simp at h6; done)
            all_goals
              try simp at h6
              refine vwp_seq_k fun K20 hK20 => ?_
              refine vwp_live [] ?_
              try simp only [argSlots, pruneS, inN, eq_self, reduceIte, ite_true, Nat.reduceAdd, Nat.reduceBEq, Bool.or_true, Bool.true_or, Bool.or_false, Bool.false_or, if_true, if_false, Bool.false_eq_true]
              refine vwp_region hT ?_
              simp [-List.reduceReplicate, PT.obs]
              repeat refine ⟨by first | assumption | omega | (rw [spl_length (by simp; omega)]; simp; done) | (intros; omega), ?_⟩
              refine hK20 _ ?_
              try clear hK20 K20
              refine vwp_ret ?_
              try simp only [thenQ, inBlk]
              refine hR _ _ ?_
              have hw : t.login name secret draw now = ((0, 11), t) := by
                unfold PT.login
                grind
              rw [hw]
              refine ret_only [10, 11] [0, 1, 2] ((t).obs) (by simp) (by simp [PT.obs]) rfl (by simp) (r := .tup [.int .i64 0, .int .i64 11]) (by simp [Try.f42]) ⟨rfl, rfl⟩
          · try (exfalso; simp at h6; done)
            all_goals
              try simp at h6
              refine vwp_seq_k fun K21 hK21 => ?_
              refine vwp_live [0, 3, 4, 12, 15] ?_
              try simp only [argSlots, pruneS, inN, eq_self, reduceIte, ite_true, Nat.reduceAdd, Nat.reduceBEq, Bool.or_true, Bool.true_or, Bool.or_false, Bool.false_or, if_true, if_false, Bool.false_eq_true]
              refine vwp_region hT ?_
              simp [-List.reduceReplicate, PT.obs]
              repeat refine ⟨by first | assumption | omega | (rw [spl_length (by simp; omega)]; simp; done) | (intros; omega), ?_⟩
              refine hK21 _ ?_
              try clear hK21 K21
              refine vwp_cond (by first | rfl | (simp; rfl)) (fun h7 => ?_) (fun h7 => ?_)
              · try (exfalso; simp at h7; done)
                all_goals
                  try simp at h7
                  refine vwp_seq_k fun K22 hK22 => ?_
                  refine vwp_live [] ?_
                  try simp only [argSlots, pruneS, inN, eq_self, reduceIte, ite_true, Nat.reduceAdd, Nat.reduceBEq, Bool.or_true, Bool.true_or, Bool.or_false, Bool.false_or, if_true, if_false, Bool.false_eq_true]
                  refine vwp_region hT ?_
                  simp [-List.reduceReplicate, PT.obs]
                  repeat refine ⟨by first | assumption | omega | (rw [spl_length (by simp; omega)]; simp; done) | (intros; omega), ?_⟩
                  refine hK22 _ ?_
                  try clear hK22 K22
                  refine vwp_ret ?_
                  try simp only [thenQ, inBlk]
                  refine hR _ _ ?_
                  have hw : t.login name secret draw now = ((0, 6), t) := by
                    unfold PT.login
                    grind
                  rw [hw]
                  refine ret_only [10, 11] [0, 1, 2] ((t).obs) (by simp) (by simp [PT.obs]) rfl (by simp) (r := .tup [.int .i64 0, .int .i64 6]) (by simp [Try.f42]) ⟨rfl, rfl⟩
              · try (exfalso; simp at h7; done)
                all_goals
                  try simp at h7
                  refine vwp_seq_k fun K23 hK23 => ?_
                  refine vwp_live [0, 3, 4, 12] ?_
                  try simp only [argSlots, pruneS, inN, eq_self, reduceIte, ite_true, Nat.reduceAdd, Nat.reduceBEq, Bool.or_true, Bool.true_or, Bool.or_false, Bool.false_or, if_true, if_false, Bool.false_eq_true]
                  refine vwp_calm hT hm (by kernel_rfl) ?_
                  simp [-List.reduceReplicate, PT.obs]
                  refine ⟨.int .i64 (t.many u.who now : Nat), fun sl => ?_, ?_⟩
                  · refine vcall_by0 [0, 1, 2] (many_spec t hl u.who now) (by simp) (by simp [PT.obs]) (by simp) (by simp [PT.obs]) ?_
                    rintro r ob' ⟨rfl, rfl⟩
                    simp [PT.obs]
                  simp [-List.reduceReplicate, PT.obs]
                  repeat refine ⟨by first | assumption | omega | (rw [spl_length (by simp; omega)]; simp; done) | (intros; omega), ?_⟩
                  refine hK23 _ ?_
                  try clear hK23 K23
                  refine vwp_cond (by first | rfl | (simp; rfl)) (fun h8 => ?_) (fun h8 => ?_)
                  · try (exfalso; simp at h8; done)
                    all_goals
                      try simp at h8
                      refine vwp_seq_k fun K24 hK24 => ?_
                      refine vwp_live [] ?_
                      try simp only [argSlots, pruneS, inN, eq_self, reduceIte, ite_true, Nat.reduceAdd, Nat.reduceBEq, Bool.or_true, Bool.true_or, Bool.or_false, Bool.false_or, if_true, if_false, Bool.false_eq_true]
                      refine vwp_region hT ?_
                      simp [-List.reduceReplicate, PT.obs]
                      repeat refine ⟨by first | assumption | omega | (rw [spl_length (by simp; omega)]; simp; done) | (intros; omega), ?_⟩
                      refine hK24 _ ?_
                      try clear hK24 K24
                      refine vwp_ret ?_
                      try simp only [thenQ, inBlk]
                      refine hR _ _ ?_
                      have hw : t.login name secret draw now = ((0, 4), t) := by
                        unfold PT.login
                        grind
                      rw [hw]
                      refine ret_only [10, 11] [0, 1, 2] ((t).obs) (by simp) (by simp [PT.obs]) rfl (by simp) (r := .tup [.int .i64 0, .int .i64 4]) (by simp [Try.f42]) ⟨rfl, rfl⟩
                  · try (exfalso; simp at h8; done)
                    all_goals
                      try simp at h8
                      refine vwp_skip ?_
                      try simp only [thenQ, inBlk]
                      refine hK16 _ ?_
                      try clear hK16 K16
                      refine vwp_seq_k fun K25 hK25 => ?_
                      rcases hp : fIdx (fun s => draw == s.tok) t.ss 0 with _ | ⟨j, s1⟩
                      · have w1 : IntKind.i64.wrap (now + t.life) = now + t.life := w64 (by omega) (by omega)
                        refine vwp_live [0, 3, 4, 12] ?_
                        try simp only [argSlots, pruneS, inN, eq_self, reduceIte, ite_true, Nat.reduceAdd, Nat.reduceBEq, Bool.or_true, Bool.true_or, Bool.or_false, Bool.false_or, if_true, if_false, Bool.false_eq_true]
                        refine vwp_storm hT hm [.pure, .win 0 0, .win 0 0, .win 0 0, .pure, .win 0 0, .win 0 0, .pure, .pure, .win 0 0, .win 0 0, .win 0 0, .win 0 0, .win 0 0, .mv] [[], [0], [0, 1], [0, 1, 2], [], [], [5], [], [], [8], [8, 9], [8, 9, 10], [7, 8, 9, 10, 11], [5, 6, 7, 8, 9, 10, 11, 12], [0, 1, 2, 3, 4, 5, 6, 7, 8, 9, 10, 11, 12, 13]] (by kernel_rfl) ?_
                        simp [-List.reduceReplicate, PT.obs, w1, vfindK_S, hp]
                        repeat refine ⟨by first | assumption | omega | (rw [spl_length (by simp; omega)]; simp; done) | (intros; omega), ?_⟩
                        refine hK25 _ ?_
                        try clear hK25 K25
                        refine vwp_seq_k fun K26 hK26 => ?_
                        refine vwp_live [3] ?_
                        try simp only [argSlots, pruneS, inN, eq_self, reduceIte, ite_true, Nat.reduceAdd, Nat.reduceBEq, Bool.or_true, Bool.true_or, Bool.or_false, Bool.false_or, if_true, if_false, Bool.false_eq_true]
                        refine vwp_region hT ?_
                        simp [-List.reduceReplicate, PT.obs]
                        repeat refine ⟨by first | assumption | omega | (rw [spl_length (by simp; omega)]; simp; done) | (intros; omega), ?_⟩
                        refine hK26 _ ?_
                        try clear hK26 K26
                        refine vwp_ret ?_
                        try simp only [thenQ, inBlk]
                        refine hR _ _ ?_
                        have hw : t.login name secret draw now = ((draw, 0), t.put draw u.who (now + t.life)) := by
                          unfold PT.login
                          grind
                        rw [hw]
                        refine ret_only [10, 11] [0, 1, 2] ((t.put draw u.who (now + t.life)).obs) (by simp) (by simp [PT.obs, PT.put, hp, ent_modify]) rfl (by simp) (r := .tup [.int .i64 draw, .int .i64 0]) (by simp [Try.f42]) ⟨rfl, rfl⟩
                      · have w1 : IntKind.i64.wrap (now + t.life) = now + t.life := w64 (by omega) (by omega)
                        refine vwp_live [0, 3, 4, 12] ?_
                        try simp only [argSlots, pruneS, inN, eq_self, reduceIte, ite_true, Nat.reduceAdd, Nat.reduceBEq, Bool.or_true, Bool.true_or, Bool.or_false, Bool.false_or, if_true, if_false, Bool.false_eq_true]
                        refine vwp_storm hT hm [.pure, .win 0 0, .win 0 0, .win 0 0, .pure, .win 0 0, .win 0 0, .pure, .pure, .win 0 0, .win 0 0, .win 0 0, .win 0 0, .win 0 0, .mv] [[], [0], [0, 1], [0, 1, 2], [], [], [5], [], [], [8], [8, 9], [8, 9, 10], [7, 8, 9, 10, 11], [5, 6, 7, 8, 9, 10, 11, 12], [0, 1, 2, 3, 4, 5, 6, 7, 8, 9, 10, 11, 12, 13]] (by kernel_rfl) ?_
                        simp [-List.reduceReplicate, PT.obs, w1, vfindK_S, hp]
                        repeat refine ⟨by first | assumption | omega | (rw [spl_length (by simp; omega)]; simp; done) | (intros; omega), ?_⟩
                        refine hK25 _ ?_
                        try clear hK25 K25
                        refine vwp_seq_k fun K27 hK27 => ?_
                        refine vwp_live [3] ?_
                        try simp only [argSlots, pruneS, inN, eq_self, reduceIte, ite_true, Nat.reduceAdd, Nat.reduceBEq, Bool.or_true, Bool.true_or, Bool.or_false, Bool.false_or, if_true, if_false, Bool.false_eq_true]
                        refine vwp_region hT ?_
                        simp [-List.reduceReplicate, PT.obs]
                        repeat refine ⟨by first | assumption | omega | (rw [spl_length (by simp; omega)]; simp; done) | (intros; omega), ?_⟩
                        refine hK27 _ ?_
                        try clear hK27 K27
                        refine vwp_ret ?_
                        try simp only [thenQ, inBlk]
                        refine hR _ _ ?_
                        have hw : t.login name secret draw now = ((draw, 0), t.put draw u.who (now + t.life)) := by
                          unfold PT.login
                          grind
                        rw [hw]
                        refine ret_only [10, 11] [0, 1, 2] ((t.put draw u.who (now + t.life)).obs) (by simp) (by simp [PT.obs, PT.put, hp, ent_modify]) rfl (by simp) (r := .tup [.int .i64 draw, .int .i64 0]) (by simp [Try.f42]) ⟨rfl, rfl⟩
  · refine vwp_live [0, 1, 2, 3, 4] ?_
    try simp only [argSlots, pruneS, inN, eq_self, reduceIte, ite_true, Nat.reduceAdd, Nat.reduceBEq, Bool.or_true, Bool.true_or, Bool.or_false, Bool.false_or, if_true, if_false, Bool.false_eq_true]
    refine vwp_region hT ?_
    simp [-List.reduceReplicate, PT.obs, vfindK_U, hq]
    repeat refine ⟨by first | assumption | omega | (rw [spl_length (by simp; omega)]; simp; done) | (intros; omega), ?_⟩
    refine hK2 _ ?_
    try clear hK2 K2
    refine vwp_seq_k fun K28 hK28 => ?_
    rcases hf : t.find draw now with _ | s
    · refine vwp_live [0, 2, 3, 4, 12, 13] ?_
      try simp only [argSlots, pruneS, inN, eq_self, reduceIte, ite_true, Nat.reduceAdd, Nat.reduceBEq, Bool.or_true, Bool.true_or, Bool.or_false, Bool.false_or, if_true, if_false, Bool.false_eq_true]
      refine vwp_region hT ?_
      simp [-List.reduceReplicate, PT.obs, hf]
      refine vcall_by0 [0, 1, 2] (find_spec t draw now) (by simp) (by simp [PT.obs]) (by simp) (by simp [PT.obs]) ?_
      rintro r ob' ⟨rfl, rfl⟩
      simp [-List.reduceReplicate, PT.obs, hf]
      repeat refine ⟨by first | assumption | omega | (rw [spl_length (by simp; omega)]; simp; done) | (intros; omega), ?_⟩
      refine hK28 _ ?_
      try clear hK28 K28
      refine vwp_seq_k fun K29 hK29 => ?_
      refine vwp_block ?_
      refine vwp_seq_k fun K30 hK30 => ?_
      refine vwp_live [0, 2, 3, 4, 12, 13, 15] ?_
      try simp only [argSlots, pruneS, inN, eq_self, reduceIte, ite_true, Nat.reduceAdd, Nat.reduceBEq, Bool.or_true, Bool.true_or, Bool.or_false, Bool.false_or, if_true, if_false, Bool.false_eq_true]
      refine vwp_region hT ?_
      simp [-List.reduceReplicate, PT.obs]
      repeat refine ⟨by first | assumption | omega | (rw [spl_length (by simp; omega)]; simp; done) | (intros; omega), ?_⟩
      refine hK30 _ ?_
      try clear hK30 K30
      refine vwp_cond (by first | rfl | (simp; rfl)) (fun h9 => ?_) (fun h9 => ?_)
      · try (exfalso; simp at h9; done)
        all_goals
          try simp at h9
          refine vwp_seq_k fun K31 hK31 => ?_
          refine vwp_live [] ?_
          try simp only [argSlots, pruneS, inN, eq_self, reduceIte, ite_true, Nat.reduceAdd, Nat.reduceBEq, Bool.or_true, Bool.true_or, Bool.or_false, Bool.false_or, if_true, if_false, Bool.false_eq_true]
          refine vwp_region hT ?_
          simp [-List.reduceReplicate, PT.obs]
          repeat refine ⟨by first | assumption | omega | (rw [spl_length (by simp; omega)]; simp; done) | (intros; omega), ?_⟩
          refine hK31 _ ?_
          try clear hK31 K31
          refine vwp_ret ?_
          try simp only [thenQ, inBlk]
          refine hR _ _ ?_
          have hw : t.login name secret draw now = ((0, 1), t) := by
            unfold PT.login
            grind
          rw [hw]
          refine ret_only [10, 11] [0, 1, 2] ((t).obs) (by simp) (by simp [PT.obs]) rfl (by simp) (r := .tup [.int .i64 0, .int .i64 1]) (by simp [Try.f42]) ⟨rfl, rfl⟩
      · try (exfalso; simp at h9; done)
        all_goals
          try simp at h9
          refine vwp_seq_k fun K32 hK32 => ?_
          refine vwp_live [0, 2, 3, 4, 12, 13, 15] ?_
          try simp only [argSlots, pruneS, inN, eq_self, reduceIte, ite_true, Nat.reduceAdd, Nat.reduceBEq, Bool.or_true, Bool.true_or, Bool.or_false, Bool.false_or, if_true, if_false, Bool.false_eq_true]
          refine vwp_region hT ?_
          simp [-List.reduceReplicate, PT.obs]
          repeat refine ⟨by first | assumption | omega | (rw [spl_length (by simp; omega)]; simp; done) | (intros; omega), ?_⟩
          refine hK32 _ ?_
          try clear hK32 K32
          refine vwp_cond (by first | rfl | (simp; rfl)) (fun h10 => ?_) (fun h10 => ?_)
          · try (exfalso; simp at h10; done)
            all_goals
              try simp at h10
              refine vwp_seq_k fun K33 hK33 => ?_
              refine vwp_live [] ?_
              try simp only [argSlots, pruneS, inN, eq_self, reduceIte, ite_true, Nat.reduceAdd, Nat.reduceBEq, Bool.or_true, Bool.true_or, Bool.or_false, Bool.false_or, if_true, if_false, Bool.false_eq_true]
              refine vwp_region hT ?_
              simp [-List.reduceReplicate, PT.obs]
              repeat refine ⟨by first | assumption | omega | (rw [spl_length (by simp; omega)]; simp; done) | (intros; omega), ?_⟩
              refine hK33 _ ?_
              try clear hK33 K33
              refine vwp_ret ?_
              try simp only [thenQ, inBlk]
              refine hR _ _ ?_
              have hw : t.login name secret draw now = ((0, 11), t) := by
                unfold PT.login
                grind
              rw [hw]
              refine ret_only [10, 11] [0, 1, 2] ((t).obs) (by simp) (by simp [PT.obs]) rfl (by simp) (r := .tup [.int .i64 0, .int .i64 11]) (by simp [Try.f42]) ⟨rfl, rfl⟩
          · try (exfalso; simp at h10; done)
            all_goals
              try simp at h10
              refine vwp_seq_k fun K34 hK34 => ?_
              refine vwp_live [0, 3, 4, 12, 15] ?_
              try simp only [argSlots, pruneS, inN, eq_self, reduceIte, ite_true, Nat.reduceAdd, Nat.reduceBEq, Bool.or_true, Bool.true_or, Bool.or_false, Bool.false_or, if_true, if_false, Bool.false_eq_true]
              refine vwp_region hT ?_
              simp [-List.reduceReplicate, PT.obs]
              repeat refine ⟨by first | assumption | omega | (rw [spl_length (by simp; omega)]; simp; done) | (intros; omega), ?_⟩
              refine hK34 _ ?_
              try clear hK34 K34
              refine vwp_cond (by first | rfl | (simp; rfl)) (fun h11 => ?_) (fun h11 => ?_)
              · try (exfalso; simp at h11; done)
                all_goals
                  try simp at h11
                  refine vwp_seq_k fun K35 hK35 => ?_
                  refine vwp_live [] ?_
                  try simp only [argSlots, pruneS, inN, eq_self, reduceIte, ite_true, Nat.reduceAdd, Nat.reduceBEq, Bool.or_true, Bool.true_or, Bool.or_false, Bool.false_or, if_true, if_false, Bool.false_eq_true]
                  refine vwp_region hT ?_
                  simp [-List.reduceReplicate, PT.obs]
                  repeat refine ⟨by first | assumption | omega | (rw [spl_length (by simp; omega)]; simp; done) | (intros; omega), ?_⟩
                  refine hK35 _ ?_
                  try clear hK35 K35
                  refine vwp_ret ?_
                  try simp only [thenQ, inBlk]
                  refine hR _ _ ?_
                  have hw : t.login name secret draw now = ((0, 6), t) := by
                    unfold PT.login
                    grind
                  rw [hw]
                  refine ret_only [10, 11] [0, 1, 2] ((t).obs) (by simp) (by simp [PT.obs]) rfl (by simp) (r := .tup [.int .i64 0, .int .i64 6]) (by simp [Try.f42]) ⟨rfl, rfl⟩
              · try (exfalso; simp at h11; done)
                all_goals
                  try simp at h11
                  refine vwp_seq_k fun K36 hK36 => ?_
                  refine vwp_live [0, 3, 4, 12] ?_
                  try simp only [argSlots, pruneS, inN, eq_self, reduceIte, ite_true, Nat.reduceAdd, Nat.reduceBEq, Bool.or_true, Bool.true_or, Bool.or_false, Bool.false_or, if_true, if_false, Bool.false_eq_true]
                  refine vwp_calm hT hm (by kernel_rfl) ?_
                  simp [-List.reduceReplicate, PT.obs]
                  refine ⟨.int .i64 (t.many u.who now : Nat), fun sl => ?_, ?_⟩
                  · refine vcall_by0 [0, 1, 2] (many_spec t hl u.who now) (by simp) (by simp [PT.obs]) (by simp) (by simp [PT.obs]) ?_
                    rintro r ob' ⟨rfl, rfl⟩
                    simp [PT.obs]
                  simp [-List.reduceReplicate, PT.obs]
                  repeat refine ⟨by first | assumption | omega | (rw [spl_length (by simp; omega)]; simp; done) | (intros; omega), ?_⟩
                  refine hK36 _ ?_
                  try clear hK36 K36
                  refine vwp_cond (by first | rfl | (simp; rfl)) (fun h12 => ?_) (fun h12 => ?_)
                  · try (exfalso; simp at h12; done)
                    all_goals
                      try simp at h12
                      refine vwp_seq_k fun K37 hK37 => ?_
                      refine vwp_live [] ?_
                      try simp only [argSlots, pruneS, inN, eq_self, reduceIte, ite_true, Nat.reduceAdd, Nat.reduceBEq, Bool.or_true, Bool.true_or, Bool.or_false, Bool.false_or, if_true, if_false, Bool.false_eq_true]
                      refine vwp_region hT ?_
                      simp [-List.reduceReplicate, PT.obs]
                      repeat refine ⟨by first | assumption | omega | (rw [spl_length (by simp; omega)]; simp; done) | (intros; omega), ?_⟩
                      refine hK37 _ ?_
                      try clear hK37 K37
                      refine vwp_ret ?_
                      try simp only [thenQ, inBlk]
                      refine hR _ _ ?_
                      have hw : t.login name secret draw now = ((0, 4), t) := by
                        unfold PT.login
                        grind
                      rw [hw]
                      refine ret_only [10, 11] [0, 1, 2] ((t).obs) (by simp) (by simp [PT.obs]) rfl (by simp) (r := .tup [.int .i64 0, .int .i64 4]) (by simp [Try.f42]) ⟨rfl, rfl⟩
                  · try (exfalso; simp at h12; done)
                    all_goals
                      try simp at h12
                      refine vwp_skip ?_
                      try simp only [thenQ, inBlk]
                      refine hK29 _ ?_
                      try clear hK29 K29
                      refine vwp_seq_k fun K38 hK38 => ?_
                      rcases hp : fIdx (fun s => draw == s.tok) t.ss 0 with _ | ⟨j, s1⟩
                      · have w1 : IntKind.i64.wrap (now + t.life) = now + t.life := w64 (by omega) (by omega)
                        refine vwp_live [0, 3, 4, 12] ?_
                        try simp only [argSlots, pruneS, inN, eq_self, reduceIte, ite_true, Nat.reduceAdd, Nat.reduceBEq, Bool.or_true, Bool.true_or, Bool.or_false, Bool.false_or, if_true, if_false, Bool.false_eq_true]
                        refine vwp_storm hT hm [.pure, .win 0 0, .win 0 0, .win 0 0, .pure, .win 0 0, .win 0 0, .pure, .pure, .win 0 0, .win 0 0, .win 0 0, .win 0 0, .win 0 0, .mv] [[], [0], [0, 1], [0, 1, 2], [], [], [5], [], [], [8], [8, 9], [8, 9, 10], [7, 8, 9, 10, 11], [5, 6, 7, 8, 9, 10, 11, 12], [0, 1, 2, 3, 4, 5, 6, 7, 8, 9, 10, 11, 12, 13]] (by kernel_rfl) ?_
                        simp [-List.reduceReplicate, PT.obs, w1, vfindK_S, hp]
                        repeat refine ⟨by first | assumption | omega | (rw [spl_length (by simp; omega)]; simp; done) | (intros; omega), ?_⟩
                        refine hK38 _ ?_
                        try clear hK38 K38
                        refine vwp_seq_k fun K39 hK39 => ?_
                        refine vwp_live [3] ?_
                        try simp only [argSlots, pruneS, inN, eq_self, reduceIte, ite_true, Nat.reduceAdd, Nat.reduceBEq, Bool.or_true, Bool.true_or, Bool.or_false, Bool.false_or, if_true, if_false, Bool.false_eq_true]
                        refine vwp_region hT ?_
                        simp [-List.reduceReplicate, PT.obs]
                        repeat refine ⟨by first | assumption | omega | (rw [spl_length (by simp; omega)]; simp; done) | (intros; omega), ?_⟩
                        refine hK39 _ ?_
                        try clear hK39 K39
                        refine vwp_ret ?_
                        try simp only [thenQ, inBlk]
                        refine hR _ _ ?_
                        have hw : t.login name secret draw now = ((draw, 0), t.put draw u.who (now + t.life)) := by
                          unfold PT.login
                          grind
                        rw [hw]
                        refine ret_only [10, 11] [0, 1, 2] ((t.put draw u.who (now + t.life)).obs) (by simp) (by simp [PT.obs, PT.put, hp, ent_modify]) rfl (by simp) (r := .tup [.int .i64 draw, .int .i64 0]) (by simp [Try.f42]) ⟨rfl, rfl⟩
                      · have w1 : IntKind.i64.wrap (now + t.life) = now + t.life := w64 (by omega) (by omega)
                        refine vwp_live [0, 3, 4, 12] ?_
                        try simp only [argSlots, pruneS, inN, eq_self, reduceIte, ite_true, Nat.reduceAdd, Nat.reduceBEq, Bool.or_true, Bool.true_or, Bool.or_false, Bool.false_or, if_true, if_false, Bool.false_eq_true]
                        refine vwp_storm hT hm [.pure, .win 0 0, .win 0 0, .win 0 0, .pure, .win 0 0, .win 0 0, .pure, .pure, .win 0 0, .win 0 0, .win 0 0, .win 0 0, .win 0 0, .mv] [[], [0], [0, 1], [0, 1, 2], [], [], [5], [], [], [8], [8, 9], [8, 9, 10], [7, 8, 9, 10, 11], [5, 6, 7, 8, 9, 10, 11, 12], [0, 1, 2, 3, 4, 5, 6, 7, 8, 9, 10, 11, 12, 13]] (by kernel_rfl) ?_
                        simp [-List.reduceReplicate, PT.obs, w1, vfindK_S, hp]
                        repeat refine ⟨by first | assumption | omega | (rw [spl_length (by simp; omega)]; simp; done) | (intros; omega), ?_⟩
                        refine hK38 _ ?_
                        try clear hK38 K38
                        refine vwp_seq_k fun K40 hK40 => ?_
                        refine vwp_live [3] ?_
                        try simp only [argSlots, pruneS, inN, eq_self, reduceIte, ite_true, Nat.reduceAdd, Nat.reduceBEq, Bool.or_true, Bool.true_or, Bool.or_false, Bool.false_or, if_true, if_false, Bool.false_eq_true]
                        refine vwp_region hT ?_
                        simp [-List.reduceReplicate, PT.obs]
                        repeat refine ⟨by first | assumption | omega | (rw [spl_length (by simp; omega)]; simp; done) | (intros; omega), ?_⟩
                        refine hK40 _ ?_
                        try clear hK40 K40
                        refine vwp_ret ?_
                        try simp only [thenQ, inBlk]
                        refine hR _ _ ?_
                        have hw : t.login name secret draw now = ((draw, 0), t.put draw u.who (now + t.life)) := by
                          unfold PT.login
                          grind
                        rw [hw]
                        refine ret_only [10, 11] [0, 1, 2] ((t.put draw u.who (now + t.life)).obs) (by simp) (by simp [PT.obs, PT.put, hp, ent_modify]) rfl (by simp) (r := .tup [.int .i64 draw, .int .i64 0]) (by simp [Try.f42]) ⟨rfl, rfl⟩
    · have hr := PT.find_raw hf
      refine vwp_live [0, 2, 3, 4, 12, 13] ?_
      try simp only [argSlots, pruneS, inN, eq_self, reduceIte, ite_true, Nat.reduceAdd, Nat.reduceBEq, Bool.or_true, Bool.true_or, Bool.or_false, Bool.false_or, if_true, if_false, Bool.false_eq_true]
      refine vwp_region hT ?_
      simp [-List.reduceReplicate, PT.obs, hf, hr]
      refine vcall_by0 [0, 1, 2] (find_spec t draw now) (by simp) (by simp [PT.obs]) (by simp) (by simp [PT.obs]) ?_
      rintro r ob' ⟨rfl, rfl⟩
      simp [-List.reduceReplicate, PT.obs, hf, hr]
      repeat refine ⟨by first | assumption | omega | (rw [spl_length (by simp; omega)]; simp; done) | (intros; omega), ?_⟩
      refine hK28 _ ?_
      try clear hK28 K28
      refine vwp_seq_k fun K41 hK41 => ?_
      refine vwp_block ?_
      refine vwp_seq_k fun K42 hK42 => ?_
      refine vwp_live [0, 2, 3, 4, 12, 13, 15] ?_
      try simp only [argSlots, pruneS, inN, eq_self, reduceIte, ite_true, Nat.reduceAdd, Nat.reduceBEq, Bool.or_true, Bool.true_or, Bool.or_false, Bool.false_or, if_true, if_false, Bool.false_eq_true]
      refine vwp_region hT ?_
      simp [-List.reduceReplicate, PT.obs]
      repeat refine ⟨by first | assumption | omega | (rw [spl_length (by simp; omega)]; simp; done) | (intros; omega), ?_⟩
      refine hK42 _ ?_
      try clear hK42 K42
      refine vwp_cond (by first | rfl | (simp; rfl)) (fun h13 => ?_) (fun h13 => ?_)
      · try (exfalso; simp at h13; done)
        all_goals
          try simp at h13
          refine vwp_seq_k fun K43 hK43 => ?_
          refine vwp_live [] ?_
          try simp only [argSlots, pruneS, inN, eq_self, reduceIte, ite_true, Nat.reduceAdd, Nat.reduceBEq, Bool.or_true, Bool.true_or, Bool.or_false, Bool.false_or, if_true, if_false, Bool.false_eq_true]
          refine vwp_region hT ?_
          simp [-List.reduceReplicate, PT.obs]
          repeat refine ⟨by first | assumption | omega | (rw [spl_length (by simp; omega)]; simp; done) | (intros; omega), ?_⟩
          refine hK43 _ ?_
          try clear hK43 K43
          refine vwp_ret ?_
          try simp only [thenQ, inBlk]
          refine hR _ _ ?_
          have hw : t.login name secret draw now = ((0, 1), t) := by
            unfold PT.login
            grind
          rw [hw]
          refine ret_only [10, 11] [0, 1, 2] ((t).obs) (by simp) (by simp [PT.obs]) rfl (by simp) (r := .tup [.int .i64 0, .int .i64 1]) (by simp [Try.f42]) ⟨rfl, rfl⟩
      · try (exfalso; simp at h13; done)
        all_goals
          try simp at h13
          refine vwp_seq_k fun K44 hK44 => ?_
          refine vwp_live [0, 2, 3, 4, 12, 13, 15] ?_
          try simp only [argSlots, pruneS, inN, eq_self, reduceIte, ite_true, Nat.reduceAdd, Nat.reduceBEq, Bool.or_true, Bool.true_or, Bool.or_false, Bool.false_or, if_true, if_false, Bool.false_eq_true]
          refine vwp_region hT ?_
          simp [-List.reduceReplicate, PT.obs]
          repeat refine ⟨by first | assumption | omega | (rw [spl_length (by simp; omega)]; simp; done) | (intros; omega), ?_⟩
          refine hK44 _ ?_
          try clear hK44 K44
          refine vwp_cond (by first | rfl | (simp; rfl)) (fun h14 => ?_) (fun h14 => ?_)
          · try (exfalso; simp at h14; done)
            all_goals
              try simp at h14
              refine vwp_seq_k fun K45 hK45 => ?_
              refine vwp_live [] ?_
              try simp only [argSlots, pruneS, inN, eq_self, reduceIte, ite_true, Nat.reduceAdd, Nat.reduceBEq, Bool.or_true, Bool.true_or, Bool.or_false, Bool.false_or, if_true, if_false, Bool.false_eq_true]
              refine vwp_region hT ?_
              simp [-List.reduceReplicate, PT.obs]
              repeat refine ⟨by first | assumption | omega | (rw [spl_length (by simp; omega)]; simp; done) | (intros; omega), ?_⟩
              refine hK45 _ ?_
              try clear hK45 K45
              refine vwp_ret ?_
              try simp only [thenQ, inBlk]
              refine hR _ _ ?_
              have hw : t.login name secret draw now = ((0, 11), t) := by
                unfold PT.login
                grind
              rw [hw]
              refine ret_only [10, 11] [0, 1, 2] ((t).obs) (by simp) (by simp [PT.obs]) rfl (by simp) (r := .tup [.int .i64 0, .int .i64 11]) (by simp [Try.f42]) ⟨rfl, rfl⟩
          · try (exfalso; simp at h14; done)
            all_goals
              try simp at h14
              refine vwp_seq_k fun K46 hK46 => ?_
              refine vwp_live [0, 3, 4, 12, 15] ?_
              try simp only [argSlots, pruneS, inN, eq_self, reduceIte, ite_true, Nat.reduceAdd, Nat.reduceBEq, Bool.or_true, Bool.true_or, Bool.or_false, Bool.false_or, if_true, if_false, Bool.false_eq_true]
              refine vwp_region hT ?_
              simp [-List.reduceReplicate, PT.obs]
              repeat refine ⟨by first | assumption | omega | (rw [spl_length (by simp; omega)]; simp; done) | (intros; omega), ?_⟩
              refine hK46 _ ?_
              try clear hK46 K46
              refine vwp_cond (by first | rfl | (simp; rfl)) (fun h15 => ?_) (fun h15 => ?_)
              · try (exfalso; simp at h15; done)
                all_goals
                  try simp at h15
                  refine vwp_seq_k fun K47 hK47 => ?_
                  refine vwp_live [] ?_
                  try simp only [argSlots, pruneS, inN, eq_self, reduceIte, ite_true, Nat.reduceAdd, Nat.reduceBEq, Bool.or_true, Bool.true_or, Bool.or_false, Bool.false_or, if_true, if_false, Bool.false_eq_true]
                  refine vwp_region hT ?_
                  simp [-List.reduceReplicate, PT.obs]
                  repeat refine ⟨by first | assumption | omega | (rw [spl_length (by simp; omega)]; simp; done) | (intros; omega), ?_⟩
                  refine hK47 _ ?_
                  try clear hK47 K47
                  refine vwp_ret ?_
                  try simp only [thenQ, inBlk]
                  refine hR _ _ ?_
                  have hw : t.login name secret draw now = ((0, 6), t) := by
                    unfold PT.login
                    grind
                  rw [hw]
                  refine ret_only [10, 11] [0, 1, 2] ((t).obs) (by simp) (by simp [PT.obs]) rfl (by simp) (r := .tup [.int .i64 0, .int .i64 6]) (by simp [Try.f42]) ⟨rfl, rfl⟩
              · try (exfalso; simp at h15; done)
                all_goals
                  try simp at h15
                  refine vwp_seq_k fun K48 hK48 => ?_
                  refine vwp_live [0, 3, 4, 12] ?_
                  try simp only [argSlots, pruneS, inN, eq_self, reduceIte, ite_true, Nat.reduceAdd, Nat.reduceBEq, Bool.or_true, Bool.true_or, Bool.or_false, Bool.false_or, if_true, if_false, Bool.false_eq_true]
                  refine vwp_calm hT hm (by kernel_rfl) ?_
                  simp [-List.reduceReplicate, PT.obs]
                  refine ⟨.int .i64 (t.many u.who now : Nat), fun sl => ?_, ?_⟩
                  · refine vcall_by0 [0, 1, 2] (many_spec t hl u.who now) (by simp) (by simp [PT.obs]) (by simp) (by simp [PT.obs]) ?_
                    rintro r ob' ⟨rfl, rfl⟩
                    simp [PT.obs]
                  simp [-List.reduceReplicate, PT.obs]
                  repeat refine ⟨by first | assumption | omega | (rw [spl_length (by simp; omega)]; simp; done) | (intros; omega), ?_⟩
                  refine hK48 _ ?_
                  try clear hK48 K48
                  refine vwp_cond (by first | rfl | (simp; rfl)) (fun h16 => ?_) (fun h16 => ?_)
                  · try (exfalso; simp at h16; done)
                    all_goals
                      try simp at h16
                      refine vwp_seq_k fun K49 hK49 => ?_
                      refine vwp_live [] ?_
                      try simp only [argSlots, pruneS, inN, eq_self, reduceIte, ite_true, Nat.reduceAdd, Nat.reduceBEq, Bool.or_true, Bool.true_or, Bool.or_false, Bool.false_or, if_true, if_false, Bool.false_eq_true]
                      refine vwp_region hT ?_
                      simp [-List.reduceReplicate, PT.obs]
                      repeat refine ⟨by first | assumption | omega | (rw [spl_length (by simp; omega)]; simp; done) | (intros; omega), ?_⟩
                      refine hK49 _ ?_
                      try clear hK49 K49
                      refine vwp_ret ?_
                      try simp only [thenQ, inBlk]
                      refine hR _ _ ?_
                      have hw : t.login name secret draw now = ((0, 4), t) := by
                        unfold PT.login
                        grind
                      rw [hw]
                      refine ret_only [10, 11] [0, 1, 2] ((t).obs) (by simp) (by simp [PT.obs]) rfl (by simp) (r := .tup [.int .i64 0, .int .i64 4]) (by simp [Try.f42]) ⟨rfl, rfl⟩
                  · try (exfalso; simp at h16; done)
                    all_goals
                      try simp at h16
                      refine vwp_skip ?_
                      try simp only [thenQ, inBlk]
                      refine hK41 _ ?_
                      try clear hK41 K41
                      refine vwp_seq_k fun K50 hK50 => ?_
                      rcases hp : fIdx (fun s => draw == s.tok) t.ss 0 with _ | ⟨j, s1⟩
                      · have w1 : IntKind.i64.wrap (now + t.life) = now + t.life := w64 (by omega) (by omega)
                        refine vwp_live [0, 3, 4, 12] ?_
                        try simp only [argSlots, pruneS, inN, eq_self, reduceIte, ite_true, Nat.reduceAdd, Nat.reduceBEq, Bool.or_true, Bool.true_or, Bool.or_false, Bool.false_or, if_true, if_false, Bool.false_eq_true]
                        refine vwp_storm hT hm [.pure, .win 0 0, .win 0 0, .win 0 0, .pure, .win 0 0, .win 0 0, .pure, .pure, .win 0 0, .win 0 0, .win 0 0, .win 0 0, .win 0 0, .mv] [[], [0], [0, 1], [0, 1, 2], [], [], [5], [], [], [8], [8, 9], [8, 9, 10], [7, 8, 9, 10, 11], [5, 6, 7, 8, 9, 10, 11, 12], [0, 1, 2, 3, 4, 5, 6, 7, 8, 9, 10, 11, 12, 13]] (by kernel_rfl) ?_
                        simp [-List.reduceReplicate, PT.obs, w1, vfindK_S, hp]
                        repeat refine ⟨by first | assumption | omega | (rw [spl_length (by simp; omega)]; simp; done) | (intros; omega), ?_⟩
                        refine hK50 _ ?_
                        try clear hK50 K50
                        refine vwp_seq_k fun K51 hK51 => ?_
                        refine vwp_live [3] ?_
                        try simp only [argSlots, pruneS, inN, eq_self, reduceIte, ite_true, Nat.reduceAdd, Nat.reduceBEq, Bool.or_true, Bool.true_or, Bool.or_false, Bool.false_or, if_true, if_false, Bool.false_eq_true]
                        refine vwp_region hT ?_
                        simp [-List.reduceReplicate, PT.obs]
                        repeat refine ⟨by first | assumption | omega | (rw [spl_length (by simp; omega)]; simp; done) | (intros; omega), ?_⟩
                        refine hK51 _ ?_
                        try clear hK51 K51
                        refine vwp_ret ?_
                        try simp only [thenQ, inBlk]
                        refine hR _ _ ?_
                        have hw : t.login name secret draw now = ((draw, 0), t.put draw u.who (now + t.life)) := by
                          unfold PT.login
                          grind
                        rw [hw]
                        refine ret_only [10, 11] [0, 1, 2] ((t.put draw u.who (now + t.life)).obs) (by simp) (by simp [PT.obs, PT.put, hp, ent_modify]) rfl (by simp) (r := .tup [.int .i64 draw, .int .i64 0]) (by simp [Try.f42]) ⟨rfl, rfl⟩
                      · have w1 : IntKind.i64.wrap (now + t.life) = now + t.life := w64 (by omega) (by omega)
                        refine vwp_live [0, 3, 4, 12] ?_
                        try simp only [argSlots, pruneS, inN, eq_self, reduceIte, ite_true, Nat.reduceAdd, Nat.reduceBEq, Bool.or_true, Bool.true_or, Bool.or_false, Bool.false_or, if_true, if_false, Bool.false_eq_true]
                        refine vwp_storm hT hm [.pure, .win 0 0, .win 0 0, .win 0 0, .pure, .win 0 0, .win 0 0, .pure, .pure, .win 0 0, .win 0 0, .win 0 0, .win 0 0, .win 0 0, .mv] [[], [0], [0, 1], [0, 1, 2], [], [], [5], [], [], [8], [8, 9], [8, 9, 10], [7, 8, 9, 10, 11], [5, 6, 7, 8, 9, 10, 11, 12], [0, 1, 2, 3, 4, 5, 6, 7, 8, 9, 10, 11, 12, 13]] (by kernel_rfl) ?_
                        simp [-List.reduceReplicate, PT.obs, w1, vfindK_S, hp]
                        repeat refine ⟨by first | assumption | omega | (rw [spl_length (by simp; omega)]; simp; done) | (intros; omega), ?_⟩
                        refine hK50 _ ?_
                        try clear hK50 K50
                        refine vwp_seq_k fun K52 hK52 => ?_
                        refine vwp_live [3] ?_
                        try simp only [argSlots, pruneS, inN, eq_self, reduceIte, ite_true, Nat.reduceAdd, Nat.reduceBEq, Bool.or_true, Bool.true_or, Bool.or_false, Bool.false_or, if_true, if_false, Bool.false_eq_true]
                        refine vwp_region hT ?_
                        simp [-List.reduceReplicate, PT.obs]
                        repeat refine ⟨by first | assumption | omega | (rw [spl_length (by simp; omega)]; simp; done) | (intros; omega), ?_⟩
                        refine hK52 _ ?_
                        try clear hK52 K52
                        refine vwp_ret ?_
                        try simp only [thenQ, inBlk]
                        refine hR _ _ ?_
                        have hw : t.login name secret draw now = ((draw, 0), t.put draw u.who (now + t.life)) := by
                          unfold PT.login
                          grind
                        rw [hw]
                        refine ret_only [10, 11] [0, 1, 2] ((t.put draw u.who (now + t.life)).obs) (by simp) (by simp [PT.obs, PT.put, hp, ent_modify]) rfl (by simp) (r := .tup [.int .i64 draw, .int .i64 0]) (by simp [Try.f42]) ⟨rfl, rfl⟩
end Go.Proofs.Ytibhpkolbffdaaa
