/- Which plan is better: the walk. -/
import Derived.Test.YtinigjmfjabicaaPlU
import Derived.Test.YtinigjmfjabicaaLrgP
namespace Go.Proofs.Ytinigjmfjabicaa
open Go Go.VX Go.RowKit
set_option linter.unusedVariables false
set_option linter.unusedSimpArgs false
set_option maxHeartbeats 20000000
set_option maxRecDepth 100000

def lessP (w : Wd) (a b : Pn) : Bool := if (checkP w a).2 ≠ 0 ∨ (checkP w b).2 ≠ 0 then false else decide (a.un.length < b.un.length ∨ (a.un.length = b.un.length ∧ (checkP w a).1 < (checkP w b).1))
theorem less_pspec (w : Wd) (ho : w.os.length < 1099511627776) (ht : w.ts.length < 1099511627776) (a b : Pn) (ha : a.few) (hb : b.few) : VC P 30 [.agg w.c, .agg a.c, .agg b.c] [] (fun r ob' => r = .bool (lessP w a b) ∧ ob' = []) := by
  refine VC_of_vwp_k ent_30 Try.func30 rfl (by simp) fun R hR => ?_
  refine vwp_sq [0, 1, 2] fun K1 hK1 => vwp_region hT ?_
  simp
  refine hK1 _ ?_
  try clear hK1 K1
  refine vwp_sq [3, 4, 5] fun K2 hK2 => vwp_region hT ?_
  simp
  refine vcall_z [] (check_spec w ho ht a ha.rs ha.cat ha.un) (by rintro r ob' ⟨rfl, rfl⟩; simp) ?_
  rintro r ob' ⟨rfl, rfl⟩
  simp
  refine hK2 _ ?_
  try clear hK2 K2
  refine vwp_sq [3, 4, 5, 7, 8] fun K3 hK3 => vwp_region hT ?_
  simp
  refine vcall_z [] (check_spec w ho ht b hb.rs hb.cat hb.un) (by rintro r ob' ⟨rfl, rfl⟩; simp) ?_
  rintro r ob' ⟨rfl, rfl⟩
  simp
  refine hK3 _ ?_
  try clear hK3 K3
  refine vwp_seq_k fun K4 hK4 => ?_
  refine vwp_sq [4, 5, 7, 8, 9, 10] fun K5 hK5 => vwp_region hT ?_
  simp
  refine hK5 _ ?_
  try clear hK5 K5
  refine vwp_cond (by first | rfl | (simp; rfl)) (fun h1 => ?_) fun h1 => ?_
  · simp -failIfUnchanged at h1; all_goals
   have q := h1
   refine vwp_sq [] fun K6 hK6 => vwp_region hT ?_
   simp
   refine hK6 _ ?_
   try clear hK6 K6
   refine vwp_ret (hR _ _ ?_)
   have hw : lessP w a b = false := by unfold lessP; rw [if_pos q]
   rw [hw]
   exact ret_k [6] [] ([]) (.bool false) (⟨rfl, rfl⟩)
  · simp -failIfUnchanged at h1; all_goals
   have q := h1
   obtain ⟨ca, hca⟩ : ∃ ca, ca = (checkP w a).1 := ⟨_, rfl⟩
   obtain ⟨cb, hcb⟩ : ∃ cb, cb = (checkP w b).1 := ⟨_, rfl⟩
   rw [← hca, ← hcb]
   refine vwp_skip ?_
   refine hK4 _ ?_
   try clear hK4 K4
   refine vwp_cut_s (fun _ : Unit => ⟨[(11, .ptr 3 2 0), (12, .ptr 4 2 0)], [.live w.c, .live a.c, .live b.c, .live [.int .i64 a.un.length, .int .i64 ca], .live [.int .i64 b.un.length, .int .i64 cb]]⟩) (fun _ => True) (fun K7 hK7 => ?_) ?_
   · refine vwp_live [4, 5, 7, 9] (vwp_of_some hm (vsome_pair 10 11 (by decide) ?_ ?_))
     · refine vsome_storm hT [0, 1, 2, 3, 4, 5, 6, 7, 8, 9, 10, 11, 12, 13] [.win 0 2, .win 0 2, .win 0 2, .pure, .win 0 2, .win 0 3, .win 0 3, .win 0 3, .pure, .win 0 3, .mv, .mv, .mv, .mv] [[], [0], [0, 1], [], [0, 1, 2, 3], [], [5], [5, 6], [], [5, 6, 7, 8], [], [10], [0, 1, 2, 3, 4, 10, 11], [0, 1, 2, 3, 4, 5, 6, 7, 8, 9, 10, 11, 12]] (by kernel_rfl) (by kernel_rfl) ?_
       simp
       repeat refine ⟨by first | assumption | omega | (intros; omega), ?_⟩
       exact hK7 (()) _ (Gh.to_k [11, 12] [0, 1, 2, 3, 4]) (trivial)
     · refine vsome_storm hT [0, 1, 2, 3, 4, 5, 6, 7, 8, 9, 11, 10, 12, 13] [.win 0 2, .win 0 2, .win 0 2, .pure, .win 0 2, .win 0 3, .win 0 3, .win 0 3, .pure, .win 0 3, .mv, .mv, .mv, .mv] [[], [0], [0, 1], [], [0, 1, 2, 3], [], [5], [5, 6], [], [5, 6, 7, 8], [], [10], [0, 1, 2, 3, 4, 10, 11], [0, 1, 2, 3, 4, 5, 6, 7, 8, 9, 10, 11, 12]] (by kernel_rfl) (by kernel_rfl) ?_
       simp
       repeat refine ⟨by first | assumption | omega | (intros; omega), ?_⟩
       exact hK7 () _ (Gh.to_k [11, 12] [0, 1, 2, 4, 3]) (trivial)
   · rintro _ _
     refine vwp_seq_k fun K8 hK8 => ?_
     refine vwp_sq [11, 12] fun K9 hK9 => vwp_region hT ?_
     simp
     refine hK9 _ ?_
     try clear hK9 K9
     refine vwp_cond (by first | rfl | (simp; rfl)) (fun h2 => ?_) fun h2 => ?_
     · simp -failIfUnchanged at h2; all_goals
      have q2 := h2
      refine vwp_sq [] fun K10 hK10 => vwp_region hT ?_
      simp
      refine hK10 _ ?_
      try clear hK10 K10
      refine vwp_ret (hR _ _ ?_)
      have hw : lessP w a b = false := by unfold lessP; rw [if_neg (by omega), ← hca, ← hcb]; simp only [decide_eq_false_iff_not]; omega
      rw [hw]
      exact ret_k [6] [] ([]) (.bool false) (⟨rfl, rfl⟩)
     · simp -failIfUnchanged at h2; all_goals
      have q2 := h2
      refine vwp_skip ?_
      refine hK8 _ ?_
      try clear hK8 K8
      refine vwp_sq [11, 12] fun K11 hK11 => vwp_region hT ?_
      simp
      refine hK11 _ ?_
      try clear hK11 K11
      refine vwp_ret (hR _ _ ?_)
      have hw : lessP w a b = decide (a.un.length < b.un.length ∨ (a.un.length = b.un.length ∧ (checkP w a).1 < (checkP w b).1)) := by unfold lessP; rw [if_neg (by omega)]
      rw [hw]
      exact ret_k [6] [] ([]) (.bool (decide (a.un.length < b.un.length ∨ (a.un.length = b.un.length ∧ (checkP w a).1 < (checkP w b).1)))) (⟨rfl, rfl⟩) (hr := by simp [← hca, ← hcb]; rw [Bool.eq_iff_iff]; simp; omega)
theorem dless_pspec (w : Wd) (ho : w.os.length < 1099511627776) (ht : w.ts.length < 1099511627776) (a b : Pn) (ha : a.few) (hb : b.few) : VC P 31 [.agg w.c, .agg a.c, .agg b.c] [] (fun r ob' => r = .bool (lessP w a b) ∧ ob' = []) := by
  refine VC_of_vwp_k ent_31 Try.func31 rfl (by simp) fun R hR => ?_
  refine vwp_sq [0, 1, 2] fun K1 hK1 => vwp_region hT ?_
  simp
  refine hK1 _ ?_
  try clear hK1 K1
  refine vwp_sq [3, 4, 5] fun K2 hK2 => vwp_region hT ?_
  simp
  refine vcall_z [] (dcheck_spec w ho ht a ha.rs ha.cat ha.un) (by rintro r ob' ⟨rfl, rfl⟩; simp) ?_
  rintro r ob' ⟨rfl, rfl⟩
  simp
  refine hK2 _ ?_
  try clear hK2 K2
  refine vwp_sq [3, 4, 5, 7, 8] fun K3 hK3 => vwp_region hT ?_
  simp
  refine vcall_z [] (dcheck_spec w ho ht b hb.rs hb.cat hb.un) (by rintro r ob' ⟨rfl, rfl⟩; simp) ?_
  rintro r ob' ⟨rfl, rfl⟩
  simp
  refine hK3 _ ?_
  try clear hK3 K3
  refine vwp_seq_k fun K4 hK4 => ?_
  refine vwp_sq [4, 5, 7, 8, 9, 10] fun K5 hK5 => vwp_region hT ?_
  simp
  refine hK5 _ ?_
  try clear hK5 K5
  refine vwp_cond (by first | rfl | (simp; rfl)) (fun h1 => ?_) fun h1 => ?_
  · simp -failIfUnchanged at h1; all_goals
   have q := h1
   refine vwp_sq [] fun K6 hK6 => vwp_region hT ?_
   simp
   refine hK6 _ ?_
   try clear hK6 K6
   refine vwp_ret (hR _ _ ?_)
   have hw : lessP w a b = false := by unfold lessP; rw [if_pos q]
   rw [hw]
   exact ret_k [6] [] ([]) (.bool false) (⟨rfl, rfl⟩)
  · simp -failIfUnchanged at h1; all_goals
   have q := h1
   obtain ⟨ca, hca⟩ : ∃ ca, ca = (checkP w a).1 := ⟨_, rfl⟩
   obtain ⟨cb, hcb⟩ : ∃ cb, cb = (checkP w b).1 := ⟨_, rfl⟩
   rw [← hca, ← hcb]
   refine vwp_skip ?_
   refine hK4 _ ?_
   try clear hK4 K4
   refine vwp_sq [4, 5, 7, 9] fun K7 hK7 => vwp_region hT ?_
   simp
   refine hK7 _ ?_
   try clear hK7 K7
   refine vwp_sq [5, 7, 9, 11] fun K8 hK8 => vwp_region hT ?_
   simp
   refine hK8 _ ?_
   try clear hK8 K8
   refine vwp_sq [7, 9, 11, 12] fun K9 hK9 => vwp_region hT ?_
   simp
   refine hK9 _ ?_
   try clear hK9 K9
   refine vwp_ret (hR _ _ ?_)
   have hw : lessP w a b = decide (a.un.length < b.un.length ∨ (a.un.length = b.un.length ∧ (checkP w a).1 < (checkP w b).1)) := by unfold lessP; rw [if_neg (by omega)]
   rw [hw]
   exact ret_k [6] [] ([]) (.bool (decide (a.un.length < b.un.length ∨ (a.un.length = b.un.length ∧ (checkP w a).1 < (checkP w b).1)))) (⟨rfl, rfl⟩) (hr := by simp [← hca, ← hcb]; rw [Bool.eq_iff_iff]; simp; omega)
end Go.Proofs.Ytinigjmfjabicaa
