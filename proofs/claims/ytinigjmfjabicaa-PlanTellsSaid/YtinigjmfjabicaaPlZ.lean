/- The law PlanOrder: the walk. -/
import Derived.Test.YtinigjmfjabicaaPlY
namespace Go.Proofs.Ytinigjmfjabicaa
open Go Go.VX Go.RowKit
set_option linter.unusedVariables false
set_option linter.unusedSimpArgs false
set_option maxHeartbeats 20000000
set_option maxRecDepth 100000

theorem less_irr (w : Wd) (a : Pn) : lessP w a a = false := by
  unfold lessP
  split
  · rfl
  · simp
theorem less_asym {w : Wd} {a b : Pn} (h : lessP w a b = true) : lessP w b a = false := by
  unfold lessP at h ⊢
  split at h
  · cases h
  · rename_i h1
    simp only [decide_eq_true_eq] at h
    rw [if_neg (by omega), decide_eq_false_iff_not]
    omega
theorem less_trans {w : Wd} {a b c : Pn} (h : lessP w a b = true) (k : lessP w b c = true) : lessP w a c = true := by
  unfold lessP at h k ⊢
  split at h
  · cases h
  · split at k
    · cases k
    · simp only [decide_eq_true_eq] at h k
      rw [if_neg (by omega), decide_eq_true_eq]
      omega
theorem law_porder (w : Wd) (a b c : Pn) (ua : a.un.length ≤ 140737488355328) (ra : a.rs.length ≤ 140737488355328) (sa : ∀ r ∈ a.rs, r.st.length ≤ 140737488355328) (ub : b.un.length ≤ 140737488355328) (rb : b.rs.length ≤ 140737488355328) (sb : ∀ r ∈ b.rs, r.st.length ≤ 140737488355328) (uc : c.un.length ≤ 140737488355328) (rc : c.rs.length ≤ 140737488355328) (sc : ∀ r ∈ c.rs, r.st.length ≤ 140737488355328) : VC P 8 [.agg w.c, .agg a.c, .agg b.c, .agg c.c] [] (fun r ob' => r = .bool true ∧ ob' = []) := by
  refine VC_of_vwp_k ent_8 Try.func8 rfl (by simp) fun R hR => ?_
  refine vwp_sq [0, 1, 2, 3] fun K1 hK1 => vwp_region hT ?_
  simp
  refine hK1 _ ?_
  try clear hK1 K1
  refine vwp_seq_k fun K2 hK2 => ?_
  refine vwp_sq [4, 5, 6, 7] fun K3 hK3 => vwp_region hT ?_
  simp
  refine vcall_k [] (awake9) ?_
  rintro r ob' ⟨rfl, rfl⟩
  simp
  refine hK3 _ ?_
  try clear hK3 K3
  refine vwp_cond (by first | rfl | (simp; rfl)) (fun h1 => ?_) fun h1 => ?_
  · simp -failIfUnchanged at h1; all_goals
   refine vwp_seq_k fun K4 hK4 => ?_
   simp_all
  · simp -failIfUnchanged at h1; all_goals
   refine vwp_skip ?_
   refine hK2 _ ?_
   try clear hK2 K2
   refine vwp_seq_k fun K5 hK5 => ?_
   refine vwp_sq [4, 5, 6, 7] fun K6 hK6 => vwp_region hT ?_
   simp [zerosV, spl]
   refine vcall_z [] (large_pspec w [a, b, c] (by simp) (by simp; exact ⟨⟨ua, ra, sa⟩, ⟨ub, rb, sb⟩, uc, rc, sc⟩)) (by rintro r ob' ⟨rfl, rfl⟩; simp) ?_ (ha := by simp [rowsV])
   rintro r ob' ⟨rfl, rfl⟩
   simp [zerosV, spl]
   refine hK6 _ ?_
   try clear hK6 K6
   refine vwp_cond (by first | rfl | (simp; rfl)) (fun h2 => ?_) fun h2 => ?_
   · simp -failIfUnchanged at h2; all_goals
    refine vwp_sq [] fun K7 hK7 => vwp_region hT ?_
    simp
    refine hK7 _ ?_
    try clear hK7 K7
    refine vwp_ret (hR _ _ ?_)
    exact ret_k [8] [] ([]) (.bool true) (⟨rfl, rfl⟩)
   · simp -failIfUnchanged at h2; all_goals
    have q := h2
    obtain ⟨⟨fa, _⟩, ⟨fb, _⟩, ⟨fc, _⟩⟩ : (a.few ∧ True) ∧ (b.few ∧ True) ∧ (c.few ∧ True) := by
      simp -failIfUnchanged at q
      exact ⟨⟨(lrgP_no q.1.1).1, trivial⟩, ⟨(lrgP_no q.1.2.1).1, trivial⟩, (lrgP_no q.1.2.2).1, trivial⟩
    have hl1 : w.os.length ≤ 50 ∧ w.ts.length ≤ 50 := by
      simp -failIfUnchanged at q
      have := q.2
      simp only [lrgW, decide_eq_false_iff_not] at this
      omega
    refine vwp_skip ?_
    refine hK5 _ ?_
    try clear hK5 K5
    refine vwp_sq [4, 5, 6, 7] fun K8 hK8 => vwp_calm hT hm (by kernel_rfl) ?_
    simp
    refine ⟨.bool (lessP w a b), fun sl => ?_, ?_⟩
    · refine vcall_z [] (less_pspec w (by omega) (by omega) a b fa fb) (by rintro r ob' ⟨rfl, rfl⟩; simp) ?_
      rintro r ob' ⟨rfl, rfl⟩
      simp
    simp
    refine ⟨.bool (lessP w b c), fun sl => ?_, ?_⟩
    · refine vcall_z [] (less_pspec w (by omega) (by omega) b c fb fc) (by rintro r ob' ⟨rfl, rfl⟩; simp) ?_
      rintro r ob' ⟨rfl, rfl⟩
      simp
    simp
    refine ⟨.bool (lessP w a c), fun sl => ?_, ?_⟩
    · refine vcall_z [] (less_pspec w (by omega) (by omega) a c fa fc) (by rintro r ob' ⟨rfl, rfl⟩; simp) ?_
      rintro r ob' ⟨rfl, rfl⟩
      simp
    simp
    refine hK8 _ ?_
    try clear hK8 K8
    refine vwp_seq_k fun K9 hK9 => ?_
    have laa := less_irr w a
    rcases hab : lessP w a b with _ | _
    · refine vwp_live [4, 5, 6, 9, 10, 11] (vwp_region hT ?_)
      simp [laa, hab]
      refine vcall_z [] (less_pspec w (by omega) (by omega) a a fa fa) (by rintro r ob' ⟨rfl, rfl⟩; simp) ?_
      rintro r ob' ⟨rfl, rfl⟩
      simp [laa, hab]
      refine hK9 _ ?_
      try clear hK9 K9
      refine vwp_ret (hR _ _ ?_)
      exact ret_k [8] [] ([]) (.bool true) (⟨rfl, rfl⟩)
    · have hba := less_asym hab
      rcases hbc : lessP w b c with _ | _
      skip
      · refine vwp_live [4, 5, 6, 9, 10, 11] (vwp_region hT ?_)
        simp [laa, hab, hba, hbc]
        refine vcall_z [] (less_pspec w (by omega) (by omega) a a fa fa) (by rintro r ob' ⟨rfl, rfl⟩; simp) ?_
        rintro r ob' ⟨rfl, rfl⟩
        simp [laa, hab, hba, hbc]
        refine vcall_z [] (less_pspec w (by omega) (by omega) b a fb fa) (by rintro r ob' ⟨rfl, rfl⟩; simp) ?_
        rintro r ob' ⟨rfl, rfl⟩
        simp [laa, hab, hba, hbc]
        refine hK9 _ ?_
        try clear hK9 K9
        refine vwp_ret (hR _ _ ?_)
        exact ret_k [8] [] ([]) (.bool true) (⟨rfl, rfl⟩)
      · have hac := less_trans hab hbc
        refine vwp_live [4, 5, 6, 9, 10, 11] (vwp_region hT ?_)
        simp [laa, hab, hba, hbc, hac]
        refine vcall_z [] (less_pspec w (by omega) (by omega) a a fa fa) (by rintro r ob' ⟨rfl, rfl⟩; simp) ?_
        rintro r ob' ⟨rfl, rfl⟩
        simp [laa, hab, hba, hbc, hac]
        refine vcall_z [] (less_pspec w (by omega) (by omega) b a fb fa) (by rintro r ob' ⟨rfl, rfl⟩; simp) ?_
        rintro r ob' ⟨rfl, rfl⟩
        simp [laa, hab, hba, hbc, hac]
        refine hK9 _ ?_
        try clear hK9 K9
        refine vwp_ret (hR _ _ ?_)
        exact ret_k [8] [] ([]) (.bool true) (⟨rfl, rfl⟩)
end Go.Proofs.Ytinigjmfjabicaa
