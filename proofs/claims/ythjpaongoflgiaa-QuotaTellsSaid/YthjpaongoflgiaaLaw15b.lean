/- QuotaTells: what it answers. -/
import Derived.Test.YthjpaongoflgiaaLaw15a
namespace Go.Proofs.Ythjpaongoflgiaa
open Go Go.VX Go.RowKit
set_option linter.unusedVariables false
set_option linter.unusedSimpArgs false
set_option maxHeartbeats 20000000
set_option maxRecDepth 100000
open Go.VX.Rk Go.VX.Srt
theorem roundN_len {l q : List Int} {over e : Int} (h : roundN l over = (some q, e)) : q.length = l.length ∧ l.length ≤ 100 := by
  unfold roundN at h
  split at h
  · cases h
  split at h
  · cases h
  split at h
  · cases h
  · cases h; exact ⟨fr_length _ _, by omega⟩
theorem shareN_len {t : Int} {w q : List Int} {e : Int} (h : shareN t w = (some q, e)) : q.length = w.length ∧ w.length ≤ 100 := by
  unfold shareN at h
  split at h
  · cases h
  split at h
  · cases h
  split at h
  · cases h; exact ⟨by simp, by omega⟩
  split at h
  · cases h
  · cases h; exact ⟨by rw [fr_length]; simp, by omega⟩
theorem quotaTells_spec (l : List Int) (hl : l.length < 9223372036854775807) (over total : Int) (w : List Int) (hw : w.length < 9223372036854775807) : VC P 3 [sI l, .int .i64 over, .int .i64 total, sI w] [] (fun r ob' => r = .bool true) := by
  refine VC_of_vwp_k ent_3 Try.func3 rfl (by simp) fun R hR => ?_
  refine vwp_sq [0, 1, 2, 3] fun K1 hK1 => vwp_region hT ?_
  simp
  refine hK1 _ ?_
  try clear hK1 K1
  refine vwp_seq_k fun K2 hK2 => ?_
  refine vwp_sq [0, 1, 2, 3] fun K3 hK3 => vwp_region hT ?_
  simp
  refine vcall_k [] (awake15_spec) ?_
  rintro r ob' ⟨rfl, rfl⟩
  simp
  refine hK3 _ ?_
  try clear hK3 K3
  refine vwp_cond (by first | rfl | (simp; rfl)) (fun h1 => ?_) fun h1 => ?_
  · simp -failIfUnchanged at h1; all_goals
   refine vwp_sq [] fun K4 hK4 => vwp_region hT ?_
   simp
   refine hK4 _ ?_
   try clear hK4 K4
   refine vwp_ret (hR _ _ ?_)
   exact ret_k [8] [] ([]) (.bool true) (rfl)
  · simp -failIfUnchanged at h1; all_goals
   refine vwp_skip ?_
   refine hK2 _ ?_
   try clear hK2 K2
   refine vwp_seq_k fun K5 hK5 => ?_
   refine vwp_sq [0, 1, 2, 3] fun K6 hK6 => vwp_region hT ?_
   simp
   refine hK6 _ ?_
   try clear hK6 K6
   refine vwp_cond (by first | rfl | (simp; rfl)) (fun h2 => ?_) fun h2 => ?_
   · simp -failIfUnchanged at h2; all_goals
    refine vwp_sq [] fun K7 hK7 => vwp_region hT ?_
    simp
    refine hK7 _ ?_
    try clear hK7 K7
    refine vwp_ret (hR _ _ ?_)
    exact ret_k [8] [] ([]) (.bool true) (rfl)
   · simp -failIfUnchanged at h2; all_goals
    refine vwp_skip ?_
    refine hK5 _ ?_
    try clear hK5 K5
    refine vwp_seq_k fun K8 hK8 => ?_
    rcases hx : roundN l over with ⟨_ | q1, e1⟩ <;> rcases hy : shareN total w with ⟨_ | q2, e2⟩
    · refine vwp_live [0, 1, 2, 3] (vwp_region hT ?_)
      simp
      refine vcall_z [] (round_spec l hl over) resI_nofz ?_
      rintro r ob' hr
      rw [hx] at hr
      obtain ⟨rfl, rfl⟩ := hr
      simp
      refine hK8 _ ?_
      try clear hK8 K8
      refine vwp_sq [0, 1, 2, 3, 9, 10] fun K9 hK9 => vwp_region hT ?_
      simp
      refine vcall_z [] (rround_spec l hl over) resI_nofz ?_
      rintro r ob' hr
      rw [hx] at hr
      obtain ⟨rfl, rfl⟩ := hr
      simp
      refine hK9 _ ?_
      try clear hK9 K9
      refine vwp_sq [2, 3, 9, 10, 11, 12] fun K10 hK10 => vwp_region hT ?_
      simp
      refine vcall_z [] (qshare_spec total w hw) resI_nofz ?_
      rintro r ob' hr
      rw [hy] at hr
      obtain ⟨rfl, rfl⟩ := hr
      simp
      refine hK10 _ ?_
      try clear hK10 K10
      refine vwp_sq [2, 3, 9, 10, 11, 12, 13, 14] fun K11 hK11 => vwp_region hT ?_
      simp
      refine vcall_z [] (rqshare_spec total w hw) resI_nofz ?_
      rintro r ob' hr
      rw [hy] at hr
      obtain ⟨rfl, rfl⟩ := hr
      simp
      refine hK11 _ ?_
      try clear hK11 K11
      refine vwp_sq [9, 10, 11, 12, 13, 14, 15, 16] fun K12 hK12 => vwp_region hT ?_
      simp
      refine vcall_k [] (ints_nils) ?_
      rintro r ob' ⟨rfl, rfl⟩
      simp
      refine vcall_k [] (ints_nils) ?_
      rintro r ob' ⟨rfl, rfl⟩
      simp
      refine hK12 _ ?_
      try clear hK12 K12
      refine vwp_ret (hR _ _ ?_)
      exact ret_k [8] [] ([]) (.bool true) (rfl)
    · have l2 := shareN_len hy
      refine vwp_live [0, 1, 2, 3] (vwp_region hT ?_)
      simp
      refine vcall_z [] (round_spec l hl over) resI_nofz ?_
      rintro r ob' hr
      rw [hx] at hr
      obtain ⟨rfl, rfl⟩ := hr
      simp
      refine hK8 _ ?_
      try clear hK8 K8
      refine vwp_sq [0, 1, 2, 3, 9, 10] fun K13 hK13 => vwp_region hT ?_
      simp
      refine vcall_z [] (rround_spec l hl over) resI_nofz ?_
      rintro r ob' hr
      rw [hx] at hr
      obtain ⟨rfl, rfl⟩ := hr
      simp
      refine hK13 _ ?_
      try clear hK13 K13
      refine vwp_sq [2, 3, 9, 10, 11, 12] fun K14 hK14 => vwp_region hT ?_
      simp
      refine vcall_z [] (qshare_spec total w hw) resI_nofz ?_
      rintro r ob' hr
      rw [hy] at hr
      obtain ⟨rfl, rfl⟩ := hr
      simp
      refine hK14 _ ?_
      try clear hK14 K14
      refine vwp_sq [2, 3, 9, 10, 11, 12, 13, 14] fun K15 hK15 => vwp_region hT ?_
      simp
      refine vcall_z [] (rqshare_spec total w hw) resI_nofz ?_
      rintro r ob' hr
      rw [hy] at hr
      obtain ⟨rfl, rfl⟩ := hr
      simp
      refine hK15 _ ?_
      try clear hK15 K15
      refine vwp_sq [9, 10, 11, 12, 13, 14, 15, 16] fun K16 hK16 => vwp_region hT ?_
      simp
      refine vcall_k [] (ints_nils) ?_
      rintro r ob' ⟨rfl, rfl⟩
      simp
      refine vcall_z [] (ints_spec q2 q2 (by omega) (by omega)) (by rintro r ob' ⟨rfl, rfl⟩; simp) ?_
      rintro r ob' ⟨rfl, rfl⟩
      simp
      refine hK16 _ ?_
      try clear hK16 K16
      refine vwp_ret (hR _ _ ?_)
      exact ret_k [8] [] ([]) (.bool true) (rfl)
    · have l1 := roundN_len hx
      refine vwp_live [0, 1, 2, 3] (vwp_region hT ?_)
      simp
      refine vcall_z [] (round_spec l hl over) resI_nofz ?_
      rintro r ob' hr
      rw [hx] at hr
      obtain ⟨rfl, rfl⟩ := hr
      simp
      refine hK8 _ ?_
      try clear hK8 K8
      refine vwp_sq [0, 1, 2, 3, 9, 10] fun K17 hK17 => vwp_region hT ?_
      simp
      refine vcall_z [] (rround_spec l hl over) resI_nofz ?_
      rintro r ob' hr
      rw [hx] at hr
      obtain ⟨rfl, rfl⟩ := hr
      simp
      refine hK17 _ ?_
      try clear hK17 K17
      refine vwp_sq [2, 3, 9, 10, 11, 12] fun K18 hK18 => vwp_region hT ?_
      simp
      refine vcall_z [] (qshare_spec total w hw) resI_nofz ?_
      rintro r ob' hr
      rw [hy] at hr
      obtain ⟨rfl, rfl⟩ := hr
      simp
      refine hK18 _ ?_
      try clear hK18 K18
      refine vwp_sq [2, 3, 9, 10, 11, 12, 13, 14] fun K19 hK19 => vwp_region hT ?_
      simp
      refine vcall_z [] (rqshare_spec total w hw) resI_nofz ?_
      rintro r ob' hr
      rw [hy] at hr
      obtain ⟨rfl, rfl⟩ := hr
      simp
      refine hK19 _ ?_
      try clear hK19 K19
      refine vwp_sq [9, 10, 11, 12, 13, 14, 15, 16] fun K20 hK20 => vwp_region hT ?_
      simp
      refine vcall_z [] (ints_spec q1 q1 (by omega) (by omega)) (by rintro r ob' ⟨rfl, rfl⟩; simp) ?_
      rintro r ob' ⟨rfl, rfl⟩
      simp
      refine vcall_k [] (ints_nils) ?_
      rintro r ob' ⟨rfl, rfl⟩
      simp
      refine hK20 _ ?_
      try clear hK20 K20
      refine vwp_ret (hR _ _ ?_)
      exact ret_k [8] [] ([]) (.bool true) (rfl)
    · have l1 := roundN_len hx
      have l2 := shareN_len hy
      refine vwp_live [0, 1, 2, 3] (vwp_region hT ?_)
      simp
      refine vcall_z [] (round_spec l hl over) resI_nofz ?_
      rintro r ob' hr
      rw [hx] at hr
      obtain ⟨rfl, rfl⟩ := hr
      simp
      refine hK8 _ ?_
      try clear hK8 K8
      refine vwp_sq [0, 1, 2, 3, 9, 10] fun K21 hK21 => vwp_region hT ?_
      simp
      refine vcall_z [] (rround_spec l hl over) resI_nofz ?_
      rintro r ob' hr
      rw [hx] at hr
      obtain ⟨rfl, rfl⟩ := hr
      simp
      refine hK21 _ ?_
      try clear hK21 K21
      refine vwp_sq [2, 3, 9, 10, 11, 12] fun K22 hK22 => vwp_region hT ?_
      simp
      refine vcall_z [] (qshare_spec total w hw) resI_nofz ?_
      rintro r ob' hr
      rw [hy] at hr
      obtain ⟨rfl, rfl⟩ := hr
      simp
      refine hK22 _ ?_
      try clear hK22 K22
      refine vwp_sq [2, 3, 9, 10, 11, 12, 13, 14] fun K23 hK23 => vwp_region hT ?_
      simp
      refine vcall_z [] (rqshare_spec total w hw) resI_nofz ?_
      rintro r ob' hr
      rw [hy] at hr
      obtain ⟨rfl, rfl⟩ := hr
      simp
      refine hK23 _ ?_
      try clear hK23 K23
      refine vwp_sq [9, 10, 11, 12, 13, 14, 15, 16] fun K24 hK24 => vwp_region hT ?_
      simp
      refine vcall_z [] (ints_spec q1 q1 (by omega) (by omega)) (by rintro r ob' ⟨rfl, rfl⟩; simp) ?_
      rintro r ob' ⟨rfl, rfl⟩
      simp
      refine vcall_z [] (ints_spec q2 q2 (by omega) (by omega)) (by rintro r ob' ⟨rfl, rfl⟩; simp) ?_
      rintro r ob' ⟨rfl, rfl⟩
      simp
      refine hK24 _ ?_
      try clear hK24 K24
      refine vwp_ret (hR _ _ ?_)
      exact ret_k [8] [] ([]) (.bool true) (rfl)
end Go.Proofs.Ythjpaongoflgiaa
