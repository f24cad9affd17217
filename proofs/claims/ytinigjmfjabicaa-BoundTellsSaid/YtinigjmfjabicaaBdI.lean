/- The law BoundTells: the walk. -/
import Derived.Test.YtinigjmfjabicaaBdH
namespace Go.Proofs.Ytinigjmfjabicaa
open Go Go.VX Go.RowKit
set_option linter.unusedVariables false
set_option linter.unusedSimpArgs false
set_option maxHeartbeats 20000000
set_option maxRecDepth 100000
theorem law_btells (w : Wd) (ids : List Int) (c : Ct) : VC P 3 [.agg w.c, sI ids, .agg c.c] [] (fun r ob' => r = .bool true ∧ ob' = []) := by
  refine VC_of_vwp_k ent_3 Try.func3 rfl (by simp) fun R hR => ?_
  refine vwp_sq [0, 1, 2] fun K1 hK1 => vwp_region hT ?_
  simp
  refine hK1 _ ?_
  try clear hK1 K1
  refine vwp_seq_k fun K2 hK2 => ?_
  refine vwp_sq [1, 3, 5] fun K3 hK3 => vwp_region hT ?_
  simp
  refine vcall_k [] (awake12) ?_
  rintro r ob' ⟨rfl, rfl⟩
  simp
  refine hK3 _ ?_
  try clear hK3 K3
  refine vwp_cond (by first | rfl | (simp; rfl)) (fun h1 => ?_) fun h1 => ?_
  · simp -failIfUnchanged at h1; all_goals
   refine vwp_seq_k fun K4 hK4 => ?_
   simp_all
  · simp -failIfUnchanged at h1; all_goals
   refine vwp_skip ?_
   refine hK2 _ ?_
   try clear hK2 K2
   refine vwp_seq_k fun K5 hK5 => ?_
   refine vwp_sq [1, 3, 5] fun K6 hK6 => vwp_region hT ?_
   simp
   refine vcall_z [] (lrgC_spec w c) (by rintro r ob' ⟨rfl, rfl⟩; simp) ?_
   rintro r ob' ⟨rfl, rfl⟩
   simp
   refine hK6 _ ?_
   try clear hK6 K6
   refine vwp_cond (by first | rfl | (simp; rfl)) (fun h2 => ?_) fun h2 => ?_
   · simp -failIfUnchanged at h2; all_goals
    refine vwp_sq [] fun K7 hK7 => vwp_region hT ?_
    simp
    refine hK7 _ ?_
    try clear hK7 K7
    refine vwp_ret (hR _ _ ?_)
    exact ret_k [6] [] ([]) (.bool true) (⟨rfl, rfl⟩)
   · simp -failIfUnchanged at h2; all_goals
    have q := h2
    obtain ⟨l1, l2, l3, l4, l5, l6⟩ := lrgC_no (w := w) (c := c) (by simpa using q.1)
    have l7 : ids.length ≤ 100 := by omega
    refine vwp_skip ?_
    refine hK5 _ ?_
    try clear hK5 K5
    refine vwp_seq_k fun K8 hK8 => ?_
    rcases hmk : makeP w ids with ⟨_ | t, e⟩
    · refine vwp_live [1, 3, 5] (vwp_region hT ?_)
      simp
      repeat refine ⟨by first | assumption | omega | (intros; omega), ?_⟩
      refine vcall_z [] (make_spec w (by omega) (by omega) ids (by omega)) (by rw [hmk]; rintro r ob' ⟨rfl, rfl⟩; simp) ?_
      rw [hmk]
      rintro r ob' ⟨rfl, rfl⟩
      simp
      repeat refine ⟨by first | assumption | omega | (intros; omega), ?_⟩
      refine hK8 _ ?_
      try clear hK8 K8
      refine vwp_sq [1, 3, 5, 7, 8] fun K9 hK9 => vwp_region hT ?_
      simp
      repeat refine ⟨by first | assumption | omega | (intros; omega), ?_⟩
      refine vcall_z [] (dmake_spec w (by omega) (by omega) ids (by omega)) (by rw [hmk]; rintro r ob' ⟨rfl, rfl⟩; simp) ?_
      rw [hmk]
      rintro r ob' ⟨rfl, rfl⟩
      simp
      repeat refine ⟨by first | assumption | omega | (intros; omega), ?_⟩
      refine hK9 _ ?_
      try clear hK9 K9
      refine vwp_gh ((Gh.virtC 2 0 1 rfl rfl).trans (Gh.virtC 2 1 1 rfl rfl)) ?_
      simp
      refine vwp_gh ((Gh.virtC 3 0 1 rfl rfl).trans (Gh.virtC 3 1 1 rfl rfl)) ?_
      simp
      refine vwp_sq [3, 5, 7, 8, 9, 10] fun K10 hK10 => vwp_calm hT hm (by kernel_rfl) ?_
      simp
      refine ⟨.bool true, fun sl => ?_, ?_⟩
      · refine vcall_z [] (csame_spec ⟨[], [], 0, 0, 0, 0⟩ (by simp) (by simp)) (by rintro r ob' ⟨rfl, rfl⟩; simp) ?_
        rintro r ob' ⟨rfl, rfl⟩
        simp
      simp
      refine ⟨.bool (holdsP w c), fun sl => ?_, ?_⟩
      · refine vcall_z [] (holds_spec w (by omega) (by omega) c (by omega) (by omega)) (by rintro r ob' ⟨rfl, rfl⟩; simp) ?_
        rintro r ob' ⟨rfl, rfl⟩
        simp
      simp
      refine ⟨.bool (holdsP w c), fun sl => ?_, ?_⟩
      · refine vcall_z [] (dholds_spec w (by omega) (by omega) c (by omega) (by omega)) (by rintro r ob' ⟨rfl, rfl⟩; simp) ?_
        rintro r ob' ⟨rfl, rfl⟩
        simp
      simp
      refine hK10 _ ?_
      try clear hK10 K10
      refine vwp_ret (hR _ _ ?_)
      exact ret_k [6] [] ([]) (.bool true) (⟨rfl, rfl⟩)
    · obtain ⟨he, hok, hnd, L, hpk, htc, hLl, hL12, hLo, hLn⟩ := makeP_some hmk
      subst he
      obtain ⟨hti, htd⟩ : t.inn.length = (srt ids).length ∧ t.ids = srt ids := by rw [htc]; exact mkC_len (by rw [srt_len]; omega)
      rw [srt_len] at hti
      have htdl : t.ids.length = ids.length := by rw [htd, srt_len]
      have htk1 : List.take t.ids.length (ints t.ids) = ints t.ids := List.take_of_length_le (by simp)
      have htk2 : List.take t.inn.length (ints t.inn) = ints t.inn := List.take_of_length_le (by simp)
      refine vwp_live [1, 3, 5] (vwp_region hT ?_)
      simp
      repeat refine ⟨by first | assumption | omega | (intros; omega), ?_⟩
      refine vcall_z [] (make_spec w (by omega) (by omega) ids (by omega)) (by rw [hmk]; rintro r ob' ⟨rfl, rfl⟩; simp) ?_
      rw [hmk]
      rintro r ob' ⟨rfl, rfl⟩
      simp
      repeat refine ⟨by first | assumption | omega | (intros; omega), ?_⟩
      refine hK8 _ ?_
      try clear hK8 K8
      refine vwp_sq [1, 3, 5, 7, 8] fun K11 hK11 => vwp_region hT ?_
      simp
      repeat refine ⟨by first | assumption | omega | (intros; omega), ?_⟩
      refine vcall_z [] (dmake_spec w (by omega) (by omega) ids (by omega)) (by rw [hmk]; rintro r ob' ⟨rfl, rfl⟩; simp) ?_
      rw [hmk]
      rintro r ob' ⟨rfl, rfl⟩
      simp
      repeat refine ⟨by first | assumption | omega | (intros; omega), ?_⟩
      refine hK11 _ ?_
      try clear hK11 K11
      refine vwp_sq [3, 5, 7, 8, 9, 10] fun K12 hK12 => vwp_calm hT hm (by kernel_rfl) ?_
      simp
      refine ⟨.bool true, fun sl => ?_, ?_⟩
      · refine vcall_z [] (csame_spec t (by omega) (by omega)) (by rintro r ob' ⟨rfl, rfl⟩; simp) ?_ (ha := by simp [htk1, htk2]) (hok := by simp)
        rintro r ob' ⟨rfl, rfl⟩
        simp
      simp
      refine ⟨.bool (holdsP w c), fun sl => ?_, ?_⟩
      · refine vcall_z [] (holds_spec w (by omega) (by omega) c (by omega) (by omega)) (by rintro r ob' ⟨rfl, rfl⟩; simp) ?_
        rintro r ob' ⟨rfl, rfl⟩
        simp
      simp
      refine ⟨.bool (holdsP w c), fun sl => ?_, ?_⟩
      · refine vcall_z [] (dholds_spec w (by omega) (by omega) c (by omega) (by omega)) (by rintro r ob' ⟨rfl, rfl⟩; simp) ?_
        rintro r ob' ⟨rfl, rfl⟩
        simp
      simp
      refine hK12 _ ?_
      try clear hK12 K12
      refine vwp_ret (hR _ _ ?_)
      exact ret_k [6] [] ([]) (.bool true) (⟨rfl, rfl⟩)
end Go.Proofs.Ytinigjmfjabicaa
