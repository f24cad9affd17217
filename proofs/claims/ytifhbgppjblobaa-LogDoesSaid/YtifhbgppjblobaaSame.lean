/- Are rows of bytes the same? -/
import Derived.Test.YtifhbgppjblobaaDisk0
namespace Go.Proofs.Ytifhbgppjblobaa
open Go Go.VX Go.RowKit
set_option linter.unusedVariables false
set_option linter.unusedSimpArgs false
set_option maxHeartbeats 1000000
set_option maxRecDepth 100000

theorem same_spec (a b : List Int) (ha : a.length < 9223372036854775807) (hb : b.length < 9223372036854775807) :
    VC P 42 [.fs a.length (bts a), .fs b.length (bts b)] [] (fun r ob' => r = .bool (decide (a = b)) ∧ ob' = []) := by
  refine VC_of_vwp_k ent_42 Try.func42 rfl (by simp [Try.ntmps42]) fun R hR => ?_
  refine vwp_sq [0, 1] fun K1 hK1 => vwp_region hT ?_
  simp [-List.reduceReplicate, Try.ntmps42]
  repeat refine ⟨by first | assumption | omega | (intros; omega), ?_⟩
  refine hK1 _ ?_
  try clear hK1 K1
  refine vwp_seq_k fun K2 hK2 => ?_
  refine vwp_sq [0, 1] fun K3 hK3 => vwp_region hT ?_
  simp [-List.reduceReplicate]
  repeat refine ⟨by first | assumption | omega | (intros; omega), ?_⟩
  refine hK3 _ ?_
  try clear hK3 K3
  refine vwp_cond (by first | rfl | (simp; rfl)) (fun h1 => ?_) fun h1 => ?_
  · simp -failIfUnchanged at h1; all_goals
   refine vwp_sq [] fun K4 hK4 => vwp_region hT ?_
   simp [-List.reduceReplicate]
   repeat refine ⟨by first | assumption | omega | (intros; omega), ?_⟩
   refine hK4 _ ?_
   try clear hK4 K4
   refine vwp_ret ?_
   refine hR _ _ ?_
   refine ⟨_, Gh.refl _ _, ?_⟩
   simp [retQ, Try.f42]
   intro e; subst e; omega
  · simp -failIfUnchanged at h1; all_goals
   refine vwp_skip ?_
   refine hK2 _ ?_
   try clear hK2 K2
   refine vwp_seq_k fun K5 hK5 => ?_
   refine vwp_sq [0, 1] fun K6 hK6 => vwp_region hT ?_
   simp [-List.reduceReplicate]
   repeat refine ⟨by first | assumption | omega | (intros; omega), ?_⟩
   refine hK6 _ ?_
   try clear hK6 K6
   refine vwp_block ?_
   refine vwp_gh (Gh.to [0, 1, 5] [] ([(0, .fs a.length (bts a)), (1, .fs b.length (bts b)), (5, .int .i64 0)]) [] (by simp) (by simp) rfl (by simp) (by simp)) ?_
   refine vwp_loop_k (fun m st => ∃ i : Nat, i ≤ a.length ∧ m = a.length - i ∧ a.take i = b.take i ∧ st = ⟨[(0, .fs a.length (bts a)), (1, .fs b.length (bts b)), (5, .int .i64 i)], []⟩) a.length ⟨0, by simp, by simp, by simp, by simp⟩ ?_
   rintro m st ⟨i, hi, rfl, hab, rfl⟩
   intro K7 hK7
   refine vwp_seq_k fun K8 hK8 => ?_
   refine vwp_sq [0, 1, 5] fun K9 hK9 => vwp_region hT ?_
   simp [-List.reduceReplicate]
   repeat refine ⟨by first | assumption | omega | (intros; omega), ?_⟩
   refine hK9 _ ?_
   try clear hK9 K9
   refine vwp_cond (by first | rfl | (simp; rfl)) (fun h2 => ?_) fun h2 => ?_
   · simp -failIfUnchanged at h2; all_goals
    refine vwp_skip ?_
    refine hK8 _ ?_
    try clear hK8 K8
    refine vwp_seq_k fun K10 hK10 => ?_
    refine vwp_block ?_
    obtain ⟨x, hx⟩ : ∃ x, a[i]? = some x := ⟨_, List.getElem?_eq_getElem (by omega)⟩
    obtain ⟨y, hy⟩ : ∃ y, b[i]? = some y := ⟨_, List.getElem?_eq_getElem (by omega)⟩
    refine vwp_sq [0, 1, 5] fun K11 hK11 => vwp_still hT hm (by kernel_rfl) ?_
    simp [-List.reduceReplicate, hx, hy]
    repeat refine ⟨by first | assumption | omega | (intros; omega), ?_⟩
    refine hK11 _ ?_
    try clear hK11 K11
    refine vwp_cond (by first | rfl | (simp; rfl)) (fun h3 => ?_) fun h3 => ?_
    · simp -failIfUnchanged at h3; all_goals
     refine vwp_sq [] fun K12 hK12 => vwp_region hT ?_
     simp [-List.reduceReplicate]
     repeat refine ⟨by first | assumption | omega | (intros; omega), ?_⟩
     refine hK12 _ ?_
     try clear hK12 K12
     refine vwp_ret ?_
     refine hR _ _ ?_
     refine ⟨_, Gh.refl _ _, ?_⟩
     simp [retQ, Try.f42]
     intro e; subst e
     rw [hx] at hy
     exact h3 (Option.some.inj hy)
    · simp -failIfUnchanged at h3; all_goals
     refine vwp_skip ?_
     refine hK10 _ ?_
     try clear hK10 K10
     refine vwp_live [0, 1, 5] (vwp_region hT ?_)
     simp [-List.reduceReplicate]
     repeat refine ⟨by first | assumption | omega | (intros; omega), ?_⟩
     refine hK7 _ ?_
     refine ⟨_, Gh.to [0, 1, 5] [] ([(0, .fs a.length (bts a)), (1, .fs b.length (bts b)), (5, .int .i64 ((i + 1 : Nat) : Int))]) [] (by simp) (by simp) rfl (by simp) (by simp; exact w64 (by omega) (by omega)), a.length - (i + 1), by omega, i + 1, by omega, rfl, ?_, rfl⟩
     rw [List.take_add_one, List.take_add_one, hab, hx, hy, h3]
   · simp -failIfUnchanged at h2; all_goals
    refine vwp_exit ?_
    simp only [inBlk, thenQ, if_true]
    refine hK5 _ ?_
    try clear hK5 K5
    refine vwp_sq [] fun K13 hK13 => vwp_region hT ?_
    simp [-List.reduceReplicate]
    repeat refine ⟨by first | assumption | omega | (intros; omega), ?_⟩
    refine hK13 _ ?_
    try clear hK13 K13
    refine vwp_ret ?_
    refine hR _ _ ?_
    refine ⟨_, Gh.refl _ _, ?_⟩
    simp [retQ, Try.f42]
    have e1 : a.take i = a := List.take_of_length_le (by omega)
    have e2 : b.take i = b := List.take_of_length_le (by omega)
    rw [e1, e2] at hab
    exact hab
end Go.Proofs.Ytifhbgppjblobaa
