/- The functions of the disk, the others. -/
import Derived.Test.YtifhbgppjblobaaDisk1
namespace Go.Proofs.Ytifhbgppjblobaa
open Go Go.VX Go.RowKit
set_option linter.unusedVariables false
set_option linter.unusedSimpArgs false
set_option maxHeartbeats 1000000
set_option maxRecDepth 100000

theorem read_spec (d : Dk) (n : Nat) (hd : d.ok n) (at_ : Int) :
    VC P 29 [.ptr 0 5 0, .int .i64 at_] (d.obs n) (fun r ob' => if 0 ≤ at_ ∧ at_ < n then r = .tup [.sl 2 32 1 0 32, .int .i64 0] ∧ ob' = d.obs n ++ [.live (bts (d.sector at_.toNat))] else r = .tup [.nils, .int .i64 5] ∧ ob' = d.obs n) := by
  obtain ⟨hl, ht0, ht1, hf, hn2, hn4⟩ := hd
  refine VC_of_vwp_k ent_29 Try.func29 rfl (by simp [Try.ntmps29]) fun R hR => ?_
  refine vwp_sq [0, 1] fun K1 hK1 => vwp_region hT ?_
  simp [-List.reduceReplicate, Dk.obs, Try.ntmps29]
  repeat refine ⟨by first | assumption | omega | (intros; omega), ?_⟩
  refine hK1 _ ?_
  try clear hK1 K1
  refine vwp_seq_k fun K2 hK2 => ?_
  refine vwp_sq [0, 1] fun K3 hK3 => vwp_region hT ?_
  simp [-List.reduceReplicate, Dk.obs]
  refine vcall_by0 [0, 1] (has_spec d n at_) (by simp) (by simp [Dk.obs]) (by simp) (by simp [Dk.obs]) ?_
  rintro r ob' ⟨rfl, rfl⟩
  simp [-List.reduceReplicate, Dk.obs]
  repeat refine ⟨by first | assumption | omega | (intros; omega), ?_⟩
  refine hK3 _ ?_
  try clear hK3 K3
  refine vwp_cond (by first | rfl | (simp; rfl)) (fun h1 => ?_) fun h1 => ?_
  · simp -failIfUnchanged at h1; all_goals
   refine vwp_sq [] fun K4 hK4 => vwp_region hT ?_
   simp [-List.reduceReplicate, Dk.obs]
   repeat refine ⟨by first | assumption | omega | (intros; omega), ?_⟩
   refine hK4 _ ?_
   try clear hK4 K4
   refine vwp_ret ?_
   refine hR _ _ ?_
   have hc : ¬ (0 ≤ at_ ∧ at_ < (n : Int)) := by omega
   refine ⟨_, Gh.refl _ _, ?_⟩
   simp [retQ, Try.f29, Dk.obs, hc]
  · simp -failIfUnchanged at h1; all_goals
   refine vwp_skip ?_
   refine hK2 _ ?_
   try clear hK2 K2
   refine vwp_sq [0, 1] fun K5 hK5 => vwp_region hT ?_
   simp [-List.reduceReplicate, Dk.obs]
   repeat refine ⟨by first | assumption | omega | (intros; omega), ?_⟩
   refine hK5 _ ?_
   try clear hK5 K5
   have e1 : spl (List.replicate 32 (V.int .u8 0)) 0 (List.take 32 (List.drop (at_.toNat * 32) (bts d.B))) = bts (d.sector at_.toNat) := by
     rw [spl_eq (by simp; omega)]
     simp [-List.reduceReplicate, Dk.sector, List.map_take, List.map_drop]
     omega
   have hsl : (bts (d.sector at_.toNat)).length = 32 := by simp [Dk.sector]; omega
   rw [e1]
   refine vwp_sq [6] fun K6 hK6 => vwp_region hT ?_
   simp [-List.reduceReplicate, Dk.obs, hsl]
   repeat refine ⟨by first | assumption | omega | (intros; omega), ?_⟩
   refine hK6 _ ?_
   try clear hK6 K6
   refine vwp_ret ?_
   refine hR _ _ ?_
   have hc : (0 ≤ at_ ∧ at_ < (n : Int)) := by omega
   refine ⟨_, Gh.refl _ _, ?_⟩
   simp [-List.reduceReplicate, retQ, Try.f29, Dk.obs, e1, hc]
theorem fuse_spec (d : Dk) (n : Nat) (a c : Int) :
    VC P 13 [.ptr 0 5 0, .int .i64 a, .int .i64 c] (d.obs n) (fun r ob' => r = .tup [] ∧ ob' = (d.fused a c).obs n) := by
  refine VC_of_vwp_k ent_13 Try.func13 rfl (by simp [Try.ntmps13]) fun R hR => ?_
  refine vwp_live [0, 1, 2] (vwp_region hT ?_)
  simp [-List.reduceReplicate, Dk.obs, Try.ntmps13]
  repeat refine ⟨by first | assumption | omega | (intros; omega), ?_⟩
  refine hR _ _ ?_
  refine ⟨_, Gh.refl _ _, ?_⟩
  simp [retQ, Try.f13, Dk.obs, Dk.fused]
  repeat' apply And.intro
  all_goals omega
theorem crash_spec (d : Dk) (n : Nat) :
    VC P 14 [.ptr 0 5 0] (d.obs n) (fun r ob' => r = .tup [] ∧ ob' = d.crashed.obs n) := by
  refine VC_of_vwp_k ent_14 Try.func14 rfl (by simp [Try.ntmps14]) fun R hR => ?_
  refine vwp_live [0] (vwp_region hT ?_)
  simp [-List.reduceReplicate, Dk.obs, Try.ntmps14]
  repeat refine ⟨by first | assumption | omega | (intros; omega), ?_⟩
  refine hR _ _ ?_
  refine ⟨_, Gh.refl _ _, ?_⟩
  simp [retQ, Try.f14, Dk.obs, Dk.crashed]
theorem writes_spec (d : Dk) (n : Nat) :
    VC P 55 [.ptr 0 5 0] (d.obs n) (fun r ob' => r = .int .i64 d.writes ∧ ob' = d.obs n) := by
  refine VC_of_vwp_k ent_55 Try.func55 rfl (by simp [Try.ntmps55]) fun R hR => ?_
  refine vwp_sq [0] fun K1 hK1 => vwp_region hT ?_
  simp [-List.reduceReplicate, Dk.obs, Try.ntmps55]
  repeat refine ⟨by first | assumption | omega | (intros; omega), ?_⟩
  refine hK1 _ ?_
  try clear hK1 K1
  refine vwp_sq [0] fun K2 hK2 => vwp_region hT ?_
  simp [-List.reduceReplicate, Dk.obs, Try.ntmps55]
  repeat refine ⟨by first | assumption | omega | (intros; omega), ?_⟩
  refine hK2 _ ?_
  try clear hK2 K2
  refine vwp_ret ?_
  refine hR _ _ ?_
  refine ⟨_, Gh.refl _ _, ?_⟩
  simp [retQ, Try.f55, Dk.obs]
theorem sectors_spec (d : Dk) (n : Nat) :
    VC P 30 [.ptr 0 5 0] (d.obs n) (fun r ob' => r = .int .i64 (n : Int) ∧ ob' = d.obs n) := by
  refine VC_of_vwp_k ent_30 Try.func30 rfl (by simp [Try.ntmps30]) fun R hR => ?_
  refine vwp_sq [0] fun K1 hK1 => vwp_region hT ?_
  simp [-List.reduceReplicate, Dk.obs, Try.ntmps30]
  repeat refine ⟨by first | assumption | omega | (intros; omega), ?_⟩
  refine hK1 _ ?_
  try clear hK1 K1
  refine vwp_sq [0] fun K2 hK2 => vwp_region hT ?_
  simp [-List.reduceReplicate, Dk.obs, Try.ntmps30]
  repeat refine ⟨by first | assumption | omega | (intros; omega), ?_⟩
  refine hK2 _ ?_
  try clear hK2 K2
  refine vwp_ret ?_
  refine hR _ _ ?_
  refine ⟨_, Gh.refl _ _, ?_⟩
  simp [retQ, Try.f30, Dk.obs]
theorem turn_spec (d : Dk) (n : Nat) (hd : d.ok n) (at_ by_ : Int) :
    VC P 23 [.ptr 0 5 0, .int .i64 at_, .int .u8 by_] (d.obs n) (fun r ob' => r = .int .i64 (d.turned at_ by_).1 ∧ ob' = (d.turned at_ by_).2.obs n) := by
  obtain ⟨hl, ht0, ht1, hf, hn2, hn4⟩ := hd
  have w1 : IntKind.i64.wrap ((n : Int) * 32) = (n : Int) * 32 := w64 (by omega) (by omega)
  refine VC_of_vwp_k ent_23 Try.func23 rfl (by simp [Try.ntmps23]) fun R hR => ?_
  refine vwp_sq [0, 1, 2] fun K1 hK1 => vwp_region hT ?_
  simp [-List.reduceReplicate, Dk.obs, w1, Try.ntmps23]
  repeat refine ⟨by first | assumption | omega | (intros; omega), ?_⟩
  refine hK1 _ ?_
  try clear hK1 K1
  refine vwp_seq_k fun K2 hK2 => ?_
  refine vwp_sq [0, 1, 2] fun K3 hK3 => vwp_region hT ?_
  simp [-List.reduceReplicate, Dk.obs, w1]
  repeat refine ⟨by first | assumption | omega | (intros; omega), ?_⟩
  refine hK3 _ ?_
  try clear hK3 K3
  refine vwp_cond (by first | rfl | (simp; rfl)) (fun h1 => ?_) fun h1 => ?_
  · simp -failIfUnchanged at h1; all_goals
   refine vwp_sq [] fun K4 hK4 => vwp_region hT ?_
   simp [-List.reduceReplicate, Dk.obs, w1]
   repeat refine ⟨by first | assumption | omega | (intros; omega), ?_⟩
   refine hK4 _ ?_
   try clear hK4 K4
   refine vwp_ret ?_
   refine hR _ _ ?_
   have hw : d.turned at_ by_ = (5, d) := by
     unfold Dk.turned
     rw [if_neg (by omega)]
   rw [hw]
   refine ⟨_, Gh.refl _ _, ?_⟩
   simp [retQ, Try.f23, Dk.obs]
  · simp -failIfUnchanged at h1; all_goals
   refine vwp_skip ?_
   refine hK2 _ ?_
   try clear hK2 K2
   have q1 : IntKind.i64.wrap (at_.tdiv 32) = at_ / 32 := by rw [Int.tdiv_eq_ediv_of_nonneg (by omega)]; exact w64 (by omega) (by omega)
   have q2 : at_.tmod 32 = at_ % 32 := Int.tmod_eq_emod_of_nonneg (by omega)
   have q3 : (at_ / 32).toNat * 32 + (at_ % 32).toNat = at_.toNat := by omega
   obtain ⟨v, q4⟩ : ∃ v, d.B[at_.toNat]? = some v := ⟨_, List.getElem?_eq_getElem (by omega)⟩
   refine vwp_sq [0, 1, 2] fun K5 hK5 => vwp_tail hT hm 15 (by kernel_rfl) ?_
   simp [-List.reduceReplicate, Dk.obs, w1, q1, q2, q3, q4]
   repeat refine ⟨by first | assumption | omega | (intros; omega), ?_⟩
   refine hK5 _ ?_
   try clear hK5 K5
   refine vwp_sq [] fun K6 hK6 => vwp_region hT ?_
   simp [-List.reduceReplicate, Dk.obs, w1]
   repeat refine ⟨by first | assumption | omega | (intros; omega), ?_⟩
   refine hK6 _ ?_
   try clear hK6 K6
   refine vwp_ret ?_
   refine hR _ _ ?_
   have q5 : d.B.getD at_.toNat 0 = v := by simp [List.getD_eq_getElem?_getD, q4]
   have hw : d.turned at_ by_ = (0, { d with B := d.B.set at_.toNat (bxor v by_) }) := by
     unfold Dk.turned
     rw [if_pos (by omega), q5]
   rw [hw]
   refine ⟨_, Gh.refl _ _, ?_⟩
   simp [retQ, Try.f23, Dk.obs, bxor, spl]
theorem new_spec (s : Int) :
    VC P 8 [.int .i64 s] [] (fun r ob' => if 2 ≤ s ∧ s ≤ 4096 then r = .tup [.ptr 0 5 0, .int .i64 0] ∧ ob' = (Dk.new s.toNat).obs s.toNat else r = .tup [.nilp, .int .i64 1] ∧ ob' = []) := by
  refine VC_of_vwp_k ent_8 Try.func8 rfl (by simp [Try.ntmps8]) fun R hR => ?_
  refine vwp_sq [0] fun K1 hK1 => vwp_region hT ?_
  simp [-List.reduceReplicate, Try.ntmps8]
  repeat refine ⟨by first | assumption | omega | (intros; omega), ?_⟩
  refine hK1 _ ?_
  try clear hK1 K1
  refine vwp_seq_k fun K2 hK2 => ?_
  refine vwp_sq [0] fun K3 hK3 => vwp_region hT ?_
  simp [-List.reduceReplicate]
  repeat refine ⟨by first | assumption | omega | (intros; omega), ?_⟩
  refine hK3 _ ?_
  try clear hK3 K3
  refine vwp_cond (by first | rfl | (simp; rfl)) (fun h1 => ?_) fun h1 => ?_
  · simp -failIfUnchanged at h1; all_goals
   refine vwp_sq [] fun K4 hK4 => vwp_region hT ?_
   simp [-List.reduceReplicate]
   repeat refine ⟨by first | assumption | omega | (intros; omega), ?_⟩
   refine hK4 _ ?_
   try clear hK4 K4
   refine vwp_ret ?_
   refine hR _ _ ?_
   have hc : ¬ (2 ≤ s ∧ s ≤ 4096) := by omega
   refine ⟨_, Gh.refl _ _, ?_⟩
   simp [retQ, Try.f8, hc]
  · simp -failIfUnchanged at h1; all_goals
   refine vwp_skip ?_
   refine hK2 _ ?_
   try clear hK2 K2
   refine vwp_sq [0] fun K5 hK5 => vwp_region hT ?_
   simp [-List.reduceReplicate]
   repeat refine ⟨by first | assumption | omega | (intros; omega), ?_⟩
   refine hK5 _ ?_
   try clear hK5 K5
   refine vwp_ret ?_
   refine hR _ _ ?_
   have hc : (2 ≤ s ∧ s ≤ 4096) := by omega
   refine ret_only [2, 3] [1, 0] ((Dk.new s.toNat).obs s.toNat) (by simp) (by simp [-List.reduceReplicate, Dk.obs, Dk.new, Nat.mul_comm]) rfl (by simp) (r := .tup [.ptr 0 5 0, .int .i64 0]) (by simp [Try.f8, Nat.mul_comm, -List.reduceReplicate]) ?_
   simp [hc]
end Go.Proofs.Ytifhbgppjblobaa
