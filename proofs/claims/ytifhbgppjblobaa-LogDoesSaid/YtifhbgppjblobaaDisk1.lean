/- The functions of the disk. -/
import Derived.Test.YtifhbgppjblobaaDisk0
namespace Go.Proofs.Ytifhbgppjblobaa
open Go Go.VX Go.RowKit
set_option linter.unusedVariables false
set_option linter.unusedSimpArgs false
set_option maxHeartbeats 1000000
set_option maxRecDepth 100000

theorem has_spec (d : Dk) (n : Nat) (at_ : Int) :
    VC P 56 [.ptr 0 5 0, .int .i64 at_] (d.obs n) (fun r ob' => r = .bool (decide (0 ≤ at_) && decide (at_ < n)) ∧ ob' = d.obs n) := by
  refine VC_of_vwp_k ent_56 Try.func56 rfl (by simp [Try.ntmps56]) fun R hR => ?_
  refine vwp_sq [0, 1] fun K1 hK1 => vwp_region hT ?_
  simp [-List.reduceReplicate, Dk.obs, Try.ntmps56]
  repeat refine ⟨by first | assumption | omega | (intros; omega), ?_⟩
  refine hK1 _ ?_
  try clear hK1 K1
  refine vwp_sq [0, 1] fun K2 hK2 => vwp_region hT ?_
  simp [-List.reduceReplicate, Dk.obs]
  repeat refine ⟨by first | assumption | omega | (intros; omega), ?_⟩
  refine hK2 _ ?_
  try clear hK2 K2
  refine vwp_ret ?_
  refine hR _ _ ?_
  refine ⟨_, Gh.refl _ _, ?_⟩
  simp [retQ, Try.f56, Dk.obs]
theorem write_spec (d : Dk) (n : Nat) (hd : d.ok n) (at_ : Int) (b : List Int) :
    VC P 69 [.ptr 0 5 0, .int .i64 at_, .fs b.length (bts b)] (d.obs n) (fun r ob' => r = .int .i64 (d.write n at_ b).1 ∧ ob' = (d.write n at_ b).2.obs n) := by
  obtain ⟨hl, ht0, ht1, hf, hn2, hn4⟩ := hd
  refine VC_of_vwp_k ent_69 Try.func69 rfl (by simp [Try.ntmps69]) fun R hR => ?_
  refine vwp_sq [0, 1, 2] fun K1 hK1 => vwp_region hT ?_
  simp [-List.reduceReplicate, Dk.obs, Try.ntmps69]
  repeat refine ⟨by first | assumption | omega | (intros; omega), ?_⟩
  refine hK1 _ ?_
  try clear hK1 K1
  refine vwp_seq_k fun K2 hK2 => ?_
  refine vwp_block ?_
  refine vwp_sq [0, 1, 2] fun K3 hK3 => vwp_region hT ?_
  simp [-List.reduceReplicate, Dk.obs]
  refine vcall_by0 [0, 1] (has_spec d n at_) (by simp) (by simp [Dk.obs]) (by simp) (by simp [Dk.obs]) ?_
  rintro r ob' ⟨rfl, rfl⟩
  simp [-List.reduceReplicate, Dk.obs]
  repeat refine ⟨by first | assumption | omega | (intros; omega), ?_⟩
  refine hK3 _ ?_
  try clear hK3 K3
  refine vwp_cond (by first | rfl | (simp; rfl)) (fun h1 => ?_) fun h1 => ?_
  · simp -failIfUnchanged at h1; all_goals
   refine vwp_sq [] fun K4 hK4 => vwp_region hT ?_
   simp [-List.reduceReplicate, Dk.obs]
   repeat refine ⟨by first | assumption | omega | (intros; omega), ?_⟩
   refine hK4 _ ?_
   try clear hK4 K4
   refine vwp_ret ?_
   refine hR _ _ ?_
   have hw : d.write n at_ b = (5, d) := by
     unfold Dk.write
     rw [if_neg (by omega)]
   rw [hw]
   refine ret_only [6] [0, 1] (d.obs n) (by simp) (by simp [Dk.obs, *]) rfl (by simp) (r := .int .i64 5) (by simp [Try.f69]) ⟨rfl, rfl⟩
  · simp -failIfUnchanged at h1; all_goals
   refine vwp_sq [0, 1, 2] fun K5 hK5 => vwp_region hT ?_
   simp [-List.reduceReplicate, Dk.obs]
   repeat refine ⟨by first | assumption | omega | (intros; omega), ?_⟩
   refine hK5 _ ?_
   try clear hK5 K5
   refine vwp_cond (by first | rfl | (simp; rfl)) (fun h2 => ?_) fun h2 => ?_
   · simp -failIfUnchanged at h2; all_goals
    refine vwp_sq [] fun K6 hK6 => vwp_region hT ?_
    simp [-List.reduceReplicate, Dk.obs]
    repeat refine ⟨by first | assumption | omega | (intros; omega), ?_⟩
    refine hK6 _ ?_
    try clear hK6 K6
    refine vwp_ret ?_
    refine hR _ _ ?_
    have hw : d.write n at_ b = (1, d) := by
      unfold Dk.write
      rw [if_pos (by omega), if_pos (by omega)]
    rw [hw]
    refine ret_only [6] [0, 1] (d.obs n) (by simp) (by simp [Dk.obs, *]) rfl (by simp) (r := .int .i64 1) (by simp [Try.f69]) ⟨rfl, rfl⟩
   · simp -failIfUnchanged at h2; all_goals
    refine vwp_sq [0, 1, 2] fun K7 hK7 => vwp_region hT ?_
    simp [-List.reduceReplicate, Dk.obs]
    repeat refine ⟨by first | assumption | omega | (intros; omega), ?_⟩
    refine hK7 _ ?_
    try clear hK7 K7
    refine vwp_cond (by first | rfl | (simp; rfl)) (fun h3 => ?_) fun h3 => ?_
    · simp -failIfUnchanged at h3; all_goals
     refine vwp_sq [] fun K8 hK8 => vwp_region hT ?_
     simp [-List.reduceReplicate, Dk.obs]
     repeat refine ⟨by first | assumption | omega | (intros; omega), ?_⟩
     refine hK8 _ ?_
     try clear hK8 K8
     refine vwp_ret ?_
     refine hR _ _ ?_
     have hw : d.write n at_ b = (7, d) := by
       unfold Dk.write
       rw [if_pos (by omega), if_neg (by omega), if_pos (by assumption)]
     rw [hw]
     refine ret_only [6] [0, 1] (d.obs n) (by simp) (by simp [Dk.obs, *]) rfl (by simp) (r := .int .i64 7) (by simp [Try.f69]) ⟨rfl, rfl⟩
    · simp -failIfUnchanged at h3; all_goals
     refine vwp_skip ?_
     refine hK2 _ ?_
     try clear hK2 K2
     refine vwp_sq [0, 1, 2] fun K9 hK9 => vwp_region hT ?_
     simp [-List.reduceReplicate, Dk.obs]
     repeat refine ⟨by first | assumption | omega | (intros; omega), ?_⟩
     refine hK9 _ ?_
     try clear hK9 K9
     refine vwp_sq [0, 1, 2, 7] fun K10 hK10 => vwp_region hT ?_
     simp [-List.reduceReplicate, Dk.obs]
     rw [spl_pad (by omega)]
     have hpl := pad_length (b := b) (by omega)
     refine hK10 _ ?_
     try clear hK10 K10
     refine vwp_seq_k fun K11 hK11 => ?_
     refine vwp_sq [0, 1, 7] fun K12 hK12 => vwp_region hT ?_
     simp [-List.reduceReplicate, Dk.obs]
     repeat refine ⟨by first | assumption | omega | (intros; omega), ?_⟩
     refine hK12 _ ?_
     try clear hK12 K12
     refine vwp_cond (by first | rfl | (simp; rfl)) (fun h4 => ?_) fun h4 => ?_
     · simp -failIfUnchanged at h4; all_goals
      have hne : ¬ (32 = d.B.length) := by omega
      refine vwp_sq [0, 1, 7] fun K13 hK13 => vwp_tail hT hm 12 (by kernel_rfl) ?_
      simp [-List.reduceReplicate, Dk.obs, hne]
      repeat refine ⟨by first | assumption | omega | (intros; omega), ?_⟩
      refine hK13 _ ?_
      try clear hK13 K13
      refine vwp_sq [0] fun K14 hK14 => vwp_region hT ?_
      simp [-List.reduceReplicate, Dk.obs]
      repeat refine ⟨by first | assumption | omega | (intros; omega), ?_⟩
      refine hK14 _ ?_
      try clear hK14 K14
      refine vwp_sq [] fun K15 hK15 => vwp_region hT ?_
      simp [-List.reduceReplicate, Dk.obs]
      repeat refine ⟨by first | assumption | omega | (intros; omega), ?_⟩
      refine hK15 _ ?_
      try clear hK15 K15
      refine vwp_ret ?_
      refine hR _ _ ?_
      have e1 : spl (bts d.B) (at_.toNat * 32) (List.take d.torn.toNat (List.take 32 (bts (pad b)))) = bts (splI d.B (at_.toNat * 32) ((pad b).take d.torn.toNat)) := by
        rw [List.take_of_length_le (i := 32) (by simp [hpl]), ← List.map_take, spl_int .u8 (by simp [hpl]; omega)]
      have e2 : (splI d.B (at_.toNat * 32) ((pad b).take d.torn.toNat)).length = 32 * n := by rw [splI_length (by simp [hpl]; omega), hl]
      have hw : d.write n at_ b = (7, { d with B := splI d.B (at_.toNat * 32) ((pad b).take d.torn.toNat), down := true }) := by
        unfold Dk.write
        rw [if_pos (by omega), if_neg (by omega), if_neg (by simp [*]), if_pos (by omega)]
      rw [hw]
      refine ret_only [6] [0, 1] (Dk.obs { d with B := splI d.B (at_.toNat * 32) ((pad b).take d.torn.toNat), down := true } n) (by simp) (by simp [Dk.obs, *]) rfl (by simp) (r := .int .i64 7) (by simp [Try.f69]) ⟨rfl, rfl⟩
     · simp -failIfUnchanged at h4; all_goals
      refine vwp_skip ?_
      refine hK11 _ ?_
      try clear hK11 K11
      refine vwp_seq_k fun K16 hK16 => ?_
      refine vwp_sq [0, 1, 7] fun K17 hK17 => vwp_region hT ?_
      simp [-List.reduceReplicate, Dk.obs]
      repeat refine ⟨by first | assumption | omega | (intros; omega), ?_⟩
      refine hK17 _ ?_
      try clear hK17 K17
      refine vwp_cond (by first | rfl | (simp; rfl)) (fun h5 => ?_) fun h5 => ?_
      · simp -failIfUnchanged at h5; all_goals
       refine vwp_live [0, 1, 7] (vwp_region hT ?_)
       simp [-List.reduceReplicate, Dk.obs]
       repeat refine ⟨by first | assumption | omega | (intros; omega), ?_⟩
       refine hK16 _ ?_
       try clear hK16 K16
       refine vwp_sq [0, 1, 7] fun K18 hK18 => vwp_tail hT hm 7 (by kernel_rfl) ?_
       simp [-List.reduceReplicate, Dk.obs]
       repeat refine ⟨by first | assumption | omega | (intros; omega), ?_⟩
       refine hK18 _ ?_
       try clear hK18 K18
       refine vwp_sq [0] fun K19 hK19 => vwp_region hT ?_
       simp [-List.reduceReplicate, Dk.obs]
       repeat refine ⟨by first | assumption | omega | (intros; omega), ?_⟩
       refine hK19 _ ?_
       try clear hK19 K19
       refine vwp_sq [] fun K20 hK20 => vwp_region hT ?_
       simp [-List.reduceReplicate, Dk.obs]
       repeat refine ⟨by first | assumption | omega | (intros; omega), ?_⟩
       refine hK20 _ ?_
       try clear hK20 K20
       refine vwp_ret ?_
       refine hR _ _ ?_
       have e1 : spl (bts d.B) (at_.toNat * 32) (List.take 32 (bts (pad b))) = bts (splI d.B (at_.toNat * 32) (pad b)) := by
         rw [List.take_of_length_le (i := 32) (by simp [hpl]), spl_int .u8 (by simp [hpl]; omega)]
       have e2 : (splI d.B (at_.toNat * 32) (pad b)).length = 32 * n := by rw [splI_length (by simp [hpl]; omega), hl]
       have hw : d.write n at_ b = (0, { d with B := splI d.B (at_.toNat * 32) (pad b), fuse := if d.fuse = -1 then -1 else IntKind.i64.wrap (d.fuse - 1), writes := IntKind.i64.wrap (d.writes + 1) }) := by
         unfold Dk.write
         rw [if_pos (by omega), if_neg (by omega), if_neg (by simp [*]), if_neg (by omega)]
       rw [hw]
       refine ret_only [6] [0, 1] (Dk.obs { d with B := splI d.B (at_.toNat * 32) (pad b), fuse := if d.fuse = -1 then -1 else IntKind.i64.wrap (d.fuse - 1), writes := IntKind.i64.wrap (d.writes + 1) } n) (by simp) (by simp [Dk.obs, *]) rfl (by simp) (r := .int .i64 0) (by simp [Try.f69]) ⟨rfl, rfl⟩
      · simp -failIfUnchanged at h5; all_goals
       refine vwp_skip ?_
       refine hK16 _ ?_
       try clear hK16 K16
       refine vwp_sq [0, 1, 7] fun K21 hK21 => vwp_tail hT hm 7 (by kernel_rfl) ?_
       simp [-List.reduceReplicate, Dk.obs]
       repeat refine ⟨by first | assumption | omega | (intros; omega), ?_⟩
       refine hK21 _ ?_
       try clear hK21 K21
       refine vwp_sq [0] fun K22 hK22 => vwp_region hT ?_
       simp [-List.reduceReplicate, Dk.obs]
       repeat refine ⟨by first | assumption | omega | (intros; omega), ?_⟩
       refine hK22 _ ?_
       try clear hK22 K22
       refine vwp_sq [] fun K23 hK23 => vwp_region hT ?_
       simp [-List.reduceReplicate, Dk.obs]
       repeat refine ⟨by first | assumption | omega | (intros; omega), ?_⟩
       refine hK23 _ ?_
       try clear hK23 K23
       refine vwp_ret ?_
       refine hR _ _ ?_
       have e1 : spl (bts d.B) (at_.toNat * 32) (List.take 32 (bts (pad b))) = bts (splI d.B (at_.toNat * 32) (pad b)) := by
         rw [List.take_of_length_le (i := 32) (by simp [hpl]), spl_int .u8 (by simp [hpl]; omega)]
       have e2 : (splI d.B (at_.toNat * 32) (pad b)).length = 32 * n := by rw [splI_length (by simp [hpl]; omega), hl]
       have hw : d.write n at_ b = (0, { d with B := splI d.B (at_.toNat * 32) (pad b), fuse := if d.fuse = -1 then -1 else IntKind.i64.wrap (d.fuse - 1), writes := IntKind.i64.wrap (d.writes + 1) }) := by
         unfold Dk.write
         rw [if_pos (by omega), if_neg (by omega), if_neg (by simp [*]), if_neg (by omega)]
       rw [hw]
       refine ret_only [6] [0, 1] (Dk.obs { d with B := splI d.B (at_.toNat * 32) (pad b), fuse := if d.fuse = -1 then -1 else IntKind.i64.wrap (d.fuse - 1), writes := IntKind.i64.wrap (d.writes + 1) } n) (by simp) (by simp [Dk.obs, *]) rfl (by simp) (r := .int .i64 0) (by simp [Try.f69]) ⟨rfl, rfl⟩
end Go.Proofs.Ytifhbgppjblobaa
