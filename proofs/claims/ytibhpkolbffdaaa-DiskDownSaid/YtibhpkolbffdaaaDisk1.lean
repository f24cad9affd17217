/- The functions of the disk. -/
import Derived.Test.YtibhpkolbffdaaaDisk0
namespace Go.Proofs.Ytibhpkolbffdaaa
open Go Go.VX Go.RowKit
set_option linter.unusedVariables false
set_option linter.unusedSimpArgs false
set_option maxHeartbeats 1000000
set_option maxRecDepth 100000

theorem has_spec (d : Dk) (n : Nat) (at_ : Int) :
    VC P 44 [.ptr 0 5 0, .int .i64 at_] (d.obs n) (fun r ob' => r = .bool (decide (0 ≤ at_) && decide (at_ < n)) ∧ ob' = d.obs n) := by
  refine VC_of_vwp_k ent_44 Try.func44 rfl (by simp [Try.ntmps44]) fun R hR => ?_
  refine vwp_seq_k fun K1 hK1 => ?_
  refine vwp_live [0, 1] ?_
  try simp only [argSlots, pruneS, inN, eq_self, reduceIte, ite_true, Nat.reduceAdd, Nat.reduceBEq, Bool.or_true, Bool.true_or, Bool.or_false, Bool.false_or, if_true, if_false, Bool.false_eq_true]
  refine vwp_region hT ?_
  simp [-List.reduceReplicate, Dk.obs, Try.ntmps44]
  repeat refine ⟨by first | assumption | omega | (rw [spl_length (by simp; omega)]; simp; done) | (intros; omega), ?_⟩
  refine hK1 _ ?_
  try clear hK1 K1
  refine vwp_seq_k fun K2 hK2 => ?_
  refine vwp_live [0, 1] ?_
  try simp only [argSlots, pruneS, inN, eq_self, reduceIte, ite_true, Nat.reduceAdd, Nat.reduceBEq, Bool.or_true, Bool.true_or, Bool.or_false, Bool.false_or, if_true, if_false, Bool.false_eq_true]
  refine vwp_region hT ?_
  simp [-List.reduceReplicate, Dk.obs]
  repeat refine ⟨by first | assumption | omega | (rw [spl_length (by simp; omega)]; simp; done) | (intros; omega), ?_⟩
  refine hK2 _ ?_
  try clear hK2 K2
  refine vwp_ret ?_
  try simp only [thenQ, inBlk]
  refine hR _ _ ?_
  refine ⟨_, Gh.refl _ _, ?_⟩
  simp [retQ, Try.f44, Dk.obs]
theorem write_spec (d : Dk) (n : Nat) (hd : d.ok n) (at_ : Int) (b : List Int) :
    VC P 25 [.ptr 0 5 0, .int .i64 at_, .fs b.length (bts b)] (d.obs n) (fun r ob' => r = .int .i64 (d.write n at_ b).1 ∧ ob' = (d.write n at_ b).2.obs n) := by
  obtain ⟨hl, ht0, ht1, hf, hn2, hn4⟩ := hd
  refine VC_of_vwp_k ent_25 Try.func25 rfl (by simp [Try.ntmps25]) fun R hR => ?_
  refine vwp_seq_k fun K1 hK1 => ?_
  refine vwp_live [0, 1, 2] ?_
  try simp only [argSlots, pruneS, inN, eq_self, reduceIte, ite_true, Nat.reduceAdd, Nat.reduceBEq, Bool.or_true, Bool.true_or, Bool.or_false, Bool.false_or, if_true, if_false, Bool.false_eq_true]
  refine vwp_region hT ?_
  simp [-List.reduceReplicate, Dk.obs, Try.ntmps25]
  repeat refine ⟨by first | assumption | omega | (rw [spl_length (by simp; omega)]; simp; done) | (intros; omega), ?_⟩
  refine hK1 _ ?_
  try clear hK1 K1
  refine vwp_seq_k fun K2 hK2 => ?_
  refine vwp_block ?_
  refine vwp_seq_k fun K3 hK3 => ?_
  refine vwp_live [0, 1, 2] ?_
  try simp only [argSlots, pruneS, inN, eq_self, reduceIte, ite_true, Nat.reduceAdd, Nat.reduceBEq, Bool.or_true, Bool.true_or, Bool.or_false, Bool.false_or, if_true, if_false, Bool.false_eq_true]
  refine vwp_region hT ?_
  simp [-List.reduceReplicate, Dk.obs]
  refine vcall_by0 [0, 1] (has_spec d n at_) (by simp) (by simp [Dk.obs]) (by simp) (by simp [Dk.obs]) ?_
  rintro r ob' ⟨rfl, rfl⟩
  simp [-List.reduceReplicate, Dk.obs]
  repeat refine ⟨by first | assumption | omega | (rw [spl_length (by simp; omega)]; simp; done) | (intros; omega), ?_⟩
  refine hK3 _ ?_
  try clear hK3 K3
  refine vwp_cond (by simp; rfl) (fun h1 => ?_) (fun h1 => ?_)
  · try (exfalso; simp at h1; done)
    all_goals
      try simp at h1
      refine vwp_seq_k fun K4 hK4 => ?_
      refine vwp_live [] ?_
      try simp only [argSlots, pruneS, inN, eq_self, reduceIte, ite_true, Nat.reduceAdd, Nat.reduceBEq, Bool.or_true, Bool.true_or, Bool.or_false, Bool.false_or, if_true, if_false, Bool.false_eq_true]
      refine vwp_region hT ?_
      simp [-List.reduceReplicate, Dk.obs]
      repeat refine ⟨by first | assumption | omega | (rw [spl_length (by simp; omega)]; simp; done) | (intros; omega), ?_⟩
      refine hK4 _ ?_
      try clear hK4 K4
      refine vwp_ret ?_
      try simp only [thenQ, inBlk]
      refine hR _ _ ?_
      have hw : d.write n at_ b = (5, d) := by
        unfold Dk.write
        rw [if_neg (by omega)]
      rw [hw]
      refine ret_only [6] [0, 1] (d.obs n) (by simp) (by simp [Dk.obs, *]) rfl (by simp) (r := .int .i64 5) (by simp [Try.f25]) ⟨rfl, rfl⟩
  · try (exfalso; simp at h1; done)
    all_goals
      try simp at h1
      refine vwp_seq_k fun K5 hK5 => ?_
      refine vwp_live [0, 1, 2] ?_
      try simp only [argSlots, pruneS, inN, eq_self, reduceIte, ite_true, Nat.reduceAdd, Nat.reduceBEq, Bool.or_true, Bool.true_or, Bool.or_false, Bool.false_or, if_true, if_false, Bool.false_eq_true]
      refine vwp_region hT ?_
      simp [-List.reduceReplicate, Dk.obs]
      repeat refine ⟨by first | assumption | omega | (rw [spl_length (by simp; omega)]; simp; done) | (intros; omega), ?_⟩
      refine hK5 _ ?_
      try clear hK5 K5
      refine vwp_cond (by simp; rfl) (fun h2 => ?_) (fun h2 => ?_)
      · try (exfalso; simp at h2; done)
        all_goals
          try simp at h2
          refine vwp_seq_k fun K6 hK6 => ?_
          refine vwp_live [] ?_
          try simp only [argSlots, pruneS, inN, eq_self, reduceIte, ite_true, Nat.reduceAdd, Nat.reduceBEq, Bool.or_true, Bool.true_or, Bool.or_false, Bool.false_or, if_true, if_false, Bool.false_eq_true]
          refine vwp_region hT ?_
          simp [-List.reduceReplicate, Dk.obs]
          repeat refine ⟨by first | assumption | omega | (rw [spl_length (by simp; omega)]; simp; done) | (intros; omega), ?_⟩
          refine hK6 _ ?_
          try clear hK6 K6
          refine vwp_ret ?_
          try simp only [thenQ, inBlk]
          refine hR _ _ ?_
          have hw : d.write n at_ b = (1, d) := by
            unfold Dk.write
            rw [if_pos (by omega), if_pos (by omega)]
          rw [hw]
          refine ret_only [6] [0, 1] (d.obs n) (by simp) (by simp [Dk.obs, *]) rfl (by simp) (r := .int .i64 1) (by simp [Try.f25]) ⟨rfl, rfl⟩
      · try (exfalso; simp at h2; done)
        all_goals
          try simp at h2
          refine vwp_seq_k fun K7 hK7 => ?_
          refine vwp_live [0, 1, 2] ?_
          try simp only [argSlots, pruneS, inN, eq_self, reduceIte, ite_true, Nat.reduceAdd, Nat.reduceBEq, Bool.or_true, Bool.true_or, Bool.or_false, Bool.false_or, if_true, if_false, Bool.false_eq_true]
          refine vwp_region hT ?_
          simp [-List.reduceReplicate, Dk.obs]
          repeat refine ⟨by first | assumption | omega | (rw [spl_length (by simp; omega)]; simp; done) | (intros; omega), ?_⟩
          refine hK7 _ ?_
          try clear hK7 K7
          refine vwp_cond (by simp; rfl) (fun h3 => ?_) (fun h3 => ?_)
          · try (exfalso; simp at h3; done)
            all_goals
              try simp at h3
              refine vwp_seq_k fun K8 hK8 => ?_
              refine vwp_live [] ?_
              try simp only [argSlots, pruneS, inN, eq_self, reduceIte, ite_true, Nat.reduceAdd, Nat.reduceBEq, Bool.or_true, Bool.true_or, Bool.or_false, Bool.false_or, if_true, if_false, Bool.false_eq_true]
              refine vwp_region hT ?_
              simp [-List.reduceReplicate, Dk.obs]
              repeat refine ⟨by first | assumption | omega | (rw [spl_length (by simp; omega)]; simp; done) | (intros; omega), ?_⟩
              refine hK8 _ ?_
              try clear hK8 K8
              refine vwp_ret ?_
              try simp only [thenQ, inBlk]
              refine hR _ _ ?_
              have hw : d.write n at_ b = (7, d) := by
                unfold Dk.write
                rw [if_pos (by omega), if_neg (by omega), if_pos (by assumption)]
              rw [hw]
              refine ret_only [6] [0, 1] (d.obs n) (by simp) (by simp [Dk.obs, *]) rfl (by simp) (r := .int .i64 7) (by simp [Try.f25]) ⟨rfl, rfl⟩
          · try (exfalso; simp at h3; done)
            all_goals
              try simp at h3
              refine vwp_skip ?_
              try simp only [thenQ, inBlk]
              refine hK2 _ ?_
              try clear hK2 K2
              refine vwp_seq_k fun K9 hK9 => ?_
              refine vwp_live [0, 1, 2] ?_
              try simp only [argSlots, pruneS, inN, eq_self, reduceIte, ite_true, Nat.reduceAdd, Nat.reduceBEq, Bool.or_true, Bool.true_or, Bool.or_false, Bool.false_or, if_true, if_false, Bool.false_eq_true]
              refine vwp_region hT ?_
              simp [-List.reduceReplicate, Dk.obs]
              repeat refine ⟨by first | assumption | omega | (rw [spl_length (by simp; omega)]; simp; done) | (intros; omega), ?_⟩
              refine hK9 _ ?_
              try clear hK9 K9
              refine vwp_seq_k fun K10 hK10 => ?_
              refine vwp_live [0, 1, 2, 7] ?_
              try simp only [argSlots, pruneS, inN, eq_self, reduceIte, ite_true, Nat.reduceAdd, Nat.reduceBEq, Bool.or_true, Bool.true_or, Bool.or_false, Bool.false_or, if_true, if_false, Bool.false_eq_true]
              refine vwp_region hT ?_
              simp [-List.reduceReplicate, Dk.obs]
              rw [spl_pad (by omega)]
              have hpl := pad_length (b := b) (by omega)
              refine hK10 _ ?_
              try clear hK10 K10
              refine vwp_seq_k fun K11 hK11 => ?_
              refine vwp_seq_k fun K12 hK12 => ?_
              refine vwp_live [0, 1, 7] ?_
              try simp only [argSlots, pruneS, inN, eq_self, reduceIte, ite_true, Nat.reduceAdd, Nat.reduceBEq, Bool.or_true, Bool.true_or, Bool.or_false, Bool.false_or, if_true, if_false, Bool.false_eq_true]
              refine vwp_region hT ?_
              simp [-List.reduceReplicate, Dk.obs]
              repeat refine ⟨by first | assumption | omega | (rw [spl_length (by simp; omega)]; simp; done) | (intros; omega), ?_⟩
              refine hK12 _ ?_
              try clear hK12 K12
              refine vwp_cond (by simp; rfl) (fun h4 => ?_) (fun h4 => ?_)
              · try (exfalso; simp at h4; done)
                all_goals
                  try simp at h4
                  refine vwp_seq_k fun K13 hK13 => ?_
                  refine vwp_live [0, 1, 7] ?_
                  try simp only [argSlots, pruneS, inN, eq_self, reduceIte, ite_true, Nat.reduceAdd, Nat.reduceBEq, Bool.or_true, Bool.true_or, Bool.or_false, Bool.false_or, if_true, if_false, Bool.false_eq_true]
                  refine vwp_tail hT hm 12 (by kernel_rfl) ?_
                  simp [-List.reduceReplicate, Dk.obs]
                  repeat refine ⟨by first | assumption | omega | (rw [spl_length (by simp; omega)]; simp; done) | (intros; omega), ?_⟩
                  refine hK13 _ ?_
                  try clear hK13 K13
                  refine vwp_seq_k fun K14 hK14 => ?_
                  refine vwp_live [0] ?_
                  try simp only [argSlots, pruneS, inN, eq_self, reduceIte, ite_true, Nat.reduceAdd, Nat.reduceBEq, Bool.or_true, Bool.true_or, Bool.or_false, Bool.false_or, if_true, if_false, Bool.false_eq_true]
                  refine vwp_region hT ?_
                  simp [-List.reduceReplicate, Dk.obs]
                  repeat refine ⟨by first | assumption | omega | (rw [spl_length (by simp; omega)]; simp; done) | (intros; omega), ?_⟩
                  refine hK14 _ ?_
                  try clear hK14 K14
                  refine vwp_seq_k fun K15 hK15 => ?_
                  refine vwp_live [] ?_
                  try simp only [argSlots, pruneS, inN, eq_self, reduceIte, ite_true, Nat.reduceAdd, Nat.reduceBEq, Bool.or_true, Bool.true_or, Bool.or_false, Bool.false_or, if_true, if_false, Bool.false_eq_true]
                  refine vwp_region hT ?_
                  simp [-List.reduceReplicate, Dk.obs]
                  repeat refine ⟨by first | assumption | omega | (rw [spl_length (by simp; omega)]; simp; done) | (intros; omega), ?_⟩
                  refine hK15 _ ?_
                  try clear hK15 K15
                  refine vwp_ret ?_
                  try simp only [thenQ, inBlk]
                  refine hR _ _ ?_
                  have e1 : spl (bts d.B) (at_.toNat * 32) (List.take d.torn.toNat (List.take 32 (bts (pad b)))) = bts (splI d.B (at_.toNat * 32) ((pad b).take d.torn.toNat)) := by
                    rw [List.take_of_length_le (i := 32) (by simp [hpl]), ← List.map_take, spl_int .u8 (by simp [hpl]; omega)]
                  have e2 : (splI d.B (at_.toNat * 32) ((pad b).take d.torn.toNat)).length = 32 * n := by rw [splI_length (by simp [hpl]; omega), hl]
                  have hw : d.write n at_ b = (7, { d with B := splI d.B (at_.toNat * 32) ((pad b).take d.torn.toNat), down := true }) := by
                    unfold Dk.write
                    rw [if_pos (by omega), if_neg (by omega), if_neg (by simp [*]), if_pos (by omega)]
                  rw [hw]
                  refine ret_only [6] [0, 1] (Dk.obs { d with B := splI d.B (at_.toNat * 32) ((pad b).take d.torn.toNat), down := true } n) (by simp) (by simp [Dk.obs, *]) rfl (by simp) (r := .int .i64 7) (by simp [Try.f25]) ⟨rfl, rfl⟩
              · try (exfalso; simp at h4; done)
                all_goals
                  try simp at h4
                  refine vwp_skip ?_
                  try simp only [thenQ, inBlk]
                  refine hK11 _ ?_
                  try clear hK11 K11
                  refine vwp_seq_k fun K16 hK16 => ?_
                  refine vwp_seq_k fun K17 hK17 => ?_
                  refine vwp_live [0, 1, 7] ?_
                  try simp only [argSlots, pruneS, inN, eq_self, reduceIte, ite_true, Nat.reduceAdd, Nat.reduceBEq, Bool.or_true, Bool.true_or, Bool.or_false, Bool.false_or, if_true, if_false, Bool.false_eq_true]
                  refine vwp_region hT ?_
                  simp [-List.reduceReplicate, Dk.obs]
                  repeat refine ⟨by first | assumption | omega | (rw [spl_length (by simp; omega)]; simp; done) | (intros; omega), ?_⟩
                  refine hK17 _ ?_
                  try clear hK17 K17
                  refine vwp_cond (by simp; rfl) (fun h5 => ?_) (fun h5 => ?_)
                  · try (exfalso; simp at h5; done)
                    all_goals
                      try simp at h5
                      refine vwp_live [0, 1, 7] ?_
                      try simp only [argSlots, pruneS, inN, eq_self, reduceIte, ite_true, Nat.reduceAdd, Nat.reduceBEq, Bool.or_true, Bool.true_or, Bool.or_false, Bool.false_or, if_true, if_false, Bool.false_eq_true]
                      refine vwp_region hT ?_
                      simp [-List.reduceReplicate, Dk.obs]
                      repeat refine ⟨by first | assumption | omega | (rw [spl_length (by simp; omega)]; simp; done) | (intros; omega), ?_⟩
                      refine hK16 _ ?_
                      try clear hK16 K16
                      refine vwp_seq_k fun K18 hK18 => ?_
                      refine vwp_live [0, 1, 7] ?_
                      try simp only [argSlots, pruneS, inN, eq_self, reduceIte, ite_true, Nat.reduceAdd, Nat.reduceBEq, Bool.or_true, Bool.true_or, Bool.or_false, Bool.false_or, if_true, if_false, Bool.false_eq_true]
                      refine vwp_tail hT hm 7 (by kernel_rfl) ?_
                      simp [-List.reduceReplicate, Dk.obs]
                      repeat refine ⟨by first | assumption | omega | (rw [spl_length (by simp; omega)]; simp; done) | (intros; omega), ?_⟩
                      refine hK18 _ ?_
                      try clear hK18 K18
                      refine vwp_seq_k fun K19 hK19 => ?_
                      refine vwp_live [0] ?_
                      try simp only [argSlots, pruneS, inN, eq_self, reduceIte, ite_true, Nat.reduceAdd, Nat.reduceBEq, Bool.or_true, Bool.true_or, Bool.or_false, Bool.false_or, if_true, if_false, Bool.false_eq_true]
                      refine vwp_region hT ?_
                      simp [-List.reduceReplicate, Dk.obs]
                      repeat refine ⟨by first | assumption | omega | (rw [spl_length (by simp; omega)]; simp; done) | (intros; omega), ?_⟩
                      refine hK19 _ ?_
                      try clear hK19 K19
                      refine vwp_seq_k fun K20 hK20 => ?_
                      refine vwp_live [] ?_
                      try simp only [argSlots, pruneS, inN, eq_self, reduceIte, ite_true, Nat.reduceAdd, Nat.reduceBEq, Bool.or_true, Bool.true_or, Bool.or_false, Bool.false_or, if_true, if_false, Bool.false_eq_true]
                      refine vwp_region hT ?_
                      simp [-List.reduceReplicate, Dk.obs]
                      repeat refine ⟨by first | assumption | omega | (rw [spl_length (by simp; omega)]; simp; done) | (intros; omega), ?_⟩
                      refine hK20 _ ?_
                      try clear hK20 K20
                      refine vwp_ret ?_
                      try simp only [thenQ, inBlk]
                      refine hR _ _ ?_
                      have e1 : spl (bts d.B) (at_.toNat * 32) (List.take 32 (bts (pad b))) = bts (splI d.B (at_.toNat * 32) (pad b)) := by
                        rw [List.take_of_length_le (i := 32) (by simp [hpl]), spl_int .u8 (by simp [hpl]; omega)]
                      have e2 : (splI d.B (at_.toNat * 32) (pad b)).length = 32 * n := by rw [splI_length (by simp [hpl]; omega), hl]
                      have hw : d.write n at_ b = (0, { d with B := splI d.B (at_.toNat * 32) (pad b), fuse := if d.fuse = -1 then -1 else IntKind.i64.wrap (d.fuse - 1), writes := IntKind.i64.wrap (d.writes + 1) }) := by
                        unfold Dk.write
                        rw [if_pos (by omega), if_neg (by omega), if_neg (by simp [*]), if_neg (by omega)]
                      rw [hw]
                      refine ret_only [6] [0, 1] (Dk.obs { d with B := splI d.B (at_.toNat * 32) (pad b), fuse := if d.fuse = -1 then -1 else IntKind.i64.wrap (d.fuse - 1), writes := IntKind.i64.wrap (d.writes + 1) } n) (by simp) (by simp [Dk.obs, *]) rfl (by simp) (r := .int .i64 0) (by simp [Try.f25]) ⟨rfl, rfl⟩
                  · try (exfalso; simp at h5; done)
                    all_goals
                      try simp at h5
                      refine vwp_skip ?_
                      try simp only [thenQ, inBlk]
                      refine hK16 _ ?_
                      try clear hK16 K16
                      refine vwp_seq_k fun K21 hK21 => ?_
                      refine vwp_live [0, 1, 7] ?_
                      try simp only [argSlots, pruneS, inN, eq_self, reduceIte, ite_true, Nat.reduceAdd, Nat.reduceBEq, Bool.or_true, Bool.true_or, Bool.or_false, Bool.false_or, if_true, if_false, Bool.false_eq_true]
                      refine vwp_tail hT hm 7 (by kernel_rfl) ?_
                      simp [-List.reduceReplicate, Dk.obs]
                      repeat refine ⟨by first | assumption | omega | (rw [spl_length (by simp; omega)]; simp; done) | (intros; omega), ?_⟩
                      refine hK21 _ ?_
                      try clear hK21 K21
                      refine vwp_seq_k fun K22 hK22 => ?_
                      refine vwp_live [0] ?_
                      try simp only [argSlots, pruneS, inN, eq_self, reduceIte, ite_true, Nat.reduceAdd, Nat.reduceBEq, Bool.or_true, Bool.true_or, Bool.or_false, Bool.false_or, if_true, if_false, Bool.false_eq_true]
                      refine vwp_region hT ?_
                      simp [-List.reduceReplicate, Dk.obs]
                      repeat refine ⟨by first | assumption | omega | (rw [spl_length (by simp; omega)]; simp; done) | (intros; omega), ?_⟩
                      refine hK22 _ ?_
                      try clear hK22 K22
                      refine vwp_seq_k fun K23 hK23 => ?_
                      refine vwp_live [] ?_
                      try simp only [argSlots, pruneS, inN, eq_self, reduceIte, ite_true, Nat.reduceAdd, Nat.reduceBEq, Bool.or_true, Bool.true_or, Bool.or_false, Bool.false_or, if_true, if_false, Bool.false_eq_true]
                      refine vwp_region hT ?_
                      simp [-List.reduceReplicate, Dk.obs]
                      repeat refine ⟨by first | assumption | omega | (rw [spl_length (by simp; omega)]; simp; done) | (intros; omega), ?_⟩
                      refine hK23 _ ?_
                      try clear hK23 K23
                      refine vwp_ret ?_
                      try simp only [thenQ, inBlk]
                      refine hR _ _ ?_
                      have e1 : spl (bts d.B) (at_.toNat * 32) (List.take 32 (bts (pad b))) = bts (splI d.B (at_.toNat * 32) (pad b)) := by
                        rw [List.take_of_length_le (i := 32) (by simp [hpl]), spl_int .u8 (by simp [hpl]; omega)]
                      have e2 : (splI d.B (at_.toNat * 32) (pad b)).length = 32 * n := by rw [splI_length (by simp [hpl]; omega), hl]
                      have hw : d.write n at_ b = (0, { d with B := splI d.B (at_.toNat * 32) (pad b), fuse := if d.fuse = -1 then -1 else IntKind.i64.wrap (d.fuse - 1), writes := IntKind.i64.wrap (d.writes + 1) }) := by
                        unfold Dk.write
                        rw [if_pos (by omega), if_neg (by omega), if_neg (by simp [*]), if_neg (by omega)]
                      rw [hw]
                      refine ret_only [6] [0, 1] (Dk.obs { d with B := splI d.B (at_.toNat * 32) (pad b), fuse := if d.fuse = -1 then -1 else IntKind.i64.wrap (d.fuse - 1), writes := IntKind.i64.wrap (d.writes + 1) } n) (by simp) (by simp [Dk.obs, *]) rfl (by simp) (r := .int .i64 0) (by simp [Try.f25]) ⟨rfl, rfl⟩
end Go.Proofs.Ytibhpkolbffdaaa
