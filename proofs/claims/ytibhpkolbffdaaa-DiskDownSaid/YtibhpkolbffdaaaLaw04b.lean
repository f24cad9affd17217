/- The calls whose answers the document fixes. -/
import Derived.Test.YtibhpkolbffdaaaLaw04a
import Derived.Test.YtibhpkolbffdaaaDisk3
import Derived.Test.YtibhpkolbffdaaaSame
namespace Go.Proofs.Ytibhpkolbffdaaa
open Go Go.VX Go.RowKit
set_option linter.unusedVariables false
set_option linter.unusedSimpArgs false
set_option maxHeartbeats 20000000
set_option maxRecDepth 100000

theorem write_nil_spec (d : Dk) (n : Nat) (hd : d.ok n) (at_ : Int) :
    VC P 25 [.ptr 0 5 0, .int .i64 at_, .nils] (d.obs n) (fun r ob' => r = .int .i64 (d.write n at_ []).1 ∧ ob' = (d.write n at_ []).2.obs n) := by
  refine (write_spec d n hd at_ []).weak fun E vals h => ?_
  obtain ⟨u1, r1, rfl, _, h1, u2, r2, rfl, _, h2, u3, r3, rfl, _, h3, h4⟩ := h
  exact ⟨u1, _, rfl, trivial, h1, u2, _, rfl, trivial, h2, u3, _, rfl, trivial, VRep.nil_fs h3, h4⟩

theorem Dk.write_ok {d : Dk} {n : Nat} (hd : d.ok n) (a : Int) (b : List Int) : (d.write n a b).2.ok n := by
  obtain ⟨hl, ht0, ht1, hf, hn2, hn4, hf2⟩ := hd
  unfold Dk.write
  split
  · rename_i ha
    split
    · exact ⟨hl, ht0, ht1, hf, hn2, hn4, hf2⟩
    · rename_i hb
      have hpl := pad_length (b := b) (by omega)
      split
      · exact ⟨hl, ht0, ht1, hf, hn2, hn4, hf2⟩
      · split
        · refine ⟨?_, ht0, ht1, hf, hn2, hn4, hf2⟩
          show (splI _ _ _).length = _
          rw [splI_length (by simp [hpl]; omega), hl]
        · refine ⟨?_, ht0, ht1, ?_, hn2, hn4, ?_⟩
          · show (splI _ _ _).length = _
            rw [splI_length (by simp [hpl]; omega), hl]
          · show -1 ≤ (if d.fuse = -1 then (-1 : Int) else IntKind.i64.wrap (d.fuse - 1))
            split
            · omega
            · rw [w64 (by omega) (by omega)]; omega
          · show (if d.fuse = -1 then (-1 : Int) else IntKind.i64.wrap (d.fuse - 1)) ≤ _
            split
            · omega
            · rw [w64 (by omega) (by omega)]; omega
  · exact ⟨hl, ht0, ht1, hf, hn2, hn4, hf2⟩
theorem Dk.fused_ok {d : Dk} {n : Nat} (hd : d.ok n) (a c : Int) (ha : a ≤ 9223372036854775807) : (d.fused a c).ok n := by
  obtain ⟨hl, ht0, ht1, hf, hn2, hn4, hf2⟩ := hd
  exact ⟨hl, by show 0 ≤ min (max c 0) 32; omega, by show min (max c 0) 32 ≤ 32; omega, by show -1 ≤ max a (-1); omega, hn2, hn4, by show max a (-1) ≤ _; omega⟩
theorem Dk.crashed_ok {d : Dk} {n : Nat} (hd : d.ok n) : d.crashed.ok n := by
  obtain ⟨hl, ht0, ht1, hf, hn2, hn4, hf2⟩ := hd
  exact ⟨hl, ht0, ht1, by show (-1 : Int) ≤ -1; omega, hn2, hn4, by show (-1 : Int) ≤ _; omega⟩
theorem Dk.turned_ok {d : Dk} {n : Nat} (hd : d.ok n) (a c : Int) : (d.turned a c).2.ok n := by
  obtain ⟨hl, ht0, ht1, hf, hn2, hn4, hf2⟩ := hd
  unfold Dk.turned
  split
  · exact ⟨by show (List.set _ _ _).length = _; simpa using hl, ht0, ht1, hf, hn2, hn4, hf2⟩
  · exact ⟨hl, ht0, ht1, hf, hn2, hn4, hf2⟩
theorem Dk.new_ok {n : Nat} (h1 : 2 ≤ n) (h2 : n ≤ 4096) : (Dk.new n).ok n := ⟨by simp [Dk.new, -List.reduceReplicate], by show (0 : Int) ≤ 0; omega, by show (0 : Int) ≤ 32; omega, by show (-1 : Int) ≤ -1; omega, h1, h2, by show (-1 : Int) ≤ _; omega⟩
theorem Dk.step_ok {d : Dk} {n : Nat} (hd : d.ok n) (x : DOp) (hx : x.a ≤ 9223372036854775807) : (d.step n x).2.ok n := by
  unfold Dk.step
  split
  · exact Dk.write_ok hd _ _
  split
  · exact Dk.fused_ok hd _ _ hx
  split
  · exact Dk.crashed_ok hd
  split
  · exact Dk.turned_ok hd _ _
  · exact hd

theorem awake_spec : VC P 10 [] [] (fun r ob' => r = .bool true ∧ ob' = []) := by
  have o0 : (Dk.new 2).ok 2 := Dk.new_ok (by omega) (by omega)
  have o1 := Dk.write_ok o0 0 [97, 98, 99]
  have o2 := Dk.fused_ok o1 0 2 (by omega)
  have o3 := Dk.write_ok o2 0 [120, 121, 122]
  have o4 := Dk.write_ok o3 1 []
  have o5 := Dk.crashed_ok o4
  have o6 := Dk.write_ok o5 1 [113]
  have a1 : ((Dk.new 2).write 2 0 [97, 98, 99]).1 = 0 := by decide
  generalize q1 : ((Dk.new 2).write 2 0 [97, 98, 99]).2 = d1 at *
  have a3 : ((d1.fused 0 2).write 2 0 [120, 121, 122]).1 = 7 := by subst q1; decide
  generalize q3 : ((d1.fused 0 2).write 2 0 [120, 121, 122]).2 = d3 at *
  have a4 : (d3.write 2 1 []).1 = 7 := by subst q3; subst q1; decide
  generalize q4 : (d3.write 2 1 []).2 = d4 at *
  have a6 : (d4.crashed.write 2 1 [113]).1 = 0 := by subst q4; subst q3; subst q1; decide
  have hsec : d4.sector 0 = [120, 121, 99, 0, 0, 0, 0, 0, 0, 0, 0, 0, 0, 0, 0, 0, 0, 0, 0, 0, 0, 0, 0, 0, 0, 0, 0, 0, 0, 0, 0, 0] := by subst q4; subst q3; subst q1; decide
  have hstr : (strOfV [.int .u8 120, .int .u8 121, .int .u8 99, .int .u8 0]).toList = [120, 121, 99, 0] := by rw [ByteArray.toList_eq]; decide
  generalize q6 : (d4.crashed.write 2 1 [113]).2 = d6 at *
  have b1 : d6.writes = 2 := by subst q6; subst q4; subst q3; subst q1; decide
  have b2 : d6.turned 64 1 = (5, d6) := by
    have := o6.len
    unfold Dk.turned
    rw [if_neg (by omega)]
  have b3 : (d6.turned 0 1).1 = 0 := by subst q6; subst q4; subst q3; subst q1; decide
  refine VC_of_vwp_k ent_10 Try.func10 rfl (by simp [Try.ntmps10]) fun R hR => ?_
  refine vwp_seq_k fun K1 hK1 => ?_
  refine vwp_live [] ?_
  try simp only [argSlots, pruneS, inN, eq_self, reduceIte, ite_true, Nat.reduceAdd, Nat.reduceBEq, Bool.or_true, Bool.true_or, Bool.or_false, Bool.false_or, if_true, if_false, Bool.false_eq_true]
  refine vwp_region hT ?_
  simp [Dk.obs, a1, a3, a4, a6, q1, q3, q4, q6, Try.ntmps10]
  repeat refine ⟨by first | assumption | omega | (rw [spl_length (by simp; omega)]; simp; done) | (intros; omega), ?_⟩
  refine hK1 _ ?_
  try clear hK1 K1
  refine vwp_seq_k fun K2 hK2 => ?_
  refine vwp_live [] ?_
  try simp only [argSlots, pruneS, inN, eq_self, reduceIte, ite_true, Nat.reduceAdd, Nat.reduceBEq, Bool.or_true, Bool.true_or, Bool.or_false, Bool.false_or, if_true, if_false, Bool.false_eq_true]
  refine vwp_region hT ?_
  simp [Dk.obs, a1, a3, a4, a6, q1, q3, q4, q6]
  refine vcall_by0 [] (new_spec 2) (by simp) (by simp [Dk.obs]) (by simp) (by simp [Dk.obs]) ?_
  intro r ob' hq
  rw [if_pos (by decide)] at hq
  obtain ⟨rfl, rfl⟩ := hq
  simp [Dk.obs, a1, a3, a4, a6, q1, q3, q4, q6]
  repeat refine ⟨by first | assumption | omega | (rw [spl_length (by simp; omega)]; simp; done) | (intros; omega), ?_⟩
  refine hK2 _ ?_
  try clear hK2 K2
  refine vwp_seq_k fun K3 hK3 => ?_
  refine vwp_live [1, 2] ?_
  try simp only [argSlots, pruneS, inN, eq_self, reduceIte, ite_true, Nat.reduceAdd, Nat.reduceBEq, Bool.or_true, Bool.true_or, Bool.or_false, Bool.false_or, if_true, if_false, Bool.false_eq_true]
  refine vwp_region hT ?_
  simp [Dk.obs, a1, a3, a4, a6, q1, q3, q4, q6]
  refine vcall_by0 [] (new_spec 1) (by simp) (by simp [Dk.obs]) (by simp) (by simp [Dk.obs]) ?_
  intro r ob' hq
  rw [if_neg (by decide)] at hq
  obtain ⟨rfl, rfl⟩ := hq
  simp [Dk.obs, a1, a3, a4, a6, q1, q3, q4, q6]
  repeat refine ⟨by first | assumption | omega | (rw [spl_length (by simp; omega)]; simp; done) | (intros; omega), ?_⟩
  refine hK3 _ ?_
  try clear hK3 K3
  refine vwp_seq_k fun K4 hK4 => ?_
  refine vwp_seq_k fun K5 hK5 => ?_
  refine vwp_live [1, 2, 4] ?_
  try simp only [argSlots, pruneS, inN, eq_self, reduceIte, ite_true, Nat.reduceAdd, Nat.reduceBEq, Bool.or_true, Bool.true_or, Bool.or_false, Bool.false_or, if_true, if_false, Bool.false_eq_true]
  refine vwp_region hT ?_
  simp [Dk.obs, a1, a3, a4, a6, q1, q3, q4, q6]
  repeat refine ⟨by first | assumption | omega | (rw [spl_length (by simp; omega)]; simp; done) | (intros; omega), ?_⟩
  refine hK5 _ ?_
  try clear hK5 K5
  refine vwp_cond (by simp; rfl) (fun h1 => ?_) (fun h1 => ?_)
  · try (exfalso; simp at h1; done)
    all_goals
      try simp at h1
      refine vwp_seq_k fun K6 hK6 => ?_
      refine vwp_live [] ?_
      try simp only [argSlots, pruneS, inN, eq_self, reduceIte, ite_true, Nat.reduceAdd, Nat.reduceBEq, Bool.or_true, Bool.true_or, Bool.or_false, Bool.false_or, if_true, if_false, Bool.false_eq_true]
      refine vwp_region hT ?_
      simp [Dk.obs, a1, a3, a4, a6, q1, q3, q4, q6]
      repeat refine ⟨by first | assumption | omega | (rw [spl_length (by simp; omega)]; simp; done) | (intros; omega), ?_⟩
      refine hK6 _ ?_
      try clear hK6 K6
      refine vwp_ret ?_
      try simp only [thenQ, inBlk]
      refine hR _ _ ?_
      refine ret_only [0] [] [] (by simp) (by simp) rfl (by simp) (r := .bool true) (by simp [Try.f10]) ⟨rfl, rfl⟩
  · try (exfalso; simp at h1; done)
    all_goals
      try simp at h1
      refine vwp_skip ?_
      try simp only [thenQ, inBlk]
      refine hK4 _ ?_
      try clear hK4 K4
      refine vwp_seq_k fun K7 hK7 => ?_
      refine vwp_live [1, 2, 4] ?_
      try simp only [argSlots, pruneS, inN, eq_self, reduceIte, ite_true, Nat.reduceAdd, Nat.reduceBEq, Bool.or_true, Bool.true_or, Bool.or_false, Bool.false_or, if_true, if_false, Bool.false_eq_true]
      refine vwp_region hT ?_
      simp [Dk.obs, a1, a3, a4, a6, q1, q3, q4, q6]
      refine vcall_by0 [0, 1] (write_spec (Dk.new 2) 2 o0 0 [97, 98, 99]) (by simp) (by simp [Dk.obs]) (by simp) (by simp [Dk.obs]) ?_
      rintro r ob' ⟨rfl, rfl⟩
      simp [Dk.obs, a1, a3, a4, a6, q1, q3, q4, q6]
      repeat refine ⟨by first | assumption | omega | (rw [spl_length (by simp; omega)]; simp; done) | (intros; omega), ?_⟩
      refine hK7 _ ?_
      try clear hK7 K7
      refine vwp_seq_k fun K8 hK8 => ?_
      refine vwp_live [1, 2, 4, 5] ?_
      try simp only [argSlots, pruneS, inN, eq_self, reduceIte, ite_true, Nat.reduceAdd, Nat.reduceBEq, Bool.or_true, Bool.true_or, Bool.or_false, Bool.false_or, if_true, if_false, Bool.false_eq_true]
      refine vwp_region hT ?_
      simp [Dk.obs, a1, a3, a4, a6, q1, q3, q4, q6]
      refine vcall_by0 [0, 1] (fuse_spec d1 2 0 2) (by simp) (by simp [Dk.obs]) (by simp) (by simp [Dk.obs]) ?_
      rintro r ob' ⟨rfl, rfl⟩
      simp [Dk.obs, a1, a3, a4, a6, q1, q3, q4, q6]
      repeat refine ⟨by first | assumption | omega | (rw [spl_length (by simp; omega)]; simp; done) | (intros; omega), ?_⟩
      refine hK8 _ ?_
      try clear hK8 K8
      refine vwp_seq_k fun K9 hK9 => ?_
      refine vwp_live [1, 2, 4, 5] ?_
      try simp only [argSlots, pruneS, inN, eq_self, reduceIte, ite_true, Nat.reduceAdd, Nat.reduceBEq, Bool.or_true, Bool.true_or, Bool.or_false, Bool.false_or, if_true, if_false, Bool.false_eq_true]
      refine vwp_region hT ?_
      simp [Dk.obs, a1, a3, a4, a6, q1, q3, q4, q6]
      refine vcall_by0 [0, 1] (write_spec (d1.fused 0 2) 2 o2 0 [120, 121, 122]) (by simp) (by simp [Dk.obs]) (by simp) (by simp [Dk.obs]) ?_
      rintro r ob' ⟨rfl, rfl⟩
      simp [Dk.obs, a1, a3, a4, a6, q1, q3, q4, q6]
      repeat refine ⟨by first | assumption | omega | (rw [spl_length (by simp; omega)]; simp; done) | (intros; omega), ?_⟩
      refine hK9 _ ?_
      try clear hK9 K9
      refine vwp_seq_k fun K10 hK10 => ?_
      refine vwp_live [1, 2, 4, 5, 6] ?_
      try simp only [argSlots, pruneS, inN, eq_self, reduceIte, ite_true, Nat.reduceAdd, Nat.reduceBEq, Bool.or_true, Bool.true_or, Bool.or_false, Bool.false_or, if_true, if_false, Bool.false_eq_true]
      refine vwp_region hT ?_
      simp [Dk.obs, a1, a3, a4, a6, q1, q3, q4, q6]
      refine vcall_by0 [0, 1] (write_nil_spec d3 2 o3 1) (by simp) (by simp [Dk.obs]) (by simp) (by simp [Dk.obs]) ?_
      rintro r ob' ⟨rfl, rfl⟩
      simp [Dk.obs, a1, a3, a4, a6, q1, q3, q4, q6]
      repeat refine ⟨by first | assumption | omega | (rw [spl_length (by simp; omega)]; simp; done) | (intros; omega), ?_⟩
      refine hK10 _ ?_
      try clear hK10 K10
      refine vwp_seq_k fun K11 hK11 => ?_
      refine vwp_live [1, 2, 4, 5, 6, 7] ?_
      try simp only [argSlots, pruneS, inN, eq_self, reduceIte, ite_true, Nat.reduceAdd, Nat.reduceBEq, Bool.or_true, Bool.true_or, Bool.or_false, Bool.false_or, if_true, if_false, Bool.false_eq_true]
      refine vwp_region hT ?_
      simp [Dk.obs, a1, a3, a4, a6, q1, q3, q4, q6]
      refine vcall_by0 [0, 1] (read_spec d4 2 o4 0) (by simp) (by simp [Dk.obs]) (by simp) (by simp [Dk.obs]) ?_
      intro r ob' hq
      rw [if_pos (by decide)] at hq
      obtain ⟨rfl, rfl⟩ := hq
      simp [Dk.obs, a1, a3, a4, a6, q1, q3, q4, q6]
      repeat refine ⟨by first | assumption | omega | (rw [spl_length (by simp; omega)]; simp; done) | (intros; omega), ?_⟩
      refine hK11 _ ?_
      try clear hK11 K11
      refine vwp_seq_k fun K12 hK12 => ?_
      refine vwp_live [1, 2, 4, 5, 6, 7, 8, 9] ?_
      try simp only [argSlots, pruneS, inN, eq_self, reduceIte, ite_true, Nat.reduceAdd, Nat.reduceBEq, Bool.or_true, Bool.true_or, Bool.or_false, Bool.false_or, if_true, if_false, Bool.false_eq_true]
      refine vwp_region hT ?_
      simp [Dk.obs, a1, a3, a4, a6, q1, q3, q4, q6]
      refine vcall_by0 [0, 1] (crash_spec d4 2) (by simp) (by simp [Dk.obs]) (by simp) (by simp [Dk.obs]) ?_
      rintro r ob' ⟨rfl, rfl⟩
      simp [Dk.obs, a1, a3, a4, a6, q1, q3, q4, q6]
      repeat refine ⟨by first | assumption | omega | (rw [spl_length (by simp; omega)]; simp; done) | (intros; omega), ?_⟩
      refine hK12 _ ?_
      try clear hK12 K12
      refine vwp_seq_k fun K13 hK13 => ?_
      refine vwp_live [1, 2, 4, 5, 6, 7, 8, 9] ?_
      try simp only [argSlots, pruneS, inN, eq_self, reduceIte, ite_true, Nat.reduceAdd, Nat.reduceBEq, Bool.or_true, Bool.true_or, Bool.or_false, Bool.false_or, if_true, if_false, Bool.false_eq_true]
      refine vwp_region hT ?_
      simp [Dk.obs, a1, a3, a4, a6, q1, q3, q4, q6]
      refine vcall_by0 [0, 1] (write_spec d4.crashed 2 o5 1 [113]) (by simp) (by simp [Dk.obs]) (by simp) (by simp [Dk.obs]) ?_
      rintro r ob' ⟨rfl, rfl⟩
      simp [Dk.obs, a1, a3, a4, a6, q1, q3, q4, q6]
      repeat refine ⟨by first | assumption | omega | (rw [spl_length (by simp; omega)]; simp; done) | (intros; omega), ?_⟩
      refine hK13 _ ?_
      try clear hK13 K13
      refine vwp_seq_k fun K14 hK14 => ?_
      refine vwp_live [1, 2, 4, 5, 6, 7, 8, 9, 10] ?_
      try simp only [argSlots, pruneS, inN, eq_self, reduceIte, ite_true, Nat.reduceAdd, Nat.reduceBEq, Bool.or_true, Bool.true_or, Bool.or_false, Bool.false_or, if_true, if_false, Bool.false_eq_true]
      refine vwp_region hT ?_
      simp [Dk.obs, a1, a3, a4, a6, q1, q3, q4, q6]
      refine vcall_by0 [0, 1] (read_spec d6 2 o6 2) (by simp) (by simp [Dk.obs]) (by simp) (by simp [Dk.obs]) ?_
      intro r ob' hq
      rw [if_neg (by decide)] at hq
      obtain ⟨rfl, rfl⟩ := hq
      simp [Dk.obs, a1, a3, a4, a6, q1, q3, q4, q6]
      repeat refine ⟨by first | assumption | omega | (rw [spl_length (by simp; omega)]; simp; done) | (intros; omega), ?_⟩
      refine hK14 _ ?_
      try clear hK14 K14
      refine vwp_seq_k fun K15 hK15 => ?_
      refine vwp_live [1, 2, 4, 5, 6, 7, 8, 9, 10, 12] ?_
      try simp only [argSlots, pruneS, inN, eq_self, reduceIte, ite_true, Nat.reduceAdd, Nat.reduceBEq, Bool.or_true, Bool.true_or, Bool.or_false, Bool.false_or, if_true, if_false, Bool.false_eq_true]
      refine vwp_region hT ?_
      simp (maxSteps := 3000000) [Dk.obs, a1, a3, a4, a6, b1, b2, b3, hsec, hstr]
      refine vcall_by0 [0, 1] (sectors_spec d6 2) (by simp) (by simp [Dk.obs, b1]) (by simp) (by simp [Dk.obs, b1]) ?_
      rintro r ob' ⟨rfl, rfl⟩
      simp (maxSteps := 3000000) [Dk.obs, b1, b2, b3]
      refine vcall_by0 [0, 1] (writes_spec d6 2) (by simp) (by simp [Dk.obs, b1]) (by simp) (by simp [Dk.obs, b1]) ?_
      rintro r ob' ⟨rfl, rfl⟩
      simp (maxSteps := 3000000) [Dk.obs, b1, b2, b3]
      refine vcall_by0 [0, 1] (turn_spec d6 2 o6 64 1) (by simp) (by simp [Dk.obs, b1]) (by simp) (by simp [Dk.obs, b1]) ?_
      rintro r ob' ⟨rfl, rfl⟩
      simp (maxSteps := 3000000) [Dk.obs, b1, b2, b3]
      refine vcall_by0 [0, 1] (turn_spec d6 2 o6 0 1) (by simp) (by simp [Dk.obs, b1]) (by simp) (by simp [Dk.obs, b1]) ?_
      rintro r ob' ⟨rfl, rfl⟩
      simp (maxSteps := 3000000) [Dk.obs, b1, b2, b3]
      repeat refine ⟨by first | assumption | omega | (rw [spl_length (by simp; omega)]; simp; done) | (intros; omega), ?_⟩
      refine hK15 _ ?_
      try clear hK15 K15
      refine vwp_ret ?_
      try simp only [thenQ, inBlk]
      refine hR _ _ ?_
      refine ret_only [0] [] [] (by simp) (by simp) rfl (by simp) (r := .bool true) (by simp [Try.f10]) ⟨rfl, rfl⟩
end Go.Proofs.Ytibhpkolbffdaaa
