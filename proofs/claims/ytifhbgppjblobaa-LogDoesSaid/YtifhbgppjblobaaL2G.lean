/- The document's answers: a half's generation, and its records. -/
import Derived.Test.YtifhbgppjblobaaL2F
namespace Go.Proofs.Ytifhbgppjblobaa
open Go Go.VX Go.RowKit
set_option linter.unusedVariables false
set_option linter.unusedSimpArgs false
set_option maxHeartbeats 20000000
set_option maxRecDepth 100000
theorem gen_ref (d : Dk) (n : Nat) (hd : d.ok n) (hbt : byteL d.B) (h : Nat) (hh : h ≤ 1) : VC P 46 [.ptr 0 5 0, .int .i64 h] d.robs (fun r ob' => r = .int .i64 (genL d n h : Int) ∧ ob' = d.robs) := by
  refine VC_of_vwp_k ent_46 Try.func46 rfl (by simp) fun R hR => ?_
  refine vwp_sq [0, 1] fun K1 hK1 => vwp_region hT ?_
  simp [Dk.robs]
  refine hK1 _ ?_
  try clear hK1 K1
  have hl := hd.len
  have hn2 := hd.n2
  have hn4 := hd.n4
  obtain ⟨LB, hLB⟩ : ∃ LB, LB = d.B.length := ⟨_, rfl⟩
  obtain ⟨p, hp⟩ : ∃ p, p = n / 2 := ⟨_, rfl⟩
  obtain ⟨m, hm1⟩ : ∃ m, m = 32 * p := ⟨_, rfl⟩
  obtain ⟨o, ho⟩ : ∃ o, o = h * m := ⟨_, rfl⟩
  rw [← hLB] at hl
  have hLBe := hLB.symm
  have hom : o + m ≤ LB := by
    have : h = 0 ∨ h = 1 := by omega
    rcases this with e | e <;> rw [ho, e] <;> omega
  have hop : o = h * p * 32 := by rw [ho, hm1, Nat.mul_left_comm, Nat.mul_comm 32]
  have hhf := half_ref d n hd h hh
  rw [← hp, ← hm1, ← ho] at hhf
  obtain ⟨s, hs⟩ : ∃ s, s = d.sector (h * (n / 2)) := ⟨_, rfl⟩
  have hix : h * (n / 2) < n := by have := half_le (n := n) (h := h) (i := 0) hh (by omega); omega
  have hsl : s.length = 32 := by rw [hs]; exact sector_len hd hix
  have hsb : byteL s := by rw [hs]; exact sector_byte hbt _
  have hst : List.take 32 (List.drop o (bts d.B)) = bts s := by rw [hs, Dk.sector, ← hp, hop, ← List.map_drop, ← List.map_take]
  obtain ⟨q, hq⟩ : ∃ q, q = s.take 4 := ⟨_, rfl⟩
  have hql : q.length = 4 := by rw [hq, List.length_take]; omega
  have hqb : byteL q := by rw [hq]; exact take_byte hsb 4
  have hqt : List.take 4 (List.drop o (bts d.B)) = bts q := by
    have e : bts (List.take 4 s) = List.take 4 (bts s) := List.map_take
    rw [hq, e, ← hst, List.take_take]
    rfl
  have htl := number_ref q (by omega) hqb
  obtain ⟨v, hv⟩ : ∃ v, v = tellN q := ⟨_, rfl⟩
  have hvl : v < 4294967296 := by rw [hv]; exact tell_lt4 hqb (by omega)
  rw [← hv] at htl
  have hgen : genL d n h = if 2147483647 < v ∨ s ≠ headL v then 0 else v := by rw [genL, ← hs, ← hq, ← hv]
  have hm32 : 32 ≤ m := by omega
  refine vwp_sq [0, 1] fun K2 hK2 => vwp_region hT ?_
  simp [Dk.robs]
  refine vcall_k [0, 1] (hhf) ?_ (hh := by simp [Dk.robs])
  rintro r ob' ⟨rfl, rfl⟩
  simp [Dk.robs]
  refine hK2 _ ?_
  try clear hK2 K2
  refine vwp_sq [5] fun K3 hK3 => vwp_region hT ?_
  simp [Dk.robs, ← hLB]
  repeat refine ⟨by first | assumption | omega | (intros; omega), ?_⟩
  refine vcall_z [] (htl) (by rintro r ob' ⟨rfl, rfl⟩; simp) ?_ (ha := by simp [hqt, hql]) (hok := by simp [← hLB])
  rintro r ob' ⟨rfl, rfl⟩
  simp [Dk.robs, ← hLB]
  repeat refine ⟨by first | assumption | omega | (intros; omega), ?_⟩
  refine hK3 _ ?_
  try clear hK3 K3
  refine vwp_seq_k fun K4 hK4 => ?_
  refine vwp_seq_k fun K5 hK5 => ?_
  by_cases hv0 : v = 0
  · have hg0 : genL d n h = 0 := by rw [hgen, hv0]; split <;> rfl
    refine vwp_live [5, 6] (vwp_storm hT hm [.pure, .win 0 0, .pure, .off, .off, .pure, .pure, .off, .off, .off, .off, .off, .off, .pure] [[], [0], [0, 1], [0, 1, 2], [0, 1, 2, 3], [0, 1, 2, 3, 4], [0, 1, 2, 3, 4, 5], [0, 1, 2, 3, 4, 5, 6], [0, 1, 2, 3, 4, 5, 6, 7], [0, 1, 2, 3, 4, 5, 6], [0, 1, 2, 3, 4, 5, 6, 9], [0, 1, 2, 3, 4, 5, 6, 7, 8, 9, 10], [0, 1, 2, 3, 4, 5, 6, 7, 8, 9, 10, 11], [0, 1, 2, 3, 4, 5, 6, 7, 8, 9, 10, 11, 12]] (by kernel_rfl) ?_)
    simp [Dk.robs, hv0]
    repeat refine ⟨by first | assumption | omega | (intros; omega), ?_⟩
    refine hK5 _ ?_
    try clear hK5 K5
    refine vwp_cond (by first | rfl | (simp; rfl)) (fun h1 => ?_) fun h1 => ?_
    · simp -failIfUnchanged at h1; all_goals
     refine vwp_sq [] fun K6 hK6 => vwp_region hT ?_
     simp [Dk.robs]
     refine hK6 _ ?_
     try clear hK6 K6
     refine vwp_ret (hR _ _ ?_)
     rw [hg0]
     exact ret_k [4] [0, 1] (d.robs) (.int .i64 0) (⟨rfl, rfl⟩) (hh := by simp [Dk.robs, hLB])
    · simp -failIfUnchanged at h1; all_goals
     refine vwp_skip ?_
     refine hK4 _ ?_
     try clear hK4 K4
     refine vwp_seq_k fun K7 hK7 => ?_
     simp at *
  · have hv0i : ¬ (v : Int) = 0 := by omega
    have hvb : ((v : Int) == 0) = false := by simpa using hv0
    by_cases hbig : 2147483647 < v
    · have hbi : (2147483647 : Int) < (v : Int) := by omega
      have hbj : ¬ (v : Int) ≤ 2147483647 := by omega
      have hg0 : genL d n h = 0 := by rw [hgen, if_pos (.inl hbig)]
      refine vwp_live [5, 6] (vwp_storm hT hm [.pure, .win 0 0, .pure, .pure, .win 0 0, .pure, .pure, .off, .off, .off, .off, .off, .off, .pure] [[], [0], [0, 1], [0, 1, 2], [0, 1, 2, 3], [0, 1, 2, 3, 4], [0, 1, 2, 3, 4, 5], [0, 1, 2, 3, 4, 5, 6], [0, 1, 2, 3, 4, 5, 6, 7], [0, 1, 2, 3, 4, 5, 6], [0, 1, 2, 3, 4, 5, 6, 9], [0, 1, 2, 3, 4, 5, 6, 7, 8, 9, 10], [0, 1, 2, 3, 4, 5, 6, 7, 8, 9, 10, 11], [0, 1, 2, 3, 4, 5, 6, 7, 8, 9, 10, 11, 12]] (by kernel_rfl) ?_)
      simp [Dk.robs, hvb, hv0, hv0i, hbi, hbj, hbig]
      repeat refine ⟨by first | assumption | omega | (intros; omega), ?_⟩
      refine hK5 _ ?_
      try clear hK5 K5
      refine vwp_cond (by first | rfl | (simp; rfl)) (fun h2 => ?_) fun h2 => ?_
      · simp -failIfUnchanged at h2; all_goals
       refine vwp_sq [] fun K8 hK8 => vwp_region hT ?_
       simp [Dk.robs]
       refine hK8 _ ?_
       try clear hK8 K8
       refine vwp_ret (hR _ _ ?_)
       rw [hg0]
       exact ret_k [4] [0, 1] (d.robs) (.int .i64 0) (⟨rfl, rfl⟩) (hh := by simp [Dk.robs, hLB])
      · simp -failIfUnchanged at h2; all_goals
       refine vwp_skip ?_
       refine hK4 _ ?_
       try clear hK4 K4
       refine vwp_seq_k fun K9 hK9 => ?_
       simp at *
    · have hbi : ¬ (2147483647 : Int) < (v : Int) := by omega
      have hhd := head_ref v (by omega)
      obtain ⟨HL, hHL⟩ : ∃ HL, HL = headL v := ⟨_, rfl⟩
      have hHl : HL.length = 32 := by rw [hHL]; exact headL_len v
      rw [← hHL] at hhd
      have hss := same_spec s HL (by omega) (by omega)
      refine vwp_live [5, 6] (vwp_storm hT hm [.pure, .win 0 0, .pure, .pure, .win 0 0, .pure, .pure, .pure, .win 0 1, .pure, .mv, .mv, .pure, .pure] [[], [0], [0, 1], [0, 1, 2], [0, 1, 2, 3], [0, 1, 2, 3, 4], [0, 1, 2, 3, 4, 5], [0, 1, 2, 3, 4, 5, 6], [0, 1, 2, 3, 4, 5, 6, 7], [0, 1, 2, 3, 4, 5, 6], [0, 1, 2, 3, 4, 5, 6, 9], [0, 1, 2, 3, 4, 5, 6, 7, 8, 9, 10], [0, 1, 2, 3, 4, 5, 6, 7, 8, 9, 10, 11], [0, 1, 2, 3, 4, 5, 6, 7, 8, 9, 10, 11, 12]] (by kernel_rfl) ?_)
      simp [Dk.robs, hvb, hv0, hv0i, hbi, hbig, ← hLB]
      repeat refine ⟨by first | assumption | omega | (intros; omega), ?_⟩
      refine ⟨.sl 2 32 1 0 32, d.robs ++ [.live (bts HL)], fun sl => ?_, ?_⟩
      · refine vcall_k [] (hhd) ?_
        rintro r ob' ⟨rfl, rfl⟩
        simp [Dk.robs, hLB]
      simp [Dk.robs, hvb, hv0, hv0i, hbi, hbig, ← hLB]
      repeat refine ⟨by first | assumption | omega | (intros; omega), ?_⟩
      refine ⟨.bool (decide (s = HL)), d.robs ++ [.live (bts HL)], fun sl => ?_, ?_⟩
      · refine vcall_z [] (hss) (by rintro r ob' ⟨rfl, rfl⟩; simp) ?_ (ha := by simp [hst, hsl, hHl, List.take_of_length_le]) (hok := by simp [← hLB, hHl])
        rintro r ob' ⟨rfl, rfl⟩
        simp [Dk.robs, hLB]
      simp [Dk.robs, hvb, hv0, hv0i, hbi, hbig, ← hLB]
      repeat refine ⟨by first | assumption | omega | (intros; omega), ?_⟩
      refine hK5 _ ?_
      try clear hK5 K5
      refine vwp_cond (by first | rfl | (simp; rfl)) (fun h3 => ?_) fun h3 => ?_
      · simp -failIfUnchanged at h3; all_goals
       have q2 := h3
       have hne : ¬ s = HL := by simpa using q2
       have hg0 : genL d n h = 0 := by rw [hgen, if_pos (.inr (by rw [← hHL]; exact hne))]
       refine vwp_sq [] fun K10 hK10 => vwp_region hT ?_
       simp [Dk.robs]
       refine hK10 _ ?_
       try clear hK10 K10
       refine vwp_ret (hR _ _ ?_)
       rw [hg0]
       exact ret_k [4] [0, 1] (d.robs) (.int .i64 0) (⟨rfl, rfl⟩) (hh := by simp [Dk.robs, hLB])
      · simp -failIfUnchanged at h3; all_goals
       have q2 := h3
       have hne : s = HL := by simpa using q2
       have hg0 : genL d n h = v := by rw [hgen, if_neg (by rintro (q | q); exact hbig q; exact q (by rw [← hHL]; exact hne))]
       refine vwp_skip ?_
       refine hK4 _ ?_
       try clear hK4 K4
       refine vwp_sq [6] fun K11 hK11 => vwp_region hT ?_
       simp [Dk.robs]
       refine hK11 _ ?_
       try clear hK11 K11
       refine vwp_ret (hR _ _ ?_)
       rw [hg0]
       exact ret_k [4] [0, 1] (d.robs) (.int .i64 v) (⟨rfl, rfl⟩) (hh := by simp [Dk.robs, hLB])

theorem recs_sum {d : Dk} {n h gen : Nat} : ∀ (f at_ place : Nat), (recsK d n h gen f at_ place).length ≤ f := recsK_length
theorem scan_ref (d : Dk) (n : Nat) (hd : d.ok n) (hbt : byteL d.B) (h gen : Nat) (hh : h ≤ 1) (hg : gen < 4294967296) : VC P 51 [.sl 0 d.B.length 1 (h * (32 * (n / 2))) (32 * (n / 2)), .int .i64 (gen : Int)] [.live (bts d.B)] (fun r ob' => r = .tup [.sl 1 (recsL d n h gen).length 1 0 (recsL d n h gen).length, .int .i64 ((1 + sumK (recsL d n h gen) : Nat) : Int)] ∧ ob' = [.live (bts d.B), .live (((recsL d n h gen).map (·.2)).map sB)]) := by
  refine VC_of_vwp_k ent_51 Try.func51 rfl (by simp) fun R hR => ?_
  refine vwp_sq [0, 1] fun K1 hK1 => vwp_region hT ?_
  simp
  refine hK1 _ ?_
  try clear hK1 K1
  have hl := hd.len
  have hn2 := hd.n2
  have hn4 := hd.n4
  obtain ⟨LB, hLB⟩ : ∃ LB, LB = d.B.length := ⟨_, rfl⟩
  obtain ⟨p, hp⟩ : ∃ p, p = n / 2 := ⟨_, rfl⟩
  obtain ⟨m, hm1⟩ : ∃ m, m = 32 * p := ⟨_, rfl⟩
  obtain ⟨o, ho⟩ : ∃ o, o = h * m := ⟨_, rfl⟩
  rw [← hLB] at hl
  have hLBe := hLB.symm
  have hom : o + m ≤ LB := by
    have : h = 0 ∨ h = 1 := by omega
    rcases this with e | e <;> rw [ho, e] <;> omega
  have hop : o = h * p * 32 := by rw [ho, hm1, Nat.mul_left_comm, Nat.mul_comm 32]
  obtain ⟨rs, hrs⟩ : ∃ rs, rs = recsL d n h gen := ⟨_, rfl⟩
  have hsum : 1 + sumK rs ≤ p := by rw [hrs, hp]; exact recsK_le _ _ _ (by omega)
  have hrl : rs.length ≤ p := by rw [hrs, hp]; exact recsK_length _ _ _
  obtain ⟨RL, hRL⟩ : ∃ RL, RL = rs.map (·.2) := ⟨_, rfl⟩
  have hRLl : RL.length = rs.length := by rw [hRL, List.length_map]
  rw [← hp, ← hm1, ← ho, ← hLB]
  refine vwp_sq [0, 1] fun K2 hK2 => vwp_region hT ?_
  simp
  refine hK2 _ ?_
  try clear hK2 K2
  refine vwp_sq [0, 1, 6] fun K3 hK3 => vwp_region hT ?_
  simp
  refine hK3 _ ?_
  try clear hK3 K3
  refine vwp_cut_s (fun v : Nat × Nat => ⟨[(6, .sl 1 v.1 1 0 v.1), (7, .int .i64 ((32 * v.2 : Nat) : Int))], [.live (bts d.B), .live ((RL.take v.1).map sB)]⟩) (fun v => rs.drop v.1 = [] ∧ v.2 = 1 + sumK (rs.take v.1) ∧ v.2 ≤ p ∧ v.1 ≤ rs.length) (fun K4 hK4 => ?_) ?_
  · refine vwp_block ?_
    refine vwp_loop_s (fun u : Nat × Nat × Nat => ⟨[(0, .sl 0 LB 1 o m), (1, .int .i64 (gen : Int)), (6, .sl 1 u.1 1 0 u.1), (7, .int .i64 ((32 * u.2.1 : Nat) : Int))], [.live (bts d.B), .live ((RL.take u.1).map sB)]⟩) (fun u => u.1 < u.2.1 ∧ u.2.1 ≤ p ∧ u.1 ≤ rs.length ∧ u.2.1 = 1 + sumK (rs.take u.1) ∧ ∃ f, recsK d n h gen f u.2.1 u.1 = rs.drop u.1 ∧ p ≤ u.2.1 + f) (fun u => p + 1 - u.2.1) ((0, 1, 0)) (Gh.to_k [0, 1, 6, 7] [0, 1]) (⟨by simp, by dsimp only; omega, by simp, by simp [sumK], p, by rw [hrs, recsL, hp]; rfl, by dsimp only; omega⟩) ?_
    rintro ⟨i, at_, z⟩ ⟨hia, hat, hi, hsm, f, hf, hpf⟩
    dsimp only at hia hat hi hsm hf hpf ⊢
    intro K5 hK5
    refine vwp_seq_k fun K6 hK6 => ?_
    have w1 : IntKind.i64.wrap (32 * (at_ : Int) + 32) = 32 * (at_ : Int) + 32 := w64 (by omega) (by omega)
    have hmin : min i RL.length = i := by omega
    refine vwp_sq [0, 1, 6, 7] fun K7 hK7 => vwp_region hT ?_
    simp [w1]
    repeat refine ⟨by first | assumption | omega | (intros; omega), ?_⟩
    refine hK7 _ ?_
    try clear hK7 K7
    refine vwp_cond (by first | rfl | (simp; rfl)) (fun h1 => ?_) fun h1 => ?_
    · simp -failIfUnchanged at h1; all_goals
     have q := h1
     have hap : at_ < p := by omega
     obtain ⟨f1, rfl⟩ : ∃ f1, f = f1 + 1 := ⟨f - 1, by omega⟩
     rw [recsK, if_pos (by rw [← hp]; exact hap)] at hf
     refine vwp_skip ?_
     refine hK6 _ ?_
     try clear hK6 K6
     refine vwp_block ?_
     obtain ⟨ix, hix⟩ : ∃ ix, ix = h * p + at_ := ⟨_, rfl⟩
     have hixn : ix < n := by rw [hix, hp]; exact half_le hh (by omega)
     obtain ⟨s, hs⟩ : ∃ s, s = d.sector ix := ⟨_, rfl⟩
     have hsl : s.length = 32 := by rw [hs]; exact sector_len hd hixn
     have hsb : byteL s := by rw [hs]; exact sector_byte hbt _
     obtain ⟨a0, ha0⟩ : ∃ a0, a0 = 32 * at_ := ⟨_, rfl⟩
     have hoa : o + a0 = ix * 32 := by omega
     have hst : List.take 32 (List.drop (o + a0) (bts d.B)) = bts s := by rw [hs, Dk.sector, hoa, ← List.map_drop, ← List.map_take]
     obtain ⟨q2, hq2⟩ : ∃ q2, q2 = s.take 2 := ⟨_, rfl⟩
     have hq2l : q2.length = 2 := by rw [hq2, List.length_take]; omega
     have hq2b : byteL q2 := by rw [hq2]; exact take_byte hsb 2
     have hq2t : List.take 2 (List.drop (o + a0) (bts d.B)) = bts q2 := by
       have e : bts (List.take 2 s) = List.take 2 (bts s) := List.map_take
       rw [hq2, e, ← hst, List.take_take]
       rfl
     have htl := number_ref q2 (by omega) hq2b
     obtain ⟨long, hlong⟩ : ∃ long, long = tellN q2 := ⟨_, rfl⟩
     have hlongl : long < 4294967296 := by rw [hlong]; exact tell_lt4 hq2b (by omega)
     rw [← hlong] at htl
     obtain ⟨K, hK⟩ : ∃ K, K = 1 + (long - 17 + 31) / 32 := ⟨_, rfl⟩
     obtain ⟨K32, hK32⟩ : ∃ K32, K32 = 32 * K := ⟨_, rfl⟩
     obtain ⟨m0, hm0⟩ : ∃ m0, m0 = min long 17 := ⟨_, rfl⟩
     obtain ⟨b0, hb0⟩ : ∃ b0, b0 = (s.drop 14).take m0 := ⟨_, rfl⟩
     obtain ⟨tl0, htl0⟩ : ∃ tl0, tl0 = (d.B.drop ((ix + 1) * 32)).take (long - 17) := ⟨_, rfl⟩
     obtain ⟨R, hR⟩ : ∃ R, R = b0 ++ tl0 := ⟨_, rfl⟩
     obtain ⟨b1, hb1⟩ : ∃ b1, b1 = (d.B.drop (ix * 32)).take (32 * K) := ⟨_, rfl⟩
     have hb0l : b0.length = m0 := by rw [hb0, List.length_take, List.length_drop]; omega
     have hb0t : List.take m0 (List.drop (o + (a0 + 14)) (bts d.B)) = bts b0 := by
       have e : o + (a0 + 14) = ix * 32 + 14 := by omega
       rw [hb0, hs, Dk.sector, List.drop_take, List.take_take, List.drop_drop, e, ← List.map_drop, ← List.map_take]
       congr 2
       omega
     have htlt : List.take (long - 17) (List.drop (o + (a0 + 32)) (bts d.B)) = bts tl0 := by
       have e : o + (a0 + 32) = (ix + 1) * 32 := by omega
       rw [htl0, e, ← List.map_drop, ← List.map_take]
     have w2 : IntKind.i64.wrap ((a0 : Int) + 2) = ((a0 + 2 : Nat) : Int) := w64 (by omega) (by omega)
     have w3 : 32 * (at_ : Int) = (a0 : Int) := by omega
     have e2 : ((a0 : Int) + 2).toNat - a0 = 2 := by omega
     refine vwp_sq [0, 1, 6, 7] fun K8 hK8 => vwp_region hT ?_
     simp [w2, w3, e2]
     repeat refine ⟨by first | assumption | omega | (intros; omega), ?_⟩
     refine vcall_z [] (htl) (by rintro r ob' ⟨rfl, rfl⟩; simp) ?_ (ha := by simp [hq2t, hq2l]) (hok := by simp; omega)
     rintro r ob' ⟨rfl, rfl⟩
     simp [w2, w3, e2]
     repeat refine ⟨by first | assumption | omega | (intros; omega), ?_⟩
     refine hK8 _ ?_
     try clear hK8 K8
     refine vwp_seq_k fun K9 hK9 => ?_
     refine vwp_sq [0, 1, 6, 7, 8] fun K10 hK10 => vwp_region hT ?_
     simp
     refine hK10 _ ?_
     try clear hK10 K10
     refine vwp_cond (by first | rfl | (simp; rfl)) (fun h2 => ?_) fun h2 => ?_
     · simp -failIfUnchanged at h2; all_goals
      have q := h2
      have hone0 : recOne d n h gen at_ i = none := by
        unfold recOne
        rw [← hp, ← hix]
        simp only [← hs, ← hq2, ← hlong]
        rw [if_pos (by omega)]
      rw [hone0] at hf
      have hend : rs.drop i = [] := hf.symm
      refine vwp_exit ?_
      simp only [inBlk, thenQ, if_true]
      exact hK4 (i, at_) _ (Gh.to_k [6, 7] [0, 1] (he := by simp [ha0])) (⟨hend, hsm, hat, hi⟩)
     · simp -failIfUnchanged at h2; all_goals
      have q := h2
      have hl200 : long ≤ 200 := by omega
      have hone := recOne_ref (gen := gen) (place := i) (K := K) (R := R) hd hh (by rw [← hp]; exact hap) (s := s) (long := long) (by rw [hs, hix, hp]) (by rw [hlong, hq2]) hl200 hK (by rw [hR, hb0, hm0, htl0, hix, hp])
      rw [← hp, ← hix] at hone
      refine vwp_skip ?_
      refine hK9 _ ?_
      try clear hK9 K9
      refine vwp_sq [0, 1, 6, 7, 8] fun K11 hK11 => vwp_region hT ?_
      simp
      refine hK11 _ ?_
      try clear hK11 K11
      refine vwp_cut_s (fun _ : Unit => ⟨[(0, .sl 0 LB 1 o m), (1, .int .i64 (gen : Int)), (6, .sl 1 i 1 0 i), (7, .int .i64 (a0 : Int)), (8, .int .i64 (long : Int)), (9, .int .i64 (K32 : Int))], [.live (bts d.B), .live ((RL.take i).map sB)]⟩) (fun _ => True) (fun K12 hK12 => ?_) ?_
      · refine vwp_sq [0, 1, 6, 7, 8, 9] fun K13 hK13 => vwp_region hT ?_
        simp
        refine hK13 _ ?_
        try clear hK13 K13
        refine vwp_cond (by first | rfl | (simp; rfl)) (fun h3 => ?_) fun h3 => ?_
        · simp -failIfUnchanged at h3; all_goals
         obtain ⟨k1, hk1⟩ : ∃ k1, k1 = (long - 17 + 31) / 32 := ⟨_, rfl⟩
         obtain ⟨l17, hl17⟩ : ∃ l17, l17 = long - 17 := ⟨_, rfl⟩
         have q17 : 17 < long := by have := h3; omega
         have v1 : IntKind.i64.wrap ((long : Int) - 17) = (l17 : Int) := (w64 (by omega) (by omega)).trans (by omega)
         have v2 : IntKind.i64.wrap ((l17 : Int) + 31) = ((l17 + 31 : Nat) : Int) := w64 (by omega) (by omega)
         have v3 : ((l17 : Int) + 31).tdiv 32 = (k1 : Int) := by rw [hk1, ← hl17]; rfl
         have v4 : IntKind.i64.wrap (k1 : Int) = (k1 : Int) := w64 (by omega) (by omega)
         have v5 : IntKind.i64.wrap ((k1 : Int) * 32) = (k1 : Int) * 32 := w64 (by omega) (by omega)
         have v6 : IntKind.i64.wrap (32 + (k1 : Int) * 32) = (K32 : Int) := (w64 (by omega) (by omega)).trans (by omega)
         · refine vwp_live [0, 1, 6, 7, 8] (vwp_region hT ?_)
           simp [v1, v2, v3, v4, v5, v6]
           repeat refine ⟨by first | assumption | omega | (intros; omega), ?_⟩
           exact hK12 (()) _ (Gh.to_k [0, 1, 6, 7, 8, 9] [0, 1] (he := by first | (simp; done) | (simp; omega))) (trivial)
        · simp -failIfUnchanged at h3; all_goals
         refine vwp_skip ?_
         exact hK12 (()) _ (Gh.to_k [0, 1, 6, 7, 8, 9] [0, 1] (he := by first | (simp; done) | (simp; omega))) (trivial)
      · rintro _ _
        refine vwp_seq_k fun K14 hK14 => ?_
        refine vwp_seq_k fun K15 hK15 => ?_
        skip
        · have w4 : IntKind.i64.wrap ((a0 : Int) + (K32 : Int)) = (a0 : Int) + (K32 : Int) := w64 (by omega) (by omega)
          refine vwp_live [0, 1, 6, 7, 8, 9] (vwp_region hT ?_)
          simp [w4]
          repeat refine ⟨by first | assumption | omega | (intros; omega), ?_⟩
          refine hK15 _ ?_
          try clear hK15 K15
          refine vwp_cond (by first | rfl | (simp; rfl)) (fun h4 => ?_) fun h4 => ?_
          · simp -failIfUnchanged at h4; all_goals
           have q := h4
           rw [if_pos (by omega)] at hone
           rw [hone] at hf
           have hend : rs.drop i = [] := hf.symm
           refine vwp_exit ?_
           simp only [inBlk, thenQ, if_true]
           exact hK4 (i, at_) _ (Gh.to_k [6, 7] [0, 1] (he := by simp [ha0])) (⟨hend, hsm, hat, hi⟩)
          · simp -failIfUnchanged at h4; all_goals
           have q := h4
           have hfit : at_ + K ≤ p := by omega
           rw [if_neg (by omega)] at hone
           have hdl := hd.len
           have hkn := half_le (n := n) (h := h) (i := at_ + K - 1) hh (by omega)
           have htl0l : tl0.length = long - 17 := by rw [htl0, List.length_take, List.length_drop]; omega
           have hRl : R.length = long := by rw [hR, List.length_append, hb0l, htl0l]; omega
           have hsec : (secL R gen i).length = K := by rw [secL_length, nch, List.length_drop, hRl, hK]
           have hRb8 : byteL R := by
             rw [hR, hb0, htl0]
             refine byteL_append (fun x hx => hsb x (List.mem_of_mem_drop (List.mem_of_mem_take hx))) fun x hx => hbt x (List.mem_of_mem_drop (List.mem_of_mem_take hx))
           have hb1l : b1.length = K32 := by rw [hb1, List.length_take, List.length_drop]; omega
           have hb1t : List.take K32 (List.drop (o + a0) (bts d.B)) = bts b1 := by rw [hb1, hoa, hK32, ← List.map_drop, ← List.map_take]
           refine vwp_skip ?_
           refine hK14 _ ?_
           try clear hK14 K14
           refine vwp_seq_k fun K16 hK16 => ?_
           rcases Nat.eq_zero_or_pos m0 with hm00 | hm00
           · have hvs : ∀ x, vsub ((a0 : Int) + 14) ((a0 : Int) + 14 + (m0 : Int)) x = .fs 0 [] := fun x => vsub_ge (by omega)
             have hb00 : b0 = [] := List.length_eq_zero_iff.1 (by omega)
             have v1 : IntKind.i64.wrap ((a0 : Int) + 14) = ((a0 + 14 : Nat) : Int) := w64 (by omega) (by omega)
             have v2 : (if (17 : Int) < (long : Int) then (17 : Int) else (long : Int)) = (m0 : Int) := by split <;> omega
             have v3 : (if (long : Int) < (17 : Int) then (long : Int) else (17 : Int)) = (m0 : Int) := by split <;> omega
             have v4 : IntKind.i64.wrap ((a0 : Int) + 14 + (m0 : Int)) = ((a0 + 14 + m0 : Nat) : Int) := w64 (by omega) (by omega)
             have v5 : ((a0 : Int) + 14 + (m0 : Int)).toNat - (a0 + 14) = m0 := by omega
             have u14 : ((a0 : Int) + 14).toNat = a0 + 14 := by omega
             refine vwp_live [0, 1, 6, 7, 8, 9] (vwp_region hT ?_)
             simp [v1, v2, v3, v4, v5, u14, hb0t, hvs]
             repeat refine ⟨by first | assumption | omega | (intros; omega), ?_⟩
             refine hK16 _ ?_
             try clear hK16 K16
             refine vwp_cut_s (fun _ : Unit => ⟨[(0, .sl 0 LB 1 o m), (1, .int .i64 (gen : Int)), (6, .sl 1 i 1 0 i), (7, .int .i64 (a0 : Int)), (9, .int .i64 (K32 : Int)), (10, .sl 2 long 1 0 long)], [.live (bts d.B), .live ((RL.take i).map sB), .live (bts R)]⟩) (fun _ => True) (fun K17 hK17 => ?_) ?_
             · refine vwp_sq [0, 1, 6, 7, 8, 9, 10] fun K18 hK18 => vwp_region hT ?_
               simp
               refine hK18 _ ?_
               try clear hK18 K18
               refine vwp_cond (by first | rfl | (simp; rfl)) (fun h5 => ?_) fun h5 => ?_
               · simp -failIfUnchanged at h5; all_goals
                exfalso
                omega
               · simp -failIfUnchanged at h5; all_goals
                have q := h5
                have q17 : long - 17 = 0 := by omega
                have hm0l : m0 = long := by omega
                have hRb : R = b0 := by rw [hR, htl0, q17]; simp
                refine vwp_skip ?_
                exact hK17 () _ (Gh.to_k [0, 1, 6, 7, 9, 10] [0, 1, 2] (he := by simp; omega) (hh := by simp [hRb, hb00])) trivial
             · rintro _ _
               refine vwp_seq_k fun K19 hK19 => ?_
               refine vwp_seq_k fun K20 hK20 => ?_
               have hld := laid_ref R gen i (by omega) hRb8 hg (by omega)
               obtain ⟨F, hF⟩ : ∃ F, F = flatL R gen i := ⟨_, rfl⟩
               have hFl : F.length = K32 := by rw [hF, flatL_len, hsec, hK32]
               rw [hsec, ← hK32, ← hF] at hld
               rw [← hF, ← hb1] at hone
               have hss := same_spec b1 F (by omega) (by omega)
               have v1 : IntKind.i64.wrap ((a0 : Int) + (K32 : Int)) = ((a0 + K32 : Nat) : Int) := w64 (by omega) (by omega)
               have v2 : ((a0 : Int) + (K32 : Int)).toNat - a0 = K32 := by omega
               have v2b : a0 + K32 - a0 = K32 := by omega
               have hvs3 : ∀ x, vsub (a0 : Int) ((a0 : Int) + (K32 : Int)) x = x := fun x => vsub_add (by omega)
               by_cases hsame : b1 = F
               · rw [if_pos hsame] at hone
                 rw [hone] at hf
                 obtain ⟨hget, hf2⟩ := drop_cons hf.symm
                 have hirl := (List.getElem?_eq_some_iff.1 hget).1
                 have hgetR : RL[i]? = some R := by rw [hRL, List.getElem?_map, hget]; rfl
                 rw [decide_eq_true hsame] at hss
                 refine vwp_live [0, 1, 6, 7, 9, 10] (vwp_storm hT hm [.pure, .pure, .pure, .pure, .win 0 1, .win 0 1, .pure, .pure, .pure, .win 0 0, .mv, .mv, .pure] [[], [], [], [], [2, 3], [0, 1, 2, 3, 4], [], [], [], [8], [6, 7, 8, 9], [0, 1, 2, 3, 4, 5, 6, 7, 8, 9, 10], [0, 1, 2, 3, 4, 5, 6, 7, 8, 9, 10, 11]] (by kernel_rfl) ?_)
                 simp [v1, v2, v2b, hvs3, hmin, hFl]
                 repeat refine ⟨by first | assumption | omega | (intros; omega), ?_⟩
                 refine ⟨.sl 3 K32 1 0 K32, [.live (bts d.B), .live ((RL.take i).map sB), .live (bts R), .live (bts F)], fun sl => ?_, ?_⟩
                 · refine vcall_z [] (hld) (by rintro r ob' ⟨rfl, rfl⟩; simp) ?_ (ha := by simp [hRl, List.take_of_length_le]) (hok := by simp [hRl])
                   rintro r ob' ⟨rfl, rfl⟩
                   simp
                 simp [v1, v2, v2b, hvs3, hmin, hFl]
                 repeat refine ⟨by first | assumption | omega | (intros; omega), ?_⟩
                 refine ⟨.bool true, [.live (bts d.B), .live ((RL.take i).map sB), .live (bts R), .live (bts F)], fun sl => ?_, ?_⟩
                 · refine vcall_z [] (hss) (by rintro r ob' ⟨rfl, rfl⟩; simp) ?_ (ha := by simp [hb1t, hb1l, hFl, List.take_of_length_le]) (hok := by simp [hFl]; omega)
                   rintro r ob' ⟨rfl, rfl⟩
                   simp
                 simp [v1, v2, v2b, hvs3, hmin, hFl]
                 repeat refine ⟨by first | assumption | omega | (intros; omega), ?_⟩
                 refine hK20 _ ?_
                 try clear hK20 K20
                 refine vwp_cond (by first | rfl | (simp; rfl)) (fun h6 => ?_) fun h6 => ?_
                 · simp -failIfUnchanged at h6; all_goals
                  refine vwp_exit ?_
                  simp only [inBlk, thenQ, if_true]
                  simp at *
                 · simp -failIfUnchanged at h6; all_goals
                  refine vwp_skip ?_
                  refine hK19 _ ?_
                  try clear hK19 K19
                  refine vwp_gh (st' := ⟨[(0, .sl 0 LB 1 o m), (1, .int .i64 (gen : Int)), (6, .sl 1 i 1 0 i), (7, .int .i64 (a0 : Int)), (9, .int .i64 (K32 : Int)), (10, .sl 2 long 1 0 long)], [.live (bts d.B), .live ((RL.take i).map sB), .live (bts R)]⟩) (Gh.to_k [0, 1, 6, 7, 9, 10] [0, 1, 2]) ?_
                  have hsk := sumK_succ hget
                  have hst2 := sumK_take rs (i + 1)
                  refine vwp_sq [0, 1, 6, 7, 9, 10] fun K21 hK21 => vwp_region hT ?_
                  simp [hmin]
                  repeat refine ⟨by first | assumption | omega | (intros; omega), ?_⟩
                  refine hK21 _ ?_
                  try clear hK21 K21
                  refine vwp_gh ((Gh.freeze 2 (by rfl) (by intro c hc; simp at hc; obtain ⟨z, _, rfl⟩ := hc; rfl)).trans (Gh.cellFs 2 1 i (tot := long) (esz := 1) (off := 0) (n := long) (by rfl) (by simp [hmin]) (by rfl) (by simp [hRl]))) ?_
                  refine vwp_gh (st' := ⟨[(0, .sl 0 LB 1 o m), (1, .int .i64 (gen : Int)), (6, .sl 1 (i + 1) 1 0 (i + 1)), (7, .int .i64 (a0 : Int)), (9, .int .i64 (K32 : Int))], [.live (bts d.B), .live ((RL.take (i + 1)).map sB)]⟩) (Gh.to_k [0, 1, 6, 7, 9] [0, 1] (hh := by simp [List.take_add_one, hgetR, hmin, hRl, List.take_of_length_le])) ?_
                  have w5 : IntKind.i64.wrap ((a0 : Int) + (K32 : Int)) = (a0 : Int) + (K32 : Int) := w64 (by omega) (by omega)
                  refine vwp_live [0, 1, 6, 7, 9] (vwp_region hT ?_)
                  simp [w5]
                  exact hK5 (i + 1, at_ + K, 0) _ (Gh.to_k [0, 1, 6, 7] [0, 1] (he := by simp; omega)) (⟨by dsimp only; omega, by dsimp only; omega, by dsimp only; omega, by dsimp only; rw [hsk]; omega, f1, hf2.symm, by dsimp only; omega⟩) (by dsimp only; omega)
               · rw [if_neg hsame] at hone
                 rw [hone] at hf
                 have hend : rs.drop i = [] := hf.symm
                 rw [decide_eq_false hsame] at hss
                 refine vwp_live [0, 1, 6, 7, 9, 10] (vwp_storm hT hm [.pure, .pure, .pure, .pure, .win 0 1, .win 0 1, .pure, .pure, .pure, .win 0 0, .mv, .mv, .pure] [[], [], [], [], [2, 3], [0, 1, 2, 3, 4], [], [], [], [8], [6, 7, 8, 9], [0, 1, 2, 3, 4, 5, 6, 7, 8, 9, 10], [0, 1, 2, 3, 4, 5, 6, 7, 8, 9, 10, 11]] (by kernel_rfl) ?_)
                 simp [v1, v2, v2b, hvs3, hmin, hFl]
                 repeat refine ⟨by first | assumption | omega | (intros; omega), ?_⟩
                 refine ⟨.sl 3 K32 1 0 K32, [.live (bts d.B), .live ((RL.take i).map sB), .live (bts R), .live (bts F)], fun sl => ?_, ?_⟩
                 · refine vcall_z [] (hld) (by rintro r ob' ⟨rfl, rfl⟩; simp) ?_ (ha := by simp [hRl, List.take_of_length_le]) (hok := by simp [hRl])
                   rintro r ob' ⟨rfl, rfl⟩
                   simp
                 simp [v1, v2, v2b, hvs3, hmin, hFl]
                 repeat refine ⟨by first | assumption | omega | (intros; omega), ?_⟩
                 refine ⟨.bool false, [.live (bts d.B), .live ((RL.take i).map sB), .live (bts R), .live (bts F)], fun sl => ?_, ?_⟩
                 · refine vcall_z [] (hss) (by rintro r ob' ⟨rfl, rfl⟩; simp) ?_ (ha := by simp [hb1t, hb1l, hFl, List.take_of_length_le]) (hok := by simp [hFl]; omega)
                   rintro r ob' ⟨rfl, rfl⟩
                   simp
                 simp [v1, v2, v2b, hvs3, hmin, hFl]
                 repeat refine ⟨by first | assumption | omega | (intros; omega), ?_⟩
                 refine hK20 _ ?_
                 try clear hK20 K20
                 refine vwp_cond (by first | rfl | (simp; rfl)) (fun h7 => ?_) fun h7 => ?_
                 · simp -failIfUnchanged at h7; all_goals
                  refine vwp_exit ?_
                  simp only [inBlk, thenQ, if_true]
                  exact hK4 (i, at_) _ (Gh.to_k [6, 7] [0, 1] (he := by simp [ha0])) (⟨hend, hsm, hat, hi⟩)
                 · simp -failIfUnchanged at h7; all_goals
                  refine vwp_skip ?_
                  refine hK19 _ ?_
                  try clear hK19 K19
                  refine vwp_seq_k fun K22 hK22 => ?_
                  simp at *
           · have hvs : ∀ x, vsub ((a0 : Int) + 14) ((a0 : Int) + 14 + (m0 : Int)) x = x := fun x => vsub_add (by omega)
             have v1 : IntKind.i64.wrap ((a0 : Int) + 14) = ((a0 + 14 : Nat) : Int) := w64 (by omega) (by omega)
             have v2 : (if (17 : Int) < (long : Int) then (17 : Int) else (long : Int)) = (m0 : Int) := by split <;> omega
             have v3 : (if (long : Int) < (17 : Int) then (long : Int) else (17 : Int)) = (m0 : Int) := by split <;> omega
             have v4 : IntKind.i64.wrap ((a0 : Int) + 14 + (m0 : Int)) = ((a0 + 14 + m0 : Nat) : Int) := w64 (by omega) (by omega)
             have v5 : ((a0 : Int) + 14 + (m0 : Int)).toNat - (a0 + 14) = m0 := by omega
             have u14 : ((a0 : Int) + 14).toNat = a0 + 14 := by omega
             refine vwp_live [0, 1, 6, 7, 8, 9] (vwp_region hT ?_)
             simp [v1, v2, v3, v4, v5, u14, hb0t, hvs]
             repeat refine ⟨by first | assumption | omega | (intros; omega), ?_⟩
             refine hK16 _ ?_
             try clear hK16 K16
             refine vwp_cut_s (fun _ : Unit => ⟨[(0, .sl 0 LB 1 o m), (1, .int .i64 (gen : Int)), (6, .sl 1 i 1 0 i), (7, .int .i64 (a0 : Int)), (9, .int .i64 (K32 : Int)), (10, .sl 2 long 1 0 long)], [.live (bts d.B), .live ((RL.take i).map sB), .live (bts R)]⟩) (fun _ => True) (fun K23 hK23 => ?_) ?_
             · refine vwp_sq [0, 1, 6, 7, 8, 9, 10] fun K24 hK24 => vwp_region hT ?_
               simp
               refine hK24 _ ?_
               try clear hK24 K24
               refine vwp_cond (by first | rfl | (simp; rfl)) (fun h8 => ?_) fun h8 => ?_
               · simp -failIfUnchanged at h8; all_goals
                have q := h8
                have q17 : 17 < long := by omega
                have hm017 : m0 = 17 := by omega
                have v6 : IntKind.i64.wrap ((a0 : Int) + 32) = ((a0 + 32 : Nat) : Int) := w64 (by omega) (by omega)
                have v7 : IntKind.i64.wrap ((a0 : Int) + 32 + (long : Int)) = (a0 : Int) + 32 + (long : Int) := w64 (by omega) (by omega)
                have v8 : IntKind.i64.wrap ((a0 : Int) + 32 + (long : Int) - 17) = ((a0 + 32 + (long - 17) : Nat) : Int) := (w64 (by omega) (by omega)).trans (by omega)
                have v9 : ((a0 : Int) + 32 + ((long - 17 : Nat) : Int)).toNat - (a0 + 32) = long - 17 := by omega
                have u32 : ((a0 : Int) + 32).toNat = a0 + 32 := by omega
                have hvs2 : ∀ x, vsub ((a0 : Int) + 32) ((a0 : Int) + 32 + ((long - 17 : Nat) : Int)) x = x := fun x => vsub_add (by omega)
                refine vwp_live [0, 1, 6, 7, 8, 9, 10] (vwp_region hT ?_)
                simp [v6, v7, v8, v9, u32, hvs2, htlt]
                repeat refine ⟨by first | assumption | omega | (intros; omega), ?_⟩
                exact hK23 () _ (Gh.to_k [0, 1, 6, 7, 9, 10] [0, 1, 2] (he := by simp; omega) (hh := by simp [hR, htlt, List.take_of_length_le])) trivial
               · simp -failIfUnchanged at h8; all_goals
                have q := h8
                have q17 : long - 17 = 0 := by omega
                have hm0l : m0 = long := by omega
                have hRb : R = b0 := by rw [hR, htl0, q17]; simp
                refine vwp_skip ?_
                exact hK23 () _ (Gh.to_k [0, 1, 6, 7, 9, 10] [0, 1, 2] (he := by simp [hm0l]) (hh := by simp [hRb])) trivial
             · rintro _ _
               refine vwp_seq_k fun K25 hK25 => ?_
               refine vwp_seq_k fun K26 hK26 => ?_
               have hld := laid_ref R gen i (by omega) hRb8 hg (by omega)
               obtain ⟨F, hF⟩ : ∃ F, F = flatL R gen i := ⟨_, rfl⟩
               have hFl : F.length = K32 := by rw [hF, flatL_len, hsec, hK32]
               rw [hsec, ← hK32, ← hF] at hld
               rw [← hF, ← hb1] at hone
               have hss := same_spec b1 F (by omega) (by omega)
               have v1 : IntKind.i64.wrap ((a0 : Int) + (K32 : Int)) = ((a0 + K32 : Nat) : Int) := w64 (by omega) (by omega)
               have v2 : ((a0 : Int) + (K32 : Int)).toNat - a0 = K32 := by omega
               have v2b : a0 + K32 - a0 = K32 := by omega
               have hvs3 : ∀ x, vsub (a0 : Int) ((a0 : Int) + (K32 : Int)) x = x := fun x => vsub_add (by omega)
               by_cases hsame : b1 = F
               · rw [if_pos hsame] at hone
                 rw [hone] at hf
                 obtain ⟨hget, hf2⟩ := drop_cons hf.symm
                 have hirl := (List.getElem?_eq_some_iff.1 hget).1
                 have hgetR : RL[i]? = some R := by rw [hRL, List.getElem?_map, hget]; rfl
                 rw [decide_eq_true hsame] at hss
                 refine vwp_live [0, 1, 6, 7, 9, 10] (vwp_storm hT hm [.pure, .pure, .pure, .pure, .win 0 1, .win 0 1, .pure, .pure, .pure, .win 0 0, .mv, .mv, .pure] [[], [], [], [], [2, 3], [0, 1, 2, 3, 4], [], [], [], [8], [6, 7, 8, 9], [0, 1, 2, 3, 4, 5, 6, 7, 8, 9, 10], [0, 1, 2, 3, 4, 5, 6, 7, 8, 9, 10, 11]] (by kernel_rfl) ?_)
                 simp [v1, v2, v2b, hvs3, hmin, hFl]
                 repeat refine ⟨by first | assumption | omega | (intros; omega), ?_⟩
                 refine ⟨.sl 3 K32 1 0 K32, [.live (bts d.B), .live ((RL.take i).map sB), .live (bts R), .live (bts F)], fun sl => ?_, ?_⟩
                 · refine vcall_z [] (hld) (by rintro r ob' ⟨rfl, rfl⟩; simp) ?_ (ha := by simp [hRl, List.take_of_length_le]) (hok := by simp [hRl])
                   rintro r ob' ⟨rfl, rfl⟩
                   simp
                 simp [v1, v2, v2b, hvs3, hmin, hFl]
                 repeat refine ⟨by first | assumption | omega | (intros; omega), ?_⟩
                 refine ⟨.bool true, [.live (bts d.B), .live ((RL.take i).map sB), .live (bts R), .live (bts F)], fun sl => ?_, ?_⟩
                 · refine vcall_z [] (hss) (by rintro r ob' ⟨rfl, rfl⟩; simp) ?_ (ha := by simp [hb1t, hb1l, hFl, List.take_of_length_le]) (hok := by simp [hFl]; omega)
                   rintro r ob' ⟨rfl, rfl⟩
                   simp
                 simp [v1, v2, v2b, hvs3, hmin, hFl]
                 repeat refine ⟨by first | assumption | omega | (intros; omega), ?_⟩
                 refine hK26 _ ?_
                 try clear hK26 K26
                 refine vwp_cond (by first | rfl | (simp; rfl)) (fun h9 => ?_) fun h9 => ?_
                 · simp -failIfUnchanged at h9; all_goals
                  refine vwp_exit ?_
                  simp only [inBlk, thenQ, if_true]
                  simp at *
                 · simp -failIfUnchanged at h9; all_goals
                  refine vwp_skip ?_
                  refine hK25 _ ?_
                  try clear hK25 K25
                  refine vwp_gh (st' := ⟨[(0, .sl 0 LB 1 o m), (1, .int .i64 (gen : Int)), (6, .sl 1 i 1 0 i), (7, .int .i64 (a0 : Int)), (9, .int .i64 (K32 : Int)), (10, .sl 2 long 1 0 long)], [.live (bts d.B), .live ((RL.take i).map sB), .live (bts R)]⟩) (Gh.to_k [0, 1, 6, 7, 9, 10] [0, 1, 2]) ?_
                  have hsk := sumK_succ hget
                  have hst2 := sumK_take rs (i + 1)
                  refine vwp_sq [0, 1, 6, 7, 9, 10] fun K27 hK27 => vwp_region hT ?_
                  simp [hmin]
                  repeat refine ⟨by first | assumption | omega | (intros; omega), ?_⟩
                  refine hK27 _ ?_
                  try clear hK27 K27
                  refine vwp_gh ((Gh.freeze 2 (by rfl) (by intro c hc; simp at hc; obtain ⟨z, _, rfl⟩ := hc; rfl)).trans (Gh.cellFs 2 1 i (tot := long) (esz := 1) (off := 0) (n := long) (by rfl) (by simp [hmin]) (by rfl) (by simp [hRl]))) ?_
                  refine vwp_gh (st' := ⟨[(0, .sl 0 LB 1 o m), (1, .int .i64 (gen : Int)), (6, .sl 1 (i + 1) 1 0 (i + 1)), (7, .int .i64 (a0 : Int)), (9, .int .i64 (K32 : Int))], [.live (bts d.B), .live ((RL.take (i + 1)).map sB)]⟩) (Gh.to_k [0, 1, 6, 7, 9] [0, 1] (hh := by simp [List.take_add_one, hgetR, hmin, hRl, List.take_of_length_le])) ?_
                  have w5 : IntKind.i64.wrap ((a0 : Int) + (K32 : Int)) = (a0 : Int) + (K32 : Int) := w64 (by omega) (by omega)
                  refine vwp_live [0, 1, 6, 7, 9] (vwp_region hT ?_)
                  simp [w5]
                  exact hK5 (i + 1, at_ + K, 0) _ (Gh.to_k [0, 1, 6, 7] [0, 1] (he := by simp; omega)) (⟨by dsimp only; omega, by dsimp only; omega, by dsimp only; omega, by dsimp only; rw [hsk]; omega, f1, hf2.symm, by dsimp only; omega⟩) (by dsimp only; omega)
               · rw [if_neg hsame] at hone
                 rw [hone] at hf
                 have hend : rs.drop i = [] := hf.symm
                 rw [decide_eq_false hsame] at hss
                 refine vwp_live [0, 1, 6, 7, 9, 10] (vwp_storm hT hm [.pure, .pure, .pure, .pure, .win 0 1, .win 0 1, .pure, .pure, .pure, .win 0 0, .mv, .mv, .pure] [[], [], [], [], [2, 3], [0, 1, 2, 3, 4], [], [], [], [8], [6, 7, 8, 9], [0, 1, 2, 3, 4, 5, 6, 7, 8, 9, 10], [0, 1, 2, 3, 4, 5, 6, 7, 8, 9, 10, 11]] (by kernel_rfl) ?_)
                 simp [v1, v2, v2b, hvs3, hmin, hFl]
                 repeat refine ⟨by first | assumption | omega | (intros; omega), ?_⟩
                 refine ⟨.sl 3 K32 1 0 K32, [.live (bts d.B), .live ((RL.take i).map sB), .live (bts R), .live (bts F)], fun sl => ?_, ?_⟩
                 · refine vcall_z [] (hld) (by rintro r ob' ⟨rfl, rfl⟩; simp) ?_ (ha := by simp [hRl, List.take_of_length_le]) (hok := by simp [hRl])
                   rintro r ob' ⟨rfl, rfl⟩
                   simp
                 simp [v1, v2, v2b, hvs3, hmin, hFl]
                 repeat refine ⟨by first | assumption | omega | (intros; omega), ?_⟩
                 refine ⟨.bool false, [.live (bts d.B), .live ((RL.take i).map sB), .live (bts R), .live (bts F)], fun sl => ?_, ?_⟩
                 · refine vcall_z [] (hss) (by rintro r ob' ⟨rfl, rfl⟩; simp) ?_ (ha := by simp [hb1t, hb1l, hFl, List.take_of_length_le]) (hok := by simp [hFl]; omega)
                   rintro r ob' ⟨rfl, rfl⟩
                   simp
                 simp [v1, v2, v2b, hvs3, hmin, hFl]
                 repeat refine ⟨by first | assumption | omega | (intros; omega), ?_⟩
                 refine hK26 _ ?_
                 try clear hK26 K26
                 refine vwp_cond (by first | rfl | (simp; rfl)) (fun h10 => ?_) fun h10 => ?_
                 · simp -failIfUnchanged at h10; all_goals
                  refine vwp_exit ?_
                  simp only [inBlk, thenQ, if_true]
                  exact hK4 (i, at_) _ (Gh.to_k [6, 7] [0, 1] (he := by simp [ha0])) (⟨hend, hsm, hat, hi⟩)
                 · simp -failIfUnchanged at h10; all_goals
                  refine vwp_skip ?_
                  refine hK25 _ ?_
                  try clear hK25 K25
                  refine vwp_seq_k fun K28 hK28 => ?_
                  simp at *
    · simp -failIfUnchanged at h1; all_goals
     have q := h1
     have hend : rs.drop i = [] := by
       rw [← hf]
       cases f with
       | zero => rfl
       | succ f => rw [recsK, if_neg (by rw [← hp]; omega)]
     refine vwp_exit ?_
     simp only [inBlk, thenQ, if_true]
     exact hK4 (i, at_) _ (Gh.to_k [6, 7] [0, 1]) (⟨hend, hsm, hat, hi⟩)
  · rintro ⟨i, at_⟩ ⟨hend, hsm, hat, hi⟩
    dsimp only at hend hsm hat hi ⊢
    have e : i = rs.length := by have := List.drop_eq_nil_iff.1 hend; omega
    subst e
    rw [List.take_length] at hsm
    obtain ⟨L32, hL32⟩ : ∃ L32, L32 = 32 * at_ := ⟨_, rfl⟩
    have hat32 : at_ = L32 / 32 := by omega
    have t1 : (L32 : Int).tdiv 32 = (at_ : Int) := by rw [hat32]; rfl
    have t2 : IntKind.i64.wrap (at_ : Int) = (at_ : Int) := w64 (by omega) (by omega)
    have t3 : 32 * (at_ : Int) = (L32 : Int) := by omega
    refine vwp_sq [6, 7] fun K29 hK29 => vwp_region hT ?_
    simp [t3, t1, t2]
    repeat refine ⟨by first | assumption | omega | (intros; omega), ?_⟩
    refine hK29 _ ?_
    try clear hK29 K29
    refine vwp_ret (hR _ _ ?_)
    have hRLt : List.take rs.length (RL.map sB) = RL.map sB := List.take_of_length_le (by simp; omega)
    rw [← hrs, ← hRL, ← hsm]
    exact ret_k [4, 5] [0, 1] ([.live (bts d.B), .live (RL.map sB)]) (.tup [.sl 1 rs.length 1 0 rs.length, .int .i64 (at_ : Int)]) (⟨rfl, rfl⟩) (hh := by simp [hRLt])
end Go.Proofs.Ytifhbgppjblobaa
