/- What the document fixes is so. -/
import Derived.Test.YtifhbgppjblobaaLogW
namespace Go.Proofs.Ytifhbgppjblobaa
open Go Go.VX Go.RowKit
set_option linter.unusedVariables false
set_option linter.unusedSimpArgs false
set_option maxHeartbeats 20000000
set_option maxRecDepth 100000

theorem byteL_of {l : List Int} (h : (l.all fun x => decide (0 ≤ x ∧ x < 256)) = true) : byteL l := fun x hx => by
  rw [List.all_eq_true] at h
  simpa using h x hx
abbrev G1 : Lg := ⟨0, 1, [], 1, false⟩
abbrev G2 : Lg := ⟨0, 1, [[97, 98]], 2, false⟩
abbrev G5 : Lg := ⟨1, 2, [[120], []], 3, false⟩
theorem new_8 : VC P 8 [.int .i64 8] [] (fun r ob' => r = .tup [.ptr 0 5 0, .int .i64 0] ∧ ob' = (Dk.new 8).obs 8) := (new_spec 8).mono fun r ob' q => by
  rw [if_pos (by decide)] at q
  exact q
theorem awake_spec  : VC P 6 [] [] (fun r ob' => r = .bool true ∧ ob' = []) := by
  refine VC_of_vwp_k ent_6 Try.func6 rfl (by simp) fun R hR => ?_
  refine vwp_sq [] fun K1 hK1 => vwp_region hT ?_
  simp [Dk.obs]
  refine hK1 _ ?_
  try clear hK1 K1
  obtain ⟨a1, a2, a3, b1, b2, b3, c1, c3, e1, e2, e3, f1, f2, f3, h1, h2, h3, hs1, hs2, hs3⟩ := q_all
  obtain ⟨d0, hd0⟩ : ∃ d0, d0 = Dk.new 8 := ⟨_, rfl⟩
  have hn8 := new_8
  rw [← hd0] at hn8
  have hd0k : d0.ok 8 ∧ byteL d0.B := okB_ok (by rw [hd0]; decide +kernel) (by decide) (by decide)
  obtain ⟨d1, hd1⟩ : ∃ d1, d1 = q1.2.2 := ⟨_, rfl⟩
  have hq1 : openL d0 8 = (some G1, 0, d1) := by rw [hd0, hd1, ← a2]; show q1 = (some G1, q1.2.1, q1.2.2); rw [show some G1 = q1.1 from a1.symm]
  have hk1 := okB_ok a3 (by decide) (by decide)
  rw [← hd1] at hk1
  have ho1 := open_some hd0k.1 hd0k.2 hq1
  obtain ⟨d2, hd2⟩ : ∃ d2, d2 = q2.2.2 := ⟨_, rfl⟩
  have hq2 : appendL G1 d1 8 [97, 98] = (0, G2, d2) := by rw [hd1, hd2, ← b1]; show q2 = (q2.1, G2, q2.2.2); rw [show G2 = q2.2.1 from b2.symm]
  have hk2 := okB_ok b3 (by decide) (by decide)
  rw [← hd2] at hk2
  have hp2 := append_is hk1.1 (by decide) (by decide) (by decide) (by decide) (byteL_of (by decide)) (by decide) hq2
  obtain ⟨g4, hg4⟩ : ∃ g4, g4 = q3.2.1 := ⟨_, rfl⟩
  obtain ⟨d4, hd4⟩ : ∃ d4, d4 = q3.2.2 := ⟨_, rfl⟩
  obtain ⟨d3, hd3⟩ : ∃ d3, d3 = d2.fused 0 31 := ⟨_, rfl⟩
  have hq3 : appendL G2 d3 8 [99, 100] = (7, g4, d4) := by rw [hd3, hd2, hg4, hd4, ← c1]; show appendL G2 (q2.2.2.fused 0 31) 8 [99, 100] = q3; rw [show G2 = q2.2.1 from b2.symm]; rfl
  have hk3 : d3.ok 8 ∧ byteL d3.B := by
    rw [hd3]
    exact ⟨⟨hk2.1.len, by simp only [Dk.fused]; omega, by simp only [Dk.fused]; omega, by simp only [Dk.fused]; omega, by decide, by decide, by simp only [Dk.fused]; omega⟩, hk2.2⟩
  have hk4 := okB_ok c3 (by decide) (by decide)
  rw [← hd4] at hk4
  have hp3 := append_is hk3.1 (by decide) (by decide) (by decide) (by decide) (byteL_of (by decide)) (by decide) hq3
  have hfu := fuse_spec d2 8 0 31
  rw [← hd3] at hfu
  obtain ⟨d5, hd5⟩ : ∃ d5, d5 = d4.crashed := ⟨_, rfl⟩
  have hcr := crash_spec d4 8
  rw [← hd5] at hcr
  have hk5 : d5.ok 8 ∧ byteL d5.B := by
    rw [hd5]
    exact ⟨⟨hk4.1.len, hk4.1.t0, hk4.1.t1, by simp [Dk.crashed], by decide, by decide, by simp [Dk.crashed]⟩, hk4.2⟩
  obtain ⟨d6, hd6⟩ : ∃ d6, d6 = q4.2.2 := ⟨_, rfl⟩
  have hq4 : openL d5 8 = (some G2, 0, d6) := by rw [hd5, hd4, hd6, ← e2]; show q4 = (some G2, q4.2.1, q4.2.2); rw [show some G2 = q4.1 from e1.symm]
  have hk6 := okB_ok e3 (by decide) (by decide)
  rw [← hd6] at hk6
  have ho4 := open_some hk5.1 hk5.2 hq4
  obtain ⟨d7, hd7⟩ : ∃ d7, d7 = q5.2.2 := ⟨_, rfl⟩
  have hq5 : onlyL G2 d6 8 [[120], []] = (0, G5, d7) := by rw [hd6, hd7, ← f1]; show q5 = (q5.1, G5, q5.2.2); rw [show G5 = q5.2.1 from f2.symm]
  have hk7 := okB_ok f3 (by decide) (by decide)
  rw [← hd7] at hk7
  have hp5 := only_ok hk6.1 (by decide) (by decide) (by decide) (by intro b hb; simp at hb; rcases hb with rfl | rfl <;> exact byteL_of (by decide)) (by intro b hb; simp at hb; rcases hb with rfl | rfl <;> decide) hq5
  obtain ⟨d8, hd8⟩ : ∃ d8, d8 = q6.2.2 := ⟨_, rfl⟩
  have hq6 : appendL G5 d7 8 (List.replicate 18 0) = (4, G5, d8) := by rw [hd7, hd8, ← h1]; show q6 = (q6.1, G5, q6.2.2); rw [show G5 = q6.2.1 from h2.symm]
  have hk8 := okB_ok h3 (by decide) (by decide)
  rw [← hd8] at hk8 hs1
  have hp6 := append_is hk7.1 (by decide) (by decide) (by decide) (by decide) (byteL_of (by decide)) (by decide) hq6
  have hrd := read_in hk8.1 (a := 4) (by decide)
  obtain ⟨s4, hs4⟩ : ∃ s4, s4 = sec4 := ⟨_, rfl⟩
  rw [hs1, ← hs4] at hrd
  have hs4l : s4.length = 32 := by rw [hs4]; exact headL_len 2
  rw [← hs4] at hs2 hs3
  clear a1 a2 a3 b1 b2 b3 c1 c3 e1 e2 e3 f1 f2 f3 h1 h2 h3 hs1 hd0 hd1 hd2 hd3 hd4 hd5 hd6 hd7 hd8 hg4 hs4
  refine vwp_sq [] fun K2 hK2 => vwp_region hT ?_
  simp [Dk.obs]
  refine vcall_k [] (hn8) ?_
  rintro r ob' ⟨rfl, rfl⟩
  simp [Dk.obs]
  refine hK2 _ ?_
  try clear hK2 K2
  refine vwp_gh (st' := ⟨[(1, .ptr 0 5 0)], [.live [.sl 1 d0.B.length 32 0 8, .bool d0.down, .int .i64 d0.fuse, .int .i64 d0.torn, .int .i64 d0.writes], .live (bts d0.B)]⟩) (Gh.to_k [1] [0, 1] (hh := by simp [Dk.obs])) ?_
  refine vwp_sq [1] fun K3 hK3 => vwp_region hT ?_
  simp [Dk.obs]
  refine vcall_k [0, 1] (ho1) ?_ (hh := by simp [Dk.obs])
  rintro r ob' ⟨rfl, rfl⟩
  simp [Dk.obs]
  refine hK3 _ ?_
  try clear hK3 K3
  refine vwp_gh (st' := ⟨[(1, .ptr 0 5 0), (3, .ptr 2 6 0), (4, .int .i64 0)], [.live [.sl 1 d1.B.length 32 0 8, .bool d1.down, .int .i64 d1.fuse, .int .i64 d1.torn, .int .i64 d1.writes], .live (bts d1.B), logO 3 G1, .live ((G1 : Lg).rows.map sB)]⟩) (Gh.to_k [1, 3, 4] [0, 1, 2, 3] (hh := by simp [Dk.obs])) ?_
  refine vwp_sq [1, 3, 4] fun K4 hK4 => vwp_region hT ?_
  simp [Dk.obs]
  refine vcall_k [] (open_nilp) ?_
  rintro r ob' ⟨rfl, rfl⟩
  simp [Dk.obs]
  refine hK4 _ ?_
  try clear hK4 K4
  refine vwp_seq_k fun K5 hK5 => ?_
  refine vwp_gh (st' := ⟨[(1, .ptr 0 5 0), (3, .ptr 2 6 0), (4, .int .i64 0), (6, .int .i64 1)], [.live [.sl 1 d1.B.length 32 0 8, .bool d1.down, .int .i64 d1.fuse, .int .i64 d1.torn, .int .i64 d1.writes], .live (bts d1.B), logO 3 G1, .live ((G1 : Lg).rows.map sB)]⟩) (Gh.to_k [1, 3, 4, 6] [0, 1, 2, 3] (hh := by simp [Dk.obs])) ?_
  refine vwp_sq [1, 3, 4, 6] fun K6 hK6 => vwp_region hT ?_
  simp [Dk.obs]
  refine hK6 _ ?_
  try clear hK6 K6
  refine vwp_cond (by first | rfl | (simp; rfl)) (fun h1 => ?_) fun h1 => ?_
  · simp -failIfUnchanged at h1; all_goals
   refine vwp_seq_k fun K7 hK7 => ?_
   simp at *
  · simp -failIfUnchanged at h1; all_goals
   refine vwp_skip ?_
   refine hK5 _ ?_
   try clear hK5 K5
   refine vwp_gh (st' := ⟨[(1, .ptr 0 5 0), (3, .ptr 2 6 0), (4, .int .i64 0), (6, .int .i64 1)], [.live [.sl 1 d1.B.length 32 0 8, .bool d1.down, .int .i64 d1.fuse, .int .i64 d1.torn, .int .i64 d1.writes], .live (bts d1.B), logO 3 G1, .live ((G1 : Lg).rows.map sB)]⟩) (Gh.to_k [1, 3, 4, 6] [0, 1, 2, 3] (hh := by simp [Dk.obs])) ?_
   refine vwp_sq [1, 3, 4, 6] fun K8 hK8 => vwp_region hT ?_
   simp [Dk.obs]
   repeat refine ⟨by first | assumption | omega | (intros; omega), ?_⟩
   refine vcall_k [2, 0, 1, 3] (hp2) ?_ (hh := by simp [Dk.obs]) (ha := by simp)
   rintro r ob' ⟨rfl, rfl⟩
   simp [Dk.obs]
   repeat refine ⟨by first | assumption | omega | (intros; omega), ?_⟩
   refine hK8 _ ?_
   try clear hK8 K8
   refine vwp_gh (st' := ⟨[(1, .ptr 0 5 0), (3, .ptr 2 6 0), (4, .int .i64 0), (6, .int .i64 1), (7, .int .i64 0)], [.live [.sl 1 d2.B.length 32 0 8, .bool d2.down, .int .i64 d2.fuse, .int .i64 d2.torn, .int .i64 d2.writes], .live (bts d2.B), logO 3 G2, .live ((G2 : Lg).rows.map sB)]⟩) (Gh.to_k [1, 3, 4, 6, 7] [0, 1, 2, 3] (hh := by simp [Dk.obs])) ?_
   refine vwp_sq [1, 3, 4, 6, 7] fun K9 hK9 => vwp_region hT ?_
   simp [Dk.obs]
   refine vcall_k [0, 1] (hfu) ?_ (hh := by simp [Dk.obs])
   rintro r ob' ⟨rfl, rfl⟩
   simp [Dk.obs]
   refine hK9 _ ?_
   try clear hK9 K9
   refine vwp_gh (st' := ⟨[(1, .ptr 0 5 0), (3, .ptr 2 6 0), (4, .int .i64 0), (6, .int .i64 1), (7, .int .i64 0)], [.live [.sl 1 d3.B.length 32 0 8, .bool d3.down, .int .i64 d3.fuse, .int .i64 d3.torn, .int .i64 d3.writes], .live (bts d3.B), logO 3 G2, .live ((G2 : Lg).rows.map sB)]⟩) (Gh.to_k [1, 3, 4, 6, 7] [0, 1, 2, 3] (hh := by simp [Dk.obs])) ?_
   refine vwp_sq [1, 3, 4, 6, 7] fun K10 hK10 => vwp_region hT ?_
   simp [Dk.obs]
   repeat refine ⟨by first | assumption | omega | (intros; omega), ?_⟩
   refine vcall_k [2, 0, 1, 3] (hp3) ?_ (hh := by simp [Dk.obs]) (ha := by simp)
   rintro r ob' ⟨rfl, rfl⟩
   simp [Dk.obs]
   repeat refine ⟨by first | assumption | omega | (intros; omega), ?_⟩
   refine hK10 _ ?_
   try clear hK10 K10
   refine vwp_gh (st' := ⟨[(1, .ptr 0 5 0), (4, .int .i64 0), (6, .int .i64 1), (7, .int .i64 0), (8, .int .i64 7)], [.live [.sl 1 d4.B.length 32 0 8, .bool d4.down, .int .i64 d4.fuse, .int .i64 d4.torn, .int .i64 d4.writes], .live (bts d4.B)]⟩) (Gh.to_k [1, 4, 6, 7, 8] [0, 1] (hh := by simp [Dk.obs])) ?_
   refine vwp_sq [1, 4, 6, 7, 8] fun K11 hK11 => vwp_region hT ?_
   simp [Dk.obs]
   refine vcall_k [0, 1] (hcr) ?_ (hh := by simp [Dk.obs])
   rintro r ob' ⟨rfl, rfl⟩
   simp [Dk.obs]
   refine hK11 _ ?_
   try clear hK11 K11
   refine vwp_gh (st' := ⟨[(1, .ptr 0 5 0), (4, .int .i64 0), (6, .int .i64 1), (7, .int .i64 0), (8, .int .i64 7)], [.live [.sl 1 d5.B.length 32 0 8, .bool d5.down, .int .i64 d5.fuse, .int .i64 d5.torn, .int .i64 d5.writes], .live (bts d5.B)]⟩) (Gh.to_k [1, 4, 6, 7, 8] [0, 1] (hh := by simp [Dk.obs])) ?_
   refine vwp_sq [1, 4, 6, 7, 8] fun K12 hK12 => vwp_region hT ?_
   simp [Dk.obs]
   refine vcall_k [0, 1] (ho4) ?_ (hh := by simp [Dk.obs])
   rintro r ob' ⟨rfl, rfl⟩
   simp [Dk.obs]
   refine hK12 _ ?_
   try clear hK12 K12
   refine vwp_seq_k fun K13 hK13 => ?_
   refine vwp_gh (st' := ⟨[(1, .ptr 0 5 0), (4, .int .i64 0), (6, .int .i64 1), (7, .int .i64 0), (8, .int .i64 7), (9, .ptr 2 6 0), (10, .int .i64 0)], [.live [.sl 1 d6.B.length 32 0 8, .bool d6.down, .int .i64 d6.fuse, .int .i64 d6.torn, .int .i64 d6.writes], .live (bts d6.B), logO 3 G2, .live ((G2 : Lg).rows.map sB)]⟩) (Gh.to_k [1, 4, 6, 7, 8, 9, 10] [0, 1, 2, 3] (hh := by simp [Dk.obs])) ?_
   refine vwp_sq [1, 4, 6, 7, 8, 9, 10] fun K14 hK14 => vwp_region hT ?_
   simp [Dk.obs]
   refine hK14 _ ?_
   try clear hK14 K14
   refine vwp_cond (by first | rfl | (simp; rfl)) (fun h2 => ?_) fun h2 => ?_
   · simp -failIfUnchanged at h2; all_goals
    refine vwp_seq_k fun K15 hK15 => ?_
    simp at *
   · simp -failIfUnchanged at h2; all_goals
    refine vwp_skip ?_
    refine hK13 _ ?_
    try clear hK13 K13
    refine vwp_gh (st' := ⟨[(1, .ptr 0 5 0), (4, .int .i64 0), (6, .int .i64 1), (7, .int .i64 0), (8, .int .i64 7), (9, .ptr 2 6 0), (10, .int .i64 0)], [.live [.sl 1 d6.B.length 32 0 8, .bool d6.down, .int .i64 d6.fuse, .int .i64 d6.torn, .int .i64 d6.writes], .live (bts d6.B), logO 3 G2, .live ((G2 : Lg).rows.map sB)]⟩) (Gh.to_k [1, 4, 6, 7, 8, 9, 10] [0, 1, 2, 3] (hh := by simp [Dk.obs])) ?_
    refine vwp_sq [1, 4, 6, 7, 8, 9, 10] fun K16 hK16 => vwp_region hT ?_
    simp [Dk.obs]
    refine vcall_k [2, 0, 1, 3] (records_spec G2 d6 8 (by decide) (by decide)) ?_ (hh := by simp [Dk.obs])
    rintro r ob' ⟨rfl, rfl⟩
    simp [Dk.obs]
    refine hK16 _ ?_
    try clear hK16 K16
    refine vwp_gh (st' := ⟨[(1, .ptr 0 5 0), (4, .int .i64 0), (6, .int .i64 1), (7, .int .i64 0), (8, .int .i64 7), (9, .ptr 2 6 0), (10, .int .i64 0), (11, .sl 4 1 1 0 1)], [.live [.sl 1 d6.B.length 32 0 8, .bool d6.down, .int .i64 d6.fuse, .int .i64 d6.torn, .int .i64 d6.writes], .live (bts d6.B), logO 3 G2, .live ((G2 : Lg).rows.map sB), .live [sB [97, 98]]]⟩) (Gh.to_k [1, 4, 6, 7, 8, 9, 10, 11] [0, 1, 2, 3, 4] (hh := by simp [Dk.obs])) ?_
    refine vwp_sq [1, 4, 6, 7, 8, 9, 10, 11] fun K17 hK17 => vwp_region hT ?_
    simp [Dk.obs]
    repeat refine ⟨by first | assumption | omega | (intros; omega), ?_⟩
    refine vcall_cellFs 5 6 0 (by rfl) (by rfl) (by rfl) (by rfl) ?_
    refine vcall_nilFs 6 1 (by rfl) (by rfl) ?_
    refine vcall_freeze 6 (by rfl) (by decide) ?_
    refine vcall_k [2, 0, 1, 3] (hp5) ?_ (hh := by simp [Dk.obs]) (ha := by simp)
    rintro r ob' ⟨rfl, old, rfl⟩
    simp [Dk.obs]
    repeat refine ⟨by first | assumption | omega | (intros; omega), ?_⟩
    refine hK17 _ ?_
    try clear hK17 K17
    refine vwp_gh (st' := ⟨[(1, .ptr 0 5 0), (4, .int .i64 0), (6, .int .i64 1), (7, .int .i64 0), (8, .int .i64 7), (9, .ptr 2 6 0), (10, .int .i64 0), (11, .sl 4 1 1 0 1), (12, .int .i64 0)], [.live [.sl 1 d7.B.length 32 0 8, .bool d7.down, .int .i64 d7.fuse, .int .i64 d7.torn, .int .i64 d7.writes], .live (bts d7.B), logO 3 G5, .live (G5.rows.map sB), .live [sB [97, 98]]]⟩) (Gh.to_k [1, 4, 6, 7, 8, 9, 10, 11, 12] [0, 1, 2, 7, 4] (hh := by simp [Dk.obs])) ?_
    refine vwp_sq [1, 4, 6, 7, 8, 9, 10, 11, 12] fun K18 hK18 => vwp_region hT ?_
    simp [Dk.obs]
    repeat refine ⟨by first | assumption | omega | (intros; omega), ?_⟩
    refine vcall_freeze 5 (by rfl) (by intro c hc; simp at hc; obtain ⟨z, _, rfl⟩ := hc; rfl) ?_
    refine vcall_k [2, 0, 1, 3] (hp6) ?_ (hh := by simp [Dk.obs]) (ha := by simp)
    rintro r ob' ⟨rfl, rfl⟩
    simp [Dk.obs]
    repeat refine ⟨by first | assumption | omega | (intros; omega), ?_⟩
    refine hK18 _ ?_
    try clear hK18 K18
    refine vwp_gh (st' := ⟨[(1, .ptr 0 5 0), (4, .int .i64 0), (6, .int .i64 1), (7, .int .i64 0), (8, .int .i64 7), (9, .ptr 2 6 0), (10, .int .i64 0), (11, .sl 4 1 1 0 1), (12, .int .i64 0), (13, .int .i64 4)], [.live [.sl 1 d8.B.length 32 0 8, .bool d8.down, .int .i64 d8.fuse, .int .i64 d8.torn, .int .i64 d8.writes], .live (bts d8.B), logO 3 G5, .live (G5.rows.map sB), .live [sB [97, 98]]]⟩) (Gh.to_k [1, 4, 6, 7, 8, 9, 10, 11, 12, 13] [0, 1, 2, 3, 4] (hh := by simp [Dk.obs])) ?_
    refine vwp_sq [1, 4, 6, 7, 8, 9, 10, 11, 12, 13] fun K19 hK19 => vwp_region hT ?_
    simp [Dk.obs]
    refine vcall_k [0, 1] (hrd) ?_ (hh := by simp [Dk.obs])
    rintro r ob' ⟨rfl, rfl⟩
    simp [Dk.obs]
    refine hK19 _ ?_
    try clear hK19 K19
    have hstr : (strOfV [.int .u8 97, .int .u8 98]).toList = [97, 98] := by rw [ByteArray.toList_eq]; decide
    refine vwp_gh (st' := ⟨[(1, .ptr 0 5 0), (4, .int .i64 0), (6, .int .i64 1), (7, .int .i64 0), (8, .int .i64 7), (9, .ptr 2 6 0), (10, .int .i64 0), (11, .sl 4 1 1 0 1), (12, .int .i64 0), (13, .int .i64 4), (14, .sl 5 32 1 0 32)], [.live [.sl 1 d8.B.length 32 0 8, .bool d8.down, .int .i64 d8.fuse, .int .i64 d8.torn, .int .i64 d8.writes], .live (bts d8.B), logO 3 G5, .live (G5.rows.map sB), .live [sB [97, 98]], .live (bts s4)]⟩) (Gh.to_k [1, 4, 6, 7, 8, 9, 10, 11, 12, 13, 14] [0, 1, 2, 3, 4, 5] (hh := by simp [Dk.obs])) ?_
    refine vwp_sq [4, 6, 7, 8, 9, 10, 11, 12, 13, 14] fun K20 hK20 => vwp_region hT ?_
    simp [Dk.obs, hstr, hs2, hs3, hs4l]
    repeat refine ⟨by first | assumption | omega | (intros; omega), ?_⟩
    refine vcall_k [2, 0, 1, 3] (generation_spec G5 d8 8 (by decide)) ?_ (hh := by simp [Dk.obs])
    rintro r ob' ⟨rfl, rfl⟩
    simp [Dk.obs, hstr, hs2, hs3, hs4l]
    repeat refine ⟨by first | assumption | omega | (intros; omega), ?_⟩
    refine vcall_k [2, 0, 1, 3] (left_spec G5 d8 8 (by decide) (by decide)) ?_ (hh := by simp [Dk.obs])
    rintro r ob' ⟨rfl, rfl⟩
    simp [Dk.obs, hstr, hs2, hs3, hs4l]
    repeat refine ⟨by first | assumption | omega | (intros; omega), ?_⟩
    refine vcall_k [2, 0, 1, 3] (records_spec G5 d8 8 (by decide) (by decide)) ?_ (hh := by simp [Dk.obs])
    rintro r ob' ⟨rfl, rfl⟩
    simp [Dk.obs, hstr, hs2, hs3, hs4l]
    repeat refine ⟨by first | assumption | omega | (intros; omega), ?_⟩
    refine hK20 _ ?_
    try clear hK20 K20
    refine vwp_ret (hR _ _ ?_)
    exact ret_k [0] [] ([]) (.bool true) (⟨rfl, rfl⟩) (hr := by simp; exact ⟨(List.getElem?_eq_some_iff.1 hs2).2, (List.getElem?_eq_some_iff.1 hs3).2⟩)
end Go.Proofs.Ytifhbgppjblobaa
