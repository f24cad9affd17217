/- Is a log the document's, and its disk? -/
import Derived.Test.YtifhbgppjblobaaL2L
namespace Go.Proofs.Ytifhbgppjblobaa
open Go Go.VX Go.RowKit
set_option linter.unusedVariables false
set_option linter.unusedSimpArgs false
set_option maxHeartbeats 20000000
set_option maxRecDepth 100000

abbrev dO (i : Nat) (d : Dk) (n : Nat) : Ob := .live [.sl i d.B.length 32 0 n, .bool d.down, .int .i64 d.fuse, .int .i64 d.torn, .int .i64 d.writes]
abbrev rdO (i : Nat) (d : Dk) : Ob := .live [.sl i d.B.length 1 0 d.B.length, .bool d.down, .int .i64 d.fuse, .int .i64 d.torn, .int .i64 d.writes]
abbrev lO (i r : Nat) (g : Lg) : Ob := .live [.ptr i 5 0, .int .i64 g.half, .int .u32 g.gen, .sl r g.rows.length 1 0 g.rows.length, .int .i64 g.fin, .bool g.broken]
abbrev rlO (i r : Nat) (g : Lg) : Ob := .live [.ptr i 5 0, .int .i64 g.half, .int .i64 g.gen, .sl r g.rows.length 1 0 g.rows.length, .int .i64 g.fin, .bool g.broken]
abbrev sobs4 (d : Dk) (n : Nat) : List Ob := [dO 1 d n, .live (bts d.B), rdO 3 d, .live (bts d.B)]
abbrev sobs8 (g : Lg) (d : Dk) (n : Nat) : List Ob := [dO 1 d n, .live (bts d.B), lO 0 3 g, .live (g.rows.map sB), rdO 5 d, .live (bts d.B), rlO 4 7 g, .live (g.rows.map sB)]
theorem lsame_some {n : Nat} (g : Lg) (m : Nat) (hm1 : m ≤ 1000000) (hg : g.fine n m) (d : Dk) (hd : d.ok n) : VC P 28 [.ptr 2 6 0, .ptr 6 6 0, .ptr 0 5 0, .ptr 4 5 0] (sobs8 g d n) (fun r ob' => r = .bool true ∧ ob' = sobs8 g d n) := by
  refine VC_of_vwp_k ent_28 Try.func28 rfl (by simp) fun R hR => ?_
  refine vwp_sq [0, 1, 2, 3] fun K1 hK1 => vwp_region hT ?_
  simp
  refine hK1 _ ?_
  try clear hK1 K1
  refine vwp_seq_k fun K2 hK2 => ?_
  have hn4 := hd.n4
  have hn2 := hd.n2
  have hl := hd.len
  obtain ⟨LB, hLB⟩ : ∃ LB, LB = d.B.length := ⟨_, rfl⟩
  have hLBe := hLB.symm
  rw [← hLB] at hl
  have hn32 : n = LB / 32 := by omega
  have t1 : (LB : Int).tdiv 32 = (n : Int) := by rw [hn32]; rfl
  have t2 : IntKind.i64.wrap (n : Int) = (n : Int) := w64 (by omega) (by omega)
  refine vwp_sq [0, 1, 2, 3] fun K3 hK3 => vwp_region hT ?_
  simp
  refine hK3 _ ?_
  try clear hK3 K3
  refine vwp_block ?_
  refine vwp_loop_s (fun k : Nat => ⟨[(0, .ptr 2 6 0), (1, .ptr 6 6 0), (2, .ptr 0 5 0), (3, .ptr 4 5 0), (9, .int .i64 (k : Int))], sobs8 g d n⟩) (fun k => k ≤ n) (fun k => n - k) (0) (Gh.to_k [0, 1, 2, 3, 9] [0, 1, 2, 3, 4, 5, 6, 7]) (by omega) ?_
  rintro k hk
  intro K4 hK4
  refine vwp_seq_k fun K5 hK5 => ?_
  refine vwp_sq [0, 1, 2, 3, 9] fun K6 hK6 => vwp_region hT ?_
  simp [hLBe, t1, t2]
  repeat refine ⟨by first | assumption | omega | (intros; omega), ?_⟩
  refine hK6 _ ?_
  try clear hK6 K6
  refine vwp_cond (by first | rfl | (simp; rfl)) (fun h1 => ?_) fun h1 => ?_
  · simp -failIfUnchanged at h1; all_goals
   refine vwp_skip ?_
   refine hK5 _ ?_
   try clear hK5 K5
   refine vwp_seq_k fun K7 hK7 => ?_
   refine vwp_block ?_
   have hrd := read_in hd (a := k) (by omega)
   obtain ⟨s, hs⟩ : ∃ s, s = d.sector k := ⟨_, rfl⟩
   have hsl : s.length = 32 := by rw [hs]; exact sector_len hd (by omega)
   rw [← hs] at hrd
   obtain ⟨a0, ha0⟩ : ∃ a0, a0 = 32 * k := ⟨_, rfl⟩
   have hst : List.take 32 (List.drop a0 (bts d.B)) = bts s := by rw [hs, Dk.sector, ha0, Nat.mul_comm, ← List.map_drop, ← List.map_take]
   have hss := same_spec s s (by omega) (by omega)
   rw [decide_eq_true rfl] at hss
   have v1 : IntKind.i64.wrap (32 * (k : Int)) = (a0 : Int) := (w64 (by omega) (by omega)).trans (by omega)
   have v2 : IntKind.i64.wrap ((a0 : Int) + 32) = ((a0 + 32 : Nat) : Int) := w64 (by omega) (by omega)
   have v3 : ((a0 : Int) + 32).toNat - a0 = 32 := by omega
   refine vwp_sq [0, 1, 2, 3, 9] fun K8 hK8 => vwp_region hT ?_
   simp [Dk.obs]
   refine vcall_k [0, 1] (hrd) ?_ (hh := by simp [Dk.obs])
   rintro r ob' ⟨rfl, rfl⟩
   simp [Dk.obs]
   refine hK8 _ ?_
   try clear hK8 K8
   refine vwp_sq [0, 1, 2, 3, 9, 10] fun K9 hK9 => vwp_region hT ?_
   simp [v1, v2, v3]
   repeat refine ⟨by first | assumption | omega | (intros; omega), ?_⟩
   refine vcall_z [] (hss) (by rintro r ob' ⟨rfl, rfl⟩; simp) ?_ (ha := by simp [hst, hsl, List.take_of_length_le]) (hok := by simp [hLBe, hsl])
   rintro r ob' ⟨rfl, rfl⟩
   simp [v1, v2, v3]
   repeat refine ⟨by first | assumption | omega | (intros; omega), ?_⟩
   refine hK9 _ ?_
   try clear hK9 K9
   refine vwp_cond (by first | rfl | (simp; rfl)) (fun h2 => ?_) fun h2 => ?_
   · simp -failIfUnchanged at h2; all_goals
    refine vwp_seq_k fun K10 hK10 => ?_
    simp at *
   · simp -failIfUnchanged at h2; all_goals
    refine vwp_skip ?_
    refine hK7 _ ?_
    try clear hK7 K7
    have w1 : IntKind.i64.wrap ((k : Int) + 1) = k + 1 := w64 (by omega) (by omega)
    refine vwp_live [0, 1, 2, 3, 9] (vwp_region hT ?_)
    simp [w1]
    exact hK4 (k + 1) _ (Gh.to_k [0, 1, 2, 3, 9] [0, 1, 2, 3, 4, 5, 6, 7] (hh := by simp [hLBe])) (by omega) (by omega)
  · simp -failIfUnchanged at h1; all_goals
   refine vwp_exit ?_
   simp only [inBlk, thenQ, if_true]
   refine hK2 _ ?_
   try clear hK2 K2
   refine vwp_seq_k fun K11 hK11 => ?_
   refine vwp_sq [0, 1, 2, 3] fun K12 hK12 => vwp_region hT ?_
   simp
   refine hK12 _ ?_
   try clear hK12 K12
   refine vwp_cond (by first | rfl | (simp; rfl)) (fun h3 => ?_) fun h3 => ?_
   · simp -failIfUnchanged at h3; all_goals
    refine vwp_seq_k fun K13 hK13 => ?_
    simp at *
   · simp -failIfUnchanged at h3; all_goals
    refine vwp_skip ?_
    refine hK11 _ ?_
    try clear hK11 K11
    have hps := per_ref d n hd
    obtain ⟨p, hp⟩ : ∃ p, p = n / 2 := ⟨_, rfl⟩
    have hfn := hg.fn
    have hgm := hg.gm
    have hrk := hg.rk
    have hlf := left_spec g d n (by omega) (by omega)
    rw [← hp] at hps hlf
    have hgn := generation_spec g d n (by omega)
    have hrs := records_spec g d n (by omega) (fun b hb => by have := hg.rl b hb; omega)
    have hwr := writes_spec d n
    have hsr := rsame_spec g.rows g.rows (by omega) (by omega) (fun b hb => by have := hg.rl b hb; omega) (fun b hb => by have := hg.rl b hb; omega)
    rw [decide_eq_true rfl] at hsr
    have w1 : IntKind.i64.wrap ((p : Int) - (g.fin : Int)) = (p : Int) - (g.fin : Int) := w64 (by omega) (by omega)
    refine vwp_sq [0, 1, 2, 3] fun K14 hK14 => vwp_storm hT hm [.pure, .win 0 0, .pure, .pure, .mv, .pure, .win 0 1, .win 0 1, .win 0 1, .mv, .pure, .pure, .mv, .pure, .win 2 3, .win 2 3, .win 2 3, .win 3 3, .pure, .pure, .pure, .mv, .pure, .mv, .pure, .win 3 5, .win 3 5, .win 3 5, .win 5 5, .win 5 5, .pure, .pure, .pure, .mv, .pure, .win 5 6, .win 5 6, .win 5 6, .win 6 6, .pure, .pure, .pure] [[], [0], [0, 1], [0, 1, 2], [0, 1, 2, 3], [0, 1, 2], [0, 1, 2, 5], [0, 1, 2, 5, 6], [0, 1, 2, 5, 6, 7], [0, 1, 2, 3, 4, 5, 6, 7, 8], [0, 1, 2, 3, 4, 5, 6, 7, 8, 9], [0, 1, 2, 3, 4, 5, 6, 7, 8, 9, 10], [0, 1, 2, 3, 4, 5, 6, 7, 8, 9, 10, 11], [0, 1, 2, 3, 4, 5, 6, 7, 8, 9, 10], [0, 1, 2, 3, 4, 5, 6, 7, 8, 9, 10, 13], [0, 1, 2, 3, 4, 5, 6, 7, 8, 9, 10, 13, 14], [0, 1, 2, 3, 4, 5, 6, 7, 8, 9, 10, 13, 14, 15], [0, 1, 2, 3, 4, 5, 6, 7, 8, 9, 10, 11, 12, 13, 14, 15, 16], [0, 1, 2, 3, 4, 5, 6, 7, 8, 9, 10, 11, 12, 13, 14, 15, 16, 17], [0, 1, 2, 3, 4, 5, 6, 7, 8, 9, 10, 11, 12, 13, 14, 15, 16, 17, 18], [0, 1, 2, 3, 4, 5, 6, 7, 8, 9, 10, 11, 12, 13, 14, 15, 16, 17, 18, 19], [0, 1, 2, 3, 4, 5, 6, 7, 8, 9, 10, 11, 12, 13, 14, 15, 16, 17, 18, 19, 20], [0, 1, 2, 3, 4, 5, 6, 7, 8, 9, 10, 11, 12, 13, 14, 15, 16, 17, 18, 19], [0, 1, 2, 3, 4, 5, 6, 7, 8, 9, 10, 11, 12, 13, 14, 15, 16, 17, 18, 19, 20, 21, 22], [0, 1, 2, 3, 4, 5, 6, 7, 8, 9, 10, 11, 12, 13, 14, 15, 16, 17, 18, 19], [0, 1, 2, 3, 4, 5, 6, 7, 8, 9, 10, 11, 12, 13, 14, 15, 16, 17, 18, 19, 24], [0, 1, 2, 3, 4, 5, 6, 7, 8, 9, 10, 11, 12, 13, 14, 15, 16, 17, 18, 19, 24, 25], [0, 1, 2, 3, 4, 5, 6, 7, 8, 9, 10, 11, 12, 13, 14, 15, 16, 17, 18, 19, 24, 25, 26], [0, 1, 2, 3, 4, 5, 6, 7, 8, 9, 10, 11, 12, 13, 14, 15, 16, 17, 18, 19, 20, 21, 22, 23, 24, 25, 26, 27], [0, 1, 2, 3, 4, 5, 6, 7, 8, 9, 10, 11, 12, 13, 14, 15, 16, 17, 18, 19, 20, 21, 22, 23, 24, 25, 26, 27, 28], [0, 1, 2, 3, 4, 5, 6, 7, 8, 9, 10, 11, 12, 13, 14, 15, 16, 17, 18, 19, 20, 21, 22, 23, 24, 25, 26, 27, 28, 29], [0, 1, 2, 3, 4, 5, 6, 7, 8, 9, 10, 11, 12, 13, 14, 15, 16, 17, 18, 19, 20, 21, 22, 23, 24, 25, 26, 27, 28, 29, 30], [0, 1, 2, 3, 4, 5, 6, 7, 8, 9, 10, 11, 12, 13, 14, 15, 16, 17, 18, 19, 20, 21, 22, 23, 24, 25, 26, 27, 28, 29, 30, 31], [0, 1, 2, 3, 4, 5, 6, 7, 8, 9, 10, 11, 12, 13, 14, 15, 16, 17, 18, 19, 20, 21, 22, 23, 24, 25, 26, 27, 28, 29, 30, 31, 32], [0, 1, 2, 3, 4, 5, 6, 7, 8, 9, 10, 11, 12, 13, 14, 15, 16, 17, 18, 19, 20, 21, 22, 23, 24, 25, 26, 27, 28, 29, 30, 31], [0, 1, 2, 3, 4, 5, 6, 7, 8, 9, 10, 11, 12, 13, 14, 15, 16, 17, 18, 19, 20, 21, 22, 23, 24, 25, 26, 27, 28, 29, 30, 31, 34], [0, 1, 2, 3, 4, 5, 6, 7, 8, 9, 10, 11, 12, 13, 14, 15, 16, 17, 18, 19, 20, 21, 22, 23, 24, 25, 26, 27, 28, 29, 30, 31, 34, 35], [0, 1, 2, 3, 4, 5, 6, 7, 8, 9, 10, 11, 12, 13, 14, 15, 16, 17, 18, 19, 20, 21, 22, 23, 24, 25, 26, 27, 28, 29, 30, 31, 34, 35, 36], [0, 1, 2, 3, 4, 5, 6, 7, 8, 9, 10, 11, 12, 13, 14, 15, 16, 17, 18, 19, 20, 21, 22, 23, 24, 25, 26, 27, 28, 29, 30, 31, 32, 33, 34, 35, 36, 37], [0, 1, 2, 3, 4, 5, 6, 7, 8, 9, 10, 11, 12, 13, 14, 15, 16, 17, 18, 19, 20, 21, 22, 23, 24, 25, 26, 27, 28, 29, 30, 31, 32, 33, 34, 35, 36, 37, 38], [0, 1, 2, 3, 4, 5, 6, 7, 8, 9, 10, 11, 12, 13, 14, 15, 16, 17, 18, 19, 20, 21, 22, 23, 24, 25, 26, 27, 28, 29, 30, 31, 32, 33, 34, 35, 36, 37, 38, 39], [0, 1, 2, 3, 4, 5, 6, 7, 8, 9, 10, 11, 12, 13, 14, 15, 16, 17, 18, 19, 20, 21, 22, 23, 24, 25, 26, 27, 28, 29, 30, 31, 32, 33, 34, 35, 36, 37, 38, 39, 40]] (by kernel_rfl) ?_
    simp [w1]
    refine ⟨.sl 8 g.rows.length 1 0 g.rows.length, sobs8 g d n ++ [.live (g.rows.map sB)], fun sl => ?_, ?_⟩
    · refine vcall_k [2, 0, 1, 3] (hrs) ?_ (hh := by simp)
      rintro r ob' ⟨rfl, rfl⟩
      simp
    simp [w1]
    refine ⟨.bool true, sobs8 g d n ++ [.live (g.rows.map sB)], fun sl => ?_, ?_⟩
    · refine vcall_z [] (hsr) (by rintro r ob' ⟨rfl, rfl⟩; simp) ?_ (ha := by simp [List.take_of_length_le]) (hok := by simp)
      rintro r ob' ⟨rfl, rfl⟩
      simp
    simp [w1]
    refine ⟨.int .i64 (g.gen : Int), sobs8 g d n ++ [.live (g.rows.map sB)], fun sl => ?_, ?_⟩
    · refine vcall_k [2, 0, 1, 3] (hgn) ?_ (hh := by simp)
      rintro r ob' ⟨rfl, rfl⟩
      simp
    simp [w1]
    refine ⟨.int .i64 ((p : Int) - g.fin), sobs8 g d n ++ [.live (g.rows.map sB)], fun sl => ?_, ?_⟩
    · refine vcall_k [2, 0, 1, 3] (hlf) ?_ (hh := by simp)
      rintro r ob' ⟨rfl, rfl⟩
      simp
    simp [w1]
    refine ⟨.int .i64 (p : Int), sobs8 g d n ++ [.live (g.rows.map sB)], fun sl => ?_, ?_⟩
    · refine vcall_k [4, 5] (hps) ?_ (hh := by simp [Dk.robs])
      rintro r ob' ⟨rfl, rfl⟩
      simp [Dk.robs]
    simp [w1]
    refine ⟨.int .i64 d.writes, sobs8 g d n ++ [.live (g.rows.map sB)], fun sl => ?_, ?_⟩
    · refine vcall_k [0, 1] (hwr) ?_ (hh := by simp [Dk.obs])
      rintro r ob' ⟨rfl, rfl⟩
      simp [Dk.obs]
    simp [w1]
    refine hK14 _ ?_
    try clear hK14 K14
    refine vwp_ret (hR _ _ ?_)
    exact ret_k [8] [0, 1, 2, 3, 4, 5, 6, 7] (sobs8 g d n) (.bool true) (⟨rfl, rfl⟩)
theorem lsame_none {n : Nat} (d : Dk) (hd : d.ok n) : VC P 28 [.nilp, .nilp, .ptr 0 5 0, .ptr 2 5 0] (sobs4 d n) (fun r ob' => r = .bool true ∧ ob' = sobs4 d n) := by
  refine VC_of_vwp_k ent_28 Try.func28 rfl (by simp) fun R hR => ?_
  refine vwp_sq [0, 1, 2, 3] fun K1 hK1 => vwp_region hT ?_
  simp
  refine hK1 _ ?_
  try clear hK1 K1
  refine vwp_seq_k fun K2 hK2 => ?_
  have hn4 := hd.n4
  have hn2 := hd.n2
  have hl := hd.len
  obtain ⟨LB, hLB⟩ : ∃ LB, LB = d.B.length := ⟨_, rfl⟩
  have hLBe := hLB.symm
  rw [← hLB] at hl
  have hn32 : n = LB / 32 := by omega
  have t1 : (LB : Int).tdiv 32 = (n : Int) := by rw [hn32]; rfl
  have t2 : IntKind.i64.wrap (n : Int) = (n : Int) := w64 (by omega) (by omega)
  refine vwp_sq [0, 1, 2, 3] fun K3 hK3 => vwp_region hT ?_
  simp
  refine hK3 _ ?_
  try clear hK3 K3
  refine vwp_block ?_
  refine vwp_loop_s (fun k : Nat => ⟨[(0, .nilp), (1, .nilp), (2, .ptr 0 5 0), (3, .ptr 2 5 0), (9, .int .i64 (k : Int))], sobs4 d n⟩) (fun k => k ≤ n) (fun k => n - k) (0) (Gh.to_k [0, 1, 2, 3, 9] [0, 1, 2, 3]) (by omega) ?_
  rintro k hk
  intro K4 hK4
  refine vwp_seq_k fun K5 hK5 => ?_
  refine vwp_sq [0, 1, 2, 3, 9] fun K6 hK6 => vwp_region hT ?_
  simp [hLBe, t1, t2]
  repeat refine ⟨by first | assumption | omega | (intros; omega), ?_⟩
  refine hK6 _ ?_
  try clear hK6 K6
  refine vwp_cond (by first | rfl | (simp; rfl)) (fun h1 => ?_) fun h1 => ?_
  · simp -failIfUnchanged at h1; all_goals
   refine vwp_skip ?_
   refine hK5 _ ?_
   try clear hK5 K5
   refine vwp_seq_k fun K7 hK7 => ?_
   refine vwp_block ?_
   have hrd := read_in hd (a := k) (by omega)
   obtain ⟨s, hs⟩ : ∃ s, s = d.sector k := ⟨_, rfl⟩
   have hsl : s.length = 32 := by rw [hs]; exact sector_len hd (by omega)
   rw [← hs] at hrd
   obtain ⟨a0, ha0⟩ : ∃ a0, a0 = 32 * k := ⟨_, rfl⟩
   have hst : List.take 32 (List.drop a0 (bts d.B)) = bts s := by rw [hs, Dk.sector, ha0, Nat.mul_comm, ← List.map_drop, ← List.map_take]
   have hss := same_spec s s (by omega) (by omega)
   rw [decide_eq_true rfl] at hss
   have v1 : IntKind.i64.wrap (32 * (k : Int)) = (a0 : Int) := (w64 (by omega) (by omega)).trans (by omega)
   have v2 : IntKind.i64.wrap ((a0 : Int) + 32) = ((a0 + 32 : Nat) : Int) := w64 (by omega) (by omega)
   have v3 : ((a0 : Int) + 32).toNat - a0 = 32 := by omega
   refine vwp_sq [0, 1, 2, 3, 9] fun K8 hK8 => vwp_region hT ?_
   simp [Dk.obs]
   refine vcall_k [0, 1] (hrd) ?_ (hh := by simp [Dk.obs])
   rintro r ob' ⟨rfl, rfl⟩
   simp [Dk.obs]
   refine hK8 _ ?_
   try clear hK8 K8
   refine vwp_sq [0, 1, 2, 3, 9, 10] fun K9 hK9 => vwp_region hT ?_
   simp [v1, v2, v3]
   repeat refine ⟨by first | assumption | omega | (intros; omega), ?_⟩
   refine vcall_z [] (hss) (by rintro r ob' ⟨rfl, rfl⟩; simp) ?_ (ha := by simp [hst, hsl, List.take_of_length_le]) (hok := by simp [hLBe, hsl])
   rintro r ob' ⟨rfl, rfl⟩
   simp [v1, v2, v3]
   repeat refine ⟨by first | assumption | omega | (intros; omega), ?_⟩
   refine hK9 _ ?_
   try clear hK9 K9
   refine vwp_cond (by first | rfl | (simp; rfl)) (fun h2 => ?_) fun h2 => ?_
   · simp -failIfUnchanged at h2; all_goals
    refine vwp_seq_k fun K10 hK10 => ?_
    simp at *
   · simp -failIfUnchanged at h2; all_goals
    refine vwp_skip ?_
    refine hK7 _ ?_
    try clear hK7 K7
    have w1 : IntKind.i64.wrap ((k : Int) + 1) = k + 1 := w64 (by omega) (by omega)
    refine vwp_live [0, 1, 2, 3, 9] (vwp_region hT ?_)
    simp [w1]
    exact hK4 (k + 1) _ (Gh.to_k [0, 1, 2, 3, 9] [0, 1, 2, 3] (hh := by simp [hLBe])) (by omega) (by omega)
  · simp -failIfUnchanged at h1; all_goals
   refine vwp_exit ?_
   simp only [inBlk, thenQ, if_true]
   refine hK2 _ ?_
   try clear hK2 K2
   refine vwp_seq_k fun K11 hK11 => ?_
   refine vwp_sq [0, 1, 2, 3] fun K12 hK12 => vwp_region hT ?_
   simp
   refine hK12 _ ?_
   try clear hK12 K12
   refine vwp_cond (by first | rfl | (simp; rfl)) (fun h3 => ?_) fun h3 => ?_
   · simp -failIfUnchanged at h3; all_goals
    refine vwp_seq_k fun K13 hK13 => ?_
    simp at *
   · simp -failIfUnchanged at h3; all_goals
    refine vwp_skip ?_
    refine hK11 _ ?_
    try clear hK11 K11
    refine vwp_sq [0, 1, 2, 3] fun K14 hK14 => vwp_storm hT hm [.pure, .win 0 0, .pure, .off, .off, .off, .off, .off, .off, .off, .off, .off, .off, .off, .off, .off, .off, .off, .off, .off, .off, .off, .off, .off, .off, .off, .off, .off, .off, .off, .off, .off, .off, .off, .off, .off, .off, .off, .off, .off, .pure, .pure] [[], [0], [0, 1], [0, 1, 2], [0, 1, 2, 3], [0, 1, 2], [0, 1, 2, 5], [0, 1, 2, 5, 6], [0, 1, 2, 5, 6, 7], [0, 1, 2, 3, 4, 5, 6, 7, 8], [0, 1, 2, 3, 4, 5, 6, 7, 8, 9], [0, 1, 2, 3, 4, 5, 6, 7, 8, 9, 10], [0, 1, 2, 3, 4, 5, 6, 7, 8, 9, 10, 11], [0, 1, 2, 3, 4, 5, 6, 7, 8, 9, 10], [0, 1, 2, 3, 4, 5, 6, 7, 8, 9, 10, 13], [0, 1, 2, 3, 4, 5, 6, 7, 8, 9, 10, 13, 14], [0, 1, 2, 3, 4, 5, 6, 7, 8, 9, 10, 13, 14, 15], [0, 1, 2, 3, 4, 5, 6, 7, 8, 9, 10, 11, 12, 13, 14, 15, 16], [0, 1, 2, 3, 4, 5, 6, 7, 8, 9, 10, 11, 12, 13, 14, 15, 16, 17], [0, 1, 2, 3, 4, 5, 6, 7, 8, 9, 10, 11, 12, 13, 14, 15, 16, 17, 18], [0, 1, 2, 3, 4, 5, 6, 7, 8, 9, 10, 11, 12, 13, 14, 15, 16, 17, 18, 19], [0, 1, 2, 3, 4, 5, 6, 7, 8, 9, 10, 11, 12, 13, 14, 15, 16, 17, 18, 19, 20], [0, 1, 2, 3, 4, 5, 6, 7, 8, 9, 10, 11, 12, 13, 14, 15, 16, 17, 18, 19], [0, 1, 2, 3, 4, 5, 6, 7, 8, 9, 10, 11, 12, 13, 14, 15, 16, 17, 18, 19, 20, 21, 22], [0, 1, 2, 3, 4, 5, 6, 7, 8, 9, 10, 11, 12, 13, 14, 15, 16, 17, 18, 19], [0, 1, 2, 3, 4, 5, 6, 7, 8, 9, 10, 11, 12, 13, 14, 15, 16, 17, 18, 19, 24], [0, 1, 2, 3, 4, 5, 6, 7, 8, 9, 10, 11, 12, 13, 14, 15, 16, 17, 18, 19, 24, 25], [0, 1, 2, 3, 4, 5, 6, 7, 8, 9, 10, 11, 12, 13, 14, 15, 16, 17, 18, 19, 24, 25, 26], [0, 1, 2, 3, 4, 5, 6, 7, 8, 9, 10, 11, 12, 13, 14, 15, 16, 17, 18, 19, 20, 21, 22, 23, 24, 25, 26, 27], [0, 1, 2, 3, 4, 5, 6, 7, 8, 9, 10, 11, 12, 13, 14, 15, 16, 17, 18, 19, 20, 21, 22, 23, 24, 25, 26, 27, 28], [0, 1, 2, 3, 4, 5, 6, 7, 8, 9, 10, 11, 12, 13, 14, 15, 16, 17, 18, 19, 20, 21, 22, 23, 24, 25, 26, 27, 28, 29], [0, 1, 2, 3, 4, 5, 6, 7, 8, 9, 10, 11, 12, 13, 14, 15, 16, 17, 18, 19, 20, 21, 22, 23, 24, 25, 26, 27, 28, 29, 30], [0, 1, 2, 3, 4, 5, 6, 7, 8, 9, 10, 11, 12, 13, 14, 15, 16, 17, 18, 19, 20, 21, 22, 23, 24, 25, 26, 27, 28, 29, 30, 31], [0, 1, 2, 3, 4, 5, 6, 7, 8, 9, 10, 11, 12, 13, 14, 15, 16, 17, 18, 19, 20, 21, 22, 23, 24, 25, 26, 27, 28, 29, 30, 31, 32], [0, 1, 2, 3, 4, 5, 6, 7, 8, 9, 10, 11, 12, 13, 14, 15, 16, 17, 18, 19, 20, 21, 22, 23, 24, 25, 26, 27, 28, 29, 30, 31], [0, 1, 2, 3, 4, 5, 6, 7, 8, 9, 10, 11, 12, 13, 14, 15, 16, 17, 18, 19, 20, 21, 22, 23, 24, 25, 26, 27, 28, 29, 30, 31, 34], [0, 1, 2, 3, 4, 5, 6, 7, 8, 9, 10, 11, 12, 13, 14, 15, 16, 17, 18, 19, 20, 21, 22, 23, 24, 25, 26, 27, 28, 29, 30, 31, 34, 35], [0, 1, 2, 3, 4, 5, 6, 7, 8, 9, 10, 11, 12, 13, 14, 15, 16, 17, 18, 19, 20, 21, 22, 23, 24, 25, 26, 27, 28, 29, 30, 31, 34, 35, 36], [0, 1, 2, 3, 4, 5, 6, 7, 8, 9, 10, 11, 12, 13, 14, 15, 16, 17, 18, 19, 20, 21, 22, 23, 24, 25, 26, 27, 28, 29, 30, 31, 32, 33, 34, 35, 36, 37], [0, 1, 2, 3, 4, 5, 6, 7, 8, 9, 10, 11, 12, 13, 14, 15, 16, 17, 18, 19, 20, 21, 22, 23, 24, 25, 26, 27, 28, 29, 30, 31, 32, 33, 34, 35, 36, 37, 38], [0, 1, 2, 3, 4, 5, 6, 7, 8, 9, 10, 11, 12, 13, 14, 15, 16, 17, 18, 19, 20, 21, 22, 23, 24, 25, 26, 27, 28, 29, 30, 31, 32, 33, 34, 35, 36, 37, 38, 39], [0, 1, 2, 3, 4, 5, 6, 7, 8, 9, 10, 11, 12, 13, 14, 15, 16, 17, 18, 19, 20, 21, 22, 23, 24, 25, 26, 27, 28, 29, 30, 31, 32, 33, 34, 35, 36, 37, 38, 39, 40]] (by kernel_rfl) ?_
    simp
    refine hK14 _ ?_
    try clear hK14 K14
    refine vwp_ret (hR _ _ ?_)
    exact ret_k [8] [0, 1, 2, 3] (sobs4 d n) (.bool true) (⟨rfl, rfl⟩)
end Go.Proofs.Ytifhbgppjblobaa
