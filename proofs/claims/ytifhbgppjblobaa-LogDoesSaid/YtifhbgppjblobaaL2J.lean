/- The document's answers: a record more. -/
import Derived.Test.YtifhbgppjblobaaL2I
namespace Go.Proofs.Ytifhbgppjblobaa
open Go Go.VX Go.RowKit
set_option linter.unusedVariables false
set_option linter.unusedSimpArgs false
set_option maxHeartbeats 20000000
set_option maxRecDepth 100000

abbrev rlogP (r : Nat) (g : Lg) : Ob := .live [.ptr 1 5 0, .int .i64 g.half, .int .i64 g.gen, .sl r g.rows.length 1 0 g.rows.length, .int .i64 g.fin, .bool g.broken]
abbrev dskR (d : Dk) : Ob := .live [.sl 2 d.B.length 1 0 d.B.length, .bool d.down, .int .i64 d.fuse, .int .i64 d.torn, .int .i64 d.writes]
abbrev rlobs (g : Lg) (d : Dk) : List Ob := [rlogP 3 g, dskR d, .live (bts d.B), .live (g.rows.map sB)]
/-- What there is behind a change: rows of its own, where it was. -/
def rQ (x : Int × Lg × Dk) (ob' : List Ob) : Prop :=
  (x.1 = 0 ∧ ∃ old, ob' = [rlogP 4 x.2.1, dskR x.2.2, .live (bts x.2.2.B), .live old, .live (x.2.1.rows.map sB)]) ∨ (x.1 ≠ 0 ∧ ob' = rlobs x.2.1 x.2.2)
theorem append_ref (g : Lg) (d : Dk) (n : Nat) (hd : d.ok n) (hh : g.half ≤ 1) (hg : g.gen < 4294967296) (hr : g.rows.length < 1048576) (hf : g.fin ≤ n / 2) (b : List Int) (hb : byteL b) (hbl : b.length < 1099511627776) : VC P 25 [.ptr 0 6 0, sB b] (rlobs g d) (fun r ob' => r = .int .i64 (appendL g d n b).1 ∧ rQ (appendL g d n b) ob') := by
  refine VC_of_vwp_k ent_25 Try.func25 rfl (by simp) fun R hR => ?_
  refine vwp_sq [0, 1] fun K1 hK1 => vwp_region hT ?_
  simp
  refine hK1 _ ?_
  try clear hK1 K1
  refine vwp_seq_k fun K2 hK2 => ?_
  have hn4 := hd.n4
  obtain ⟨p, hp⟩ : ∃ p, p = n / 2 := ⟨_, rfl⟩
  rw [← hp] at hf
  refine vwp_sq [0, 1] fun K3 hK3 => vwp_region hT ?_
  simp
  refine hK3 _ ?_
  try clear hK3 K3
  refine vwp_cond (by first | rfl | (simp; rfl)) (fun h1 => ?_) fun h1 => ?_
  · simp -failIfUnchanged at h1; all_goals
   have hbr : g.broken = true := by simpa using h1
   have hap : appendL g d n b = (7, g, d) := by rw [appendL, if_pos hbr]
   refine vwp_sq [] fun K4 hK4 => vwp_region hT ?_
   simp
   refine hK4 _ ?_
   try clear hK4 K4
   refine vwp_ret (hR _ _ ?_)
   rw [hap]
   exact ret_k [4] [0, 1, 2, 3] (rlobs g d) (.int .i64 7) (⟨rfl, .inr ⟨by simp, rfl⟩⟩)
  · simp -failIfUnchanged at h1; all_goals
   have hbr : ¬ g.broken = true := by simpa using h1
   refine vwp_skip ?_
   refine hK2 _ ?_
   try clear hK2 K2
   refine vwp_seq_k fun K5 hK5 => ?_
   refine vwp_sq [0, 1] fun K6 hK6 => vwp_region hT ?_
   simp
   refine hK6 _ ?_
   try clear hK6 K6
   refine vwp_cond (by first | rfl | (simp; rfl)) (fun h2 => ?_) fun h2 => ?_
   · simp -failIfUnchanged at h2; all_goals
    have q := h2
    have hap : appendL g d n b = (1, g, d) := by rw [appendL, if_neg hbr, if_pos (by omega)]
    refine vwp_sq [] fun K7 hK7 => vwp_region hT ?_
    simp
    refine hK7 _ ?_
    try clear hK7 K7
    refine vwp_ret (hR _ _ ?_)
    rw [hap]
    exact ret_k [4] [0, 1, 2, 3] (rlobs g d) (.int .i64 1) (⟨rfl, .inr ⟨by simp, rfl⟩⟩)
   · simp -failIfUnchanged at h2; all_goals
    have q := h2
    have hbl2 : ¬ 200 < b.length := by omega
    refine vwp_skip ?_
    refine hK5 _ ?_
    try clear hK5 K5
    have hld := laid_ref b g.gen g.rows.length (by omega) hb hg (by omega)
    obtain ⟨W, hW⟩ : ∃ W, W = secL b g.gen g.rows.length := ⟨_, rfl⟩
    have hW32 : ∀ w ∈ W, w.length ≤ 32 := by rw [hW]; exact secL_32
    have hWl : W.length ≤ 7 := by rw [hW]; exact secL_size (by omega)
    obtain ⟨S, hS⟩ : ∃ S, S = flatL b g.gen g.rows.length := ⟨_, rfl⟩
    obtain ⟨W32, hW32e⟩ : ∃ W32, W32 = 32 * W.length := ⟨_, rfl⟩
    have hSl : S.length = W32 := by rw [hS, flatL_len, hW32e, hW]
    have hSf : S = (W.map pad).flatten := by rw [hS, hW]; rfl
    rw [← hS, ← hW, ← hW32e] at hld
    refine vwp_sq [0, 1] fun K8 hK8 => vwp_storm hT hm [.pure, .pure, .win 0 0, .win 0 0, .win 0 0, .pure, .win 0 0, .win 0 0, .win 0 0, .win 0 0, .mv, .pure] [[], [], [1], [1, 2], [1, 2, 3], [], [5], [5, 6], [5, 6, 7], [5, 6, 7, 8], [0, 1, 2, 3, 4, 5, 6, 7, 8, 9], [0, 1, 2, 3, 4, 5, 6, 7, 8, 9, 10]] (by kernel_rfl) ?_
    simp
    refine ⟨.sl 4 W32 1 0 W32, rlobs g d ++ [.live (bts S)], fun sl => ?_, ?_⟩
    · refine vcall_k [] (hld) ?_
      rintro r ob' ⟨rfl, rfl⟩
      simp
    simp
    refine hK8 _ ?_
    try clear hK8 K8
    refine vwp_seq_k fun K9 hK9 => ?_
    refine vwp_gh (Gh.freeze 4 (by rfl) (by intro c hc; simp at hc; obtain ⟨z, _, rfl⟩ := hc; rfl)) ?_
    refine vwp_gh (st' := ⟨[(0, .ptr 0 6 0), (1, sB b), (5, .fs W32 (bts S))], rlobs g d⟩) (Gh.to_k [0, 1, 5] [0, 1, 2, 3] (he := by simp [hSl, List.take_of_length_le]) (hs := by simp [hSl])) ?_
    have hps := per_ref d n hd
    rw [← hp] at hps
    obtain ⟨wl, hwl⟩ : ∃ wl, wl = W.length := ⟨_, rfl⟩
    have hwl32 : wl = W32 / 32 := by omega
    have t1 : (W32 : Int).tdiv 32 = (wl : Int) := by rw [hwl32]; rfl
    have t2 : IntKind.i64.wrap (wl : Int) = (wl : Int) := w64 (by omega) (by omega)
    have t3 : IntKind.i64.wrap ((g.fin : Int) + (wl : Int)) = (g.fin : Int) + (wl : Int) := w64 (by omega) (by omega)
    refine vwp_sq [0, 1, 5] fun K10 hK10 => vwp_storm hT hm [.pure, .win 0 1, .win 0 1, .win 0 1, .pure, .win 0 1, .win 0 1, .win 0 1, .pure, .win 0 0, .win 0 0, .win 0 0, .mv, .win 1 1] [[], [0], [0, 1], [0, 1, 2], [], [4], [4, 5], [0, 1, 2, 3, 4, 5, 6], [], [8], [8, 9], [8, 9, 10], [8, 9, 10, 11], [0, 1, 2, 3, 4, 5, 6, 7, 8, 9, 10, 11, 12]] (by kernel_rfl) ?_
    simp [t1, t2, t3]
    repeat refine ⟨by first | assumption | omega | (intros; omega), ?_⟩
    refine ⟨.int .i64 (p : Int), rlobs g d, fun sl => ?_, ?_⟩
    · refine vcall_k [1, 2] (hps) ?_ (hh := by simp [Dk.robs])
      rintro r ob' ⟨rfl, rfl⟩
      simp [Dk.robs]
    simp [t1, t2, t3]
    repeat refine ⟨by first | assumption | omega | (intros; omega), ?_⟩
    refine hK10 _ ?_
    try clear hK10 K10
    refine vwp_cond (by first | rfl | (simp; rfl)) (fun h3 => ?_) fun h3 => ?_
    · simp -failIfUnchanged at h3; all_goals
     have q := h3
     have hap : appendL g d n b = (4, g, d) := by
       rw [appendL, if_neg hbr, if_neg hbl2]
       simp only [← hW]
       rw [if_pos (by rw [← hp]; omega)]
     refine vwp_sq [] fun K11 hK11 => vwp_region hT ?_
     simp
     refine hK11 _ ?_
     try clear hK11 K11
     refine vwp_ret (hR _ _ ?_)
     rw [hap]
     exact ret_k [4] [0, 1, 2, 3] (rlobs g d) (.int .i64 4) (⟨rfl, .inr ⟨by simp, rfl⟩⟩)
    · simp -failIfUnchanged at h3; all_goals
     have q := h3
     have hfit : g.fin + wl ≤ p := by omega
     refine vwp_skip ?_
     refine hK9 _ ?_
     try clear hK9 K9
     have hly := lay_ref g d n hd g.half g.fin hh W (by rw [← hp]; omega) hW32
     have hlg := layK_log (n := n) (h := g.half) (at_ := g.fin) (ss := W) W.length g d
     rw [← hSf] at hly
     obtain ⟨L, hL⟩ : ∃ L, L = layK n g.half g.fin W W.length g d := ⟨_, rfl⟩
     rw [← hL] at hly hlg
     obtain ⟨we, wg, wd⟩ := L
     dsimp only at hly hlg
     have hap2 : appendL g d n b = if we = 0 then (0, { wg with rows := wg.rows ++ [b], fin := wg.fin + W.length }, wd) else (we, wg, wd) := by
       rw [appendL, if_neg hbr, if_neg hbl2]
       simp only [← hW]
       rw [if_neg (by rw [← hp]; omega), ← hL]
     refine vwp_sq [0, 1, 5] fun K12 hK12 => vwp_storm hT hm [.pure, .win 0 0, .win 0 0, .win 0 0, .pure, .win 0 0, .win 0 0, .win 0 0, .pure, .win 0 0, .win 0 0, .win 0 0, .pure, .mv, .pure] [[], [0], [0, 1], [0, 1, 2], [], [4], [4, 5], [4, 5, 6], [], [8], [8, 9], [8, 9, 10], [], [0, 1, 2, 3, 4, 5, 6, 7, 8, 9, 10, 11, 12], [0, 1, 2, 3, 4, 5, 6, 7, 8, 9, 10, 11, 12, 13]] (by kernel_rfl) ?_
     simp
     refine ⟨.int .i64 we, rlobs g wd, fun sl => ?_, ?_⟩
     · refine vcall_k [1, 2] (hly) ?_ (hh := by simp [Dk.robs]) (ha := by simp [hSl])
       rintro r ob' ⟨rfl, rfl⟩
       simp [Dk.robs]
     simp
     refine hK12 _ ?_
     try clear hK12 K12
     refine vwp_seq_k fun K13 hK13 => ?_
     refine vwp_sq [0, 1, 5, 6] fun K14 hK14 => vwp_region hT ?_
     simp
     refine hK14 _ ?_
     try clear hK14 K14
     refine vwp_cond (by first | rfl | (simp; rfl)) (fun h4 => ?_) fun h4 => ?_
     · simp -failIfUnchanged at h4; all_goals
      have q := h4
      have hwe0 : ¬ we = 0 := by simpa using q
      obtain ⟨g2, hg2⟩ : ∃ g2, g2 = { g with broken := true } := ⟨_, rfl⟩
      have hwg : wg = g2 := by rw [hlg, hg2]; simp [hwe0]
      have hap : appendL g d n b = (we, g2, wd) := by rw [hap2, if_neg hwe0, hwg]
      refine vwp_sq [0, 6] fun K15 hK15 => vwp_region hT ?_
      simp
      repeat refine ⟨by first | assumption | omega | (intros; omega), ?_⟩
      refine hK15 _ ?_
      try clear hK15 K15
      refine vwp_sq [6] fun K16 hK16 => vwp_region hT ?_
      simp
      refine hK16 _ ?_
      try clear hK16 K16
      refine vwp_ret (hR _ _ ?_)
      rw [hap]
      exact ret_k [4] [0, 1, 2, 3] (rlobs g2 wd) (.int .i64 we) (⟨rfl, .inr ⟨hwe0, rfl⟩⟩) (hh := by rw [hg2]; simp)
     · simp -failIfUnchanged at h4; all_goals
      have q := h4
      have hwe0 : we = 0 := by simpa using q
      have hwg : wg = g := by rw [hlg, hwe0]; simp
      obtain ⟨g2, hg2⟩ : ∃ g2, g2 = { g with rows := g.rows ++ [b], fin := g.fin + W.length } := ⟨_, rfl⟩
      have hap : appendL g d n b = (0, g2, wd) := by rw [hap2, if_pos hwe0, hg2, hwg]
      refine vwp_skip ?_
      refine hK13 _ ?_
      try clear hK13 K13
      refine vwp_sq [0, 1, 5] fun K17 hK17 => vwp_region hT ?_
      simp [List.take_of_length_le]
      repeat refine ⟨by first | assumption | omega | (intros; omega), ?_⟩
      refine hK17 _ ?_
      try clear hK17 K17
      refine vwp_gh ((Gh.freeze 5 (by rfl) (by intro c hc; simp at hc; obtain ⟨z, _, rfl⟩ := hc; rfl)).trans (Gh.cellFs 5 4 g.rows.length (cs := g.rows.map sB ++ [.sl 5 b.length 1 0 b.length]) (fs := bts b) (tot := b.length) (esz := 1) (off := 0) (n := b.length) (by rfl) (by simp) (by rfl) (by simp))) ?_
      simp
      refine vwp_sq [0, 5] fun K18 hK18 => vwp_region hT ?_
      simp [t1, t2, t3]
      repeat refine ⟨by first | assumption | omega | (intros; omega), ?_⟩
      refine hK18 _ ?_
      try clear hK18 K18
      refine vwp_sq [] fun K19 hK19 => vwp_region hT ?_
      simp
      refine hK19 _ ?_
      try clear hK19 K19
      refine vwp_ret (hR _ _ ?_)
      rw [hap]
      exact ret_k [4] [0, 1, 2, 3, 4] ([rlogP 4 g2, dskR wd, .live (bts wd.B), .live (g.rows.map sB), .live (g2.rows.map sB)]) (.int .i64 0) (⟨rfl, .inl ⟨rfl, _, rfl⟩⟩) (hh := by rw [hg2]; simp [hwl, List.take_of_length_le])
end Go.Proofs.Ytifhbgppjblobaa
