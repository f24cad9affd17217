/- A record more. -/
import Derived.Test.YtifhbgppjblobaaLogP
namespace Go.Proofs.Ytifhbgppjblobaa
open Go Go.VX Go.RowKit
set_option linter.unusedVariables false
set_option linter.unusedSimpArgs false
set_option maxHeartbeats 20000000
set_option maxRecDepth 100000

def appendL (g : Lg) (d : Dk) (n : Nat) (b : List Int) : Int × Lg × Dk :=
  if g.broken = true then (7, g, d) else if 200 < b.length then (1, g, d)
  else
    let s := secL b g.gen g.rows.length
    if n / 2 < g.fin + s.length then (4, g, d)
    else
      let w := layK n g.half g.fin s s.length g d
      if w.1 = 0 then (0, { w.2.1 with rows := w.2.1.rows ++ [b], fin := w.2.1.fin + s.length }, w.2.2) else w
theorem secL_size {b : List Int} {gen place : Nat} (h : b.length ≤ 200) : (secL b gen place).length ≤ 7 := by
  simp only [secL, List.length_cons, chs_len, nch, List.length_drop]
  omega
theorem lay_keeps {n h at_ : Nat} {ss : List (List Int)} : ∀ (k : Nat) (g : Lg) (d : Dk), (layK n h at_ ss k g d).2.1.rows = g.rows ∧ (layK n h at_ ss k g d).2.1.fin = g.fin ∧ (layK n h at_ ss k g d).2.1.half = g.half ∧ (layK n h at_ ss k g d).2.1.gen = g.gen
  | 0, g, d => ⟨rfl, rfl, rfl, rfl⟩
  | k + 1, g, d => by
    rw [layK]
    split
    · exact lay_keeps k (g.wrote 0) _
    · exact ⟨rfl, rfl, rfl, rfl⟩
theorem append_spec (g : Lg) (d : Dk) (n : Nat) (hd : d.ok n) (hh : g.half ≤ 1) (hg : g.gen < 4294967296) (hr : g.rows.length < 1048576) (hf : g.fin ≤ n / 2) (b : List Int) (hb : byteL b) (hbl : b.length < 1099511627776) : VC P 10 [.ptr 0 6 0, sB b] (lobs g d n) (fun r ob' => r = .int .i64 (appendL g d n b).1 ∧ ob' = lobs (appendL g d n b).2.1 (appendL g d n b).2.2 n) := by
  refine VC_of_vwp_k ent_10 Try.func10 rfl (by simp) fun R hR => ?_
  refine vwp_sq [0, 1] fun K1 hK1 => vwp_region hT ?_
  simp
  refine hK1 _ ?_
  try clear hK1 K1
  refine vwp_seq_k fun K2 hK2 => ?_
  refine vwp_block ?_
  have hn4 := hd.n4
  obtain ⟨p, hp⟩ : ∃ p, p = n / 2 := ⟨_, rfl⟩
  rw [← hp] at hf
  refine vwp_sq [0, 1] fun K3 hK3 => vwp_region hT ?_
  simp
  refine hK3 _ ?_
  try clear hK3 K3
  refine vwp_cond (by first | rfl | (simp; rfl)) (fun h1 => ?_) fun h1 => ?_
  · simp -failIfUnchanged at h1; all_goals
   have hbr : g.broken = true := by simpa using h1
   have hap : appendL g d n b = (7, g, d) := by rw [appendL, if_pos hbr]
   refine vwp_sq [] fun K4 hK4 => vwp_region hT ?_
   simp
   refine hK4 _ ?_
   try clear hK4 K4
   refine vwp_ret (hR _ _ ?_)
   rw [hap]
   exact ret_k [4] [0, 1, 2, 3] (lobs g d n) (.int .i64 7) (⟨rfl, rfl⟩)
  · simp -failIfUnchanged at h1; all_goals
   have hbr : ¬ g.broken = true := by simpa using h1
   refine vwp_sq [0, 1] fun K5 hK5 => vwp_region hT ?_
   simp
   refine hK5 _ ?_
   try clear hK5 K5
   refine vwp_cond (by first | rfl | (simp; rfl)) (fun h2 => ?_) fun h2 => ?_
   · simp -failIfUnchanged at h2; all_goals
    have q := h2
    have hap : appendL g d n b = (1, g, d) := by rw [appendL, if_neg hbr, if_pos (by omega)]
    refine vwp_sq [] fun K6 hK6 => vwp_region hT ?_
    simp
    refine hK6 _ ?_
    try clear hK6 K6
    refine vwp_ret (hR _ _ ?_)
    rw [hap]
    exact ret_k [4] [0, 1, 2, 3] (lobs g d n) (.int .i64 1) (⟨rfl, rfl⟩)
   · simp -failIfUnchanged at h2; all_goals
    have q := h2
    have hbl2 : ¬ 200 < b.length := by omega
    refine vwp_skip ?_
    refine hK2 _ ?_
    try clear hK2 K2
    have hss := sectors2_spec b g.gen g.rows.length (by omega) hb hg (by omega)
    obtain ⟨W, hW⟩ : ∃ W, W = secL b g.gen g.rows.length := ⟨_, rfl⟩
    have hWl : W.length ≤ 7 := by rw [hW]; exact secL_size (by omega)
    rw [← hW] at hss
    refine vwp_sq [0, 1] fun K7 hK7 => vwp_storm hT hm [.pure, .pure, .win 0 0, .win 0 0, .win 0 0, .pure, .win 0 0, .win 0 0, .win 0 0, .win 0 0, .mv, .pure] [[], [], [1], [1, 2], [1, 2, 3], [], [5], [5, 6], [5, 6, 7], [5, 6, 7, 8], [0, 1, 2, 3, 4, 5, 6, 7, 8, 9], [0, 1, 2, 3, 4, 5, 6, 7, 8, 9, 10]] (by kernel_rfl) ?_
    simp
    refine ⟨.sl 4 W.length 1 0 W.length, lobs g d n ++ [.live (W.map sB)], fun sl => ?_, ?_⟩
    · refine vcall_k [] (hss) ?_
      rintro r ob' ⟨rfl, rfl⟩
      simp
    simp
    refine hK7 _ ?_
    try clear hK7 K7
    refine vwp_seq_k fun K8 hK8 => ?_
    have hlf := left_spec g d n hn4 (by omega)
    rw [← hp] at hlf
    refine vwp_sq [0, 1, 5] fun K9 hK9 => vwp_region hT ?_
    simp
    refine vcall_k [0, 1, 2, 3] (hlf) ?_
    rintro r ob' ⟨rfl, rfl⟩
    simp
    refine hK9 _ ?_
    try clear hK9 K9
    refine vwp_cond (by first | rfl | (simp; rfl)) (fun h3 => ?_) fun h3 => ?_
    · simp -failIfUnchanged at h3; all_goals
     have q := h3
     have hap : appendL g d n b = (4, g, d) := by
       rw [appendL, if_neg hbr, if_neg hbl2]
       simp only [← hW]
       rw [if_pos (by rw [← hp]; omega)]
     refine vwp_sq [] fun K10 hK10 => vwp_region hT ?_
     simp
     refine hK10 _ ?_
     try clear hK10 K10
     refine vwp_ret (hR _ _ ?_)
     rw [hap]
     exact ret_k [4] [0, 1, 2, 3] (lobs g d n) (.int .i64 4) (⟨rfl, rfl⟩)
    · simp -failIfUnchanged at h3; all_goals
     have q := h3
     have hfit : g.fin + W.length ≤ p := by omega
     refine vwp_skip ?_
     refine hK8 _ ?_
     try clear hK8 K8
     refine vwp_seq_k fun K11 hK11 => ?_
     have hhp : g.half * p + p ≤ n := by
       have : g.half = 0 ∨ g.half = 1 := by omega
       rcases this with e | e <;> rw [e] <;> omega
     have hly := lay_spec g d n hd g.half g.fin W (by rw [← hp]; omega)
     obtain ⟨L, hL⟩ : ∃ L, L = layK n g.half g.fin W W.length g d := ⟨_, rfl⟩
     have hk := lay_keeps (n := n) (h := g.half) (at_ := g.fin) (ss := W) W.length g d
     rw [← hL] at hly hk
     obtain ⟨we, wg, wd⟩ := L
     dsimp only at hly hk
     obtain ⟨k1, k2, k3, k4⟩ := hk
     have hap2 : appendL g d n b = if we = 0 then (0, { wg with rows := wg.rows ++ [b], fin := wg.fin + W.length }, wd) else (we, wg, wd) := by
       rw [appendL, if_neg hbr, if_neg hbl2]
       simp only [← hW]
       rw [if_neg (by rw [← hp]; omega), ← hL]
     refine vwp_sq [0, 1, 5] fun K12 hK12 => vwp_storm hT hm [.pure, .pure, .win 0 0, .win 0 0, .win 0 0, .pure, .win 0 0, .win 0 0, .win 0 0, .pure, .mv, .pure] [[], [], [1], [1, 2], [1, 2, 3], [], [5], [5, 6], [5, 6, 7], [], [0, 1, 2, 3, 4, 5, 6, 7, 8, 9], [0, 1, 2, 3, 4, 5, 6, 7, 8, 9, 10]] (by kernel_rfl) ?_
     simp
     refine ⟨.int .i64 we, lobs wg wd n ++ [.frz (W.map sB)], fun sl => ?_, ?_⟩
     · refine vcall_freeze 4 (by rfl) (by intro c hc; simp at hc; obtain ⟨z, _, rfl⟩ := hc; rfl) ?_
       refine vcall_k [0, 1, 2, 3] (hly) ?_
       rintro r ob' ⟨rfl, rfl⟩
       simp
     simp
     refine hK12 _ ?_
     try clear hK12 K12
     refine vwp_sq [0, 1, 5, 6] fun K13 hK13 => vwp_region hT ?_
     simp
     refine hK13 _ ?_
     try clear hK13 K13
     refine vwp_cond (by first | rfl | (simp; rfl)) (fun h4 => ?_) fun h4 => ?_
     · simp -failIfUnchanged at h4; all_goals
      have q := h4
      have hap : appendL g d n b = (we, wg, wd) := by rw [hap2, if_neg (by simpa using q)]
      refine vwp_sq [6] fun K14 hK14 => vwp_region hT ?_
      simp
      refine hK14 _ ?_
      try clear hK14 K14
      refine vwp_ret (hR _ _ ?_)
      rw [hap]
      exact ret_k [4] [0, 1, 2, 3] (lobs wg wd n) (.int .i64 we) (⟨rfl, rfl⟩)
     · simp -failIfUnchanged at h4; all_goals
      have q := h4
      obtain ⟨g2, hg2⟩ : ∃ g2, g2 = { wg with rows := wg.rows ++ [b], fin := wg.fin + W.length } := ⟨_, rfl⟩
      have hap : appendL g d n b = (0, g2, wd) := by rw [hap2, if_pos (by simpa using q), hg2]
      refine vwp_skip ?_
      refine hK11 _ ?_
      try clear hK11 K11
      refine vwp_gh (st' := ⟨[(0, .ptr 0 6 0), (1, sB b), (5, .fs W.length (W.map sB))], lobs wg wd n⟩) (Gh.to_k [0, 1, 5] [0, 1, 2, 3] (he := by simp [List.take_of_length_le])) ?_
      have hcl := bclone_u b hbl
      have w1 : IntKind.i64.wrap ((wg.fin : Int) + (W.length : Int)) = (wg.fin : Int) + (W.length : Int) := w64 (by omega) (by omega)
      have hrl : wg.rows.length < 1048576 := by rw [k1]; exact hr
      refine vwp_sq [0, 1, 5] fun K15 hK15 => vwp_storm hT hm [.pure, .pure, .pure, .win 0 2, .win 0 2, .win 0 2, .pure, .mv, .mv, .mv, .pure, .win 0 3, .win 0 3, .win 0 3, .pure, .win 0 4, .win 0 4, .win 3 3, .win 3 3, .mv, .win 4 4, .win 4 4, .mv] [[], [], [], [2], [2, 3], [2, 3, 4], [], [6], [6, 7], [2, 3, 4, 5, 6, 7, 8], [], [10], [10, 11], [10, 11, 12], [], [14], [10, 11, 12, 13, 14, 15], [0, 2, 3, 4, 5, 6, 7, 8, 9, 10, 11, 12, 13], [0, 2, 3, 4, 5, 6, 7, 8, 9, 10, 11, 12, 13, 17], [0, 2, 3, 4, 5, 6, 7, 8, 9, 10, 11, 12, 13, 17, 18], [0, 1, 2, 3, 4, 5, 6, 7, 8, 9, 10, 11, 12, 13, 14, 15, 16, 17, 18, 19], [0, 1, 2, 3, 4, 5, 6, 7, 8, 9, 10, 11, 12, 13, 14, 15, 16, 17, 18, 19, 20], [0, 1, 2, 3, 4, 5, 6, 7, 8, 9, 10, 11, 12, 13, 14, 15, 16, 17, 18, 19, 20, 21]] (by kernel_rfl) ?_
      simp [w1]
      repeat refine ⟨by first | assumption | omega | (intros; omega), ?_⟩
      refine ⟨.sl 4 b.length 1 0 b.length, lobs wg wd n ++ [.live (bts b)], fun sl => ?_, ?_⟩
      · refine vcall_k [] (hcl) ?_
        rintro r ob' ⟨rfl, rfl⟩
        simp
      simp [w1]
      repeat refine ⟨by first | assumption | omega | (intros; omega), ?_⟩
      refine hK15 _ ?_
      try clear hK15 K15
      refine vwp_gh ((Gh.freeze 4 (by rfl) (by intro c hc; simp at hc; obtain ⟨z, _, rfl⟩ := hc; rfl)).trans (Gh.cellFs 4 3 wg.rows.length (cs := wg.rows.map sB ++ [.sl 4 b.length 1 0 b.length]) (fs := bts b) (tot := b.length) (esz := 1) (off := 0) (n := b.length) (by rfl) (by simp) (by rfl) (by simp))) ?_
      refine vwp_gh (st' := ⟨[], lobs g2 wd n⟩) (Gh.to_k [] [0, 1, 2, 3] (hh := by rw [hg2]; simp [List.take_of_length_le])) ?_
      refine vwp_sq [] fun K16 hK16 => vwp_region hT ?_
      simp
      refine hK16 _ ?_
      try clear hK16 K16
      refine vwp_ret (hR _ _ ?_)
      rw [hap]
      exact ret_k [4] [0, 1, 2, 3] (lobs g2 wd n) (.int .i64 0) (⟨rfl, rfl⟩)
end Go.Proofs.Ytifhbgppjblobaa
