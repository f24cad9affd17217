/- The document's answers: Only. -/
import Derived.Test.YtifhbgppjblobaaL2J
namespace Go.Proofs.Ytifhbgppjblobaa
open Go Go.VX Go.RowKit
set_option linter.unusedVariables false
set_option linter.unusedSimpArgs false
set_option maxHeartbeats 20000000
set_option maxRecDepth 100000

theorem layAll_log {n h : Nat} : ∀ (A : List (List (List Int))) (at_ : Nat) (g : Lg) (d : Dk), (layAll n h A at_ g d).2.1 = { g with broken := g.broken || !((layAll n h A at_ g d).1 == 0) }
  | [], at_, g, d => by simp [layAll]
  | s :: A, at_, g, d => by
    rw [layAll]
    split
    · rename_i he
      rw [layAll_log A, layK_log, he]
      simp
    · exact layK_log _ _ _
theorem wrote_log {g : Lg} {e : Int} (he : e ≠ 0) : g.wrote e = { g with broken := true } := by simp [Lg.wrote, he]
theorem only_ref (g : Lg) (d : Dk) (n : Nat) (hd : d.ok n) (hbt : byteL d.B) (hh : g.half ≤ 1) (hg : g.gen ≤ 2147483647) (rs : List (List Int)) (hrl : rs.length < 1048576) (hrb : ∀ b ∈ rs, byteL b) (hrn : ∀ b ∈ rs, b.length < 1099511627776) : VC P 26 [.ptr 0 6 0, sBB rs] (rlobs g d) (fun r ob' => r = .int .i64 (onlyL g d n rs).1 ∧ rQ (onlyL g d n rs) ob') := by
  refine VC_of_vwp_k ent_26 Try.func26 rfl (by simp) fun R hR => ?_
  refine vwp_sq [0, 1] fun K1 hK1 => vwp_region hT ?_
  simp
  refine hK1 _ ?_
  try clear hK1 K1
  refine vwp_seq_k fun K2 hK2 => ?_
  have hn4 := hd.n4
  obtain ⟨p, hp⟩ : ∃ p, p = n / 2 := ⟨_, rfl⟩
  obtain ⟨res, hres⟩ : ∃ res, res = onlyL g d n rs := ⟨_, rfl⟩
  refine vwp_sq [0, 1] fun K3 hK3 => vwp_region hT ?_
  simp
  refine hK3 _ ?_
  try clear hK3 K3
  refine vwp_cond (by first | rfl | (simp; rfl)) (fun h1 => ?_) fun h1 => ?_
  · simp -failIfUnchanged at h1; all_goals
   have hbr : g.broken = true := by simpa using h1
   have hap : res = (7, g, d) := by rw [hres, onlyL, if_pos hbr]
   refine vwp_sq [] fun K4 hK4 => vwp_region hT ?_
   simp
   refine hK4 _ ?_
   try clear hK4 K4
   refine vwp_ret (hR _ _ ?_)
   rw [← hres, hap]
   exact ret_k [4] [0, 1, 2, 3] (rlobs g d) (.int .i64 7) (⟨rfl, .inr ⟨by simp, rfl⟩⟩)
  · simp -failIfUnchanged at h1; all_goals
   have hbr : ¬ g.broken = true := by simpa using h1
   refine vwp_skip ?_
   refine hK2 _ ?_
   try clear hK2 K2
   obtain ⟨hf, hhf⟩ : ∃ hf, hf = 1 - g.half := ⟨_, rfl⟩
   obtain ⟨gn, hgn⟩ : ∃ gn, gn = g.gen + 1 := ⟨_, rfl⟩
   obtain ⟨A, hA⟩ : ∃ A, A = allL gn 0 rs := ⟨_, rfl⟩
   have hAl : A.length = rs.length := by rw [hA, allL_len]
   have hAt : ∀ (i : Nat) b, rs[i]? = some b → A[i]? = some (secL b gn i) := fun i b h => by
     have := allL_at (gen := gn) 0 rs i b h
     rw [Nat.zero_add] at this
     rw [hA, this]
   refine vwp_sq [0, 1] fun K5 hK5 => vwp_region hT ?_
   simp
   refine hK5 _ ?_
   try clear hK5 K5
   refine vwp_seq_k fun K6 hK6 => ?_
   refine vwp_sq [0, 1, 5] fun K7 hK7 => vwp_region hT ?_
   simp
   refine hK7 _ ?_
   try clear hK7 K7
   refine vwp_block ?_
   refine vwp_loop_s (fun i : Nat => ⟨[(0, .ptr 0 6 0), (1, sBB rs), (5, .int .i64 (1 + (totL (A.take i) : Int))), (6, .int .i64 (i : Int))], rlobs g d⟩) (fun i => i ≤ rs.length ∧ totL (A.take i) ≤ 7 * i ∧ ∀ (j : Nat) b, j < i → rs[j]? = some b → b.length ≤ 200) (fun i => rs.length - i) (0) (Gh.to_k [0, 1, 5, 6] [0, 1, 2, 3] (he := by simp [totL])) (⟨by omega, by simp [totL], fun j b hj => by omega⟩) ?_
   rintro i ⟨hi, htl, hall⟩
   intro K8 hK8
   refine vwp_seq_k fun K9 hK9 => ?_
   refine vwp_sq [0, 1, 5, 6] fun K10 hK10 => vwp_region hT ?_
   simp
   refine hK10 _ ?_
   try clear hK10 K10
   refine vwp_cond (by first | rfl | (simp; rfl)) (fun h2 => ?_) fun h2 => ?_
   · simp -failIfUnchanged at h2; all_goals
    refine vwp_skip ?_
    refine hK9 _ ?_
    try clear hK9 K9
    refine vwp_seq_k fun K11 hK11 => ?_
    refine vwp_block ?_
    refine vwp_seq_k fun K12 hK12 => ?_
    obtain ⟨b, hb⟩ := getI (l := rs) (i := i) (by omega)
    have hbm := List.mem_of_getElem? hb
    have hbn := hrn b hbm
    refine vwp_sq [0, 1, 5, 6] fun K13 hK13 => vwp_region hT ?_
    simp [hb]
    repeat refine ⟨by first | assumption | omega | (intros; omega), ?_⟩
    refine hK13 _ ?_
    try clear hK13 K13
    refine vwp_cond (by first | rfl | (simp; rfl)) (fun h3 => ?_) fun h3 => ?_
    · simp -failIfUnchanged at h3; all_goals
     have q := h3
     have hap : res = (1, g, d) := by rw [hres, onlyL, if_neg hbr, if_pos (any_yes hb (by omega))]
     refine vwp_sq [] fun K14 hK14 => vwp_region hT ?_
     simp
     refine hK14 _ ?_
     try clear hK14 K14
     refine vwp_ret (hR _ _ ?_)
     rw [← hres, hap]
     exact ret_k [4] [0, 1, 2, 3] (rlobs g d) (.int .i64 1) (⟨rfl, .inr ⟨by simp, rfl⟩⟩)
    · simp -failIfUnchanged at h3; all_goals
     have q := h3
     have hb2 : b.length ≤ 200 := by omega
     refine vwp_skip ?_
     refine hK12 _ ?_
     try clear hK12 K12
     have hld := laid_ref b gn i hb2 (hrb b hbm) (by omega) (by omega)
     have hAi := hAt i b hb
     obtain ⟨W, hW⟩ : ∃ W, W = secL b gn i := ⟨_, rfl⟩
     have hW32 : ∀ w ∈ W, w.length ≤ 32 := by rw [hW]; exact secL_32
     have hWl : W.length ≤ 7 := by rw [hW]; exact secL_size hb2
     obtain ⟨S, hS⟩ : ∃ S, S = flatL b gn i := ⟨_, rfl⟩
     obtain ⟨W32, hW32e⟩ : ∃ W32, W32 = 32 * W.length := ⟨_, rfl⟩
     have hSl : S.length = W32 := by rw [hS, flatL_len, hW32e, hW]
     have hSf : S = (W.map pad).flatten := by rw [hS, hW]; rfl
     rw [← hS, ← hW, ← hW32e] at hld
     rw [← hW] at hAi
     have htt : totL (A.take (i + 1)) = totL (A.take i) + W.length := totL_succ hAi
     obtain ⟨wl, hwl⟩ : ∃ wl, wl = W.length := ⟨_, rfl⟩
     have hwl32 : wl = W32 / 32 := by omega
     have t1 : (W32 : Int).tdiv 32 = (wl : Int) := by rw [hwl32]; rfl
     have t2 : IntKind.i64.wrap (wl : Int) = (wl : Int) := w64 (by omega) (by omega)
     have w2 : IntKind.i64.wrap ((g.gen : Int) + 1) = (gn : Int) := (w64 (by omega) (by omega)).trans (by omega)
     have htl2 : totL (A.take (i + 1)) ≤ 7 * (i + 1) := by omega
     have t3 : IntKind.i64.wrap (1 + (totL (A.take i) : Int) + (wl : Int)) = 1 + (totL (A.take i) : Int) + (wl : Int) := w64 (by omega) (by omega)
     have hall2 : ∀ (j : Nat) c, j < i + 1 → rs[j]? = some c → c.length ≤ 200 := fun j c hj hc => by
       by_cases e : j = i
       · subst e; rw [hb] at hc; cases hc; exact hb2
       · exact hall j c (by omega) hc
     refine vwp_live [0, 1, 5, 6] (vwp_storm hT hm [.pure, .pure, .pure, .win 0 0, .win 0 0, .pure, .win 0 0, .win 0 0, .win 0 0, .win 0 0, .pure, .mv, .win 1 1, .win 1 1, .win 1 1, .pure] [[], [], [], [1, 2], [1, 2, 3], [], [5], [5, 6], [5, 6, 7], [5, 6, 7, 8], [], [1, 2, 3, 4, 5, 6, 7, 8, 9, 10], [1, 2, 3, 4, 5, 6, 7, 8, 9, 10, 11], [1, 2, 3, 4, 5, 6, 7, 8, 9, 10, 11, 12], [0, 1, 2, 3, 4, 5, 6, 7, 8, 9, 10, 11, 12, 13], [0, 1, 2, 3, 4, 5, 6, 7, 8, 9, 10, 11, 12, 13, 14]] (by kernel_rfl) ?_)
     simp [hb, w2, t1, t2, t3]
     repeat refine ⟨by first | assumption | omega | (intros; omega), ?_⟩
     refine ⟨.sl 4 W32 1 0 W32, rlobs g d ++ [.live (bts S)], fun sl => ?_, ?_⟩
     · refine vcall_k [] (hld) ?_
       rintro r ob' ⟨rfl, rfl⟩
       simp
     simp [hb, w2, t1, t2, t3]
     repeat refine ⟨by first | assumption | omega | (intros; omega), ?_⟩
     refine hK11 _ ?_
     try clear hK11 K11
     have w1 : IntKind.i64.wrap ((i : Int) + 1) = i + 1 := w64 (by omega) (by omega)
     refine vwp_live [0, 1, 5, 6] (vwp_region hT ?_)
     simp [w1]
     exact hK8 (i + 1) _ (Gh.to_k [0, 1, 5, 6] [0, 1, 2, 3] (he := by simp [htt, hwl]; omega)) (⟨by omega, htl2, hall2⟩) (by omega)
   · simp -failIfUnchanged at h2; all_goals
    refine vwp_exit ?_
    simp only [inBlk, thenQ, if_true]
    refine hK6 _ ?_
    try clear hK6 K6
    refine vwp_seq_k fun K15 hK15 => ?_
    have hi2 : i = rs.length := by omega
    subst hi2
    have hAe : A.take rs.length = A := List.take_of_length_le (by omega)
    rw [hAe] at htl
    have hno := any_no (rs := rs) fun b hb => by
      obtain ⟨j, hj⟩ := List.getElem?_of_mem hb
      exact hall j b (List.getElem?_eq_some_iff.1 hj).1 hj
    obtain ⟨T, hTe⟩ : ∃ T, T = totL A := ⟨_, rfl⟩
    refine vwp_gh (st' := ⟨[(0, .ptr 0 6 0), (1, sBB rs), (5, .int .i64 (1 + (T : Int)))], rlobs g d⟩) (Gh.to_k [0, 1, 5] [0, 1, 2, 3] (he := by simp [hAe, hTe])) ?_
    have hap0 : res = if n / 2 < 1 + totL A ∨ g.gen = 2147483647 then (4, g, d) else
        let w := wipeK n hf 0 (n / 2) g d
        if w.1 = 0 then
          let l := layAll n hf A 1 w.2.1 w.2.2
          if l.1 = 0 then
            let e := l.2.2.write n ((hf * (n / 2) + 0 : Nat) : Int) (headL gn)
            if e.1 = 0 then (0, (l.2.1.wrote 0).only hf gn rs (1 + totL A), e.2)
            else (e.1, l.2.1.wrote e.1, e.2)
          else l
        else w := by rw [hres, onlyL, if_neg hbr, if_neg hno, ← hgn, ← hhf, ← hA]
    rw [← hTe, ← hp] at hap0
    have hps := per_ref d n hd
    rw [← hp] at hps
    refine vwp_sq [0, 1, 5] fun K16 hK16 => vwp_region hT ?_
    simp [Dk.robs]
    refine vcall_k [1, 2] (hps) ?_ (hh := by simp [Dk.robs])
    rintro r ob' ⟨rfl, rfl⟩
    simp [Dk.robs]
    refine hK16 _ ?_
    try clear hK16 K16
    refine vwp_cond (by first | rfl | (simp; rfl)) (fun h4 => ?_) fun h4 => ?_
    · simp -failIfUnchanged at h4; all_goals
     have q := h4
     have hfull : p < 1 + T ∨ g.gen = 2147483647 := by
       clear hap0 hps; omega
     have hap : res = (4, g, d) := by rw [hap0, if_pos hfull]
     refine vwp_sq [] fun K17 hK17 => vwp_region hT ?_
     simp
     refine hK17 _ ?_
     try clear hK17 K17
     refine vwp_ret (hR _ _ ?_)
     rw [← hres, hap]
     exact ret_k [4] [0, 1, 2, 3] (rlobs g d) (.int .i64 4) (⟨rfl, .inr ⟨by simp, rfl⟩⟩)
    · simp -failIfUnchanged at h4; all_goals
     have q := h4
     have hnf : ¬ (p < 1 + T ∨ g.gen = 2147483647) := by
       clear hap0 hps; omega
     rw [if_neg hnf] at hap0
     refine vwp_skip ?_
     refine hK15 _ ?_
     try clear hK15 K15
     have w1 : IntKind.i64.wrap (1 - (g.half : Int)) = (hf : Int) := (w64 (by omega) (by omega)).trans (by omega)
     refine vwp_sq [0, 1, 5] fun K18 hK18 => vwp_region hT ?_
     simp [w1]
     refine hK18 _ ?_
     try clear hK18 K18
     have hT1 : 1 + T ≤ p := by omega
     have hwp := wipe_ref g d n hd hbt hf 0 (by omega) (by omega)
     have hz : (((0 : Nat) : Int)) = 0 := rfl
     rw [← hp, Nat.sub_zero, hz] at hwp
     have hk := wipeK_log (n := n) (h := hf) (down := 0) p g d
     have hok := wipeK_ok (n := n) (h := hf) (down := 0) p g d hd
     obtain ⟨L, hL⟩ : ∃ L, L = wipeK n hf 0 p g d := ⟨_, rfl⟩
     rw [← hL] at hwp hk hap0 hok
     obtain ⟨we, wg, wd⟩ := L
     dsimp only at hwp hk hap0 hok
     obtain ⟨LA, hLA⟩ : ∃ LA, LA = layAll n hf A 1 wg wd := ⟨_, rfl⟩
     have hLl := layAll_log (n := n) (h := hf) A 1 wg wd
     rw [← hLA] at hLl
     rw [← hLA] at hap0
     have hrbad : we = 0 → LA.1 ≠ 0 → res = (LA.1, { g with broken := true }, LA.2.2) := fun h0 h1 => by
       rw [hap0, if_pos h0, if_neg h1]
       obtain ⟨a, b, c⟩ := LA
       dsimp only at hLl h1 ⊢
       rw [hLl, hk]
       simp [h1]
     have hall2 : ∀ b ∈ rs, b.length ≤ 200 := fun b hb => by
       by_cases q : 200 < b.length
       · exact absurd (by rw [List.any_eq_true]; exact ⟨b, hb, by simpa using q⟩) hno
       · omega
     refine vwp_sq [0, 1, 5, 7] fun K19 hK19 => vwp_region hT ?_
     simp [Dk.robs]
     refine vcall_k [1, 2] (hwp) ?_ (hh := by simp [Dk.robs])
     rintro r ob' ⟨rfl, rfl⟩
     simp [Dk.robs]
     refine hK19 _ ?_
     try clear hK19 K19
     refine vwp_sq [0, 1, 5, 7, 8] fun K20 hK20 => vwp_region hT ?_
     simp
     refine hK20 _ ?_
     try clear hK20 K20
     refine vwp_sq [0, 1, 5, 7, 8, 9] fun K21 hK21 => vwp_region hT ?_
     simp
     refine hK21 _ ?_
     try clear hK21 K21
     refine vwp_cut_s (fun v : Int × Dk × Nat => ⟨[(0, .ptr 0 6 0), (5, .int .i64 (1 + (T : Int))), (7, .int .i64 (hf : Int)), (8, .int .i64 v.1), (10, .sl 4 v.2.2 1 0 v.2.2)], rlobs g v.2.1 ++ [.live ((rs.take v.2.2).map sB)]⟩) (fun v => v.2.1.ok n ∧ (v.1 = 0 ∧ we = 0 ∧ v.2.2 = rs.length ∧ (∃ g2, LA = (0, g2, v.2.1)) ∨ v.1 ≠ 0 ∧ res = (v.1, { g with broken := true }, v.2.1))) (fun K22 hK22 => ?_) ?_
     · refine vwp_sq [0, 1, 5, 7, 8, 9, 10] fun K23 hK23 => vwp_region hT ?_
       simp
       refine hK23 _ ?_
       try clear hK23 K23
       refine vwp_block ?_
       refine vwp_loop_s (fun u : Nat × Int × Dk => ⟨[(0, .ptr 0 6 0), (1, sBB rs), (5, .int .i64 (1 + (T : Int))), (7, .int .i64 (hf : Int)), (8, .int .i64 u.2.1), (9, .int .i64 (1 + (totL (A.take u.1) : Int))), (10, .sl 4 u.1 1 0 u.1), (11, .int .i64 (u.1 : Int))], rlobs g u.2.2 ++ [.live ((rs.take u.1).map sB)]⟩) (fun u => u.1 ≤ rs.length ∧ u.2.2.ok n ∧ (u.2.1 = 0 ∧ we = 0 ∧ (∃ g2, layAll n hf (A.drop u.1) (1 + totL (A.take u.1)) g2 u.2.2 = LA) ∨ u.2.1 ≠ 0 ∧ res = (u.2.1, { g with broken := true }, u.2.2))) (fun u => rs.length - u.1) ((0, we, wd)) (Gh.to_k [0, 1, 5, 7, 8, 9, 10, 11] [0, 1, 2, 3, 4] (he := by simp [totL]) (hh := by simp [Dk.robs])) (⟨Nat.zero_le _, hok, by
         by_cases h0 : we = 0
         · exact .inl ⟨h0, h0, wg, by rw [hLA]; simp [totL]⟩
         · refine .inr ⟨h0, ?_⟩
           dsimp only
           rw [hap0, if_neg h0, hk]
           simp [h0]⟩) ?_
       rintro ⟨i, e, d2⟩ ⟨hi, hd2, hw⟩
       dsimp only at hi hd2 hw ⊢
       intro K24 hK24
       refine vwp_seq_k fun K25 hK25 => ?_
       refine vwp_seq_k fun K26 hK26 => ?_
       by_cases hil : i < rs.length
       · have hil2 : (i : Int) < (rs.length : Int) := by omega
         refine vwp_live [0, 1, 5, 7, 8, 9, 10, 11] (vwp_region hT ?_)
         simp [hil, hil2]
         refine hK26 _ ?_
         try clear hK26 K26
         refine vwp_cond (by first | rfl | (simp; rfl)) (fun h5 => ?_) fun h5 => ?_
         · simp -failIfUnchanged at h5; all_goals
          have q := h5
          have he0 : e = 0 := by simpa using q
          obtain ⟨_, hwe0, g2, hla⟩ := hw.resolve_right fun q => q.1 he0
          subst he0
          obtain ⟨b, hb⟩ := getI (l := rs) (i := i) (by omega)
          have hbm := List.mem_of_getElem? hb
          have hbn := hrn b hbm
          have hb2 : b.length ≤ 200 := hall2 b hbm
          have hbi := hb
          have hld := laid_ref b gn i hb2 (hrb b hbm) (by omega) (by omega)
          have hAi := hAt i b hb
          obtain ⟨W, hW⟩ : ∃ W, W = secL b gn i := ⟨_, rfl⟩
          have hW32 : ∀ w ∈ W, w.length ≤ 32 := by rw [hW]; exact secL_32
          have hWl : W.length ≤ 7 := by rw [hW]; exact secL_size hb2
          obtain ⟨S, hS⟩ : ∃ S, S = flatL b gn i := ⟨_, rfl⟩
          obtain ⟨W32, hW32e⟩ : ∃ W32, W32 = 32 * W.length := ⟨_, rfl⟩
          have hSl : S.length = W32 := by rw [hS, flatL_len, hW32e, hW]
          have hSf : S = (W.map pad).flatten := by rw [hS, hW]; rfl
          rw [← hS, ← hW, ← hW32e] at hld
          rw [← hW] at hAi
          have htt : totL (A.take (i + 1)) = totL (A.take i) + W.length := totL_succ hAi
          obtain ⟨wl, hwl⟩ : ∃ wl, wl = W.length := ⟨_, rfl⟩
          have hwl32 : wl = W32 / 32 := by omega
          have t1 : (W32 : Int).tdiv 32 = (wl : Int) := by rw [hwl32]; rfl
          have t2 : IntKind.i64.wrap (wl : Int) = (wl : Int) := w64 (by omega) (by omega)
          have w2 : IntKind.i64.wrap ((g.gen : Int) + 1) = (gn : Int) := (w64 (by omega) (by omega)).trans (by omega)
          have htk := totL_take A (i + 1)
          rw [← hTe] at htk
          have hdr : A.drop i = W :: A.drop (i + 1) := by
            rw [List.getElem?_eq_some_iff] at hAi
            obtain ⟨hlt, hAi⟩ := hAi
            rw [← hAi, ← List.drop_eq_getElem_cons hlt]
          rw [hdr, layAll] at hla
          obtain ⟨at_, hat⟩ : ∃ at_, at_ = 1 + totL (A.take i) := ⟨_, rfl⟩
          have hat2 : 1 + (totL (A.take i) : Int) = (at_ : Int) := by omega
          rw [← hat] at hla
          have hmin : min i rs.length = i := by omega
          refine vwp_skip ?_
          refine hK25 _ ?_
          try clear hK25 K25
          refine vwp_seq_k fun K27 hK27 => ?_
          refine vwp_block ?_
          refine vwp_sq [0, 1, 5, 7, 9, 10, 11] fun K28 hK28 => vwp_storm hT hm [.pure, .pure, .win 0 0, .win 0 0, .pure, .win 0 0, .win 0 0, .win 0 0, .win 0 0, .pure, .mv, .pure] [[], [], [0, 1], [0, 1, 2], [], [4], [4, 5], [4, 5, 6], [4, 5, 6, 7], [], [0, 1, 2, 3, 4, 5, 6, 7, 8, 9], [0, 1, 2, 3, 4, 5, 6, 7, 8, 9, 10]] (by kernel_rfl) ?_
          simp [hb, w2]
          repeat refine ⟨by first | assumption | omega | (intros; omega), ?_⟩
          refine ⟨.sl 5 W32 1 0 W32, rlobs g d2 ++ [.live ((rs.take i).map sB), .live (bts S)], fun sl => ?_, ?_⟩
          · refine vcall_k [] (hld) ?_
            rintro r ob' ⟨rfl, rfl⟩
            simp
          simp [hb, w2]
          repeat refine ⟨by first | assumption | omega | (intros; omega), ?_⟩
          refine hK28 _ ?_
          try clear hK28 K28
          refine vwp_gh (Gh.freeze 5 (by rfl) (by intro c hc; simp at hc; obtain ⟨z, _, rfl⟩ := hc; rfl)) ?_
          refine vwp_gh (st' := ⟨[(0, .ptr 0 6 0), (1, sBB rs), (5, .int .i64 (1 + (T : Int))), (7, .int .i64 (hf : Int)), (9, .int .i64 (at_ : Int)), (10, .sl 4 i 1 0 i), (11, .int .i64 (i : Int)), (12, .fs W32 (bts S))], rlobs g d2 ++ [.live ((rs.take i).map sB)]⟩) (Gh.to_k [0, 1, 5, 7, 9, 10, 11, 12] [0, 1, 2, 3, 4] (he := by simp [hSl, hat2, List.take_of_length_le]) (hs := by simp [hSl])) ?_
          have hly := lay_ref g2 d2 n hd2 hf at_ (by omega) W (by rw [← hp]; omega) hW32
          have hok2 := layK_ok (n := n) (h := hf) (at_ := at_) (ss := W) W.length g2 d2 hd2
          rw [← hSf] at hly
          obtain ⟨L2, hL2⟩ : ∃ L2, L2 = layK n hf at_ W W.length g2 d2 := ⟨_, rfl⟩
          rw [← hL2] at hly hla hok2
          obtain ⟨le, g3, d3⟩ := L2
          dsimp only at hly hla hok2
          have hd3 := hok2
          have hw3 : (le = 0 ∧ we = 0 ∧ (∃ g2, layAll n hf (A.drop (i + 1)) (1 + totL (A.take (i + 1))) g2 d3 = LA) ∨ le ≠ 0 ∧ res = (le, { g with broken := true }, d3)) := by
            by_cases h0 : le = 0
            · rw [if_pos h0] at hla
              exact .inl ⟨h0, hwe0, g3, by rw [htt, ← hla, hat, Nat.add_assoc]⟩
            · rw [if_neg h0] at hla
              refine .inr ⟨h0, ?_⟩
              have := hrbad hwe0 (by rw [← hla]; exact h0)
              rw [this, ← hla]
          refine vwp_sq [0, 1, 5, 7, 9, 10, 11, 12] fun K29 hK29 => vwp_region hT ?_
          simp [Dk.robs]
          refine vcall_k [1, 2] (hly) ?_ (hh := by simp [Dk.robs]) (ha := by simp [hSl])
          rintro r ob' ⟨rfl, rfl⟩
          simp [Dk.robs]
          refine hK29 _ ?_
          try clear hK29 K29
          have t3 : IntKind.i64.wrap ((at_ : Int) + (wl : Int)) = (at_ : Int) + (wl : Int) := w64 (by omega) (by omega)
          refine vwp_sq [0, 1, 5, 7, 8, 9, 10, 11, 12] fun K30 hK30 => vwp_region hT ?_
          simp [t1, t2, t3]
          repeat refine ⟨by first | assumption | omega | (intros; omega), ?_⟩
          refine hK30 _ ?_
          try clear hK30 K30
          have hbk : List.take b.length (bts b) = bts b := List.take_of_length_le (by simp)
          refine vwp_live [0, 1, 5, 7, 8, 9, 10, 11] (vwp_region hT ?_)
          simp [hb, hmin, hbk]
          repeat refine ⟨by first | assumption | omega | (intros; omega), ?_⟩
          refine hK27 _ ?_
          try clear hK27 K27
          refine vwp_gh ((Gh.freeze 5 (by rfl) (by intro c hc; simp at hc; obtain ⟨z, _, rfl⟩ := hc; rfl)).trans (Gh.cellFs 5 4 i (tot := b.length) (esz := 1) (off := 0) (n := b.length) (by rfl) (by simp [hmin]) (by rfl) (by simp))) ?_
          refine vwp_gh (st' := ⟨[(0, .ptr 0 6 0), (1, sBB rs), (5, .int .i64 (1 + (T : Int))), (7, .int .i64 (hf : Int)), (8, .int .i64 le), (9, .int .i64 ((at_ : Int) + (wl : Int))), (10, .sl 4 (i + 1) 1 0 (i + 1)), (11, .int .i64 (i : Int))], rlobs g d3 ++ [.live ((rs.take (i + 1)).map sB)]⟩) (Gh.to_k [0, 1, 5, 7, 8, 9, 10, 11] [0, 1, 2, 3, 4] (hh := by simp [List.take_add_one, hbi, hmin, List.take_of_length_le])) ?_
          have w1 : IntKind.i64.wrap ((i : Int) + 1) = i + 1 := w64 (by omega) (by omega)
          refine vwp_live [0, 1, 5, 7, 8, 9, 10, 11] (vwp_region hT ?_)
          simp [w1]
          exact hK24 ((i + 1, le, d3)) _ (Gh.to_k [0, 1, 5, 7, 8, 9, 10, 11] [0, 1, 2, 3, 4] (he := by simp [htt, hwl]; omega) (hh := by simp)) (⟨by dsimp only; omega, hd3, hw3⟩) (by dsimp only; omega)
         · simp -failIfUnchanged at h5; all_goals
          have q := h5
          have he0 : ¬ e = 0 := by simpa using q
          refine vwp_exit ?_
          simp only [inBlk, thenQ, if_true]
          exact hK22 (e, d2, i) _ (Gh.to_k [0, 5, 7, 8, 10] [0, 1, 2, 3, 4]) (⟨hd2, .inr (hw.resolve_left fun q => he0 q.1)⟩)
       · have hil2 : ¬ (i : Int) < (rs.length : Int) := by omega
         have hie : i = rs.length := by omega
         refine vwp_live [0, 1, 5, 7, 8, 9, 10, 11] (vwp_region hT ?_)
         simp [hil, hil2]
         refine hK26 _ ?_
         try clear hK26 K26
         refine vwp_cond (by first | rfl | (simp; rfl)) (fun h6 => ?_) fun h6 => ?_
         · simp -failIfUnchanged at h6; all_goals
          refine vwp_skip ?_
          refine hK25 _ ?_
          try clear hK25 K25
          refine vwp_seq_k fun K31 hK31 => ?_
          refine vwp_block ?_
          refine vwp_seq_k fun K32 hK32 => ?_
          simp at *
         · simp -failIfUnchanged at h6; all_goals
          refine vwp_exit ?_
          simp only [inBlk, thenQ, if_true]
          exact hK22 (e, d2, i) _ (Gh.to_k [0, 5, 7, 8, 10] [0, 1, 2, 3, 4]) (⟨hd2, by
            rcases hw with ⟨q1, q2, g2, q3⟩ | q
            · refine .inl ⟨q1, q2, hie, g2, ?_⟩
              rw [hie, List.drop_of_length_le (by omega), layAll] at q3
              exact q3.symm
            · exact .inr q⟩)
     · rintro ⟨e, d2, k⟩ ⟨hd2, hw⟩
       dsimp only at hd2 hw ⊢
       refine vwp_cut_s (fun v : Int × Dk × Nat => ⟨[(0, .ptr 0 6 0), (5, .int .i64 (1 + (T : Int))), (7, .int .i64 (hf : Int)), (8, .int .i64 v.1), (10, .sl 4 v.2.2 1 0 v.2.2)], rlobs g v.2.1 ++ [.live ((rs.take v.2.2).map sB)]⟩) (fun v => (v.1 = 0 ∧ v.2.2 = rs.length ∧ res = (0, ⟨hf, gn, rs, 1 + T, false⟩, v.2.1)) ∨ v.1 ≠ 0 ∧ res = (v.1, { g with broken := true }, v.2.1)) (fun K33 hK33 => ?_) ?_
       · refine vwp_sq [0, 5, 7, 8, 10] fun K34 hK34 => vwp_region hT ?_
         simp
         refine hK34 _ ?_
         try clear hK34 K34
         refine vwp_cond (by first | rfl | (simp; rfl)) (fun h7 => ?_) fun h7 => ?_
         · simp -failIfUnchanged at h7; all_goals
          have q := h7
          have he0 : e = 0 := by simpa using q
          obtain ⟨_, hwe0, rfl, g2, hla⟩ := hw.resolve_right fun q => q.1 he0
          subst he0
          have hps := per_ref d2 n hd2
          rw [← hp] at hps
          obtain ⟨ix, hix⟩ : ∃ ix, ix = hf * p := ⟨_, rfl⟩
          have hixn : ix < n := by
            have : hf = 0 ∨ hf = 1 := by omega
            rcases this with e | e <;> rw [hix, e] <;> omega
          have w2 : IntKind.i64.wrap ((g.gen : Int) + 1) = (gn : Int) := (w64 (by omega) (by omega)).trans (by omega)
          have w3 : IntKind.i64.wrap ((hf : Int) * (p : Int)) = (ix : Int) := by rw [← Int.natCast_mul, ← hix]; exact w64 (by omega) (by omega)
          have hhd := head_ref gn (by omega)
          obtain ⟨HL, hHL⟩ : ∃ HL, HL = headL gn := ⟨_, rfl⟩
          have hHl : HL.length = 32 := by rw [hHL]; exact headL_len gn
          have hws := rwrite_spec d2 n hd2 (ix : Int) HL
          rw [← hHL] at hhd hap0
          obtain ⟨xe, hxe⟩ : ∃ xe, xe = (d2.write n (ix : Int) HL).1 := ⟨_, rfl⟩
          obtain ⟨d3, hd3e⟩ : ∃ d3, d3 = (d2.write n (ix : Int) HL).2 := ⟨_, rfl⟩
          rw [← hxe, ← hd3e] at hws
          rw [hla] at hLl
          dsimp only at hLl
          have hw3 : (xe = 0 ∧ rs.length = rs.length ∧ res = (0, ⟨hf, gn, rs, 1 + T, false⟩, d3)) ∨ xe ≠ 0 ∧ res = (xe, { g with broken := true }, d3) := by
            rw [if_pos hwe0, hla] at hap0
            dsimp only at hap0
            rw [if_pos rfl, Nat.add_zero, ← hix, ← hxe, ← hd3e] at hap0
            by_cases h0 : xe = 0
            · rw [if_pos h0] at hap0
              refine .inl ⟨h0, rfl, ?_⟩
              rw [hap0, hLl, hk, hwe0]
              simp [Lg.only, Lg.wrote, hbr]
            · rw [if_neg h0] at hap0
              refine .inr ⟨h0, ?_⟩
              rw [hap0, wrote_log h0, hLl, hk]
          refine vwp_live [0, 5, 7, 10] (vwp_storm hT hm [.pure, .win 0 2, .win 0 2, .win 0 2, .pure, .pure, .win 0 0, .win 0 0, .win 0 0, .mv, .win 1 2, .pure, .win 0 1, .win 0 1, .win 0 1, .win 0 1, .mv, .mv, .pure] [[], [0], [0, 1], [0, 1, 2], [], [], [5], [5, 6], [5, 6, 7], [5, 6, 7, 8], [4, 5, 6, 7, 8, 9], [], [11], [11, 12], [11, 12, 13], [11, 12, 13, 14], [5, 6, 7, 8, 9, 11, 12, 13, 14, 15], [0, 1, 2, 3, 4, 5, 6, 7, 8, 9, 10, 11, 12, 13, 14, 15, 16], [0, 1, 2, 3, 4, 5, 6, 7, 8, 9, 10, 11, 12, 13, 14, 15, 16, 17]] (by kernel_rfl) ?_)
          simp [w2, w3]
          refine ⟨.int .i64 (p : Int), rlobs g d2 ++ [.live ((rs.take rs.length).map sB)], fun sl => ?_, ?_⟩
          · refine vcall_k [1, 2] (hps) ?_ (hh := by simp [Dk.robs])
            rintro r ob' ⟨rfl, rfl⟩
            simp [Dk.robs]
          simp [w2, w3]
          refine ⟨.sl 5 32 1 0 32, rlobs g d2 ++ [.live ((rs.take rs.length).map sB), .live (bts HL)], fun sl => ?_, ?_⟩
          · refine vcall_k [] (hhd) ?_
            rintro r ob' ⟨rfl, rfl⟩
            simp
          simp [w2, w3]
          refine ⟨.int .i64 xe, rlobs g d3 ++ [.live ((rs.take rs.length).map sB), .frz (bts HL)], fun sl => ?_, ?_⟩
          · refine vcall_freeze 5 (by rfl) (by intro c hc; simp at hc; obtain ⟨z, _, rfl⟩ := hc; rfl) ?_
            refine vcall_k [1, 2] (hws) ?_ (hh := by simp [Dk.robs]) (ha := by simp [hHl, List.take_of_length_le]) (hok := by simp [hHl])
            rintro r ob' ⟨rfl, rfl⟩
            simp [Dk.robs]
          simp [w2, w3]
          exact hK33 (xe, d3, rs.length) _ (Gh.to_k [0, 5, 7, 8, 10] [0, 1, 2, 3, 4]) hw3
         · simp -failIfUnchanged at h7; all_goals
          have q := h7
          have he0 : ¬ e = 0 := by simpa using q
          refine vwp_skip ?_
          exact hK33 (e, d2, k) _ (Gh.to_k [0, 5, 7, 8, 10] [0, 1, 2, 3, 4]) (.inr (hw.resolve_left fun q => he0 q.1))
       · rintro ⟨e, d3, k⟩ hw
         dsimp only at hw ⊢
         refine vwp_seq_k fun K35 hK35 => ?_
         refine vwp_sq [0, 5, 7, 8, 10] fun K36 hK36 => vwp_region hT ?_
         simp
         refine hK36 _ ?_
         try clear hK36 K36
         refine vwp_cond (by first | rfl | (simp; rfl)) (fun h8 => ?_) fun h8 => ?_
         · simp -failIfUnchanged at h8; all_goals
          have q := h8
          have hwe0 : ¬ e = 0 := by simpa using q
          obtain ⟨g2, hg2⟩ : ∃ g2, g2 = { g with broken := true } := ⟨_, rfl⟩
          have hap := (hw.resolve_left fun q => hwe0 q.1).2
          rw [← hg2] at hap
          refine vwp_sq [0, 8] fun K37 hK37 => vwp_region hT ?_
          simp
          repeat refine ⟨by first | assumption | omega | (intros; omega), ?_⟩
          refine hK37 _ ?_
          try clear hK37 K37
          refine vwp_sq [8] fun K38 hK38 => vwp_region hT ?_
          simp
          refine hK38 _ ?_
          try clear hK38 K38
          refine vwp_ret (hR _ _ ?_)
          rw [← hres, hap]
          exact ret_k [4] [0, 1, 2, 3] (rlobs g2 d3) (.int .i64 e) (⟨rfl, .inr ⟨hwe0, rfl⟩⟩) (hh := by rw [hg2]; simp)
         · simp -failIfUnchanged at h8; all_goals
          have q := h8
          have hwe0 : e = 0 := by simpa using q
          obtain ⟨_, rfl, hap⟩ := hw.resolve_right fun q => q.1 hwe0
          obtain ⟨gf, hgf⟩ : ∃ gf, gf = (⟨hf, gn, rs, 1 + T, false⟩ : Lg) := ⟨_, rfl⟩
          rw [← hgf] at hap
          refine vwp_skip ?_
          refine hK35 _ ?_
          try clear hK35 K35
          refine vwp_sq [0, 5, 7, 10] fun K39 hK39 => vwp_region hT ?_
          simp
          repeat refine ⟨by first | assumption | omega | (intros; omega), ?_⟩
          refine hK39 _ ?_
          try clear hK39 K39
          have w2 : IntKind.i64.wrap ((g.gen : Int) + 1) = (gn : Int) := (w64 (by omega) (by omega)).trans (by omega)
          refine vwp_sq [0, 5, 10] fun K40 hK40 => vwp_region hT ?_
          simp [w2]
          repeat refine ⟨by first | assumption | omega | (intros; omega), ?_⟩
          refine hK40 _ ?_
          try clear hK40 K40
          refine vwp_sq [0, 5, 10] fun K41 hK41 => vwp_region hT ?_
          simp
          repeat refine ⟨by first | assumption | omega | (intros; omega), ?_⟩
          refine hK41 _ ?_
          try clear hK41 K41
          refine vwp_sq [0, 5] fun K42 hK42 => vwp_region hT ?_
          simp
          repeat refine ⟨by first | assumption | omega | (intros; omega), ?_⟩
          refine hK42 _ ?_
          try clear hK42 K42
          refine vwp_sq [] fun K43 hK43 => vwp_region hT ?_
          simp
          refine hK43 _ ?_
          try clear hK43 K43
          refine vwp_ret (hR _ _ ?_)
          rw [← hres, hap]
          exact ret_k [4] [0, 1, 2, 3, 4] ([rlogP 4 gf, dskR d3, .live (bts d3.B), .live (g.rows.map sB), .live (gf.rows.map sB)]) (.int .i64 0) (⟨rfl, .inl ⟨rfl, _, rfl⟩⟩) (hh := by rw [hgf]; simp [hbr])
end Go.Proofs.Ytifhbgppjblobaa
