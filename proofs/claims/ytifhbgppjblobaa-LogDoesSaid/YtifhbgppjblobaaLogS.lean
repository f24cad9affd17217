/- Only. -/
import Derived.Test.YtifhbgppjblobaaLogR
namespace Go.Proofs.Ytifhbgppjblobaa
open Go Go.VX Go.RowKit
set_option linter.unusedVariables false
set_option linter.unusedSimpArgs false
set_option maxHeartbeats 20000000
set_option maxRecDepth 100000

/-- The sectors of records, each. -/
def allL (gen : Nat) : Nat → List (List Int) → List (List (List Int))
  | _, [] => []
  | p, b :: l => secL b gen p :: allL gen (p + 1) l
theorem allL_len {gen : Nat} : ∀ (p : Nat) (l : List (List Int)), (allL gen p l).length = l.length
  | _, [] => rfl
  | p, b :: l => by simp [allL, allL_len (p + 1) l]
theorem allL_at {gen : Nat} : ∀ (p : Nat) (l : List (List Int)) (i : Nat) (b : List Int), l[i]? = some b → (allL gen p l)[i]? = some (secL b gen (p + i))
  | p, [], i, b, h => by simp at h
  | p, c :: l, 0, b, h => by simp at h; subst h; simp [allL]
  | p, c :: l, i + 1, b, h => by
    have := allL_at (gen := gen) (p + 1) l i b (by simpa using h)
    simp only [allL, List.getElem?_cons_succ, this]
    congr 2
    omega
def totL (A : List (List (List Int))) : Nat := (A.map List.length).sum
theorem totL_succ {A : List (List (List Int))} {i : Nat} {s : List (List Int)} (h : A[i]? = some s) : totL (A.take (i + 1)) = totL (A.take i) + s.length := by
  simp [totL, List.take_add_one, h]
theorem totL_take (A : List (List (List Int))) (i : Nat) : totL (A.take i) ≤ totL A := by
  have : totL A = totL (A.take i) + totL (A.drop i) := by
    unfold totL
    rw [← List.sum_append, ← List.map_append, List.take_append_drop]
  omega
def layAll (n h : Nat) : List (List (List Int)) → Nat → Lg → Dk → Int × Lg × Dk
  | [], _, g, d => (0, g, d)
  | s :: r, at_, g, d =>
    if (layK n h at_ s s.length g d).1 = 0 then layAll n h r (at_ + s.length) (layK n h at_ s s.length g d).2.1 (layK n h at_ s s.length g d).2.2
    else layK n h at_ s s.length g d
abbrev logW (r : Nat) (g : Lg) : Ob := .live [.ptr 1 5 0, .int .i64 g.half, .int .u32 g.gen, .sl r g.rows.length 1 0 g.rows.length, .int .i64 g.fin, .bool g.broken]
/-- What there is behind an Only: rows of its own, where it did. -/
def onlyQ (n : Nat) (x : Int × Lg × Dk) (ob' : List Ob) : Prop :=
  (x.1 = 0 ∧ ∃ old, ob' = [logW 4 x.2.1, dskOb x.2.2 n, .live (bts x.2.2.B), .live old, .live (x.2.1.rows.map sB)]) ∨ (x.1 ≠ 0 ∧ ob' = lobs x.2.1 x.2.2 n)
def Lg.only (g : Lg) (h gen : Nat) (rs : List (List Int)) (fin : Nat) : Lg := { g with half := h, gen := gen, rows := rs, fin := fin }
def onlyL (g : Lg) (d : Dk) (n : Nat) (rs : List (List Int)) : Int × Lg × Dk :=
  if g.broken = true then (7, g, d)
  else if rs.any (fun b => decide (200 < b.length)) = true then (1, g, d)
  else if n / 2 < 1 + totL (allL (g.gen + 1) 0 rs) ∨ g.gen = 2147483647 then (4, g, d)
  else
    let w := wipeK n (1 - g.half) 0 (n / 2) g d
    if w.1 = 0 then
      let l := layAll n (1 - g.half) (allL (g.gen + 1) 0 rs) 1 w.2.1 w.2.2
      if l.1 = 0 then
        let e := l.2.2.write n (((1 - g.half) * (n / 2) + 0 : Nat) : Int) (headL (g.gen + 1))
        if e.1 = 0 then (0, (l.2.1.wrote 0).only (1 - g.half) (g.gen + 1) rs (1 + totL (allL (g.gen + 1) 0 rs)), e.2)
        else (e.1, l.2.1.wrote e.1, e.2)
      else l
    else w
theorem wipe_keeps {n h down : Nat} : ∀ (k : Nat) (g : Lg) (d : Dk), (wipeK n h down k g d).2.1.rows = g.rows ∧ (wipeK n h down k g d).2.1.fin = g.fin ∧ (wipeK n h down k g d).2.1.half = g.half ∧ (wipeK n h down k g d).2.1.gen = g.gen
  | 0, g, d => ⟨rfl, rfl, rfl, rfl⟩
  | k + 1, g, d => by
    rw [wipeK]
    split
    · exact wipe_keeps k g d
    · split
      · exact wipe_keeps k (g.wrote 0) _
      · exact ⟨rfl, rfl, rfl, rfl⟩
theorem layK_ok {n h at_ : Nat} {ss : List (List Int)} : ∀ (k : Nat) (g : Lg) (d : Dk), d.ok n → (layK n h at_ ss k g d).2.2.ok n
  | 0, g, d, hd => hd
  | k + 1, g, d, hd => by
    rw [layK]
    split
    · exact layK_ok k _ _ (write_ok hd _ _)
    · exact write_ok hd _ _
theorem wipeK_ok {n h down : Nat} : ∀ (k : Nat) (g : Lg) (d : Dk), d.ok n → (wipeK n h down k g d).2.2.ok n
  | 0, g, d, hd => hd
  | k + 1, g, d, hd => by
    rw [wipeK]
    split
    · exact wipeK_ok k _ _ hd
    · split
      · exact wipeK_ok k _ _ (write_ok hd _ _)
      · exact write_ok hd _ _
theorem any_yes {rs : List (List Int)} {i : Nat} {b : List Int} (h : rs[i]? = some b) (hl : 200 < b.length) : rs.any (fun b => decide (200 < b.length)) = true := by
  rw [List.any_eq_true]
  exact ⟨b, List.mem_of_getElem? h, by simp [hl]⟩
theorem any_no {rs : List (List Int)} (h : ∀ b ∈ rs, b.length ≤ 200) : ¬ rs.any (fun b => decide (200 < b.length)) = true := by
  rw [List.any_eq_true]
  rintro ⟨b, hb, hq⟩
  have := h b hb
  simp at hq
  omega
@[simp] theorem rn1_sBB (f : Nat → Nat) : rn1 f ∘ sBB = sBB := rfl
abbrev sBBs (A : List (List (List Int))) : List V := A.map sBB
theorem only_spec (g : Lg) (d : Dk) (n : Nat) (hd : d.ok n) (hh : g.half ≤ 1) (hg : g.gen ≤ 2147483647) (rs : List (List Int)) (hrl : rs.length < 1048576) (hrb : ∀ b ∈ rs, byteL b) (hrn : ∀ b ∈ rs, b.length < 1099511627776) : VC P 12 [.ptr 0 6 0, sBB rs] (lobs g d n) (fun r ob' => r = .int .i64 (onlyL g d n rs).1 ∧ onlyQ n (onlyL g d n rs) ob') := by
  refine VC_of_vwp_k ent_12 Try.func12 rfl (by simp) fun R hR => ?_
  refine vwp_sq [0, 1] fun K1 hK1 => vwp_region hT ?_
  simp
  refine hK1 _ ?_
  try clear hK1 K1
  refine vwp_seq_k fun K2 hK2 => ?_
  have hn4 := hd.n4
  obtain ⟨p, hp⟩ : ∃ p, p = n / 2 := ⟨_, rfl⟩
  obtain ⟨res, hres⟩ : ∃ res, res = onlyL g d n rs := ⟨_, rfl⟩
  refine vwp_sq [0, 1] fun K3 hK3 => vwp_region hT ?_
  simp
  refine hK3 _ ?_
  try clear hK3 K3
  refine vwp_cond (by first | rfl | (simp; rfl)) (fun h1 => ?_) fun h1 => ?_
  · simp -failIfUnchanged at h1; all_goals
   have hbr : g.broken = true := by simpa using h1
   have hap : res = (7, g, d) := by rw [hres, onlyL, if_pos hbr]
   refine vwp_sq [] fun K4 hK4 => vwp_region hT ?_
   simp
   refine hK4 _ ?_
   try clear hK4 K4
   refine vwp_ret (hR _ _ ?_)
   rw [← hres, hap]
   exact ret_k [4] [0, 1, 2, 3] (lobs g d n) (.int .i64 7) (⟨rfl, .inr ⟨by simp, rfl⟩⟩)
  · simp -failIfUnchanged at h1; all_goals
   have hbr : ¬ g.broken = true := by simpa using h1
   refine vwp_skip ?_
   refine hK2 _ ?_
   try clear hK2 K2
   obtain ⟨hf, hhf⟩ : ∃ hf, hf = 1 - g.half := ⟨_, rfl⟩
   obtain ⟨gn, hgn⟩ : ∃ gn, gn = g.gen + 1 := ⟨_, rfl⟩
   have w1 : IntKind.i64.wrap (1 - (g.half : Int)) = (hf : Int) := (w64 (by omega) (by omega)).trans (by omega)
   have w2 : IntKind.u32.wrap ((g.gen : Int) + 1) = (gn : Int) := (wu32 (by omega) (by omega)).trans (by omega)
   obtain ⟨A, hA⟩ : ∃ A, A = allL gn 0 rs := ⟨_, rfl⟩
   have hAl : A.length = rs.length := by rw [hA, allL_len]
   have hAt : ∀ (i : Nat) b, rs[i]? = some b → A[i]? = some (secL b gn i) := fun i b h => by
     have := allL_at (gen := gn) 0 rs i b h
     rw [Nat.zero_add] at this
     rw [hA, this]
   refine vwp_sq [0, 1] fun K5 hK5 => vwp_still hT hm (by kernel_rfl) ?_
   simp [w1, w2]
   refine hK5 _ ?_
   try clear hK5 K5
   refine vwp_sq [0, 1, 5, 6, 7] fun K6 hK6 => vwp_region hT ?_
   simp
   refine hK6 _ ?_
   try clear hK6 K6
   refine vwp_seq_k fun K7 hK7 => ?_
   refine vwp_gh (Gh.virt 8 1 (by rfl)) ?_
   simp
   refine vwp_sq [0, 1, 5, 6, 7, 8] fun K8 hK8 => vwp_region hT ?_
   simp
   refine hK8 _ ?_
   try clear hK8 K8
   refine vwp_block ?_
   refine vwp_loop_s (fun i : Nat => ⟨[(0, .ptr 0 6 0), (1, sBB rs), (5, .int .i64 (hf : Int)), (6, .int .u32 (gn : Int)), (7, .int .i64 (1 + (totL (A.take i) : Int))), (8, .sl 4 i 1 0 i), (31, sBB rs), (32, .int .i64 rs.length), (33, .int .i64 (i : Int))], lobs g d n ++ [.live ((A.take i).map sBB)]⟩) (fun i => i ≤ rs.length ∧ totL (A.take i) ≤ 7 * i ∧ ∀ (j : Nat) b, j < i → rs[j]? = some b → b.length ≤ 200) (fun i => rs.length - i) (0) (Gh.to_k [0, 1, 5, 6, 7, 8, 31, 32, 33] [0, 1, 2, 3, 4] (he := by simp [totL]) (hh := by simp)) (⟨by omega, by simp [totL], fun j b hj => by omega⟩) ?_
   rintro i ⟨hi, htl, hall⟩
   intro K9 hK9
   refine vwp_sq [0, 1, 5, 6, 7, 8, 31, 32, 33] fun K10 hK10 => vwp_region hT ?_
   simp
   refine hK10 _ ?_
   try clear hK10 K10
   refine vwp_seq_k fun K11 hK11 => ?_
   refine vwp_cond (by first | rfl | (simp; rfl)) (fun h2 => ?_) fun h2 => ?_
   · simp -failIfUnchanged at h2; all_goals
    refine vwp_skip ?_
    refine hK11 _ ?_
    try clear hK11 K11
    refine vwp_seq_k fun K12 hK12 => ?_
    refine vwp_block ?_
    obtain ⟨b, hb⟩ := getI (l := rs) (i := i) (by omega)
    have hbm := List.mem_of_getElem? hb
    have hbn := hrn b hbm
    have hmin : min i rs.length = i := by omega
    have hmin2 : min i A.length = i := by omega
    refine vwp_sq [0, 1, 5, 6, 7, 8, 31, 32, 33] fun K13 hK13 => vwp_region hT ?_
    simp [hb]
    repeat refine ⟨by first | assumption | omega | (intros; omega), ?_⟩
    refine hK13 _ ?_
    try clear hK13 K13
    refine vwp_seq_k fun K14 hK14 => ?_
    refine vwp_sq [0, 1, 5, 6, 7, 8, 9, 10, 31, 32, 33] fun K15 hK15 => vwp_region hT ?_
    simp
    refine hK15 _ ?_
    try clear hK15 K15
    refine vwp_cond (by first | rfl | (simp; rfl)) (fun h3 => ?_) fun h3 => ?_
    · simp -failIfUnchanged at h3; all_goals
     have q := h3
     have hap : res = (1, g, d) := by rw [hres, onlyL, if_neg hbr, if_pos (any_yes hb (by omega))]
     refine vwp_sq [] fun K16 hK16 => vwp_region hT ?_
     simp
     refine hK16 _ ?_
     try clear hK16 K16
     refine vwp_ret (hR _ _ ?_)
     rw [← hres, hap]
     exact ret_k [4] [0, 1, 2, 3] (lobs g d n) (.int .i64 1) (⟨rfl, .inr ⟨by simp, rfl⟩⟩)
    · simp -failIfUnchanged at h3; all_goals
     have q := h3
     have hb2 : b.length ≤ 200 := by omega
     refine vwp_skip ?_
     refine hK14 _ ?_
     try clear hK14 K14
     have hss := sectors2_spec b gn i hb2 (hrb b hbm) (by omega) (by omega)
     have hAi := hAt i b hb
     obtain ⟨W, hW⟩ : ∃ W, W = secL b gn i := ⟨_, rfl⟩
     have hWl : W.length ≤ 7 := by rw [hW]; exact secL_size hb2
     rw [← hW] at hss hAi
     have htt : totL (A.take (i + 1)) = totL (A.take i) + W.length := totL_succ hAi
     have htl2 : totL (A.take (i + 1)) ≤ 7 * (i + 1) := by omega
     have hall2 : ∀ (j : Nat) c, j < i + 1 → rs[j]? = some c → c.length ≤ 200 := fun j c hj hc => by
       by_cases e : j = i
       · subst e; rw [hb] at hc; cases hc; exact hb2
       · exact hall j c (by omega) hc
     refine vwp_sq [0, 1, 5, 6, 7, 8, 9, 10, 31, 32, 33] fun K17 hK17 => vwp_region hT ?_
     simp [hmin2]
     repeat refine ⟨by first | assumption | omega | (intros; omega), ?_⟩
     refine vcall_k [] (hss) ?_
     rintro r ob' ⟨rfl, rfl⟩
     simp [hmin2]
     repeat refine ⟨by first | assumption | omega | (intros; omega), ?_⟩
     refine hK17 _ ?_
     try clear hK17 K17
     refine vwp_gh ((Gh.freeze 5 (by rfl) (by intro c hc; simp at hc; obtain ⟨z, _, rfl⟩ := hc; rfl)).trans (Gh.cellFs 5 4 i (tot := W.length) (esz := 1) (off := 0) (n := W.length) (by rfl) (by simp [hmin2]) (by rfl) (by simp))) ?_
     refine vwp_gh (st' := ⟨[(0, .ptr 0 6 0), (1, sBB rs), (5, .int .i64 (hf : Int)), (6, .int .u32 (gn : Int)), (7, .int .i64 (1 + (totL (A.take i) : Int))), (8, .sl 4 (i + 1) 1 0 (i + 1)), (9, .int .i64 (i : Int)), (31, sBB rs), (32, .int .i64 rs.length), (33, .int .i64 (i : Int))], lobs g d n ++ [.live ((A.take (i + 1)).map sBB)]⟩) (Gh.to_k [0, 1, 5, 6, 7, 8, 9, 31, 32, 33] [0, 1, 2, 3, 4] (hh := by simp [List.take_add_one, hAi, hmin2, List.take_of_length_le])) ?_
     have hAi2 : ((A.take (i + 1)).map sBB)[i]? = some (sBB W) := by simp [List.getElem?_take, hAi]
     have w1 : IntKind.i64.wrap (1 + (totL (A.take i) : Int) + (W.length : Int)) = 1 + (totL (A.take i) : Int) + (W.length : Int) := w64 (by omega) (by omega)
     refine vwp_live [0, 1, 5, 6, 7, 8, 9, 31, 32, 33] (vwp_region hT ?_)
     simp [hAi, hAi2, w1]
     repeat refine ⟨by first | assumption | omega | (intros; omega), ?_⟩
     refine hK12 _ ?_
     try clear hK12 K12
     have w1 : IntKind.i64.wrap ((i : Int) + 1) = i + 1 := w64 (by omega) (by omega)
     refine vwp_live [0, 1, 5, 6, 7, 8, 31, 32, 33] (vwp_region hT ?_)
     simp [w1]
     exact hK9 (i + 1) _ (Gh.to_k [0, 1, 5, 6, 7, 8, 31, 32, 33] [0, 1, 2, 3, 4] (he := by simp [htt]; omega) (hh := by simp)) (⟨by omega, htl2, hall2⟩) (by omega)
   · simp -failIfUnchanged at h2; all_goals
    refine vwp_exit ?_
    simp only [inBlk, thenQ, if_true]
    refine hK7 _ ?_
    try clear hK7 K7
    refine vwp_seq_k fun K18 hK18 => ?_
    have hi2 : i = rs.length := by omega
    subst hi2
    have hAe : A.take rs.length = A := List.take_of_length_le (by omega)
    rw [hAe] at htl
    have hno := any_no (rs := rs) fun b hb => by
      obtain ⟨j, hj⟩ := List.getElem?_of_mem hb
      exact hall j b (List.getElem?_eq_some_iff.1 hj).1 hj
    obtain ⟨T, hTe⟩ : ∃ T, T = totL A := ⟨_, rfl⟩
    refine vwp_gh (Gh.freeze 4 (by rfl) (by intro c hc; obtain ⟨z, _, rfl⟩ := List.mem_map.1 (List.mem_of_mem_take hc); rfl)) ?_
    refine vwp_gh (st' := ⟨[(0, .ptr 0 6 0), (1, sBB rs), (5, .int .i64 (hf : Int)), (6, .int .u32 (gn : Int)), (7, .int .i64 (1 + (T : Int))), (8, .fs rs.length (A.map sBB))], lobs g d n⟩) (Gh.to_k [0, 1, 5, 6, 7, 8] [0, 1, 2, 3] (he := by simp [hAe, hTe, List.take_of_length_le, hAl]) (hs := by simp [hAl])) ?_
    have hap0 : res = if n / 2 < 1 + totL A ∨ g.gen = 2147483647 then (4, g, d) else
        let w := wipeK n hf 0 (n / 2) g d
        if w.1 = 0 then
          let l := layAll n hf A 1 w.2.1 w.2.2
          if l.1 = 0 then
            let e := l.2.2.write n ((hf * (n / 2) + 0 : Nat) : Int) (headL gn)
            if e.1 = 0 then (0, (l.2.1.wrote 0).only hf gn rs (1 + totL A), e.2)
            else (e.1, l.2.1.wrote e.1, e.2)
          else l
        else w := by rw [hres, onlyL, if_neg hbr, if_neg hno, ← hgn, ← hhf, ← hA]
    rw [← hTe, ← hp] at hap0
    have hps := per_spec g d n hn4
    rw [← hp] at hps
    refine vwp_sq [0, 1, 5, 6, 7, 8] fun K19 hK19 => vwp_region hT ?_
    simp
    refine vcall_k [0, 1, 2, 3] (hps) ?_
    rintro r ob' ⟨rfl, rfl⟩
    simp
    refine hK19 _ ?_
    try clear hK19 K19
    refine vwp_cond (by first | rfl | (simp; rfl)) (fun h4 => ?_) fun h4 => ?_
    · simp -failIfUnchanged at h4; all_goals
     have q := h4
     have hfull : p < 1 + T ∨ g.gen = 2147483647 := by
       clear hap0 hps; omega
     have hap : res = (4, g, d) := by rw [hap0, if_pos hfull]
     refine vwp_sq [] fun K20 hK20 => vwp_region hT ?_
     simp
     refine hK20 _ ?_
     try clear hK20 K20
     refine vwp_ret (hR _ _ ?_)
     rw [← hres, hap]
     exact ret_k [4] [0, 1, 2, 3] (lobs g d n) (.int .i64 4) (⟨rfl, .inr ⟨by simp, rfl⟩⟩)
    · simp -failIfUnchanged at h4; all_goals
     have q := h4
     have hnf : ¬ (p < 1 + T ∨ g.gen = 2147483647) := by
       clear hap0 hps; omega
     rw [if_neg hnf] at hap0
     refine vwp_skip ?_
     refine hK18 _ ?_
     try clear hK18 K18
     refine vwp_seq_k fun K21 hK21 => ?_
     have hT1 : 1 + T ≤ p := by omega
     have hwp := wipe_spec g d n hd hf 0 (by omega) (by omega)
     rw [← hp, Nat.sub_zero] at hwp
     have hk := wipe_keeps (n := n) (h := hf) (down := 0) p g d
     have hok := wipeK_ok (n := n) (h := hf) (down := 0) p g d hd
     obtain ⟨L, hL⟩ : ∃ L, L = wipeK n hf 0 p g d := ⟨_, rfl⟩
     rw [← hL] at hwp hk hap0 hok
     obtain ⟨we, wg, wd⟩ := L
     dsimp only at hwp hk hap0 hok
     obtain ⟨k1, k2, k3, k4⟩ := hk
     refine vwp_sq [0, 1, 5, 6, 7, 8] fun K22 hK22 => vwp_region hT ?_
     simp
     refine vcall_k [0, 1, 2, 3] (hwp) ?_
     rintro r ob' ⟨rfl, rfl⟩
     simp
     refine hK22 _ ?_
     try clear hK22 K22
     refine vwp_sq [0, 1, 5, 6, 7, 8, 11] fun K23 hK23 => vwp_region hT ?_
     simp
     refine hK23 _ ?_
     try clear hK23 K23
     refine vwp_cond (by first | rfl | (simp; rfl)) (fun h5 => ?_) fun h5 => ?_
     · simp -failIfUnchanged at h5; all_goals
      have q := h5
      have hap : res = (we, wg, wd) := by rw [hap0, if_neg (by simpa using q)]
      refine vwp_sq [11] fun K24 hK24 => vwp_region hT ?_
      simp
      refine hK24 _ ?_
      try clear hK24 K24
      refine vwp_ret (hR _ _ ?_)
      rw [← hres, hap]
      exact ret_k [4] [0, 1, 2, 3] (lobs wg wd n) (.int .i64 we) (⟨rfl, .inr ⟨by simpa using q, rfl⟩⟩)
     · simp -failIfUnchanged at h5; all_goals
      have q := h5
      have he0 : we = 0 := by simpa using q
      rw [if_pos he0] at hap0
      refine vwp_skip ?_
      refine hK21 _ ?_
      try clear hK21 K21
      refine vwp_sq [0, 1, 5, 6, 7, 8] fun K25 hK25 => vwp_region hT ?_
      simp
      refine hK25 _ ?_
      try clear hK25 K25
      refine vwp_seq_k fun K26 hK26 => ?_
      obtain ⟨LA, hLA⟩ : ∃ LA, LA = layAll n hf A 1 wg wd := ⟨_, rfl⟩
      rw [← hLA] at hap0
      refine vwp_sq [0, 1, 5, 6, 7, 8, 12] fun K27 hK27 => vwp_region hT ?_
      simp
      refine hK27 _ ?_
      try clear hK27 K27
      refine vwp_block ?_
      refine vwp_loop_s (fun u : Nat × Lg × Dk => ⟨[(0, .ptr 0 6 0), (1, sBB rs), (5, .int .i64 (hf : Int)), (6, .int .u32 (gn : Int)), (7, .int .i64 (1 + (T : Int))), (12, .int .i64 (1 + (totL (A.take u.1) : Int))), (73, .fs rs.length (A.map sBB)), (74, .int .i64 rs.length), (75, .int .i64 (u.1 : Int))], lobs u.2.1 u.2.2 n⟩) (fun u => u.1 ≤ rs.length ∧ u.2.2.ok n ∧ layAll n hf (A.drop u.1) (1 + totL (A.take u.1)) u.2.1 u.2.2 = LA) (fun u => rs.length - u.1) ((0, wg, wd)) (Gh.to_k [0, 1, 5, 6, 7, 12, 73, 74, 75] [0, 1, 2, 3] (he := by simp [totL, hAl, List.take_of_length_le])) (⟨by simp, hok, by simp [totL, hLA]⟩) ?_
      rintro ⟨i, g2, d2⟩ ⟨hi, hd2, hw⟩
      dsimp only at hi hd2 hw ⊢
      intro K28 hK28
      refine vwp_sq [0, 1, 5, 6, 7, 12, 73, 74, 75] fun K29 hK29 => vwp_region hT ?_
      simp
      refine hK29 _ ?_
      try clear hK29 K29
      refine vwp_seq_k fun K30 hK30 => ?_
      refine vwp_cond (by first | rfl | (simp; rfl)) (fun h6 => ?_) fun h6 => ?_
      · simp -failIfUnchanged at h6; all_goals
       refine vwp_skip ?_
       refine hK30 _ ?_
       try clear hK30 K30
       refine vwp_seq_k fun K31 hK31 => ?_
       refine vwp_block ?_
       obtain ⟨b, hb⟩ := getI (l := rs) (i := i) (by omega)
       have hAi := hAt i b hb
       obtain ⟨W, hW⟩ : ∃ W, W = secL b gn i := ⟨_, rfl⟩
       rw [← hW] at hAi
       have htt : totL (A.take (i + 1)) = totL (A.take i) + W.length := totL_succ hAi
       have htk := totL_take A (i + 1)
       rw [← hTe] at htk
       have hdr : A.drop i = W :: A.drop (i + 1) := by
         rw [List.getElem?_eq_some_iff] at hAi
         obtain ⟨hlt, hAi⟩ := hAi
         rw [← hAi, ← List.drop_eq_getElem_cons hlt]
       rw [hdr, layAll] at hw
       refine vwp_sq [0, 1, 5, 6, 7, 12, 73, 74, 75] fun K32 hK32 => vwp_region hT ?_
       simp [hAi]
       repeat refine ⟨by first | assumption | omega | (intros; omega), ?_⟩
       refine hK32 _ ?_
       try clear hK32 K32
       refine vwp_seq_k fun K33 hK33 => ?_
       have hhp : hf * p + p ≤ n := by
         have : hf = 0 ∨ hf = 1 := by omega
         rcases this with e | e <;> rw [e] <;> omega
       obtain ⟨at_, hat⟩ : ∃ at_, at_ = 1 + totL (A.take i) := ⟨_, rfl⟩
       have hat2 : 1 + (totL (A.take i) : Int) = (at_ : Int) := by omega
       rw [← hat] at hw
       have hly := lay_spec g2 d2 n hd2 hf at_ W (by rw [← hp]; omega)
       have hok2 := layK_ok (n := n) (h := hf) (at_ := at_) (ss := W) W.length g2 d2 hd2
       obtain ⟨L2, hL2⟩ : ∃ L2, L2 = layK n hf at_ W W.length g2 d2 := ⟨_, rfl⟩
       rw [← hL2] at hly hw hok2
       obtain ⟨le, g3, d3⟩ := L2
       dsimp only at hly hw hok2
       refine vwp_sq [0, 1, 5, 6, 7, 12, 14, 73, 74, 75] fun K34 hK34 => vwp_region hT ?_
       simp [hat2]
       refine vcall_k [0, 1, 2, 3] (hly) ?_
       rintro r ob' ⟨rfl, rfl⟩
       simp [hat2]
       refine hK34 _ ?_
       try clear hK34 K34
       refine vwp_sq [0, 1, 5, 6, 7, 12, 14, 15, 73, 74, 75] fun K35 hK35 => vwp_region hT ?_
       simp
       refine hK35 _ ?_
       try clear hK35 K35
       refine vwp_cond (by first | rfl | (simp; rfl)) (fun h7 => ?_) fun h7 => ?_
       · simp -failIfUnchanged at h7; all_goals
        have q := h7
        have hle : ¬ le = 0 := by simpa using q
        rw [if_neg hle] at hw
        have hap : res = (le, g3, d3) := by rw [hap0, ← hw, if_neg hle]
        refine vwp_sq [15] fun K36 hK36 => vwp_region hT ?_
        simp
        refine hK36 _ ?_
        try clear hK36 K36
        refine vwp_ret (hR _ _ ?_)
        rw [← hres, hap]
        exact ret_k [4] [0, 1, 2, 3] (lobs g3 d3 n) (.int .i64 le) (⟨rfl, .inr ⟨hle, rfl⟩⟩)
       · simp -failIfUnchanged at h7; all_goals
        have q := h7
        have hle : le = 0 := by simpa using q
        rw [if_pos hle] at hw
        have hd3 := hok2
        have hw3 : layAll n hf (A.drop (i + 1)) (1 + totL (A.take (i + 1))) g3 d3 = LA := by rw [← hw, htt, hat, Nat.add_assoc]
        refine vwp_skip ?_
        refine hK33 _ ?_
        try clear hK33 K33
        have w1 : IntKind.i64.wrap ((at_ : Int) + (W.length : Int)) = (at_ : Int) + (W.length : Int) := w64 (by omega) (by omega)
        refine vwp_live [0, 1, 5, 6, 7, 12, 14, 73, 74, 75] (vwp_region hT ?_)
        simp [w1, hat2]
        refine hK31 _ ?_
        try clear hK31 K31
        have w1 : IntKind.i64.wrap ((i : Int) + 1) = i + 1 := w64 (by omega) (by omega)
        refine vwp_live [0, 1, 5, 6, 7, 12, 73, 74, 75] (vwp_region hT ?_)
        simp [w1]
        exact hK28 ((i + 1, g3, d3)) _ (Gh.to_k [0, 1, 5, 6, 7, 12, 73, 74, 75] [0, 1, 2, 3] (he := by simp [htt]; omega)) (⟨by dsimp only; omega, hd3, hw3⟩) (by dsimp only; omega)
      · simp -failIfUnchanged at h6; all_goals
       refine vwp_exit ?_
       simp only [inBlk, thenQ, if_true]
       refine hK26 _ ?_
       try clear hK26 K26
       refine vwp_seq_k fun K37 hK37 => ?_
       have hi3 : i = rs.length := by omega
       subst hi3
       have hdn : A.drop rs.length = [] := List.drop_of_length_le (by omega)
       rw [hdn, layAll] at hw
       rw [← hw] at hap0
       dsimp only at hap0
       rw [if_pos rfl] at hap0
       have hhp : hf * p + p ≤ n := by
         have : hf = 0 ∨ hf = 1 := by omega
         rcases this with e | e <;> rw [e] <;> omega
       have hhd := header_spec gn (by omega)
       obtain ⟨HL, hHL⟩ : ∃ HL, HL = headL gn := ⟨_, rfl⟩
       have hHl : HL.length = 32 := by rw [hHL]; exact headL_len gn
       have hws := lwrite_spec g2 d2 n hd2 hf 0 (by rw [← hp]; omega) HL
       rw [← hHL] at hhd hap0
       rw [← hp] at hws
       obtain ⟨xe, hxe⟩ : ∃ xe, xe = (d2.write n ((hf * p + 0 : Nat) : Int) HL).1 := ⟨_, rfl⟩
       obtain ⟨d3, hd3e⟩ : ∃ d3, d3 = (d2.write n ((hf * p + 0 : Nat) : Int) HL).2 := ⟨_, rfl⟩
       rw [← hxe, ← hd3e] at hws hap0
       have hz : (((0 : Nat) : Int)) = 0 := rfl
       rw [hz] at hws
       refine vwp_sq [0, 1, 5, 6, 7] fun K38 hK38 => vwp_region hT ?_
       simp
       refine vcall_k [] (hhd) ?_
       rintro r ob' ⟨rfl, rfl⟩
       simp
       refine vcall_freeze 4 (by rfl) (by intro c hc; simp at hc; obtain ⟨z, _, rfl⟩ := hc; rfl) ?_
       refine vcall_k [0, 1, 2, 3] (hws) ?_ (ha := by simp [hHl, List.take_of_length_le]) (hok := by simp [hHl])
       rintro r ob' ⟨rfl, rfl⟩
       simp
       refine hK38 _ ?_
       try clear hK38 K38
       refine vwp_sq [0, 1, 5, 6, 7, 16] fun K39 hK39 => vwp_region hT ?_
       simp
       refine hK39 _ ?_
       try clear hK39 K39
       refine vwp_cond (by first | rfl | (simp; rfl)) (fun h8 => ?_) fun h8 => ?_
       · simp -failIfUnchanged at h8; all_goals
        have q := h8
        have hxn : ¬ xe = 0 := by simpa using q
        have hap : res = (xe, g2.wrote xe, d3) := by rw [hap0, if_neg hxn]
        refine vwp_sq [16] fun K40 hK40 => vwp_region hT ?_
        simp
        refine hK40 _ ?_
        try clear hK40 K40
        refine vwp_ret (hR _ _ ?_)
        rw [← hres, hap]
        exact ret_k [4] [0, 1, 2, 3] (lobs (g2.wrote xe) d3 n) (.int .i64 xe) (⟨rfl, .inr ⟨hxn, rfl⟩⟩)
       · simp -failIfUnchanged at h8; all_goals
        have q := h8
        have hx0 : xe = 0 := by simpa using q
        have hap : res = (0, (g2.wrote 0).only hf gn rs (1 + T), d3) := by rw [hap0, if_pos hx0]
        rw [hx0]
        refine vwp_skip ?_
        refine hK37 _ ?_
        try clear hK37 K37
        have hcp := copied_f rs (by omega) hrn
        refine vwp_sq [0, 1, 5, 6, 7] fun K41 hK41 => vwp_region hT ?_
        simp
        repeat refine ⟨by first | assumption | omega | (intros; omega), ?_⟩
        refine vcall_k [] (hcp) ?_
        rintro r ob' ⟨rfl, rfl⟩
        simp
        repeat refine ⟨by first | assumption | omega | (intros; omega), ?_⟩
        refine hK41 _ ?_
        try clear hK41 K41
        refine vwp_sq [] fun K42 hK42 => vwp_region hT ?_
        simp
        refine hK42 _ ?_
        try clear hK42 K42
        refine vwp_ret (hR _ _ ?_)
        obtain ⟨gf, hgf⟩ : ∃ gf, gf = (g2.wrote 0).only hf gn rs (1 + T) := ⟨_, rfl⟩
        rw [← hgf] at hap
        rw [← hres, hap]
        exact ret_k [4] [0, 1, 2, 3, 5] ([logW 4 gf, dskOb d3 n, .live (bts d3.B), .live ((g2.wrote 0).rows.map sB), .live (rs.map sB)]) (.int .i64 0) (⟨rfl, .inl ⟨rfl, _, by rw [hgf]; rfl⟩⟩) (hh := by rw [hgf]; simp [Lg.only])
end Go.Proofs.Ytifhbgppjblobaa
