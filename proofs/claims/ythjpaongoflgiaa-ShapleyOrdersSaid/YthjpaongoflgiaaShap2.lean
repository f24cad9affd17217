/- What shapley tells of some orders. -/
import Derived.Test.YthjpaongoflgiaaShap1
namespace Go.Proofs.Ythjpaongoflgiaa
open Go Go.VX Go.RowKit
set_option linter.unusedVariables false
set_option linter.unusedSimpArgs false
set_option maxHeartbeats 20000000
set_option maxRecDepth 100000

def stp (g : List Int) (s : Nat × List Int) (p : Int) : Nat × List Int := (s.1 ||| p2 p.toNat, s.2.set p.toNat (s.2.getD p.toNat 0 + (g.getD (s.1 ||| p2 p.toNat) 0 - g.getD s.1 0)))
def oneO (g out l : List Int) : List Int := (l.foldl (stp g) (0, out)).2
def sampL (m : Nat) (g : List Int) (os : List (List Int)) : List Int := os.foldl (oneO g) (List.replicate m 0)
def sampE (n : Int) (g : List Int) (os : List (List Int)) : Int := if mayB n g = false then 1 else if os = [] ∨ 1000 < os.length then 2 else if os.all (isB n) then 0 else 2
theorem sampE_1 {n : Int} {g : List Int} {os : List (List Int)} (h : mayB n g = false) : sampE n g os = 1 := by rw [sampE, if_pos h]
theorem sampE_2 {n : Int} {g : List Int} {os : List (List Int)} (h : mayB n g = true) (h2 : os = [] ∨ 1000 < os.length) : sampE n g os = 2 := by rw [sampE, if_neg (by simp [h]), if_pos h2]
theorem sampE_3 {n : Int} {g : List Int} {os : List (List Int)} (h : mayB n g = true) (h2 : ¬ (os = [] ∨ 1000 < os.length)) {l : List Int} (hl : l ∈ os) (hb : isB n l = false) : sampE n g os = 2 := by
  rw [sampE, if_neg (by simp [h]), if_neg h2, if_neg]
  rw [List.all_eq_true]
  intro hh
  rw [hh l hl] at hb
  cases hb
theorem sampE_0 {n : Int} {g : List Int} {os : List (List Int)} (h : mayB n g = true) (h2 : ¬ (os = [] ∨ 1000 < os.length)) (hb : ∀ l ∈ os, isB n l = true) : sampE n g os = 0 := by
  rw [sampE, if_neg (by simp [h]), if_neg h2, if_pos (List.all_eq_true.2 hb)]
abbrev sLL (os : List (List Int)) : V := .fs os.length (os.map sI)

theorem upB_eq {l : List Int} (h : upB l = true) : l = rangeI l.length := by
  simp only [upB, List.all_eq_true, List.mem_range, decide_eq_true_eq] at h
  apply List.ext_getElem?
  intro i
  rcases Nat.lt_or_ge i l.length with hi | hi
  · rw [h i hi]; simp [rangeI, hi]
  · rw [List.getElem?_eq_none hi, List.getElem?_eq_none (by rw [rangeI_len]; exact hi)]
theorem isB_perm {m : Nat} {l : List Int} (h : isB (m : Int) l = true) : l.length = m ∧ l.Perm (rangeI m) := by
  simp only [isB, Bool.and_eq_true, beq_iff_eq] at h
  have e : l.length = m := by omega
  have h1 := upB_eq h.1
  have h2 : (srt l).length = l.length := by simp
  refine ⟨e, (List.mergeSort_perm l fun x y => decide (x ≤ y)).symm.trans ?_⟩
  rw [h2, e] at h1
  rw [← h1]
theorem isB_mem {m : Nat} {l : List Int} (h : isB (m : Int) l = true) {x : Int} (hx : x ∈ l) : ∃ q : Nat, x = (q : Int) ∧ q < m := by
  have := ((isB_perm h).2.mem_iff).1 hx
  simp only [rangeI, List.mem_map, List.mem_range] at this
  obtain ⟨q, h1, h2⟩ := this
  exact ⟨q, h2.symm, h1⟩
theorem or_lt {c q m : Nat} (h1 : c < p2 m) (h2 : q < m) : c ||| p2 q < p2 m := by
  rw [p2_eq] at h1 ⊢
  rw [p2_eq]
  exact Nat.or_lt_two_pow h1 (Nat.pow_lt_pow_right (by omega) h2)
theorem mayB_m {n : Int} {g : List Int} (h : mayB n g = true) : ∃ m : Nat, n = m ∧ m ≤ 6 ∧ g.length = p2 m ∧ ∀ (j : Nat) y, g[j]? = some y → -1099511627776 ≤ y ∧ y ≤ 1099511627776 := by
  simp only [mayB, Bool.and_eq_true, decide_eq_true_eq, Bool.not_eq_true', List.any_eq_false] at h
  obtain ⟨⟨⟨⟨h1, h2⟩, h3⟩, h4⟩, h5⟩ := h
  obtain ⟨m, rfl⟩ := Int.eq_ofNat_of_zero_le h1
  refine ⟨m, rfl, by omega, by simpa using h3, fun j y hy => ?_⟩
  have := h5 y (List.mem_of_getElem? hy)
  simp only [offB, Bool.or_eq_true, decide_eq_true_eq] at this
  omega
theorem spl_set {l : List Int} {q : Nat} (h : q < l.length) (x : Int) : spl (l.map (V.int .i64)) q [.int .i64 x] = (l.set q x).map (.int .i64) := by
  rw [spl_eq (by simp; omega), List.map_set, List.set_eq_take_append_cons_drop, if_pos (by simpa using h)]
  simp
theorem take_foldl {α β : Type} {f : β → α → β} {s : β} {l : List α} {k : Nat} {x : α} (h : l[k]? = some x) : (l.take (k + 1)).foldl f s = f ((l.take k).foldl f s) x := by
  rw [List.take_add_one, h]; simp
theorem getD_of {l : List Int} {i : Nat} {x : Int} (h : l[i]? = some x) : l.getD i 0 = x := by rw [List.getD_eq_getElem?_getD, h]; rfl
theorem samp_spec (n : Int) (g : List Int) (os : List (List Int)) (hl : g.length < 1099511627776) (ho : os.length < 1099511627776) (hos : ∀ l ∈ os, l.length < 1099511627776) : VC P 23 [.int .i64 n, sI g, sLL os] [] (fun r ob' => (sampE n g os ≠ 0 ∧ r = .tup [.nils, .int .i64 0, .int .i64 (sampE n g os)] ∧ ob' = []) ∨ (sampE n g os = 0 ∧ r = .tup [.sl 0 n.toNat 1 0 n.toNat, .int .i64 os.length, .int .i64 0] ∧ ob' = [.live ((sampL n.toNat g os).map (.int .i64))])) := by
  refine VC_of_vwp_k ent_23 Try.func23 rfl (by simp) fun R hR => ?_
  refine vwp_sq [0, 1, 2] fun K1 hK1 => vwp_region hT ?_
  simp
  refine hK1 _ ?_
  try clear hK1 K1
  refine vwp_seq_k fun K2 hK2 => ?_
  refine vwp_sq [0, 1, 2] fun K3 hK3 => vwp_region hT ?_
  simp
  refine vcall_k [] (may_spec n g hl) ?_
  rintro r ob' ⟨rfl, rfl⟩
  simp
  refine hK3 _ ?_
  try clear hK3 K3
  refine vwp_cond (by first | rfl | (simp; rfl)) (fun h1 => ?_) fun h1 => ?_
  · simp -failIfUnchanged at h1; all_goals
   have hm0 : mayB n g = false := by simpa using h1
   refine vwp_sq [] fun K4 hK4 => vwp_region hT ?_
   simp
   refine hK4 _ ?_
   try clear hK4 K4
   refine vwp_ret (hR _ _ ?_)
   have e := sampE_1 (os := os) hm0
   exact ret_k [6, 7, 8] [] ([]) (.tup [.nils, .int .i64 0, .int .i64 (sampE n g os)]) (.inl ⟨by simp [e], rfl, rfl⟩) (hr := by simp [e])
  · simp -failIfUnchanged at h1; all_goals
   have hm0 : mayB n g = true := by simpa using h1
   obtain ⟨m, rfl, hm6, hgl, hgb⟩ := mayB_m hm0
   refine vwp_skip ?_
   refine hK2 _ ?_
   try clear hK2 K2
   refine vwp_seq_k fun K5 hK5 => ?_
   refine vwp_sq [0, 1, 2] fun K6 hK6 => vwp_region hT ?_
   simp
   refine hK6 _ ?_
   try clear hK6 K6
   refine vwp_cond (by first | rfl | (simp; rfl)) (fun h2 => ?_) fun h2 => ?_
   · simp -failIfUnchanged at h2; all_goals
    have hq : os = [] ∨ 1000 < os.length := by
      rcases h2 with h | h
      · exact .inl h
      · exact .inr (by omega)
    refine vwp_sq [] fun K7 hK7 => vwp_region hT ?_
    simp
    refine hK7 _ ?_
    try clear hK7 K7
    refine vwp_ret (hR _ _ ?_)
    have e := sampE_2 hm0 hq
    exact ret_k [6, 7, 8] [] ([]) (.tup [.nils, .int .i64 0, .int .i64 (sampE (m : Int) g os)]) (.inl ⟨by simp [e], rfl, rfl⟩) (hr := by simp [e])
   · simp -failIfUnchanged at h2; all_goals
    have hq : ¬ (os = [] ∨ 1000 < os.length) := by
      rintro (h | h)
      · exact h2.1 h
      · omega
    refine vwp_skip ?_
    refine hK5 _ ?_
    try clear hK5 K5
    refine vwp_sq [0, 1, 2] fun K8 hK8 => vwp_region hT ?_
    simp
    repeat refine ⟨by first | assumption | omega | (intros; omega), ?_⟩
    refine hK8 _ ?_
    try clear hK8 K8
    refine vwp_seq_k fun K9 hK9 => ?_
    refine vwp_sq [0, 1, 2, 9] fun K10 hK10 => vwp_region hT ?_
    simp
    refine hK10 _ ?_
    try clear hK10 K10
    refine vwp_block ?_
    refine vwp_loop_s (fun x : Nat × List Int => ⟨[(0, .int .i64 m), (1, sI g), (2, sLL os), (9, .sl 0 m 1 0 m), (29, sLL os), (30, .int .i64 os.length), (31, .int .i64 (x.1 : Int))], [.live (x.2.map (.int .i64))]⟩) (fun x => x.1 ≤ os.length ∧ x.2 = sampL m g (os.take x.1) ∧ x.2.length = m ∧ (∀ l ∈ os.take x.1, isB (m : Int) l = true) ∧ ∀ (j : Nat) v, x.2[j]? = some v → -((x.1 : Int) * 13194139533312) ≤ v ∧ v ≤ (x.1 : Int) * 13194139533312) (fun x => os.length - x.1) ((0, List.replicate m 0)) (Gh.to_k [0, 1, 2, 9, 29, 30, 31] [0] (hh := by simp)) (⟨by simp, by simp [sampL], by simp, by simp, fun j v h => by
      rw [List.getElem?_replicate] at h
      split at h
      · cases h; simp
      · cases h⟩) ?_
    rintro ⟨i, out⟩ ⟨hi, hS, hol, hall, hb⟩
    dsimp only at hi hS hol hall hb ⊢
    intro K11 hK11
    refine vwp_sq [0, 1, 2, 9, 29, 30, 31] fun K12 hK12 => vwp_region hT ?_
    simp
    refine hK12 _ ?_
    try clear hK12 K12
    refine vwp_seq_k fun K13 hK13 => ?_
    refine vwp_cond (by first | rfl | (simp; rfl)) (fun h3 => ?_) fun h3 => ?_
    · simp -failIfUnchanged at h3; all_goals
     refine vwp_skip ?_
     refine hK13 _ ?_
     try clear hK13 K13
     refine vwp_seq_k fun K14 hK14 => ?_
     refine vwp_block ?_
     obtain ⟨l, hlx⟩ := getI (l := os) (i := i) (by omega)
     refine vwp_sq [0, 1, 2, 9, 29, 30, 31] fun K15 hK15 => vwp_region hT ?_
     simp [hlx]
     repeat refine ⟨by first | assumption | omega | (intros; omega), ?_⟩
     refine hK15 _ ?_
     try clear hK15 K15
     refine vwp_seq_k fun K16 hK16 => ?_
     refine vwp_sq [0, 1, 2, 9, 11, 29, 30, 31] fun K17 hK17 => vwp_region hT ?_
     simp
     refine vcall_k [] (is_spec (m : Int) l (hos l (List.mem_of_getElem? hlx))) ?_
     rintro r ob' ⟨rfl, rfl⟩
     simp
     refine hK17 _ ?_
     try clear hK17 K17
     refine vwp_cond (by first | rfl | (simp; rfl)) (fun h4 => ?_) fun h4 => ?_
     · simp -failIfUnchanged at h4; all_goals
      have hbl : isB (m : Int) l = false := by simpa using h4
      refine vwp_sq [] fun K18 hK18 => vwp_region hT ?_
      simp
      refine hK18 _ ?_
      try clear hK18 K18
      refine vwp_ret (hR _ _ ?_)
      have e := sampE_3 hm0 hq (List.mem_of_getElem? hlx) hbl
      exact ret_k [6, 7, 8] [] ([]) (.tup [.nils, .int .i64 0, .int .i64 (sampE (m : Int) g os)]) (.inl ⟨by simp [e], rfl, rfl⟩) (hr := by simp [e])
     · simp -failIfUnchanged at h4; all_goals
      have hbl : isB (m : Int) l = true := by simpa using h4
      refine vwp_skip ?_
      refine hK16 _ ?_
      try clear hK16 K16
      refine vwp_sq [0, 1, 2, 9, 11, 29, 30, 31] fun K19 hK19 => vwp_region hT ?_
      simp
      refine hK19 _ ?_
      try clear hK19 K19
      refine vwp_sq [0, 1, 2, 9, 11, 12, 29, 30, 31] fun K20 hK20 => vwp_region hT ?_
      simp
      refine hK20 _ ?_
      try clear hK20 K20
      refine vwp_block ?_
      refine vwp_loop_s (fun y : Nat × Nat × List Int => ⟨[(0, .int .i64 m), (1, sI g), (2, sLL os), (9, .sl 0 m 1 0 m), (12, .int .i64 (y.2.1 : Int)), (29, sLL os), (30, .int .i64 os.length), (31, .int .i64 (i : Int)), (39, sI l), (40, .int .i64 l.length), (41, .int .i64 (y.1 : Int))], [.live (y.2.2.map (.int .i64))]⟩) (fun y => y.1 ≤ l.length ∧ (l.take y.1).foldl (stp g) (0, out) = (y.2.1, y.2.2) ∧ y.2.1 < p2 m ∧ y.2.2.length = m ∧ ∀ (j : Nat) v, y.2.2[j]? = some v → -((i : Int) * 13194139533312 + (y.1 : Int) * 2199023255552) ≤ v ∧ v ≤ (i : Int) * 13194139533312 + (y.1 : Int) * 2199023255552) (fun y => l.length - y.1) ((0, 0, out)) (Gh.to_k [0, 1, 2, 9, 12, 29, 30, 31, 39, 40, 41] [0] (hh := by simp)) (⟨by simp, by simp, p2_pos m, hol, fun j v h => by have := hb j v h; simp only; omega⟩) ?_
      rintro ⟨k, c, o⟩ ⟨hk, hf, hc, hol2, hb2⟩
      dsimp only at hk hf hc hol2 hb2 ⊢
      intro K21 hK21
      refine vwp_sq [0, 1, 2, 9, 12, 29, 30, 31, 39, 40, 41] fun K22 hK22 => vwp_region hT ?_
      simp
      refine hK22 _ ?_
      try clear hK22 K22
      refine vwp_seq_k fun K23 hK23 => ?_
      refine vwp_cond (by first | rfl | (simp; rfl)) (fun h5 => ?_) fun h5 => ?_
      · simp -failIfUnchanged at h5; all_goals
       refine vwp_skip ?_
       refine hK23 _ ?_
       try clear hK23 K23
       refine vwp_seq_k fun K24 hK24 => ?_
       refine vwp_block ?_
       obtain ⟨p, hp⟩ := getI (l := l) (i := k) (by omega)
       obtain ⟨q, rfl, hq2⟩ := isB_mem hbl (List.mem_of_getElem? hp)
       obtain ⟨v, hv⟩ := getI (l := o) (i := q) (by omega)
       have hor := or_lt hc hq2
       obtain ⟨a, ha⟩ := getI (l := g) (i := c ||| p2 q) (by omega)
       obtain ⟨b, hbb⟩ := getI (l := g) (i := c) (by omega)
       have hga := hgb _ a ha
       have hgb2 := hgb _ b hbb
       have hv2 := hb2 q v hv
       have hpm := p2_le m hm6
       have hpq := p2_le q (by omega)
       have hlm := (isB_perm hbl).1
       have hos1 : os.length ≤ 1000 := by
         rcases Nat.lt_or_ge 1000 os.length with h | h
         · exact absurd (.inr h) hq
         · exact h
       have w1 : min q 64 = q := by omega
       have w2 := shl1 (m := q) (by omega)
       have w3 : ibits .or .i64 (c : Int) (p2 q : Int) = ((c ||| p2 q : Nat) : Int) := by
         rw [or64 (by omega) (by omega) (by omega) (by omega)]; simp
       have w4 : IntKind.i64.wrap (a - b) = a - b := w64 (by omega) (by omega)
       have w5 : IntKind.i64.wrap (v + (a - b)) = v + (a - b) := w64 (by omega) (by omega)
       refine vwp_sq [0, 1, 2, 9, 12, 29, 30, 31, 39, 40, 41] fun K25 hK25 => vwp_region hT ?_
       simp [hp]
       repeat refine ⟨by first | assumption | omega | (intros; omega), ?_⟩
       refine hK25 _ ?_
       try clear hK25 K25
       refine vwp_sq [0, 1, 2, 9, 12, 14, 29, 30, 31, 39, 40, 41] fun K26 hK26 => vwp_storm hT hm [.pure, .pure, .win 0 0, .win 0 0, .pure, .pure, .pure, .win 0 0, .win 0 0, .win 0 0, .win 0 0, .pure, .pure, .win 0 0, .win 0 0, .win 0 0, .win 0 0, .win 0 0, .mv] [[], [], [0, 1], [0, 1, 2], [], [], [], [6], [5, 6, 7], [4, 5, 6, 7, 8], [4, 5, 6, 7, 8, 9], [], [], [11, 12], [11, 12, 13], [4, 5, 6, 7, 8, 9, 10, 11, 12, 13, 14], [0, 1, 2, 3, 4, 5, 6, 7, 8, 9, 10, 11, 12, 13, 14, 15], [0, 1, 2, 3, 4, 5, 6, 7, 8, 9, 10, 11, 12, 13, 14, 15, 16], [0, 1, 2, 3, 4, 5, 6, 7, 8, 9, 10, 11, 12, 13, 14, 15, 16, 17]] (by kernel_rfl) ?_
       simp [w1, w2, w3, w4, w5, hv, ha, hbb, hol2]
       repeat refine ⟨by first | assumption | omega | (intros; omega), ?_⟩
       refine hK26 _ ?_
       try clear hK26 K26
       refine vwp_live [0, 1, 2, 9, 12, 14, 29, 30, 31, 39, 40, 41] (vwp_region hT ?_)
       simp [w1, w2, w3]
       repeat refine ⟨by first | assumption | omega | (intros; omega), ?_⟩
       refine hK24 _ ?_
       try clear hK24 K24
       have w6 : IntKind.i64.wrap ((k : Int) + 1) = k + 1 := w64 (by omega) (by omega)
       refine vwp_live [0, 1, 2, 9, 12, 29, 30, 31, 39, 40, 41] (vwp_region hT ?_)
       simp [w6]
       exact hK21 ((k + 1, c ||| p2 q, o.set q (v + (a - b)))) _ (Gh.to_k [0, 1, 2, 9, 12, 29, 30, 31, 39, 40, 41] [0] (hh := by simp [spl_set (l := o) (q := q) (by omega)])) (⟨by dsimp only; omega, by
           dsimp only
           rw [take_foldl hp, hf]
           simp only [stp, Int.toNat_natCast, getD_of hv, getD_of ha, getD_of hbb], hor, by simpa using hol2, fun j z hz => by
           dsimp only at hz ⊢
           rw [List.getElem?_set] at hz
           split at hz
           · split at hz
             · cases hz; omega
             · cases hz
           · have := hb2 j z hz; omega⟩) (by dsimp only; omega)
      · simp -failIfUnchanged at h5; all_goals
       refine vwp_exit ?_
       simp only [inBlk, thenQ, if_true]
       refine hK14 _ ?_
       try clear hK14 K14
       have w1 : IntKind.i64.wrap ((i : Int) + 1) = i + 1 := w64 (by omega) (by omega)
       refine vwp_live [0, 1, 2, 9, 29, 30, 31] (vwp_region hT ?_)
       simp [w1]
       exact hK11 ((i + 1, o)) _ (Gh.to_k [0, 1, 2, 9, 29, 30, 31] [0]) (⟨by dsimp only; omega, by
           dsimp only
           have e : k = l.length := by omega
           subst e
           rw [List.take_length] at hf
           rw [hS] at hf
           simp only [sampL, take_foldl hlx]
           simp only [sampL] at hf
           simp only [oneO, hf], hol2, fun l2 hl2 => by
           dsimp only at hl2
           rw [List.take_add_one, hlx] at hl2
           rcases List.mem_append.1 hl2 with h | h
           · exact hall l2 h
           · simp at h; subst h; exact hbl, fun j z hz => by
           have := hb2 j z hz
           have hlm := (isB_perm hbl).1
           dsimp only
           omega⟩) (by dsimp only; omega)
    · simp -failIfUnchanged at h3; all_goals
     refine vwp_exit ?_
     simp only [inBlk, thenQ, if_true]
     refine hK9 _ ?_
     try clear hK9 K9
     refine vwp_sq [2, 9] fun K27 hK27 => vwp_region hT ?_
     simp
     refine hK27 _ ?_
     try clear hK27 K27
     refine vwp_ret (hR _ _ ?_)
     have e : i = os.length := by omega
     subst e
     rw [List.take_length] at hS hall
     subst hS
     have e0 := sampE_0 hm0 hq hall
     exact ret_k [6, 7, 8] [0] ([.live ((sampL m g os).map (.int .i64))]) (.tup [.sl 0 m 1 0 m, .int .i64 os.length, .int .i64 0]) (.inr ⟨e0, by simp, by simp⟩)
end Go.Proofs.Ythjpaongoflgiaa
