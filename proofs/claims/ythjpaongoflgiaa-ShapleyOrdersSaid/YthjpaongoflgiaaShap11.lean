/- What each player adds, in all orders. -/
import Derived.Test.YthjpaongoflgiaaShap10
namespace Go.Proofs.Ythjpaongoflgiaa
open Go Go.VX Go.RowKit
set_option linter.unusedVariables false
set_option linter.unusedSimpArgs false
set_option maxHeartbeats 20000000
set_option maxRecDepth 100000

def popF : Nat → Nat → Nat
  | 0, _ => 0
  | k + 1, c => if c = 0 then 0 else 1 + popF k (c &&& (c - 1))
theorem pop_popF : ∀ k c, c ≤ k → pop c = popF k c
  | 0, c, h => by obtain rfl : c = 0 := by omega
                  rw [pop_zero]; rfl
  | k + 1, c, h => by
    by_cases h0 : c = 0
    · subst h0; rw [pop_zero]; rfl
    · have h1 := Nat.and_le_right (n := c) (m := c - 1)
      rw [pop_pos (by omega), pop_popF k _ (by omega), popF, if_neg h0]
theorem popF_lt : ∀ m, m < 7 → ∀ c, c < p2 m → ∀ i, i < m → c / p2 i % 2 = 0 → popF 64 c < m ∧ fct (popF 64 c) * fct (m - popF 64 c - 1) ≤ 120 := by decide +kernel
theorem pop_lt {m c i : Nat} (hm : m ≤ 6) (hc : c < p2 m) (hi : i < m) (hb : c / p2 i % 2 = 0) : pop c < m ∧ fct (pop c) * fct (m - pop c - 1) ≤ 120 := by
  have h1 := p2_le m hm
  rw [pop_popF 64 c (by omega)]
  exact popF_lt m (by omega) c hc i hi hb
def exTerm (m : Nat) (g : List Int) (c i : Nat) : Int := if c / p2 i % 2 = 0 then ((fct (pop c) * fct (m - pop c - 1) : Nat) : Int) * (g.getD (c ||| p2 i) 0 - g.getD c 0) else 0
def exAt (m : Nat) (g : List Int) (c i : Nat) : Int := ((List.range c).map fun c => exTerm m g c i).sum
def exRow (m : Nat) (g : List Int) (c i : Nat) : List Int := (List.range m).map fun j => exAt m g (if j < i then c + 1 else c) j
def exactL (m : Nat) (g : List Int) : List Int := exRow m g (p2 m) 0
theorem exAt_succ (m : Nat) (g : List Int) (c i : Nat) : exAt m g (c + 1) i = exAt m g c i + exTerm m g c i := by
  simp [exAt, List.range_succ]
@[simp] theorem exRow_len {m : Nat} {g : List Int} {c i : Nat} : (exRow m g c i).length = m := by simp [exRow]
theorem exRow_get {m : Nat} {g : List Int} {c i j : Nat} (h : j < m) : (exRow m g c i)[j]? = some (exAt m g (if j < i then c + 1 else c) j) := by simp [exRow, h]
theorem exRow_set {m : Nat} {g : List Int} {c i : Nat} (h : i < m) : (exRow m g c i).set i (exAt m g (c + 1) i) = exRow m g c (i + 1) := by
  apply List.ext_getElem?
  intro j
  rw [List.getElem?_set, exRow_len]
  rcases Nat.lt_or_ge j m with hj | hj
  · rw [exRow_get hj, exRow_get hj]
    by_cases e : i = j
    · subst e; simp [h]
    · rw [if_neg e]
      by_cases h1 : j < i
      · rw [if_pos h1, if_pos (by omega)]
      · rw [if_neg h1, if_neg (by omega)]
  · rw [if_neg (by omega), List.getElem?_eq_none (by rw [exRow_len]; omega), List.getElem?_eq_none (by rw [exRow_len]; omega)]
theorem exRow_same {m : Nat} {g : List Int} {c i : Nat} (h : i < m) (hb : ¬ c / p2 i % 2 = 0) : exRow m g c (i + 1) = exRow m g c i := by
  rw [← exRow_set h, exAt_succ, exTerm, if_neg hb, Int.add_zero]
  have := exRow_get (g := g) (c := c) (i := i) h
  rw [if_neg (by omega)] at this
  apply List.ext_getElem?
  intro j
  rw [List.getElem?_set]
  split
  · rename_i e
    subst e
    rw [if_pos (by rw [exRow_len]; exact h), this]
  · rfl
theorem exRow_all (m : Nat) (g : List Int) (c : Nat) : exRow m g c m = exRow m g (c + 1) 0 := by
  unfold exRow
  apply List.map_congr_left
  intro j hj
  rw [if_pos (List.mem_range.1 hj), if_neg (by omega)]
theorem mul_bound {f x B : Int} (h0 : 0 ≤ f) (h1 : f ≤ 120) (hB : 0 ≤ B) (h2 : -B ≤ x) (h3 : x ≤ B) : -(120 * B) ≤ f * x ∧ f * x ≤ 120 * B := by
  have a1 := Int.mul_le_mul_of_nonneg_left h3 h0
  have a2 := Int.mul_le_mul_of_nonneg_left h2 h0
  have a3 := Int.mul_le_mul_of_nonneg_right h1 hB
  rw [Int.mul_neg] at a2
  omega
theorem getD_bound {g : List Int} (hgb : ∀ (j : Nat) y, g[j]? = some y → -1099511627776 ≤ y ∧ y ≤ 1099511627776) (j : Nat) : -1099511627776 ≤ g.getD j 0 ∧ g.getD j 0 ≤ 1099511627776 := by
  rw [List.getD_eq_getElem?_getD]
  cases h : g[j]? with
  | none => simp
  | some y => exact hgb j y h
theorem exTerm_bound {m : Nat} {g : List Int} (hm : m ≤ 6) (hgb : ∀ (j : Nat) y, g[j]? = some y → -1099511627776 ≤ y ∧ y ≤ 1099511627776) {c i : Nat} (hc : c < p2 m) (hi : i < m) : -263882790666240 ≤ exTerm m g c i ∧ exTerm m g c i ≤ 263882790666240 := by
  unfold exTerm
  split
  · rename_i hb
    have h1 := (pop_lt hm hc hi hb).2
    have h2 := getD_bound hgb (c ||| p2 i)
    have h3 := getD_bound hgb c
    have := mul_bound (f := ((fct (pop c) * fct (m - pop c - 1) : Nat) : Int)) (x := g.getD (c ||| p2 i) 0 - g.getD c 0) (B := 2199023255552) (by omega) (by omega) (by omega) (by omega) (by omega)
    omega
  · omega
theorem exAt_bound {m : Nat} {g : List Int} (hm : m ≤ 6) (hgb : ∀ (j : Nat) y, g[j]? = some y → -1099511627776 ≤ y ∧ y ≤ 1099511627776) {i : Nat} (hi : i < m) : ∀ c, c ≤ p2 m → -((c : Int) * 263882790666240) ≤ exAt m g c i ∧ exAt m g c i ≤ (c : Int) * 263882790666240
  | 0, _ => by simp [exAt]
  | c + 1, h => by
    have h1 := exAt_bound hm hgb hi c (by omega)
    have h2 := exTerm_bound hm hgb (c := c) (by omega) hi
    rw [exAt_succ]
    omega
theorem bit_eq {c i : Nat} (hc : c < 64) (hi : i < 6) : ibits .and .i64 ((c : Int).fdiv (2 ^ i)) 1 = ((c / p2 i % 2 : Nat) : Int) := by
  have e : (c : Int).fdiv (2 ^ i) = ((c / p2 i : Nat) : Int) := by
    rw [p2_eq, Int.natCast_ediv, Int.fdiv_eq_ediv_of_nonneg _ (by exact Int.pow_nonneg (by omega))]
    simp
  rw [e]
  have hle : c / p2 i ≤ c := Nat.div_le_self _ _
  obtain ⟨d, hd⟩ : ∃ d, d = c / p2 i := ⟨_, rfl⟩
  rw [← hd] at hle ⊢
  rw [and1 (by omega) (by omega)]
  omega
theorem exRow_zero (m : Nat) (g : List Int) : exRow m g 0 0 = List.replicate m 0 := by
  simp [exRow, exAt, List.map_const']
theorem exact_spec (n : Int) (g : List Int) (hl : g.length < 1099511627776) : VC P 21 [.int .i64 n, sI g] [] (fun r ob' => (mayB n g = false ∧ r = .tup [.nils, .int .i64 0, .int .i64 1] ∧ ob' = []) ∨ (mayB n g = true ∧ r = .tup [.sl 0 n.toNat 1 0 n.toNat, .int .i64 (fct n.toNat : Int), .int .i64 0] ∧ ob' = [.live ((exactL n.toNat g).map (.int .i64))])) := by
  refine VC_of_vwp_k ent_21 Try.func21 rfl (by simp) fun R hR => ?_
  refine vwp_sq [0, 1] fun K1 hK1 => vwp_region hT ?_
  simp
  refine hK1 _ ?_
  try clear hK1 K1
  refine vwp_seq_k fun K2 hK2 => ?_
  refine vwp_sq [0, 1] fun K3 hK3 => vwp_region hT ?_
  simp
  refine vcall_k [] (may_spec n g hl) ?_
  rintro r ob' ⟨rfl, rfl⟩
  simp
  refine hK3 _ ?_
  try clear hK3 K3
  refine vwp_cond (by first | rfl | (simp; rfl)) (fun h1 => ?_) fun h1 => ?_
  · simp -failIfUnchanged at h1; all_goals
   have hm0 : mayB n g = false := by simpa using h1
   refine vwp_sq [] fun K4 hK4 => vwp_region hT ?_
   simp
   refine hK4 _ ?_
   try clear hK4 K4
   refine vwp_ret (hR _ _ ?_)
   exact ret_k [4, 5, 6] [] ([]) (.tup [.nils, .int .i64 0, .int .i64 1]) (.inl ⟨hm0, rfl, rfl⟩)
  · simp -failIfUnchanged at h1; all_goals
   have hm0 : mayB n g = true := by simpa using h1
   obtain ⟨m, rfl, hm6, hgl, hgb⟩ := mayB_m hm0
   have hpm := p2_le m hm6
   refine vwp_skip ?_
   refine hK2 _ ?_
   try clear hK2 K2
   refine vwp_sq [0, 1] fun K5 hK5 => vwp_region hT ?_
   simp
   repeat refine ⟨by first | assumption | omega | (intros; omega), ?_⟩
   refine hK5 _ ?_
   try clear hK5 K5
   refine vwp_seq_k fun K6 hK6 => ?_
   refine vwp_sq [0, 1, 7] fun K7 hK7 => vwp_region hT ?_
   simp
   refine hK7 _ ?_
   try clear hK7 K7
   refine vwp_block ?_
   refine vwp_loop_s (fun c : Nat => ⟨[(0, .int .i64 m), (1, sI g), (7, .sl 0 m 1 0 m), (18, sI g), (19, .int .i64 g.length), (20, .int .i64 (c : Int))], [.live ((exRow m g c 0).map (.int .i64))]⟩) (fun c => c ≤ g.length) (fun c => g.length - c) (0) (Gh.to_k [0, 1, 7, 18, 19, 20] [0] (hh := by simp [exRow_zero])) (by omega) ?_
   rintro c hc
   intro K8 hK8
   refine vwp_sq [0, 1, 7, 18, 19, 20] fun K9 hK9 => vwp_region hT ?_
   simp
   refine hK9 _ ?_
   try clear hK9 K9
   refine vwp_seq_k fun K10 hK10 => ?_
   refine vwp_cond (by first | rfl | (simp; rfl)) (fun h2 => ?_) fun h2 => ?_
   · simp -failIfUnchanged at h2; all_goals
    refine vwp_skip ?_
    refine hK10 _ ?_
    try clear hK10 K10
    refine vwp_seq_k fun K11 hK11 => ?_
    refine vwp_block ?_
    obtain ⟨v, hv⟩ := getI (l := g) (i := c) (by omega)
    refine vwp_sq [0, 1, 7, 18, 19, 20] fun K12 hK12 => vwp_region hT ?_
    simp [hv]
    repeat refine ⟨by first | assumption | omega | (intros; omega), ?_⟩
    refine hK12 _ ?_
    try clear hK12 K12
    refine vwp_sq [0, 1, 7, 8, 9, 18, 19, 20] fun K13 hK13 => vwp_region hT ?_
    simp
    refine vcall_k [] (size_spec c (by omega)) ?_
    rintro r ob' ⟨rfl, rfl⟩
    simp
    refine hK13 _ ?_
    try clear hK13 K13
    refine vwp_sq [0, 1, 7, 8, 9, 10, 18, 19, 20] fun K14 hK14 => vwp_region hT ?_
    simp
    refine hK14 _ ?_
    try clear hK14 K14
    refine vwp_block ?_
    refine vwp_loop_s (fun i : Nat => ⟨[(0, .int .i64 m), (1, sI g), (7, .sl 0 m 1 0 m), (8, .int .i64 c), (9, .int .i64 v), (10, .int .i64 (pop c : Int)), (18, sI g), (19, .int .i64 g.length), (20, .int .i64 (c : Int)), (28, .int .i64 m), (29, .int .i64 (i : Int))], [.live ((exRow m g c i).map (.int .i64))]⟩) (fun i => i ≤ m) (fun i => m - i) (0) (Gh.to_k [0, 1, 7, 8, 9, 10, 18, 19, 20, 28, 29] [0]) (by omega) ?_
    rintro i hi
    intro K15 hK15
    refine vwp_sq [0, 1, 7, 8, 9, 10, 18, 19, 20, 28, 29] fun K16 hK16 => vwp_region hT ?_
    simp
    refine hK16 _ ?_
    try clear hK16 K16
    refine vwp_seq_k fun K17 hK17 => ?_
    refine vwp_cond (by first | rfl | (simp; rfl)) (fun h3 => ?_) fun h3 => ?_
    · simp -failIfUnchanged at h3; all_goals
     refine vwp_skip ?_
     refine hK17 _ ?_
     try clear hK17 K17
     refine vwp_seq_k fun K18 hK18 => ?_
     refine vwp_block ?_
     refine vwp_sq [0, 1, 7, 8, 9, 10, 18, 19, 20, 28, 29] fun K19 hK19 => vwp_region hT ?_
     simp
     refine hK19 _ ?_
     try clear hK19 K19
     have wm : min i 64 = i := by omega
     have w1 := bit_eq (c := c) (i := i) (by omega) (by omega)
     refine vwp_sq [0, 1, 7, 8, 9, 10, 11, 18, 19, 20, 28, 29] fun K20 hK20 => vwp_region hT ?_
     simp [wm, w1]
     repeat refine ⟨by first | assumption | omega | (intros; omega), ?_⟩
     refine hK20 _ ?_
     try clear hK20 K20
     refine vwp_cond (by first | rfl | (simp; rfl)) (fun h4 => ?_) fun h4 => ?_
     · simp -failIfUnchanged at h4; all_goals
      have hb : c / p2 i % 2 = 0 := by
        have q := h4
        rw [← Int.natCast_ediv] at q
        omega
      obtain ⟨hp, hp2⟩ := pop_lt hm6 (by omega) (by omega) hb
      have hO := exRow_get (g := g) (c := c) (i := i) (m := m) (j := i) (by omega)
      rw [if_neg (by omega)] at hO
      have hbd := exAt_bound hm6 hgb (i := i) (by omega) c (by omega)
      have htb := exTerm_bound hm6 hgb (c := c) (i := i) (by omega) (by omega)
      have hor := or_lt (c := c) (q := i) (m := m) (by omega) (by omega)
      obtain ⟨a, ha⟩ := getI (l := g) (i := c ||| p2 i) (by omega)
      have hga := hgb _ a ha
      have hgv := hgb _ v hv
      have hpq := p2_le i (by omega)
      obtain ⟨f1, hf1⟩ : ∃ f1, f1 = fct (pop c) := ⟨_, rfl⟩
      obtain ⟨f2, hf2⟩ : ∃ f2, f2 = fct (m - pop c - 1) := ⟨_, rfl⟩
      have he : exTerm m g c i = ((f1 * f2 : Nat) : Int) * (a - v) := by rw [exTerm, if_pos hb, getD_of ha, getD_of hv, hf1, hf2]
      rw [← hf1, ← hf2] at hp2
      have hset := exRow_set (g := g) (c := c) (i := i) (m := m) (by omega)
      rw [exAt_succ, he] at hset
      rw [he] at htb
      have w1 : min i 64 = i := by omega
      have w2 := shl1 (m := i) (by omega)
      have w3 : ibits .or .i64 (c : Int) (p2 i : Int) = ((c ||| p2 i : Nat) : Int) := by
        rw [or64 (by omega) (by omega) (by omega) (by omega)]; simp
      have w4 : IntKind.i64.wrap ((m : Int) - (pop c : Int)) = ((m - pop c : Nat) : Int) := (w64 (by omega) (by omega)).trans (by omega)
      have w5 : IntKind.i64.wrap (((m - pop c : Nat) : Int) - 1) = ((m - pop c - 1 : Nat) : Int) := (w64 (by omega) (by omega)).trans (by omega)
      have w6 : IntKind.i64.wrap ((f1 : Int) * (f2 : Int)) = ((f1 * f2 : Nat) : Int) := by
        rw [← Int.natCast_mul]; exact w64 (by omega) (by omega)
      have w7 : IntKind.i64.wrap (a - v) = a - v := w64 (by omega) (by omega)
      obtain ⟨t, ht⟩ : ∃ t, t = ((f1 * f2 : Nat) : Int) * (a - v) := ⟨_, rfl⟩
      rw [← ht] at htb hset he
      have w8 : IntKind.i64.wrap ((f1 : Int) * (f2 : Int) * (a - v)) = t := by
        rw [← Int.natCast_mul, ← ht]; exact w64 (by omega) (by omega)
      have w9 : IntKind.i64.wrap (exAt m g c i + t) = exAt m g c i + t := w64 (by omega) (by omega)
      refine vwp_live [0, 1, 7, 8, 9, 10, 11, 18, 19, 20, 28, 29] (vwp_storm hT hm [.pure, .pure, .win 0 2, .win 0 2, .pure, .mv, .pure, .pure, .win 0 1, .win 0 1, .mv, .win 2 2, .pure, .pure, .pure, .win 0 2, .win 0 2, .win 0 2, .win 0 2, .pure, .win 0 2, .win 2 2, .win 2 2, .win 2 2, .mv] [[], [], [0, 1], [0, 1, 2], [], [4], [], [], [6, 7], [6, 7, 8], [4, 5, 6, 7, 8, 9], [4, 5, 6, 7, 8, 9, 10], [], [], [], [14], [13, 14, 15], [12, 13, 14, 15, 16], [12, 13, 14, 15, 16, 17], [], [12, 13, 14, 15, 16, 17, 18, 19], [4, 5, 6, 7, 8, 9, 10, 11, 12, 13, 14, 15, 16, 17, 18, 19, 20], [0, 1, 2, 3, 4, 5, 6, 7, 8, 9, 10, 11, 12, 13, 14, 15, 16, 17, 18, 19, 20, 21], [0, 1, 2, 3, 4, 5, 6, 7, 8, 9, 10, 11, 12, 13, 14, 15, 16, 17, 18, 19, 20, 21, 22], [0, 1, 2, 3, 4, 5, 6, 7, 8, 9, 10, 11, 12, 13, 14, 15, 16, 17, 18, 19, 20, 21, 22, 23]] (by kernel_rfl) ?_)
      simp [w1, w2, w3, w4, w5, w6, w7, w8, w9, hO, ha, exRow_len]
      repeat refine ⟨by first | assumption | omega | (intros; omega), ?_⟩
      refine ⟨.int .i64 (f1 : Int), [.live ((exRow m g c i).map (.int .i64))], fun sl => ?_, ?_⟩
      · refine vcall_k [] (hf1 ▸ fact_spec (pop c) (by omega)) ?_
        rintro r ob' ⟨rfl, rfl⟩
        simp
      simp [w1, w2, w3, w4, w5, w6, w7, w8, w9, hO, ha, exRow_len]
      repeat refine ⟨by first | assumption | omega | (intros; omega), ?_⟩
      refine ⟨.int .i64 (f2 : Int), [.live ((exRow m g c i).map (.int .i64))], fun sl => ?_, ?_⟩
      · refine vcall_k [] (hf2 ▸ fact_spec (m - pop c - 1) (by omega)) ?_
        rintro r ob' ⟨rfl, rfl⟩
        simp
      simp [w1, w2, w3, w4, w5, w6, w7, w8, w9, hO, ha, exRow_len]
      repeat refine ⟨by first | assumption | omega | (intros; omega), ?_⟩
      refine hK18 _ ?_
      try clear hK18 K18
      have w1 : IntKind.i64.wrap ((i : Int) + 1) = i + 1 := w64 (by omega) (by omega)
      refine vwp_live [0, 1, 7, 8, 9, 10, 18, 19, 20, 28, 29] (vwp_region hT ?_)
      simp [w1]
      exact hK15 (i + 1) _ (Gh.to_k [0, 1, 7, 8, 9, 10, 18, 19, 20, 28, 29] [0] (hh := by simp [spl_set (l := exRow m g c i) (q := i) (by simp; omega), hset])) (by omega) (by omega)
     · simp -failIfUnchanged at h4; all_goals
      have hb : ¬ c / p2 i % 2 = 0 := by
        have q := h4
        rw [← Int.natCast_ediv] at q
        omega
      have hs := exRow_same (g := g) (c := c) (i := i) (m := m) (by omega) hb
      refine vwp_skip ?_
      refine hK18 _ ?_
      try clear hK18 K18
      have w1 : IntKind.i64.wrap ((i : Int) + 1) = i + 1 := w64 (by omega) (by omega)
      refine vwp_live [0, 1, 7, 8, 9, 10, 18, 19, 20, 28, 29] (vwp_region hT ?_)
      simp [w1]
      exact hK15 (i + 1) _ (Gh.to_k [0, 1, 7, 8, 9, 10, 18, 19, 20, 28, 29] [0] (hh := by simp [hs])) (by omega) (by omega)
    · simp -failIfUnchanged at h3; all_goals
     refine vwp_exit ?_
     simp only [inBlk, thenQ, if_true]
     refine hK11 _ ?_
     try clear hK11 K11
     have w1 : IntKind.i64.wrap ((c : Int) + 1) = c + 1 := w64 (by omega) (by omega)
     refine vwp_live [0, 1, 7, 18, 19, 20] (vwp_region hT ?_)
     simp [w1]
     exact hK8 (c + 1) _ (Gh.to_k [0, 1, 7, 18, 19, 20] [0] (hh := by simp [show i = m by omega, exRow_all])) (by omega) (by omega)
   · simp -failIfUnchanged at h2; all_goals
    refine vwp_exit ?_
    simp only [inBlk, thenQ, if_true]
    refine hK6 _ ?_
    try clear hK6 K6
    refine vwp_sq [0, 7] fun K21 hK21 => vwp_region hT ?_
    simp
    refine vcall_k [] (fact_spec m hm6) ?_
    rintro r ob' ⟨rfl, rfl⟩
    simp
    refine hK21 _ ?_
    try clear hK21 K21
    refine vwp_ret (hR _ _ ?_)
    have e : c = p2 m := by omega
    subst e
    exact ret_k [4, 5, 6] [0] ([.live ((exactL m g).map (.int .i64))]) (.tup [.sl 0 m 1 0 m, .int .i64 (fct m : Int), .int .i64 0]) (.inr ⟨hm0, by simp, by simp⟩) (hh := by simp [exactL, hgl])
end Go.Proofs.Ythjpaongoflgiaa
