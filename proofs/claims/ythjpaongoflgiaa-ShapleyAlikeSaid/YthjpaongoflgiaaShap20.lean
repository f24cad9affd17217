/- Players who add alike. -/
import Derived.Test.YthjpaongoflgiaaShap18
namespace Go.Proofs.Ythjpaongoflgiaa
open Go Go.VX Go.RowKit
set_option linter.unusedVariables false
set_option linter.unusedSimpArgs false
set_option maxHeartbeats 20000000
set_option maxRecDepth 100000

def bitP (c j : Nat) : Prop := c / p2 j % 2 = 1
instance (c j : Nat) : Decidable (bitP c j) := inferInstanceAs (Decidable (_ = _))
/-- How many of a coalition are of a sort, of the first so many. -/
def cA (s : List Int) (t : Int) (c n : Nat) : Nat := (List.range n).countP fun j => decide (bitP c j) && decide (s.getD j 0 = t)
theorem cA_yes {s : List Int} {t : Int} {c j : Nat} (h1 : bitP c j) (h2 : s.getD j 0 = t) : cA s t c (j + 1) = cA s t c j + 1 := by
  have e : (decide (bitP c j) && decide (s.getD j 0 = t)) = true := by rw [decide_eq_true h1, decide_eq_true h2]; rfl
  rw [cA, List.range_succ, List.countP_append, List.countP_cons, List.countP_nil, e]; rfl
theorem cA_no {s : List Int} {t : Int} {c j : Nat} (h : ¬ (bitP c j ∧ s.getD j 0 = t)) : cA s t c (j + 1) = cA s t c j := by
  have e : (decide (bitP c j) && decide (s.getD j 0 = t)) = false := by
    rw [Bool.and_eq_false_iff]
    rcases Decidable.em (bitP c j) with q | q
    · exact .inr (by simpa using fun e => h ⟨q, e⟩)
    · exact .inl (by simp [q])
  rw [cA, List.range_succ, List.countP_append, List.countP_cons, List.countP_nil, e]; rfl
theorem cA_sum (s : List Int) (c : Nat) : ∀ n, cA s 1 c n + cA s 2 c n ≤ n
  | 0 => by simp [cA]
  | n + 1 => by
    have ih := cA_sum s c n
    by_cases h1 : bitP c n ∧ s.getD n 0 = 1
    · rw [cA_yes h1.1 h1.2, cA_no (t := 2) (fun h => by have := h.2; omega)]; omega
    · by_cases h2 : bitP c n ∧ s.getD n 0 = 2
      · rw [cA_no h1, cA_yes h2.1 h2.2]; omega
      · rw [cA_no h1, cA_no h2]; omega
def gv (w : List Int) (a b : Nat) : Int := if 0 < a + b then (w.getD (7 * a + b) 0).tmod 1099511627776 else 0
def gameL (s w : List Int) : List Int := (List.range (p2 s.length)).map fun c => gv w (cA s 1 c s.length) (cA s 2 c s.length)
theorem gameL_len {s w : List Int} : (gameL s w).length = p2 s.length := by simp [gameL]
theorem gameL_get {s w : List Int} {c : Nat} (h : c < p2 s.length) : (gameL s w)[c]? = some (gv w (cA s 1 c s.length) (cA s 2 c s.length)) := by simp [gameL, h]
theorem gameL_getD {s w : List Int} {c : Nat} (h : c < p2 s.length) : (gameL s w).getD c 0 = gv w (cA s 1 c s.length) (cA s 2 c s.length) := getD_of (gameL_get h)
theorem bitP_zero (j : Nat) : ¬ bitP 0 j := by simp [bitP]
theorem cA_zero (s : List Int) (t : Int) (n : Nat) : cA s t 0 n = 0 := by
  induction n with
  | zero => rfl
  | succ n ih => rw [cA_no (fun h => bitP_zero n h.1), ih]
theorem gv_bound (w : List Int) (a b : Nat) : -1099511627776 ≤ gv w a b ∧ gv w a b ≤ 1099511627776 := by
  unfold gv
  split
  · obtain ⟨x, hx⟩ : ∃ x, x = w.getD (7 * a + b) 0 := ⟨_, rfl⟩
    rw [← hx]
    have := Int.natAbs_tmod x 1099511627776
    have h2 := Nat.mod_lt x.natAbs (show 0 < (1099511627776 : Int).natAbs by decide)
    have h3 : (1099511627776 : Int).natAbs = 1099511627776 := rfl
    omega
  · omega
theorem gameL_may {s w : List Int} (h : s.length ≤ 6) : mayB (s.length : Int) (gameL s w) = true := by
  have h0 := gameL_get (s := s) (w := w) (c := 0) (p2_pos _)
  rw [cA_zero, cA_zero] at h0
  simp only [mayB, Bool.and_eq_true, decide_eq_true_eq, Bool.not_eq_true', List.any_eq_false]
  refine ⟨⟨⟨⟨by omega, by omega⟩, by rw [gameL_len]; simp⟩, h0⟩, fun x hx => ?_⟩
  simp only [gameL, List.mem_map] at hx
  obtain ⟨c, _, rfl⟩ := hx
  have := gv_bound w (cA s 1 c s.length) (cA s 2 c s.length)
  simp only [offB, Bool.or_eq_true, decide_eq_true_eq]
  omega
theorem fill_zero {X : List Int} {i : Nat} (h : X[i]? = some 0) : X.take i ++ List.replicate (X.length - i) 0 = X.take (i + 1) ++ List.replicate (X.length - (i + 1)) 0 := by
  have hi := (List.getElem?_eq_some_iff.1 h).1
  obtain ⟨k, hk⟩ : ∃ k, X.length - i = k + 1 := ⟨X.length - i - 1, by omega⟩
  have hk2 : X.length - (i + 1) = k := by omega
  rw [hk, hk2, List.replicate_succ, List.take_add_one, h]
  simp
theorem countP_same {α : Type} {p q : α → Bool} : ∀ {l : List α}, (∀ x ∈ l, p x = q x) → l.countP p = l.countP q
  | [], _ => rfl
  | x :: l, h => by rw [List.countP_cons, List.countP_cons, countP_same fun y hy => h y (by simp [hy]), h x (by simp)]

/-! Who adds nothing. -/
theorem or_bitP : ∀ c, c < 64 → ∀ i, i < 6 → ∀ j, j < 6 → i ≠ j → (bitP (c ||| p2 i) j ↔ bitP c j) := by decide +kernel
theorem cA_or {s : List Int} {t : Int} {c i n : Nat} (hc : c < 64) (hi : i < 6) (hn : n ≤ 6) (h : s.getD i 0 ≠ t) : cA s t (c ||| p2 i) n = cA s t c n := by
  refine countP_same fun j hj => ?_
  have hj' := List.mem_range.1 hj
  by_cases e : i = j
  · subst e; rw [decide_eq_false h, Bool.and_false, Bool.and_false]
  · congr 1
    exact decide_eq_decide.2 (or_bitP c hc i hi j (by omega) e)
theorem null_zero {s w : List Int} {i : Nat} (hs : s.length ≤ 6) (hi : i < s.length) (h1 : s.getD i 0 ≠ 1) (h2 : s.getD i 0 ≠ 2) : exAt s.length (gameL s w) (p2 s.length) i = 0 := by
  have h64 := p2_le _ hs
  have : ((List.range (p2 s.length)).map fun c => exTerm s.length (gameL s w) c i) = (List.range (p2 s.length)).map fun _ => (0 : Int) := by
    refine List.map_congr_left fun c hc => ?_
    have hc' := List.mem_range.1 hc
    unfold exTerm
    split
    · have hor := or_lt hc' hi
      rw [gameL_getD hor, gameL_getD hc', cA_or (by omega) (by omega) hs h1, cA_or (by omega) (by omega) hs h2]
      simp
    · rfl
  rw [exAt, this, sum_map_zero]

/-! Two of one sort. -/
def swp (i k c : Nat) : Nat := if c / p2 i % 2 = c / p2 k % 2 then c else c ^^^ (p2 i ||| p2 k)
def tau (i k j : Nat) : Nat := if j = i then k else if j = k then i else j
theorem perm_sum {α : Type} {f : α → Int} {a b : List α} (h : a.Perm b) : (a.map f).sum = (b.map f).sum := by
  induction h with
  | nil => rfl
  | cons x _ ih => simp [ih]
  | swap x y l => simp only [List.map_cons, List.sum_cons]; omega
  | trans _ _ h1 h2 => exact h1.trans h2
theorem swp_perm : ∀ m, m < 7 → ∀ i, i < m → ∀ k, k < m → ((List.range (p2 m)).map (swp i k)).isPerm (List.range (p2 m)) = true := by decide +kernel
theorem tau_perm : ∀ m, m < 7 → ∀ i, i < m → ∀ k, k < m → ((List.range m).map (tau i k)).isPerm (List.range m) = true := by decide +kernel
theorem swp_lt : ∀ m, m < 7 → ∀ i, i < m → ∀ k, k < m → ∀ c, c < p2 m → swp i k c < p2 m := by decide +kernel
theorem swp_facts : ∀ i, i < 6 → ∀ k, k < 6 → ∀ c, c < 64 → swp i k c / p2 k % 2 = c / p2 i % 2 ∧ popF 64 (swp i k c) = popF 64 c ∧ swp i k c ||| p2 k = swp i k (c ||| p2 i) := by decide +kernel
theorem swp_bit : ∀ i, i < 6 → ∀ k, k < 6 → ∀ c, c < 64 → ∀ j, j < 6 → (bitP (swp i k c) j ↔ bitP c (tau i k j)) := by decide +kernel
theorem cA_swp {s : List Int} {t : Int} {c i k : Nat} (hs : s.length ≤ 6) (hc : c < 64) (hi : i < s.length) (hk : k < s.length) (h : s.getD i 0 = s.getD k 0) : cA s t (swp i k c) s.length = cA s t c s.length := by
  have e1 : cA s t (swp i k c) s.length = (List.range s.length).countP ((fun j => decide (bitP c j) && decide (s.getD j 0 = t)) ∘ tau i k) := by
    refine countP_same fun j hj => ?_
    have hj' := List.mem_range.1 hj
    have hst : s.getD (tau i k j) 0 = s.getD j 0 := by
      unfold tau
      split
      · rename_i e; rw [e, h]
      · split
        · rename_i e; rw [e, h]
        · rfl
    simp only [Function.comp, hst]
    congr 1
    exact decide_eq_decide.2 (swp_bit i (by omega) k (by omega) c hc j (by omega))
  rw [e1, ← List.countP_map, cA]
  exact (List.isPerm_iff.1 (tau_perm s.length (by omega) i hi k hk)).countP_eq _
theorem alike {s w : List Int} {i k : Nat} (hs : s.length ≤ 6) (hi : i < s.length) (hk : k < s.length) (h : s.getD i 0 = s.getD k 0) : exAt s.length (gameL s w) (p2 s.length) i = exAt s.length (gameL s w) (p2 s.length) k := by
  have h64 := p2_le _ hs
  have hp := perm_sum (f := fun c => exTerm s.length (gameL s w) c k) (List.isPerm_iff.1 (swp_perm s.length (by omega) i hi k hk))
  unfold exAt
  rw [← hp, List.map_map]
  congr 1
  refine List.map_congr_left fun c hc => ?_
  have hc' := List.mem_range.1 hc
  obtain ⟨f1, f2, f3⟩ := swp_facts i (by omega) k (by omega) c (by omega)
  have hl := swp_lt s.length (by omega) i hi k hk c hc'
  have hor := or_lt hc' hi
  have hl2 := swp_lt s.length (by omega) i hi k hk _ hor
  simp only [Function.comp, exTerm, f1]
  split
  · have e1 : pop (swp i k c) = pop c := by rw [pop_popF 64 _ (by omega), pop_popF 64 c (by omega), f2]
    rw [e1, f3, gameL_getD hor, gameL_getD hc', gameL_getD hl, gameL_getD hl2, cA_swp hs (by omega) hi hk h, cA_swp hs (by omega) hi hk h, cA_swp hs (by omega) hi hk h, cA_swp hs (by omega) hi hk h]
  · rfl
end Go.Proofs.Ythjpaongoflgiaa
