/- Aliases and places: plain. -/
import Derived.Test.YtmpakfpmmkfgpaaLbA
namespace Go.Proofs.Ytmpakfpmmkfgpaa
open Go Go.VX Go.RowKit
set_option linter.unusedVariables false
set_option linter.unusedSimpArgs false
set_option maxHeartbeats 20000000
set_option maxRecDepth 100000

theorem minL_mem : ∀ {l : List Int}, l ≠ [] → minL l ∈ l
  | [], h => absurd rfl h
  | a :: l, _ => by
    simp only [minL]
    induction l generalizing a with
    | nil => simp
    | cons b l ih =>
      rw [List.foldl_cons]
      rcases List.mem_cons.1 (ih (min a b) (by simp)) with h | h
      · rw [h]
        rcases Int.le_total a b with q | q
        · rw [Int.min_eq_left q]; simp
        · rw [Int.min_eq_right q]; simp
      · simp [h]
theorem minL_le : ∀ {l : List Int} {x : Int}, x ∈ l → minL l ≤ x
  | a :: l, x, h => by
    simp only [minL]
    have : ∀ (l : List Int) (a : Int), l.foldl min a ≤ a ∧ ∀ x ∈ l, l.foldl min a ≤ x := by
      intro l
      induction l with
      | nil => intro a; simp
      | cons b l ih =>
        intro a
        rw [List.foldl_cons]
        obtain ⟨h1, h2⟩ := ih (min a b)
        refine ⟨Int.le_trans h1 (Int.min_le_left _ _), fun x hx => ?_⟩
        rcases List.mem_cons.1 hx with rfl | hx
        · exact Int.le_trans h1 (Int.min_le_right _ _)
        · exact h2 x hx
    rcases List.mem_cons.1 h with rfl | h
    · exact (this l x).1
    · exact (this l a).2 x h
theorem minL_snoc (l : List Int) (o : Int) : minL (l ++ [o]) = if l = [] then o else if o < minL l then o else minL l := by
  cases l with
  | nil => rfl
  | cons a l =>
    show (l ++ [o]).foldl min a = if a :: l = [] then o else if o < l.foldl min a then o else l.foldl min a
    rw [List.foldl_append, List.foldl_cons, List.foldl_nil, if_neg (by simp)]
    by_cases h : o < l.foldl min a
    · rw [if_pos h, Int.min_eq_right (by omega)]
    · rw [if_neg h, Int.min_eq_left (by omega)]
theorem minL_perm {a b : List Int} (h : a.Perm b) : minL a = minL b := by
  by_cases e : a = []
  · subst e; rw [h.symm.eq_nil]
  · have e2 : b ≠ [] := fun q => e (by subst q; exact h.eq_nil)
    have h1 := minL_le (h.mem_iff.2 (minL_mem e2))
    have h2 := minL_le (h.mem_iff.1 (minL_mem e))
    omega
theorem leastP_perm {a b : List Stp} (h : a.Perm b) (t : Int) : leastP a t = leastP b t := minL_perm ((h.filter _).map _)
theorem leastP_le {L : List Stp} {y : Stp} (h : y ∈ L) : leastP L y.tr ≤ y.oi :=
  minL_le (List.mem_map.2 ⟨y, List.mem_filter.2 ⟨h, by simp⟩, rfl⟩)
theorem leastP_has {L : List Stp} {s : Stp} (h : s ∈ L) : ∃ y ∈ L, y.tr = s.tr ∧ y.oi = leastP L s.tr := by
  have hne : (L.filter fun y => y.tr == s.tr).map (·.oi) ≠ [] := by
    intro e
    have : s ∈ L.filter fun y => y.tr == s.tr := List.mem_filter.2 ⟨h, by simp⟩
    rw [List.map_eq_nil_iff.1 e] at this
    simp at this
  obtain ⟨y, hy, he⟩ := List.mem_map.1 (minL_mem hne)
  obtain ⟨h1, h2⟩ := List.mem_filter.1 hy
  exact ⟨y, h1, by simpa using h2, he⟩
theorem countP_perm {α : Type} {a b : List α} {p : α → Bool} (h : a.Perm b) : a.countP p = b.countP p := h.countP_eq p
theorem rowP_perm {a b : List Stp} (h : a.Perm b) (s : Stp) : rowP a s = rowP b s := by
  have e : (fun t => leastP a t) = fun t => leastP b t := funext fun t => leastP_perm h t
  have e2 : leastP a = leastP b := e
  simp only [rowP, aliasP, placeP, e2]
  rw [countP_perm h, countP_perm h]
/-! ### Distinct numbers, as they come -/
def addN (K : List Int) (t : Int) : List Int := if t ∈ K then K else K ++ [t]
def dd (l : List Int) : List Int := l.foldl addN []
theorem dd_snoc (l : List Int) (t : Int) : dd (l ++ [t]) = addN (dd l) t := by simp [dd]
theorem addN_mem {K : List Int} {t x : Int} : x ∈ addN K t ↔ x ∈ K ∨ x = t := by
  unfold addN
  split
  · constructor
    · exact .inl
    · rintro (h | rfl) <;> assumption
  · simp
theorem foldl_snoc_ind {α : Type} {P : List α → Prop} (h0 : P []) (h1 : ∀ l a, P l → P (l ++ [a])) (l : List α) : P l := by
  have : ∀ n (l : List α), l.length = n → P l := by
    intro n
    induction n with
    | zero => intro l h; rw [List.length_eq_zero_iff.1 h]; exact h0
    | succ n ih =>
      intro l h
      rcases List.eq_nil_or_concat l with e | ⟨m, a, e⟩
      · subst e; simp at h
      · subst e
        rw [List.concat_eq_append] at h ⊢
        exact h1 m a (ih m (by simpa using h))
  exact this _ l rfl
theorem dd_mem {l : List Int} {x : Int} : x ∈ dd l ↔ x ∈ l := by
  induction l using foldl_snoc_ind with
  | h0 => simp [dd]
  | h1 l a ih => rw [dd_snoc, addN_mem, ih]; simp
theorem dd_nodup (l : List Int) : (dd l).Nodup := by
  induction l using foldl_snoc_ind with
  | h0 => simp [dd]
  | h1 l a ih =>
    rw [dd_snoc]
    unfold addN
    split
    · exact ih
    · rename_i h
      rw [List.nodup_append]
      exact ⟨ih, by simp, fun x hx y hy => by simp at hy; subst hy; rintro rfl; exact h hx⟩
theorem dd_le (l : List Int) : (dd l).length ≤ l.length := by
  induction l using foldl_snoc_ind with
  | h0 => simp [dd]
  | h1 l a ih =>
    rw [dd_snoc]
    unfold addN
    split <;> simp <;> omega
theorem split_at' {α : Type} {l : List α} {i : Nat} {x : α} (h : l[i]? = some x) : l = l.take i ++ x :: l.drop (i + 1) := by
  obtain ⟨hi, e⟩ := List.getElem?_eq_some_iff.1 h
  rw [← e, ← List.drop_eq_getElem_cons hi, List.take_append_drop]
theorem lt_before {L : List Stp} (hs : L.Pairwise fun a b => a.oi < b.oi) {i : Nat} {s y : Stp} (h : L[i]? = some s) (hy : y ∈ L.take i) : y.oi < s.oi := by
  have e := split_at' h
  rw [e] at hs
  exact (List.pairwise_append.1 hs).2.2 y hy s (by simp)
theorem oi_inj {L : List Stp} (hs : L.Pairwise fun a b => a.oi < b.oi) {a b : Stp} (ha : a ∈ L) (hb : b ∈ L) (h : a.oi = b.oi) : a = b := by
  obtain ⟨i, hi⟩ := List.mem_iff_getElem?.1 ha
  obtain ⟨j, hj⟩ := List.mem_iff_getElem?.1 hb
  obtain ⟨hi1, hi2⟩ := List.getElem?_eq_some_iff.1 hi
  obtain ⟨hj1, hj2⟩ := List.getElem?_eq_some_iff.1 hj
  rcases Nat.lt_trichotomy i j with q | q | q
  · have := List.pairwise_iff_getElem.1 hs i j hi1 hj1 q; rw [hi2, hj2] at this; omega
  · subst q; rw [hi] at hj; exact Option.some.inj hj
  · have := List.pairwise_iff_getElem.1 hs j i hj1 hi1 q; rw [hi2, hj2] at this; omega
theorem first_iff {L : List Stp} (hs : L.Pairwise fun a b => a.oi < b.oi) {i : Nat} {s : Stp} (h : L[i]? = some s) : s.oi = leastP L s.tr ↔ s.tr ∉ (L.take i).map (·.tr) := by
  have hm : s ∈ L := List.mem_of_getElem? h
  constructor
  · intro e hin
    obtain ⟨y, hy, ht⟩ := List.mem_map.1 hin
    have h1 := lt_before hs h hy
    have h2 := leastP_le (List.mem_of_mem_take hy)
    rw [ht] at h2
    omega
  · intro hn
    obtain ⟨y, hy, ht, ho⟩ := leastP_has hm
    rw [split_at' h] at hy
    rcases List.mem_append.1 hy with q | q
    · exact absurd (List.mem_map.2 ⟨y, q, ht⟩) hn
    · rcases List.mem_cons.1 q with rfl | q
      · exact ho
      · have e := split_at' h
        rw [e] at hs
        have := (List.pairwise_cons.1 (List.pairwise_append.1 hs).2.1).1 y q
        have := leastP_le hm
        omega
def firstB (L : List Stp) (y : Stp) : Bool := decide (y.oi = leastP L y.tr)
theorem dd_firsts {L : List Stp} (hs : L.Pairwise fun a b => a.oi < b.oi) : ∀ i, i ≤ L.length → dd ((L.take i).map (·.tr)) = ((L.take i).filter (firstB L)).map (·.tr)
  | 0, _ => by simp [dd]
  | i + 1, h => by
    obtain ⟨s, hi⟩ := getI (l := L) (i := i) (by omega)
    have ih := dd_firsts hs i (by omega)
    have h1 := first_iff hs hi
    rw [take_snoc hi, List.map_append, List.filter_append, List.map_append, ← ih, List.map_cons, List.map_nil, dd_snoc]
    unfold addN
    by_cases q : s.tr ∈ (L.take i).map (·.tr)
    · rw [if_pos (dd_mem.2 q)]
      have : firstB L s = false := by simp only [firstB, decide_eq_false_iff_not]; exact fun e => h1.1 e q
      simp [this]
    · rw [if_neg (fun e => q (dd_mem.1 e))]
      have : firstB L s = true := by simp only [firstB, decide_eq_true_eq]; exact h1.2 q
      simp [this]
theorem count_lt {F : List Stp} (hs : F.Pairwise fun a b => a.oi < b.oi) {k : Nat} {f : Stp} (h : F[k]? = some f) : F.countP (fun y => decide (y.oi < f.oi)) = k := by
  have e := split_at' h
  have hlt : ∀ y ∈ F.take k, y.oi < f.oi := fun y hy => lt_before hs h hy
  have hk := (List.getElem?_eq_some_iff.1 h).1
  have hs2 := hs
  rw [e] at hs2
  have hgt := (List.pairwise_cons.1 (List.pairwise_append.1 hs2).2.1).1
  rw [e, List.countP_append, List.countP_cons]
  rw [List.countP_eq_length.2 (fun y hy => by simpa using hlt y hy), List.countP_eq_zero.2 (fun y hy => by have := hgt y hy; simp; omega)]
  simp; omega
theorem alias_idx {L : List Stp} (hs : L.Pairwise fun a b => a.oi < b.oi) {s : Stp} (hm : s ∈ L) : ((dd (L.map (·.tr))).idxOf s.tr : Int) + 1 = aliasP L s := by
  have hd := dd_firsts hs L.length (Nat.le_refl _)
  rw [List.take_length] at hd
  obtain ⟨F, hF⟩ : ∃ F, F = L.filter (firstB L) := ⟨_, rfl⟩
  rw [← hF] at hd
  have hFs : F.Pairwise fun a b => a.oi < b.oi := by rw [hF]; exact hs.sublist List.filter_sublist
  have hin : s.tr ∈ F.map (·.tr) := by rw [← hd]; exact dd_mem.2 (List.mem_map.2 ⟨s, hm, rfl⟩)
  obtain ⟨k, hk⟩ : ∃ k, (F.map (·.tr)).idxOf s.tr = k := ⟨_, rfl⟩
  have hkl : k < F.length := by rw [← hk, ← List.length_map (f := (·.tr))]; exact List.idxOf_lt_length_iff.2 hin
  obtain ⟨f, hf⟩ := getI hkl
  have hft : f.tr = s.tr := by
    have := List.getElem_idxOf (List.idxOf_lt_length_iff.2 hin)
    simp only [hk] at this
    rw [← this, List.getElem_map, (List.getElem?_eq_some_iff.1 hf).2]
  have hfm : f ∈ F := List.mem_of_getElem? hf
  have hfo : f.oi = leastP L s.tr := by
    rw [hF] at hfm
    have := (List.mem_filter.1 hfm).2
    simp only [firstB, decide_eq_true_eq] at this
    rw [this, hft]
  rw [hd, hk]
  unfold aliasP
  have hc := count_lt hFs hf
  rw [hfo, hF, List.countP_filter] at hc
  have he : (L.countP fun y => !decide (y.tr = s.tr) && (decide (y.oi = leastP L y.tr) && decide (y.oi < leastP L s.tr))) = k := by
    rw [← hc]
    refine List.countP_congr fun y hy => ?_
    simp only [firstB, Bool.and_eq_true, Bool.not_eq_true', decide_eq_true_eq, decide_eq_false_iff_not]
    constructor
    · rintro ⟨_, h1, h2⟩; exact ⟨h2, h1⟩
    · rintro ⟨h1, h2⟩
      exact ⟨fun e => by rw [e] at h2; omega, h2, h1⟩
  rw [he]; omega
/-! ### Places -/
theorem place_at {M : List Stp} (hs : M.Pairwise fun a b => lexB a b = true) {i : Nat} {s : Stp} (h : M[i]? = some s) : (((M.take (i + 1)).map (·.tr)).count s.tr : Int) = placeP M s := by
  have asym : ∀ {a b : Stp}, lexB a b = true → lexB b a = false := by
    intro a b q
    simp only [lexB, Bool.or_eq_true, Bool.and_eq_true, decide_eq_true_eq] at q
    simp only [lexB, Bool.or_eq_false_iff, Bool.and_eq_false_iff, decide_eq_false_iff_not]
    omega
  have hss : lexB s s = false := by simp [lexB]
  have e := split_at' h
  have hs2 := hs
  rw [e] at hs2
  have hb := (List.pairwise_append.1 hs2).2.2
  have ha := (List.pairwise_cons.1 (List.pairwise_append.1 hs2).2.1).1
  unfold placeP
  rw [take_snoc h]
  conv => rhs; rw [e]
  rw [List.countP_append, List.countP_cons, List.map_append, List.count_append]
  have hz : (M.drop (i + 1)).countP (fun y => decide (y.tr = s.tr) && lexB y s) = 0 := List.countP_eq_zero.2 fun y hy => by simp [asym (ha y hy)]
  rw [hz]
  have h1 : ((M.take i).map (·.tr)).count s.tr = (M.take i).countP (fun y => decide (y.tr = s.tr) && lexB y s) := by
    rw [List.count, List.countP_map]
    refine List.countP_congr fun y hy => ?_
    simp [hb y hy s (by simp)]
  rw [h1]
  simp [hss]
  omega
end Go.Proofs.Ytmpakfpmmkfgpaa
