/- Fractions, rounded: plain facts. -/
import Derived.Test.YtifhbgppjblobaaVXc
namespace Go.VX.Rk
set_option linter.unusedVariables false
open Go.VX.Srt (T Weak)

structure Part where
  at_ : Int
  down : Int
  left : Int
def parts (D L : List Int) : List Part := (List.range D.length).map fun (i : Nat) => ⟨(i : Int), D.getD i 0, L.getD i 0⟩
theorem parts_length (D L : List Int) : (parts D L).length = D.length := by simp [parts]
theorem parts_get {D L : List Int} {i : Nat} (h : i < D.length) : (parts D L)[i]? = some ⟨i, D.getD i 0, L.getD i 0⟩ := by simp [parts, h]
/-- More is left. -/
def moreLeft (a b : Part) : Bool := decide (b.left < a.left)
theorem moreLeft_weak : Weak moreLeft := ⟨fun a b h => by simp [moreLeft] at *; omega, fun a b c h k => by simp [moreLeft] at *; omega⟩
/-- What is sorted: by rank. -/
theorem sorted_rank {D L : List Int} (hl : L.length = D.length) {Z : List (Part × Nat)} (hp : Z.Perm (parts D L).zipIdx) (hs : Z.Pairwise (T moreLeft)) {j : Nat} {z : Part × Nat} (h : Z[j]? = some z) :
    z.2 < D.length ∧ z.1 = ⟨z.2, D.getD z.2 0, L.getD z.2 0⟩ ∧ rank L z.2 = j := by
  have hm : ∀ x ∈ Z, x.2 < D.length ∧ x.1 = ⟨x.2, D.getD x.2 0, L.getD x.2 0⟩ := by
    intro x hx
    have := hp.mem_iff.1 hx
    rw [List.mem_zipIdx_iff_getElem?] at this
    have hlt : x.2 < D.length := by
      have := (List.getElem?_eq_some_iff.1 this).1
      rwa [parts_length] at this
    rw [parts_get hlt] at this
    exact ⟨hlt, (Option.some.inj this).symm⟩
  obtain ⟨h1, h2⟩ := hm z (List.mem_of_getElem? h)
  refine ⟨h1, h2, ?_⟩
  refine rank_sorted (S := Z.map Prod.snd) ?_ ?_ (by simp [h])
  · have := hp.map Prod.snd
    rwa [List.zipIdx_map_snd, parts_length, ← hl, ← List.range_eq_range'] at this
  · rw [List.pairwise_map]
    refine hs.imp_of_mem fun {a b} ha hb q => ?_
    obtain ⟨a1, a2⟩ := hm a ha
    obtain ⟨b1, b2⟩ := hm b hb
    unfold T moreLeft at q
    rw [a2, b2] at q
    simp [ahead] at q ⊢
    omega
theorem sorted_length {D L : List Int} {Z : List (Part × Nat)} (hp : Z.Perm (parts D L).zipIdx) : Z.length = D.length := by
  rw [hp.length_eq, List.length_zipIdx, parts_length]
/-- What lies there when so many, by rank, are put. -/
def outN (D L : List Int) (w : Int) (k : Nat) : List Int := (List.range D.length).map fun i => if rank L i < k then D.getD i 0 + (if (rank L i : Int) < w then 1 else 0) else 0
theorem outN_length (D L : List Int) (w : Int) (k : Nat) : (outN D L w k).length = D.length := by simp [outN]
theorem outN_zero (D L : List Int) (w : Int) : outN D L w 0 = List.replicate D.length 0 := by
  apply List.ext_getElem?
  intro i
  simp only [outN, List.getElem?_map, List.getElem?_replicate]
  by_cases h : i < D.length <;> simp [h]
theorem outN_all {D L : List Int} {w : Int} (hl : L.length = D.length) : outN D L w D.length = upped D L w := by
  unfold outN upped
  refine List.map_congr_left fun i hi => ?_
  have := rank_lt (L := L) (a := i) (by rw [hl]; simpa using hi)
  rw [if_pos (by omega)]
theorem outN_step {D L : List Int} {w : Int} (hl : L.length = D.length) {k t : Nat} (ht : t < D.length) (hr : rank L t = k) :
    (outN D L w k).set t (D.getD t 0 + if (k : Int) < w then 1 else 0) = outN D L w (k + 1) := by
  apply List.ext_getElem?
  intro i
  rw [List.getElem?_set, outN_length]
  by_cases e : t = i
  · subst e
    rw [if_pos rfl, if_pos ht]
    simp [outN, ht, hr]
  · rw [if_neg e]
    simp only [outN, List.getElem?_map]
    by_cases h : i < D.length
    · have hne : rank L i ≠ k := fun q => e (rank_inj (by omega) (by omega) (hr.trans q.symm))
      simp only [List.getElem?_range h, Option.map_some]
      by_cases q : rank L i < k
      · rw [if_pos q, if_pos (by omega : rank L i < k + 1)]
      · rw [if_neg q, if_neg (by omega : ¬ rank L i < k + 1)]
    · simp [h]
theorem outN_get {D L : List Int} {w : Int} {k t : Nat} (ht : t < D.length) (hr : rank L t = k) : (outN D L w k)[t]? = some 0 := by simp [outN, ht, hr]
/-- Of which those of a rank below k are one more. -/
theorem upped_step {D L : List Int} (hl : L.length = D.length) {k t : Nat} (ht : t < D.length) (hr : rank L t = k) :
    (upped D L k).set t (D.getD t 0 + 1) = upped D L ((k + 1 : Nat) : Int) := by
  apply List.ext_getElem?
  intro i
  rw [List.getElem?_set, upped_length]
  by_cases e : t = i
  · subst e
    rw [if_pos rfl, if_pos ht, upped_get ht, hr, if_pos (by omega)]
  · rw [if_neg e]
    by_cases h : i < D.length
    · have hne : rank L i ≠ k := fun q => e (rank_inj (by omega) (by omega) (hr.trans q.symm))
      rw [upped_get h, upped_get h]
      by_cases q : rank L i < k
      · rw [if_pos (by omega), if_pos (by omega)]
      · rw [if_neg (by omega), if_neg (by omega)]
    · rw [List.getElem?_eq_none (by rw [upped_length]; omega), List.getElem?_eq_none (by rw [upped_length]; omega)]
theorem upped_at {D L : List Int} {k t : Nat} (ht : t < D.length) (hr : rank L t = k) : (upped D L k)[t]? = some (D.getD t 0) := by
  rw [upped_get ht, hr, if_neg (by omega)]; simp
theorem upped_zero {D L : List Int} {w : Int} (h : w ≤ 0) : upped D L w = D := by
  conv => rhs; rw [← getD_map_range D]
  unfold upped
  refine List.map_congr_left fun i _ => ?_
  rw [if_neg (by omega)]; simp
theorem upped_much {D L : List Int} (hl : L.length = D.length) {w v : Int} (hw : D.length ≤ w) (hv : D.length ≤ v) : upped D L w = upped D L v := by
  unfold upped
  refine List.map_congr_left fun i hi => ?_
  have := rank_lt (L := L) (a := i) (by rw [hl]; simpa using hi)
  rw [if_pos (by omega), if_pos (by omega)]
def usedL (L : List Int) (k : Nat) : List Bool := (List.range L.length).map fun i => decide (rank L i < k)
theorem usedL_length (L : List Int) (k : Nat) : (usedL L k).length = L.length := by simp [usedL]
theorem usedL_get {L : List Int} {k i : Nat} (h : i < L.length) : (usedL L k)[i]? = some (decide (rank L i < k)) := by simp [usedL, h]
theorem usedL_zero (L : List Int) : usedL L 0 = List.replicate L.length false := by
  apply List.ext_getElem?
  intro i
  simp only [usedL, List.getElem?_map, List.getElem?_replicate]
  by_cases h : i < L.length <;> simp [h]
theorem usedL_step {L : List Int} {k t : Nat} (ht : t < L.length) (hr : rank L t = k) : (usedL L k).set t true = usedL L (k + 1) := by
  apply List.ext_getElem?
  intro i
  rw [List.getElem?_set, usedL_length]
  by_cases e : t = i
  · subst e
    rw [if_pos rfl, if_pos ht, usedL_get ht, hr]; simp
  · rw [if_neg e]
    by_cases h : i < L.length
    · have hne : rank L i ≠ k := fun q => e (rank_inj ht h (hr.trans q.symm))
      rw [usedL_get h, usedL_get h]
      congr 1
      by_cases q : rank L i < k <;> simp <;> omega
    · rw [List.getElem?_eq_none (by rw [usedL_length]; omega), List.getElem?_eq_none (by rw [usedL_length]; omega)]
/-- The best one so far of those that are not used. -/
def Best (L : List Int) (k i : Nat) (a : Int) : Prop := (a = -1 ∧ ∀ j, j < i → rank L j < k) ∨ ∃ t : Nat, a = t ∧ t < i ∧ k ≤ rank L t ∧ ∀ j, j < i → rank L j < k ∨ rank L t ≤ rank L j
theorem Best.zero (L : List Int) (k : Nat) : Best L k 0 (-1) := .inl ⟨rfl, fun j h => by omega⟩
theorem Best.used {L : List Int} {k i : Nat} {a : Int} (h : Best L k i a) (hu : rank L i < k) : Best L k (i + 1) a := by
  rcases h with ⟨rfl, h⟩ | ⟨t, rfl, h1, h2, h3⟩
  · exact .inl ⟨rfl, fun j hj => by by_cases e : j = i; · subst e; exact hu
                                    · exact h j (by omega)⟩
  · exact .inr ⟨t, rfl, by omega, h2, fun j hj => by by_cases e : j = i; · subst e; exact .inl hu
                                                     · exact h3 j (by omega)⟩
theorem Best.take {L : List Int} {k i : Nat} {a : Int} (hi : i < L.length) (h : Best L k i a) (hu : k ≤ rank L i) (hb : a < 0 ∨ ∃ t : Nat, a = t ∧ L.getD t 0 < L.getD i 0) : Best L k (i + 1) i := by
  refine .inr ⟨i, rfl, by omega, hu, fun j hj => ?_⟩
  rcases h with ⟨rfl, h⟩ | ⟨t, rfl, h1, h2, h3⟩
  · by_cases e : j = i
    · subst e; right; omega
    · exact .inl (h j (by omega))
  · rcases hb with q | ⟨t', e', hb⟩
    · omega
    have : t' = t := by omega
    subst this
    have hr : rank L i < rank L t' := rank_lt_of hi (by simp only [ahead, Bool.or_eq_true, Bool.and_eq_true, decide_eq_true_eq]; omega)
    by_cases e : j = i
    · subst e; right; omega
    · rcases h3 j (by omega) with q | q
      · exact .inl q
      · right; omega
theorem Best.keep {L : List Int} {k i t : Nat} (hi : i < L.length) (h : Best L k i t) (hb : L.getD i 0 ≤ L.getD t 0) : Best L k (i + 1) t := by
  rcases h with ⟨e, h⟩ | ⟨t', e, h1, h2, h3⟩
  · omega
  have : t' = t := by omega
  subst this
  refine .inr ⟨t', rfl, by omega, h2, fun j hj => ?_⟩
  by_cases q : j = i
  · subst q
    right
    have : rank L t' < rank L j := rank_lt_of (by omega) (by simp only [ahead, Bool.or_eq_true, Bool.and_eq_true, decide_eq_true_eq]; omega)
    omega
  · exact h3 j (by omega)
theorem Best.all {L : List Int} {k : Nat} {a : Int} (h : Best L k L.length a) : (a = -1 ∧ L.length ≤ k) ∨ ∃ t : Nat, a = t ∧ t < L.length ∧ rank L t = k := by
  by_cases hk : k < L.length
  · obtain ⟨s, hs, hr⟩ := rank_surj hk
    rcases h with ⟨e, h⟩ | ⟨t, rfl, h1, h2, h3⟩
    · have := h s hs; omega
    · rcases h3 s hs with q | q
      · omega
      · exact .inr ⟨t, rfl, h1, by omega⟩
  · rcases h with ⟨e, h⟩ | ⟨t, rfl, h1, h2, h3⟩
    · exact .inl ⟨e, by omega⟩
    · have := rank_lt h1; omega
end Go.VX.Rk
