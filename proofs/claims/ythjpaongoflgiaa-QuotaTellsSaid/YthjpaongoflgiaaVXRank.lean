/- Ranks: how many come ahead; what is rounded up. -/
import Derived.Test.YthjpaongoflgiaaVXRows
namespace Go.VX.Rk
set_option linter.unusedVariables false

/-- A nodup list of numbers below its length has them all. -/
theorem nodup_all {R : List Nat} {n : Nat} (h1 : R.Nodup) (h2 : ∀ k ∈ R, k < n) (h3 : R.length = n) : R.Perm (List.range n) := by
  have hp : R.Perm ((List.range n).filter fun k => decide (k ∈ R)) := by
    rw [List.perm_ext_iff_of_nodup h1 (List.nodup_range.filter _)]
    intro k
    simp only [List.mem_filter, List.mem_range, decide_eq_true_eq]
    exact ⟨fun q => ⟨h2 k q, q⟩, fun q => q.2⟩
  have hl := hp.length_eq
  rw [h3] at hl
  have : (List.range n).filter (fun k => decide (k ∈ R)) = List.range n := by
    refine List.filter_eq_self.2 fun k hk => ?_
    have h := List.length_filter_eq_length_iff (p := fun k => decide (k ∈ R)) (l := List.range n) |>.1 (by rw [← hl]; simp)
    exact h k hk
  rw [this] at hp
  exact hp

/-- j comes ahead of i: more is left; of alike the first one. -/
def ahead (L : List Int) (j i : Nat) : Bool := decide (L.getD i 0 < L.getD j 0) || (decide (L.getD j 0 = L.getD i 0) && decide (j < i))
theorem ahead_irrefl (L : List Int) (i : Nat) : ahead L i i = false := by simp [ahead]
theorem ahead_trans {L : List Int} {a b c : Nat} (h : ahead L a b = true) (k : ahead L b c = true) : ahead L a c = true := by
  simp [ahead] at *
  omega
theorem ahead_total {L : List Int} {a b : Nat} (h : a ≠ b) : ahead L a b = true ∨ ahead L b a = true := by
  simp [ahead] at *
  omega
theorem ahead_asymm {L : List Int} {a b : Nat} (h : ahead L a b = true) : ahead L b a = false := by
  simp [ahead] at *
  omega
def rank (L : List Int) (i : Nat) : Nat := (List.range L.length).countP fun j => ahead L j i
theorem rank_lt_of {L : List Int} {a b : Nat} (ha : a < L.length) (h : ahead L a b = true) : rank L a < rank L b := by
  unfold rank
  have h1 : ∀ j ∈ List.range L.length, ahead L j a = true → ahead L j b = true := fun j _ q => ahead_trans q h
  have h2 := List.countP_mono_left h1
  refine Nat.lt_of_le_of_ne h2 fun e => ?_
  have : (List.range L.length).countP (fun j => ahead L j a || decide (j = a)) ≤ (List.range L.length).countP fun j => ahead L j b := by
    refine List.countP_mono_left fun j hj q => ?_
    simp only [Bool.or_eq_true, decide_eq_true_eq] at q
    rcases q with q | rfl
    · exact ahead_trans q h
    · exact h
  have h3 : (List.range L.length).countP (fun j => ahead L j a || decide (j = a)) = (List.range L.length).countP (fun j => ahead L j a) + 1 := by
    have : ∀ l : List Nat, l.Nodup → a ∈ l → l.countP (fun j => ahead L j a || decide (j = a)) = l.countP (fun j => ahead L j a) + 1 := by
      intro l
      induction l with
      | nil => intro _ h; cases h
      | cons x l ih =>
        intro hn hm
        rw [List.nodup_cons] at hn
        simp only [List.countP_cons]
        by_cases e : x = a
        · subst e
          have hno : l.countP (fun j => ahead L j x || decide (j = x)) = l.countP (fun j => ahead L j x) := by
            refine List.countP_congr fun j hj => ?_
            have : j ≠ x := fun e => hn.1 (e ▸ hj)
            simp [this]
          simp [hno, ahead_irrefl]
        · have := ih hn.2 (by simpa [Ne.symm e] using hm)
          simp only [this, e, decide_false, Bool.or_false]
          omega
    exact this _ List.nodup_range (by simpa using ha)
  omega
theorem rank_lt_iff {L : List Int} {a b : Nat} (ha : a < L.length) (hb : b < L.length) : rank L a < rank L b ↔ ahead L a b = true := by
  refine ⟨fun h => ?_, rank_lt_of ha⟩
  by_cases e : a = b
  · subst e; omega
  rcases ahead_total (L := L) e with q | q
  · exact q
  · have := rank_lt_of hb q; omega
theorem rank_inj {L : List Int} {a b : Nat} (ha : a < L.length) (hb : b < L.length) (h : rank L a = rank L b) : a = b := by
  refine Decidable.byContradiction fun e => ?_
  rcases ahead_total (L := L) e with q | q
  · have := rank_lt_of ha q; omega
  · have := rank_lt_of hb q; omega
theorem rank_lt {L : List Int} {a : Nat} (ha : a < L.length) : rank L a < L.length := by
  unfold rank
  have h1 := List.countP_le_length (p := fun j => ahead L j a) (l := List.range L.length)
  rw [List.length_range] at h1
  refine Nat.lt_of_le_of_ne h1 fun e => ?_
  have := (List.countP_eq_length (l := List.range L.length)).1 (e.trans List.length_range.symm) a (by simpa using ha)
  rw [ahead_irrefl] at this
  cases this
theorem ranks_perm (L : List Int) : ((List.range L.length).map (rank L)).Perm (List.range L.length) := by
  refine nodup_all ?_ (fun k hk => ?_) (by simp)
  · rw [List.nodup_iff_pairwise_ne, List.pairwise_map]
    refine List.Pairwise.imp_of_mem ?_ List.nodup_range
    intro a b ha hb hne e
    exact hne (rank_inj (by simpa using ha) (by simpa using hb) e)
  · obtain ⟨i, hi, rfl⟩ := List.mem_map.1 hk
    exact rank_lt (by simpa using hi)
theorem rank_surj {L : List Int} {k : Nat} (h : k < L.length) : ∃ i, i < L.length ∧ rank L i = k := by
  have := (ranks_perm L).mem_iff.2 (List.mem_range.2 h)
  obtain ⟨i, hi, e⟩ := List.mem_map.1 this
  exact ⟨i, by simpa using hi, e⟩
/-- What is sorted lies by its rank. -/
theorem rank_sorted {L : List Int} {S : List Nat} (hp : S.Perm (List.range L.length)) (hs : S.Pairwise fun a b => ahead L a b = true) {j i : Nat} (h : S[j]? = some i) : rank L i = j := by
  unfold rank
  rw [← hp.countP_eq]
  obtain ⟨hj, e⟩ := List.getElem?_eq_some_iff.1 h
  have e1 : S = S.take j ++ i :: S.drop (j + 1) := by
    have := List.take_append_drop j S
    rw [List.drop_eq_getElem_cons hj, e] at this
    exact this.symm
  rw [e1] at hs
  rw [e1, List.countP_append, List.countP_cons]
  rw [List.pairwise_append] at hs
  obtain ⟨_, h2, h3⟩ := hs
  rw [List.pairwise_cons] at h2
  have c1 : (S.take j).countP (fun x => ahead L x i) = (S.take j).length := List.countP_eq_length.2 fun x hx => h3 x hx i (by simp)
  have c2 : (S.drop (j + 1)).countP (fun x => ahead L x i) = 0 := List.countP_eq_zero.2 fun x hx => by rw [ahead_asymm (h2.1 x hx)]; simp
  rw [c1, c2, ahead_irrefl, List.length_take_of_le (by omega)]
  simp

/-- What is rounded: the first ones in rank are one more. -/
def upped (D L : List Int) (lack : Int) : List Int := (List.range D.length).map fun i => D.getD i 0 + if (rank L i : Int) < lack then 1 else 0
theorem upped_length (D L : List Int) (lack : Int) : (upped D L lack).length = D.length := by simp [upped]
theorem upped_get {D L : List Int} {lack : Int} {i : Nat} (h : i < D.length) : (upped D L lack)[i]? = some (D.getD i 0 + if (rank L i : Int) < lack then 1 else 0) := by
  simp [upped, h]
theorem countP_lt_range (n : Nat) : ∀ m, m ≤ n → (List.range n).countP (fun k => decide (k < m)) = m := by
  induction n with
  | zero => intro m h; have : m = 0 := by omega
            subst this; rfl
  | succ n ih =>
    intro m h
    rw [List.range_succ, List.countP_append, List.countP_singleton]
    by_cases e : m ≤ n
    · rw [ih m e]; simp; omega
    · have : m = n + 1 := by omega
      subst this
      have : (List.range n).countP (fun k => decide (k < n + 1)) = (List.range n).countP (fun k => decide (k < n)) := List.countP_congr fun k hk => by
        have := List.mem_range.1 hk
        simp; omega
      rw [this, ih n (Nat.le_refl _)]
      simp
theorem sum_map_add {l : List Nat} (f g : Nat → Int) : (l.map fun i => f i + g i).sum = (l.map f).sum + (l.map g).sum := by
  induction l with
  | nil => rfl
  | cons x l ih => simp only [List.map_cons, List.sum_cons, ih]; omega
theorem sum_ite_countP {l : List Nat} (p : Nat → Prop) [DecidablePred p] : (l.map fun i => if p i then (1 : Int) else 0).sum = l.countP fun i => decide (p i) := by
  induction l with
  | nil => rfl
  | cons x l ih =>
    simp only [List.map_cons, List.sum_cons, ih, List.countP_cons]
    by_cases h : p x <;> simp [h]
    omega
theorem getD_map_range (D : List Int) : (List.range D.length).map (fun i => D.getD i 0) = D := by
  apply List.ext_getElem?
  intro i
  by_cases h : i < D.length
  · simp [h, List.getD_eq_getElem?_getD]
  · simp only [Nat.not_lt] at h
    rw [List.getElem?_eq_none (by simpa using h), List.getElem?_eq_none h]
/-- All of it. -/
theorem upped_sum {D L : List Int} {lack : Int} (hl : L.length = D.length) (h0 : 0 ≤ lack) (h1 : lack ≤ D.length) : (upped D L lack).sum = D.sum + lack := by
  unfold upped
  rw [sum_map_add, getD_map_range, sum_ite_countP]
  have hc : (List.range D.length).countP (fun i => decide ((rank L i : Int) < lack)) = ((List.range D.length).map (rank L)).countP fun k => decide (k < lack.toNat) := by
    rw [List.countP_map]
    refine List.countP_congr fun i _ => ?_
    simp
  rw [hc, ← hl, (ranks_perm L).countP_eq, countP_lt_range _ _ (by omega)]
  omega
end Go.VX.Rk
