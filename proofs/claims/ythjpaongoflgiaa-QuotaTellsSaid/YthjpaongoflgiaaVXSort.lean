/- Sorting that keeps the order of what is alike: plain facts. Each element bears a tag, its first place. -/
import Derived.Test.YthjpaongoflgiaaVXRows
namespace Go.VX.Srt
set_option linter.unusedVariables false

structure Weak {α : Type} (lt : α → α → Bool) : Prop where
  asymm : ∀ a b, lt a b = true → lt b a = false
  ntrans : ∀ a b c, lt a b = false → lt b c = false → lt a c = false
section
variable {α : Type} {lt : α → α → Bool}
/-- Ahead: less, or alike and tagged earlier. -/
def T (lt : α → α → Bool) (p q : α × Nat) : Prop := lt p.1 q.1 = true ∨ (lt q.1 p.1 = false ∧ p.2 < q.2)
theorem Weak.trans (h : Weak lt) {a b c : α} (h1 : lt a b = true) (h2 : lt b c = true) : lt a c = true := by
  rcases e : lt a c with _ | _
  · have := h.ntrans a c b e (h.asymm b c h2)
    rw [this] at h1; cases h1
  · rfl
theorem T.trans (h : Weak lt) {p q r : α × Nat} (h1 : T lt p q) (h2 : T lt q r) : T lt p r := by
  unfold T at *
  rcases h1 with a | ⟨a1, a2⟩
  · rcases h2 with b | ⟨b1, b2⟩
    · exact .inl (h.trans a b)
    · left
      rcases e : lt p.1 r.1 with _ | _
      · have := h.ntrans _ _ _ e b1
        rw [this] at a; cases a
      · rfl
  · rcases h2 with b | ⟨b1, b2⟩
    · left
      rcases e : lt p.1 r.1 with _ | _
      · have := h.ntrans _ _ _ a1 e
        rw [this] at b; cases b
      · rfl
    · exact .inr ⟨h.ntrans _ _ _ b1 a1, by omega⟩
theorem T.asymm (h : Weak lt) {p q : α × Nat} (h1 : T lt p q) (h2 : T lt q p) : False := by
  unfold T at *
  rcases h1 with a | ⟨a1, a2⟩
  · rcases h2 with b | ⟨b1, b2⟩
    · rw [h.asymm _ _ a] at b; cases b
    · rw [b1] at a; cases a
  · rcases h2 with b | ⟨b1, b2⟩
    · rw [a1] at b; cases b
    · omega
/-- Not less, and tagged earlier. -/
theorem T.of_not {p q : α × Nat} (h : lt q.1 p.1 = false) (ht : p.2 < q.2) : T lt p q := .inr ⟨h, ht⟩
abbrev Sorted (lt : α → α → Bool) (Z : List (α × Nat)) : Prop := Z.Pairwise (T lt)
/-- All tags of the one are below those of the other. -/
def Below (U V : List (α × Nat)) : Prop := ∀ x ∈ U, ∀ y ∈ V, x.2 < y.2
structure Merged (lt : α → α → Bool) (U V W : List (α × Nat)) : Prop where
  perm : W.Perm (U ++ V)
  sorted : Sorted lt W
abbrev fsts (Z : List (α × Nat)) : List α := Z.map Prod.fst

theorem before_last (h : Weak lt) {Z : List (α × Nat)} {z : α × Nat} (hs : Sorted lt (Z ++ [z])) {y : α × Nat} (hy : T lt z y) : ∀ x ∈ Z ++ [z], T lt x y := by
  intro x hx
  rcases List.mem_append.1 hx with q | q
  · exact ((List.pairwise_append.1 hs).2.2 x q z (by simp)).trans h hy
  · simp at q; subst q; exact hy
theorem behind_head (h : Weak lt) {Z : List (α × Nat)} {z : α × Nat} (hs : Sorted lt (z :: Z)) {x : α × Nat} (hx : T lt x z) : ∀ y ∈ z :: Z, T lt x y := by
  intro y hy
  rcases List.mem_cons.1 hy with rfl | q
  · exact hx
  · exact hx.trans h ((List.pairwise_cons.1 hs).1 y q)
/-- All ahead of all: told by the last and the first one. -/
theorem cross (h : Weak lt) {U V : List (α × Nat)} (hU : Sorted lt U) (hV : Sorted lt V) (i j : Nat) (hc : i = 0 ∨ V.length ≤ j ∨ ∃ x y, U[i - 1]? = some x ∧ V[j]? = some y ∧ T lt x y) : ∀ x ∈ U.take i, ∀ y ∈ V.drop j, T lt x y := by
  rcases hc with rfl | hj | ⟨x, y, h1, h2, h3⟩
  · simp
  · rw [List.drop_eq_nil_of_le hj]; simp
  · cases i with
    | zero => simp
    | succ i =>
      simp only [Nat.add_sub_cancel] at h1
      obtain ⟨hi, e1⟩ := List.getElem?_eq_some_iff.1 h1
      obtain ⟨hj, e2⟩ := List.getElem?_eq_some_iff.1 h2
      rw [take_snoc h1, List.drop_eq_getElem_cons hj, e2]
      have s1 : Sorted lt (U.take i ++ [x]) := by
        rw [← take_snoc h1]; exact hU.sublist (List.take_sublist _ _)
      have s2 : Sorted lt (y :: V.drop (j + 1)) := by
        rw [← e2, ← List.drop_eq_getElem_cons hj]; exact hV.sublist (List.drop_sublist _ _)
      intro a ha b hb
      exact before_last h s1 (behind_head h s2 h3 b hb) a ha
/-- Two halves, each merged, are all merged. -/
theorem Merged.join (h : Weak lt) {U V W1 W2 : List (α × Nat)} {i j : Nat} (hU : Sorted lt U) (hV : Sorted lt V)
    (h1 : Merged lt (U.take i) (V.take j) W1) (h2 : Merged lt (U.drop i) (V.drop j) W2)
    (c1 : i = 0 ∨ V.length ≤ j ∨ ∃ x y, U[i - 1]? = some x ∧ V[j]? = some y ∧ T lt x y)
    (c2 : j = 0 ∨ U.length ≤ i ∨ ∃ x y, V[j - 1]? = some x ∧ U[i]? = some y ∧ T lt x y) : Merged lt U V (W1 ++ W2) := by
  refine ⟨?_, ?_⟩
  · refine (h1.perm.append h2.perm).trans ?_
    have e1 := List.take_append_drop i U
    have e2 := List.take_append_drop j V
    have : (U.take i ++ V.take j ++ (U.drop i ++ V.drop j)).Perm (U.take i ++ U.drop i ++ (V.take j ++ V.drop j)) := by
      simp only [List.append_assoc]
      refine List.Perm.append_left _ ?_
      rw [← List.append_assoc, ← List.append_assoc]
      exact List.Perm.append_right _ List.perm_append_comm
    rwa [e1, e2] at this
  · rw [Sorted, List.pairwise_append]
    refine ⟨h1.sorted, h2.sorted, fun x hx y hy => ?_⟩
    have hx' := h1.perm.mem_iff.1 hx
    have hy' := h2.perm.mem_iff.1 hy
    rcases List.mem_append.1 hx' with a | a
    · rcases List.mem_append.1 hy' with b | b
      · have := List.pairwise_append.1 ((List.take_append_drop i U).symm ▸ hU)
        exact this.2.2 x a y b
      · exact cross h hU hV i j c1 x a y b
    · rcases List.mem_append.1 hy' with b | b
      · exact cross h hV hU j i c2 x a y b
      · have := List.pairwise_append.1 ((List.take_append_drop j V).symm ▸ hV)
        exact this.2.2 x a y b
theorem Merged.nil_left {V : List (α × Nat)} (h : Sorted lt V) : Merged lt [] V V := ⟨by simp, h⟩
theorem Merged.nil_right {U : List (α × Nat)} (h : Sorted lt U) : Merged lt U [] U := ⟨by simp, h⟩
theorem Merged.pair {U V : List (α × Nat)} (hU : Sorted lt U) (hV : Sorted lt V) (hc : ∀ x ∈ U, ∀ y ∈ V, T lt x y) : Merged lt U V (U ++ V) := ⟨List.Perm.refl _, List.pairwise_append.2 ⟨hU, hV, hc⟩⟩
/-- One, put between. -/
theorem Merged.one_left (h : Weak lt) {u : α × Nat} {V : List (α × Nat)} (hV : Sorted lt V) {j : Nat} (hj : j ≤ V.length) (ht : Below [u] V)
    (c1 : j = 0 ∨ ∃ x, V[j - 1]? = some x ∧ lt x.1 u.1 = true) (c2 : j = V.length ∨ ∃ x, V[j]? = some x ∧ lt x.1 u.1 = false) : Merged lt [u] V (V.take j ++ u :: V.drop j) := by
  have hs : Merged lt [u] V (V.take j ++ (u :: V.drop j)) := by
    refine Merged.join (i := 0) (j := j) (U := [u]) h (by simp) hV ?_ ?_ (.inl rfl) ?_
    · exact Merged.nil_left (hV.sublist (List.take_sublist _ _))
    · refine Merged.pair (U := [u]) (by simp) (hV.sublist (List.drop_sublist _ _)) ?_
      have := cross (U := [u]) h (by simp) hV 1 j (by
        rcases c2 with c | ⟨x, h1, h2⟩
        · exact .inr (.inl (by omega))
        · exact .inr (.inr ⟨u, x, rfl, h1, T.of_not h2 (ht u (by simp) x (List.mem_of_getElem? h1))⟩))
      simpa using this
    · rcases c1 with c | ⟨x, h1, h2⟩
      · exact .inl c
      · exact .inr (.inr ⟨x, u, h1, rfl, .inl h2⟩)
  exact hs
theorem Merged.one_right (h : Weak lt) {v : α × Nat} {U : List (α × Nat)} (hU : Sorted lt U) {i : Nat} (hi : i ≤ U.length) (ht : Below U [v])
    (c1 : i = 0 ∨ ∃ x, U[i - 1]? = some x ∧ lt v.1 x.1 = false) (c2 : i = U.length ∨ ∃ x, U[i]? = some x ∧ lt v.1 x.1 = true) : Merged lt U [v] (U.take i ++ v :: U.drop i) := by
  have hs : Merged lt U [v] ((U.take i ++ [v]) ++ U.drop i) := by
    refine Merged.join (i := i) (j := 1) (V := [v]) h hU (by simp) ?_ ?_ (.inr (.inl (by simp))) ?_
    · refine Merged.pair (V := [v]) (hU.sublist (List.take_sublist _ _)) (by simp) ?_
      have := cross (V := [v]) h hU (by simp) i 0 (by
        rcases c1 with c | ⟨x, h1, h2⟩
        · exact .inl c
        · exact .inr (.inr ⟨x, v, h1, rfl, T.of_not h2 (ht x (List.mem_of_getElem? h1) v (by simp))⟩))
      simpa using this
    · exact Merged.nil_right (hU.sublist (List.drop_sublist _ _))
    · rcases c2 with c | ⟨x, h1, h2⟩
      · exact .inr (.inl (by omega))
      · exact .inr (.inr ⟨v, x, rfl, h1, .inl h2⟩)
  simpa using hs
end

/-- Two places changed about. -/
def swp {α : Type} (l : List α) (i j : Nat) : List α := match l[i]?, l[j]? with
  | some x, some y => (l.set i y).set j x
  | _, _ => l
theorem swp_mid {α : Type} (P M Q : List α) (x y : α) : swp (P ++ x :: M ++ y :: Q) P.length (P.length + 1 + M.length) = P ++ y :: M ++ x :: Q := by
  have h1 : (P ++ x :: M ++ y :: Q)[P.length]? = some x := by simp
  have h2 : (P ++ x :: M ++ y :: Q)[P.length + 1 + M.length]? = some y := by
    rw [List.getElem?_append_right (by simp; omega)]
    have e0 : P.length + 1 + M.length - (P ++ x :: M).length = 0 := by simp; omega
    rw [e0]
    rfl
  unfold swp
  rw [h1, h2]
  simp only
  have e1 : (P ++ x :: M ++ y :: Q).set P.length y = P ++ y :: M ++ y :: Q := by
    rw [List.append_assoc, List.set_append_right _ _ (Nat.le_refl _)]
    simp
  rw [e1, List.set_append_right _ _ (by simp; omega)]
  have e2 : P.length + 1 + M.length - (P ++ y :: M).length = 0 := by simp; omega
  rw [e2]
  rfl
theorem swp_length {α : Type} (l : List α) (i j : Nat) : (swp l i j).length = l.length := by
  unfold swp
  split <;> simp
theorem swp_eq {α : Type} {l : List α} {i j : Nat} {x y : α} (h1 : l[i]? = some x) (h2 : l[j]? = some y) : (l.set i y).set j x = swp l i j := by
  unfold swp; rw [h1, h2]
theorem swp_comm {α : Type} (l : List α) (i j : Nat) : swp l i j = swp l j i := by
  unfold swp
  rcases h1 : l[i]? with _ | x <;> rcases h2 : l[j]? with _ | y <;> simp only
  by_cases e : i = j
  · subst e
    rw [h1] at h2; cases h2
    simp
  · rw [List.set_comm _ _ e]
/-- One step of changing two stretches about. -/
theorem swp_range {α : Type} {P X M Y Q : List α} (hl : X.length = Y.length) {i : Nat} (hi : i < X.length) :
    swp (P ++ (Y.take i ++ X.drop i) ++ M ++ (X.take i ++ Y.drop i) ++ Q) (P.length + i) (P.length + X.length + M.length + i) = P ++ (Y.take (i + 1) ++ X.drop (i + 1)) ++ M ++ (X.take (i + 1) ++ Y.drop (i + 1)) ++ Q := by
  have hj : i < Y.length := by omega
  have eX := List.drop_eq_getElem_cons hi
  have eY := List.drop_eq_getElem_cons hj
  have h := swp_mid (P ++ Y.take i) (X.drop (i + 1) ++ M ++ X.take i) (Y.drop (i + 1) ++ Q) X[i] Y[i]
  have l1 : (P ++ Y.take i).length = P.length + i := by simp; omega
  have l2 : (P ++ Y.take i).length + 1 + (X.drop (i + 1) ++ M ++ X.take i).length = P.length + X.length + M.length + i := by simp; omega
  rw [l1] at h
  rw [l1] at l2
  rw [l2] at h
  have e1 : P ++ (Y.take i ++ X.drop i) ++ M ++ (X.take i ++ Y.drop i) ++ Q = P ++ Y.take i ++ X[i] :: (X.drop (i + 1) ++ M ++ X.take i) ++ Y[i] :: (Y.drop (i + 1) ++ Q) := by
    rw [eX, eY]; simp only [List.append_assoc, List.cons_append, List.nil_append]
  have tX : X.take (i + 1) = X.take i ++ [X[i]] := take_snoc (List.getElem?_eq_getElem hi)
  have tY : Y.take (i + 1) = Y.take i ++ [Y[i]] := take_snoc (List.getElem?_eq_getElem hj)
  rw [e1, h, tX, tY]
  simp only [List.append_assoc, List.cons_append, List.nil_append]
/-- One carried one place on. -/
theorem swp_on {α : Type} {A V B : List α} {u : α} {k : Nat} (hk : k < V.length) : swp (A ++ (V.take k ++ u :: V.drop k) ++ B) (A.length + k) (A.length + k + 1) = A ++ (V.take (k + 1) ++ u :: V.drop (k + 1)) ++ B := by
  have eV := List.drop_eq_getElem_cons hk
  have h := swp_mid (A ++ V.take k) [] (V.drop (k + 1) ++ B) u V[k]
  have l1 : (A ++ V.take k).length = A.length + k := by simp; omega
  rw [l1] at h
  have tV : V.take (k + 1) = V.take k ++ [V[k]] := take_snoc (List.getElem?_eq_getElem hk)
  have e1 : A ++ (V.take k ++ u :: V.drop k) ++ B = A ++ V.take k ++ [u] ++ V[k] :: (V.drop (k + 1) ++ B) := by rw [eV]; simp only [List.append_assoc, List.cons_append, List.nil_append]
  rw [e1]
  have h' : swp (A ++ V.take k ++ [u] ++ V[k] :: (V.drop (k + 1) ++ B)) (A.length + k) (A.length + k + 1) = _ := h
  rw [h', tV]
  simp only [List.append_assoc, List.cons_append, List.nil_append]
/-- .. one place back. -/
theorem swp_back {α : Type} {A U B : List α} {v : α} {k : Nat} (hk : k < U.length) : swp (A ++ (U.take (k + 1) ++ v :: U.drop (k + 1)) ++ B) (A.length + k) (A.length + k + 1) = A ++ (U.take k ++ v :: U.drop k) ++ B := by
  have eU := List.drop_eq_getElem_cons hk
  have h := swp_mid (A ++ U.take k) [] (U.drop (k + 1) ++ B) U[k] v
  have l1 : (A ++ U.take k).length = A.length + k := by simp; omega
  rw [l1] at h
  have tU : U.take (k + 1) = U.take k ++ [U[k]] := take_snoc (List.getElem?_eq_getElem hk)
  have e1 : A ++ (U.take (k + 1) ++ v :: U.drop (k + 1)) ++ B = A ++ U.take k ++ [U[k]] ++ v :: (U.drop (k + 1) ++ B) := by rw [tU]; simp only [List.append_assoc, List.cons_append, List.nil_append]
  rw [e1]
  have h' : swp (A ++ U.take k ++ [U[k]] ++ v :: (U.drop (k + 1) ++ B)) (A.length + k) (A.length + k + 1) = _ := h
  rw [h', eU]
  simp only [List.append_assoc, List.cons_append, List.nil_append]

/-- A stretch. -/
def seg {α : Type} (Z : List α) (a b : Nat) : List α := (Z.take b).drop a
theorem seg_split {α : Type} {Z : List α} {a b : Nat} (h : a ≤ b) : Z = Z.take a ++ seg Z a b ++ Z.drop b := by
  have h1 : Z.take b = (Z.take b).take a ++ seg Z a b := (List.take_append_drop a _).symm
  rw [List.take_take, Nat.min_eq_left h] at h1
  rw [← h1, List.take_append_drop]
theorem seg_length {α : Type} {Z : List α} {a b : Nat} (h : b ≤ Z.length) : (seg Z a b).length = b - a := by
  simp [seg]; omega
theorem drop3 {α : Type} {A S B : List α} {a : Nat} (h : A.length + S.length ≤ a) : (A ++ S ++ B).drop a = B.drop (a - A.length - S.length) := by
  rw [List.drop_append, List.drop_eq_nil_of_le (by simp; omega)]
  simp
  congr 1
  omega
section
variable {α : Type} {lt : α → α → Bool}
/-- Sorted by stretches of so many, each with its own tags. -/
def Blk (lt : α → α → Bool) (bs : Nat) (Z : List (α × Nat)) (k : Nat) : Prop := Sorted lt (seg Z (k * bs) (k * bs + bs)) ∧ ∀ x ∈ seg Z (k * bs) (k * bs + bs), k * bs ≤ x.2 ∧ x.2 < k * bs + bs
theorem seg_of {A S B : List α} {a b : Nat} (ha : A.length = a) (hb : a + S.length = b) : seg (A ++ S ++ B) a b = S := by
  subst ha; subst hb
  unfold seg
  have : (A ++ S ++ B).take (A.length + S.length) = A ++ S := by
    rw [← List.length_append, List.take_left]
  rw [this, List.drop_left]
theorem seg_before {A S S' B : List α} {a b : Nat} (h : b ≤ A.length) : seg (A ++ S ++ B) a b = seg (A ++ S' ++ B) a b := by
  unfold seg
  rw [List.append_assoc, List.append_assoc, List.take_append_of_le_length h, List.take_append_of_le_length h]
theorem seg_behind {A S S' B : List α} {a b : Nat} (hl : S.length = S'.length) (h : A.length + S.length ≤ a) : seg (A ++ S ++ B) a b = seg (A ++ S' ++ B) a b := by
  unfold seg
  rw [List.drop_take, List.drop_take]
  congr 1
  rw [drop3 h, drop3 (by omega : A.length + S'.length ≤ a), hl]
end
end Go.VX.Srt
