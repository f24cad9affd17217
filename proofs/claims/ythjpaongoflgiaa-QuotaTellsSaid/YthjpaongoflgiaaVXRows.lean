/- Rows of structs, as cells one behind the other. -/
import Derived.Test.YthjpaongoflgiaaVXSeen
namespace Go.VX
open Go.RowKit
set_option linter.unusedVariables false

/-- A struct as cells, and how many they are. -/
class Row (α : Type) where
  cells : α → List V
  sz : Nat
  len : ∀ a, (cells a).length = sz
  rn : ∀ (f : Nat → Nat) a, (cells a).map (rn1 f) = cells a
def rowsV {α : Type} [Row α] (l : List α) : List V := l.flatMap Row.cells
section
variable {α : Type} [Row α]
@[simp] theorem rowsV_nil : rowsV ([] : List α) = [] := rfl
theorem rowsV_cons (a : α) (l : List α) : rowsV (a :: l) = Row.cells a ++ rowsV l := rfl
theorem rowsV_one (a : α) : rowsV [a] = Row.cells a := by simp [rowsV]
theorem rowsV_append (l m : List α) : rowsV (l ++ m) = rowsV l ++ rowsV m := by simp [rowsV]
theorem rowsV_snoc (l : List α) (a : α) : rowsV (l ++ [a]) = rowsV l ++ Row.cells a := by simp [rowsV]
theorem rowsV_length (l : List α) : (rowsV l).length = l.length * Row.sz α := by
  induction l with
  | nil => simp [rowsV]
  | cons x l ih => rw [rowsV_cons, List.length_append, ih, Row.len, List.length_cons, Nat.add_mul, Nat.one_mul, Nat.add_comm]
@[simp] theorem rowsV_rn (f : Nat → Nat) (l : List α) : (rowsV l).map (rn1 f) = rowsV l := by
  induction l with
  | nil => rfl
  | cons x l ih => rw [rowsV_cons, List.map_append, ih, Row.rn]
@[simp] theorem rowsV_rnL (f : Nat → Nat) (l : List α) : rnO f (.live (rowsV l)) = .live (rowsV l) := by
  simp
@[simp] theorem rowsV_rnF (f : Nat → Nat) (l : List α) : rnO f (.frz (rowsV l)) = .frz (rowsV l) := by
  simp
theorem rowsV_drop : ∀ {l : List α} {i : Nat} {x : α}, l[i]? = some x → List.drop (i * Row.sz α) (rowsV l) = Row.cells x ++ rowsV (l.drop (i + 1))
  | [], i, x, h => by simp at h
  | y :: l, 0, x, h => by simp at h; subst h; simp [rowsV]
  | y :: l, i + 1, x, h => by
    have e : (i + 1) * Row.sz α = Row.sz α + i * Row.sz α := by rw [Nat.add_mul]; omega
    rw [e, rowsV_cons, ← List.drop_drop]
    have e3 : List.drop (Row.sz α) (Row.cells y ++ rowsV l) = rowsV l := by
      rw [← Row.len y, List.drop_left]
    rw [e3, rowsV_drop (by simpa using h)]
    simp
theorem rowsV_take {l : List α} (i : Nat) (h : i ≤ l.length) : List.take (i * Row.sz α) (rowsV l) = rowsV (l.take i) := by
  have e : l = l.take i ++ l.drop i := (List.take_append_drop i l).symm
  have hl : (rowsV (l.take i)).length = i * Row.sz α := by rw [rowsV_length, List.length_take, Nat.min_eq_left h]
  calc List.take (i * Row.sz α) (rowsV l) = List.take (i * Row.sz α) (rowsV (l.take i ++ l.drop i)) := by rw [← e]
    _ = rowsV (l.take i) := by rw [rowsV_append, ← hl, List.take_left]
theorem rowsV_dropAll {l : List α} (i : Nat) (h : i ≤ l.length) : List.drop (i * Row.sz α) (rowsV l) = rowsV (l.drop i) := by
  have e : l = l.take i ++ l.drop i := (List.take_append_drop i l).symm
  have hl : (rowsV (l.take i)).length = i * Row.sz α := by rw [rowsV_length, List.length_take, Nat.min_eq_left h]
  calc List.drop (i * Row.sz α) (rowsV l) = List.drop (i * Row.sz α) (rowsV (l.take i ++ l.drop i)) := by rw [← e]
    _ = rowsV (l.drop i) := by rw [rowsV_append, ← hl, List.drop_left]
theorem rowsV_get {l : List α} {i j : Nat} {x : α} (h : l[i]? = some x) (hj : j < Row.sz α) : (rowsV l)[i * Row.sz α + j]? = (Row.cells x)[j]? := by
  rw [← List.getElem?_drop, rowsV_drop h, List.getElem?_append_left (by rw [Row.len]; exact hj)]
theorem rowsV_row {l : List α} {i : Nat} {x : α} (h : l[i]? = some x) : List.take (Row.sz α) (List.drop (i * Row.sz α) (rowsV l)) = Row.cells x := by
  rw [rowsV_drop h, ← Row.len x, List.take_left]
/-- A row put in the place of one. -/
theorem rowsV_put {l : List α} {i : Nat} (h : i < l.length) (y : α) : List.take (i * Row.sz α) (rowsV l) ++ (Row.cells y ++ List.drop (i * Row.sz α + Row.sz α) (rowsV l)) = rowsV (l.set i y) := by
  have e : i * Row.sz α + Row.sz α = (i + 1) * Row.sz α := by rw [Nat.add_mul]; omega
  rw [rowsV_take i (by omega), e, rowsV_dropAll (i + 1) (by omega), ← rowsV_cons, ← rowsV_append, List.set_eq_take_append_cons_drop, if_pos h]
/-- One cell put. -/
theorem rowsV_set {l : List α} {i j : Nat} {x y : α} {v : V} (h : l[i]? = some x) (hj : j < Row.sz α) (e : (Row.cells x).set j v = Row.cells y) : (rowsV l).set (i * Row.sz α + j) v = rowsV (l.set i y) := by
  have hi : i < l.length := (List.getElem?_eq_some_iff.1 h).1
  have hl : (rowsV (l.take i)).length = i * Row.sz α := by rw [rowsV_length, List.length_take, Nat.min_eq_left (by omega)]
  have e1 : l = l.take i ++ x :: l.drop (i + 1) := by
    have := List.take_append_drop i l
    rw [List.drop_eq_getElem_cons hi] at this
    rw [(List.getElem?_eq_some_iff.1 h).2] at this
    exact this.symm
  have e2 : l.set i y = l.take i ++ y :: l.drop (i + 1) := by rw [List.set_eq_take_append_cons_drop, if_pos hi]
  have e3 : rowsV l = rowsV (l.take i) ++ (Row.cells x ++ rowsV (l.drop (i + 1))) := by
    rw [← rowsV_cons, ← rowsV_append, ← e1]
  rw [e2, rowsV_append, rowsV_cons, e3, List.set_append, if_neg (by omega), hl, Nat.add_sub_cancel_left, List.set_append, if_pos (by rw [Row.len]; exact hj), e]
end

/-- Where the first one is that is so; -1: nowhere. -/
theorem findIdx_some {α : Type} {p : α → Bool} {l : List α} {i : Nat} {x : α} (hx : l[i]? = some x) (hp : p x = true) (hno : ∀ j y, j < i → l[j]? = some y → p y = false) : l.findIdx? p = some i := by
  obtain ⟨hi, e⟩ := List.getElem?_eq_some_iff.1 hx
  rw [List.findIdx?_eq_some_iff_getElem]
  refine ⟨hi, by rw [e]; exact hp, fun j hj => ?_⟩
  have := hno j _ hj (List.getElem?_eq_getElem (by omega))
  simp [this]
theorem findIdx_none {α : Type} {p : α → Bool} {l : List α} (hno : ∀ (j : Nat) y, j < l.length → l[j]? = some y → p y = false) : l.findIdx? p = none := by
  rw [List.findIdx?_eq_none_iff]
  intro x hx
  obtain ⟨j, hj, e⟩ := List.getElem_of_mem hx
  exact hno j x hj (by rw [List.getElem?_eq_getElem hj, e])
def oI (o : Option Nat) : Int := match o with
  | some i => i
  | none => -1
/-- The first rows and one more. -/
theorem take_snoc {α : Type} {l : List α} {i : Nat} {x : α} (h : l[i]? = some x) : l.take (i + 1) = l.take i ++ [x] := by
  rw [List.take_add_one, h]; rfl
end Go.VX
