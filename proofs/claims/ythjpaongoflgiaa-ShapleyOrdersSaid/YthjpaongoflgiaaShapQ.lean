/- All orders, and what each player adds in them: plain laws. -/
import Derived.Test.YthjpaongoflgiaaShap12
namespace Go.Proofs.Ythjpaongoflgiaa
open Go Go.VX Go.RowKit
set_option linter.unusedVariables false
set_option linter.unusedSimpArgs false
set_option maxHeartbeats 20000000
set_option maxRecDepth 100000

/-! All orders are laid, each once, as the document counts them. -/
def fineB (m : Nat) (l : List Int) : Bool := (List.range m).all (fun i => cnt l (i : Int) == 1) && ((l.length : Int) == m)
theorem refL_fine (m x : Nat) : refL m x = ((List.range x).map fun x => lst m x m).filter (fineB m) := by
  unfold refL
  congr 1
  funext l
  exact fine_eq.symm
def lexB : List Int → List Int → Bool
  | x :: a, y :: b => if x = y then lexB a b else decide (x < y)
  | _, _ => false
def upL : List (List Int) → Bool
  | a :: b :: r => lexB a b && upL (b :: r)
  | _ => true
theorem upL_orders : ∀ m, m < 7 → upL (ordersL m) = true := by decide +kernel
theorem fm_congr {α β : Type} {f g : α → List β} : ∀ {l : List α}, (∀ x ∈ l, f x = g x) → l.flatMap f = l.flatMap g
  | [], _ => rfl
  | x :: l, h => by rw [List.flatMap_cons, List.flatMap_cons, h x (by simp), fm_congr fun y hy => h y (by simp [hy])]
def wds (m : Nat) : Nat → List (List Int)
  | 0 => [[]]
  | k + 1 => (List.range m).flatMap fun (q : Nat) => (wds m k).map fun w => (q : Int) :: w
theorem range_mul (b : Nat) : ∀ a, List.range (a * b) = (List.range a).flatMap fun q => (List.range b).map fun r => q * b + r
  | 0 => by simp
  | a + 1 => by rw [Nat.succ_mul, List.range_add, range_mul b a, List.range_succ, List.flatMap_append]; simp
theorem lst_mod {m k q r : Nat} (hm : 0 < m) : ∀ j, j ≤ k → lst m (q * m ^ k + r) j = lst m r j
  | 0, _ => rfl
  | j + 1, h => by
    have e : m ^ k = m ^ j * (m * m ^ (k - j - 1)) := by rw [← Nat.pow_succ', ← Nat.pow_add]; congr 1; omega
    have hp : 0 < m ^ j := Nat.pow_pos hm
    have e2 : (q * m ^ k + r) / m ^ j % m = r / m ^ j % m := by
      have e3 : q * m ^ k + r = r + m ^ j * (m * (q * m ^ (k - j - 1))) := by
        rw [e, Nat.add_comm]; congr 1
        simp only [Nat.mul_comm, Nat.mul_left_comm]
      rw [e3, Nat.add_mul_div_left _ _ hp, Nat.add_mul_mod_self_left]
    rw [lst, lst, e2, lst_mod hm j (by omega)]
theorem words {m : Nat} (hm : 0 < m) : ∀ k, (List.range (m ^ k)).map (fun x => lst m x k) = wds m k
  | 0 => by simp [lst, wds]
  | k + 1 => by
    rw [Nat.pow_succ, Nat.mul_comm, range_mul, wds, List.map_flatMap, ← words hm k]
    refine fm_congr fun q hq => ?_
    rw [List.map_map, List.map_map]
    refine List.map_congr_left fun r hr => ?_
    have hq' := List.mem_range.1 hq
    have hr' := List.mem_range.1 hr
    have hp : 0 < m ^ k := Nat.pow_pos hm
    have e : (q * m ^ k + r) / m ^ k % m = q := by
      rw [Nat.mul_comm, Nat.mul_add_div hp, Nat.div_eq_of_lt hr', Nat.add_zero, Nat.mod_eq_of_lt hq']
    simp only [Function.comp, lst, e, lst_mod hm k (Nat.le_refl k)]
def dupB (m : Nat) (l : List Int) : Bool := (List.range m).any (fun i => decide (1 < cnt l (i : Int)))
def grow (m : Nat) : Nat → List Int → List (List Int)
  | 0, l => if fineB m l then [l] else []
  | k + 1, l => if dupB m l then [] else (List.range m).flatMap fun (q : Nat) => grow m k (l ++ [(q : Int)])
theorem fine_dup {m : Nat} {l w : List Int} (h : dupB m l = true) : fineB m (l ++ w) = false := by
  simp only [dupB, List.any_eq_true, List.mem_range, decide_eq_true_eq] at h
  obtain ⟨i, hi, hc⟩ := h
  cases hf : fineB m (l ++ w) with
  | false => rfl
  | true =>
    simp only [fineB, Bool.and_eq_true, List.all_eq_true, List.mem_range, beq_iff_eq] at hf
    have := hf.1 i hi
    simp only [cnt, List.countP_append] at this hc
    omega
theorem grow_eq (m : Nat) : ∀ k l, grow m k l = ((wds m k).map fun w => l ++ w).filter (fineB m)
  | 0, l => by
    simp only [grow, wds, List.map_cons, List.map_nil, List.append_nil, List.filter_cons, List.filter_nil]
  | k + 1, l => by
    rw [grow]
    split
    · rename_i h
      symm
      rw [List.filter_eq_nil_iff]
      intro x hx
      obtain ⟨w, _, rfl⟩ := List.mem_map.1 hx
      rw [fine_dup h]
      simp
    · rw [wds, List.map_flatMap, List.filter_flatMap]
      refine fm_congr fun q _ => ?_
      rw [grow_eq m k, List.map_map]
      congr 1
      refine List.map_congr_left fun w _ => ?_
      simp
theorem grow_dec : ∀ m, m < 7 → grow m m [] = ordersL m := by decide +kernel
theorem refL_orders {m : Nat} (h : m ≤ 6) : refL m (m ^ m) = ordersL m := by
  rw [refL_fine, ← grow_dec m (by omega), grow_eq]
  rcases Nat.eq_zero_or_pos m with rfl | hm
  · rfl
  · rw [words hm m]; simp
end Go.Proofs.Ythjpaongoflgiaa
