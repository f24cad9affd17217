/- Fractions, rounded: what is all of it, and near. -/
import Derived.Test.YtifhbgppjblobaaQuota0
namespace Go.VX.Rk
set_option linter.unusedVariables false

def fr (l : List Int) (over : Int) : List Int := upped (l.map (· / over)) (l.map (· % over)) (l.sum / over - (l.map (· / over)).sum)
theorem fr_length (l : List Int) (over : Int) : (fr l over).length = l.length := by simp [fr, upped_length]
theorem sum_parts (l : List Int) (over : Int) : (l.map (· / over)).sum * over + (l.map (· % over)).sum = l.sum := by
  induction l with
  | nil => simp
  | cons x l ih =>
    simp only [List.map_cons, List.sum_cons]
    have := Int.mul_ediv_add_emod x over
    rw [Int.add_mul, Int.mul_comm (x / over) over]
    omega
theorem sum_left_lt {l : List Int} {over : Int} (ho : 0 < over) : (l.map (· % over)).sum ≤ ((l.countP fun x => decide (x % over ≠ 0) : Nat) : Int) * over ∧ ((l.map (· % over)).sum = ((l.countP fun x => decide (x % over ≠ 0) : Nat) : Int) * over → l.countP (fun x => decide (x % over ≠ 0)) = 0) ∧ 0 ≤ (l.map (· % over)).sum := by
  induction l with
  | nil => simp
  | cons x l ih =>
    obtain ⟨h1, h2, h3⟩ := ih
    simp only [List.map_cons, List.sum_cons, List.countP_cons]
    have a := Int.emod_nonneg x (by omega : over ≠ 0)
    have b := Int.emod_lt_of_pos x ho
    by_cases e : x % over = 0
    · simp only [e, ne_eq, not_true_eq_false, decide_false, Bool.false_eq_true, if_false, Nat.add_zero]
      simp only [ne_eq] at h1 h2
      exact ⟨by omega, fun q => h2 (by omega), by omega⟩
    · simp only [ne_eq, e, not_false_eq_true, decide_true, if_true]
      simp only [ne_eq] at h1 h2
      have e2 : (((l.countP fun x => decide (¬ x % over = 0)) + 1 : Nat) : Int) * over = ((l.countP fun x => decide (¬ x % over = 0) : Nat) : Int) * over + over := by
        push_cast; rw [Int.add_mul]; omega
      rw [e2]
      exact ⟨by omega, fun q => by omega, by omega⟩
/-- How many lack. -/
theorem lack_facts {l : List Int} {over : Int} (ho : 0 < over) (hm : l.sum % over = 0) :
    0 ≤ l.sum / over - (l.map (· / over)).sum ∧ l.sum / over - (l.map (· / over)).sum ≤ l.countP (fun x => decide (x % over ≠ 0)) := by
  have h1 := sum_parts l over
  obtain ⟨h2, h3, h4⟩ := sum_left_lt (l := l) ho
  have h5 : l.sum / over * over = l.sum := Int.ediv_mul_cancel (Int.dvd_of_emod_eq_zero hm)
  have h6 : (l.sum / over - (l.map (· / over)).sum) * over = (l.map (· % over)).sum := by rw [Int.sub_mul]; omega
  refine ⟨?_, ?_⟩
  · refine Int.not_lt.1 fun q => ?_
    have := Int.mul_lt_mul_of_pos_right q ho
    omega
  · exact Int.le_of_mul_le_mul_right (by rw [h6]; exact h2) ho
theorem fr_sum {l : List Int} {over : Int} (ho : 0 < over) (hm : l.sum % over = 0) : (fr l over).sum = l.sum / over := by
  obtain ⟨h1, h2⟩ := lack_facts ho hm
  unfold fr
  have := List.countP_le_length (p := fun x : Int => decide (x % over ≠ 0)) (l := l)
  rw [upped_sum (by simp) h1 (by simp only [List.length_map]; omega)]
  omega
theorem countP_le_rank {L : List Int} {i : Nat} (hi : i < L.length) (h0 : L.getD i 0 = 0) (hn : ∀ x ∈ L, 0 ≤ x) : L.countP (fun x => decide (x ≠ 0)) ≤ rank L i := by
  unfold rank
  have e : L.countP (fun x => decide (x ≠ 0)) = (List.range L.length).countP fun j => decide (L.getD j 0 ≠ 0) := by
    conv => lhs; rw [← getD_map_range L]
    rw [List.countP_map]
    rfl
  rw [e]
  refine List.countP_mono_left fun j hj q => ?_
  have hj' : j < L.length := by simpa using hj
  have := hn (L.getD j 0) (by simp only [List.getD_eq_getElem?_getD, List.getElem?_eq_getElem hj', Option.getD_some]; exact List.getElem_mem hj')
  simp only [decide_eq_true_eq] at q
  simp only [ahead, Bool.or_eq_true, Bool.and_eq_true, decide_eq_true_eq]
  omega
/-- Each is less than one from its fraction. -/
theorem fr_get {l : List Int} {over : Int} (ho : 0 < over) (hm : l.sum % over = 0) {i : Nat} {x : Int} (h : l[i]? = some x) :
    ∃ n, (fr l over)[i]? = some n ∧ (n = x / over ∨ (n = x / over + 1 ∧ x % over ≠ 0)) := by
  obtain ⟨hi, e⟩ := List.getElem?_eq_some_iff.1 h
  unfold fr
  rw [upped_get (by simpa using hi)]
  refine ⟨_, rfl, ?_⟩
  have e1 : (l.map (· / over)).getD i 0 = x / over := by simp [List.getD_eq_getElem?_getD, h]
  have e2 : (l.map (· % over)).getD i 0 = x % over := by simp [List.getD_eq_getElem?_getD, h]
  rw [e1]
  split
  · rename_i q
    right
    refine ⟨rfl, fun z => ?_⟩
    obtain ⟨h1, h2⟩ := lack_facts ho hm
    have := countP_le_rank (L := l.map (· % over)) (i := i) (by simpa using hi) (e2.trans z) (fun y hy => by
      obtain ⟨w, _, rfl⟩ := List.mem_map.1 hy
      exact Int.emod_nonneg w (by omega))
    rw [List.countP_map] at this
    have e3 : l.countP ((fun x => decide (x ≠ 0)) ∘ (· % over)) = l.countP fun x => decide (x % over ≠ 0) := rfl
    rw [e3] at this
    omega
  · left; omega
/-- The greater one is never rounded to less. -/
theorem fr_mono {l : List Int} {over : Int} (ho : 0 < over) {i k : Nat} {x y n m : Int} (hx : l[i]? = some x) (hy : l[k]? = some y) (h : y < x) (hn : (fr l over)[i]? = some n) (hm : (fr l over)[k]? = some m) : m ≤ n := by
  obtain ⟨hi, _⟩ := List.getElem?_eq_some_iff.1 hx
  obtain ⟨hk, _⟩ := List.getElem?_eq_some_iff.1 hy
  unfold fr at hn hm
  rw [upped_get (by simpa using hi)] at hn
  rw [upped_get (by simpa using hk)] at hm
  have a1 : (l.map (· / over)).getD i 0 = x / over := by simp [List.getD_eq_getElem?_getD, hx]
  have a2 : (l.map (· % over)).getD i 0 = x % over := by simp [List.getD_eq_getElem?_getD, hx]
  have b1 : (l.map (· / over)).getD k 0 = y / over := by simp [List.getD_eq_getElem?_getD, hy]
  have b2 : (l.map (· % over)).getD k 0 = y % over := by simp [List.getD_eq_getElem?_getD, hy]
  rw [a1] at hn
  rw [b1] at hm
  have hd : y / over ≤ x / over := Int.ediv_le_ediv ho (by omega)
  cases hn; cases hm
  by_cases e : y / over = x / over
  · have q1 := Int.mul_ediv_add_emod x over
    have q2 := Int.mul_ediv_add_emod y over
    rw [e] at q2
    have hr : rank (l.map (· % over)) i < rank (l.map (· % over)) k := rank_lt_of (by simpa using hi) (by
      simp only [ahead, a2, b2, Bool.or_eq_true, Bool.and_eq_true, decide_eq_true_eq]
      left; omega)
    split <;> split <;> omega
  · split <;> split <;> omega
theorem emod_scale (x over : Int) {t : Int} (ht : 0 < t) : x * t % (over * t) = x % over * t := by
  have h1 := Int.mul_ediv_add_emod (x * t) (over * t)
  have h2 := Int.mul_ediv_add_emod x over
  rw [Int.mul_ediv_mul_of_pos_left _ _ ht] at h1
  have h3 : over * t * (x / over) = over * (x / over) * t := by rw [Int.mul_assoc, Int.mul_assoc, Int.mul_comm t]
  rw [h3] at h1
  have h4 : x * t = over * (x / over) * t + x % over * t := by rw [← Int.add_mul, h2]
  omega
theorem ahead_scale {l : List Int} {over t : Int} (ho : 0 < over) (ht : 0 < t) (j i : Nat) : ahead ((l.map (· * t)).map (· % (over * t))) j i = ahead (l.map (· % over)) j i := by
  have e : ∀ k, ((l.map (· * t)).map (· % (over * t))).getD k 0 = (l.map (· % over)).getD k 0 * t := by
    intro k
    rcases h : l[k]? with _ | x
    · simp [List.getD_eq_getElem?_getD, h]
    · simp only [List.getD_eq_getElem?_getD, List.getElem?_map, h, Option.map_some, Option.getD_some]
      exact emod_scale x over ht
  unfold ahead
  rw [e, e]
  have c1 : ∀ a b : Int, decide (a * t < b * t) = decide (a < b) := fun a b => by
    rw [decide_eq_decide]
    exact ⟨fun q => Int.lt_of_mul_lt_mul_right q (by omega), fun q => Int.mul_lt_mul_of_pos_right q ht⟩
  have c2 : ∀ a b : Int, decide (a * t = b * t) = decide (a = b) := fun a b => by
    rw [decide_eq_decide]
    exact ⟨fun q => Int.eq_of_mul_eq_mul_right (by omega) q, fun q => by rw [q]⟩
  rw [c1, c2]
theorem sum_scale (l : List Int) (t : Int) : (l.map (· * t)).sum = l.sum * t := by
  induction l with
  | nil => simp
  | cons x l ih => simp only [List.map_cons, List.sum_cons, ih]; rw [Int.add_mul]
theorem fr_scale {l : List Int} {over t : Int} (ho : 0 < over) (ht : 0 < t) : fr (l.map (· * t)) (over * t) = fr l over := by
  have e1 : (l.map (· * t)).map (· / (over * t)) = l.map (· / over) := by
    rw [List.map_map]
    exact List.map_congr_left fun x _ => Int.mul_ediv_mul_of_pos_left _ _ ht
  unfold fr
  rw [e1, sum_scale, Int.mul_ediv_mul_of_pos_left _ _ ht]
  unfold upped
  refine List.map_congr_left fun i _ => ?_
  have : rank ((l.map (· * t)).map (· % (over * t))) i = rank (l.map (· % over)) i := by
    unfold rank
    simp only [List.length_map]
    exact List.countP_congr fun j _ => by rw [ahead_scale ho ht]
  rw [this]
end Go.VX.Rk
