/- What all add, together: plain laws. -/
import Derived.Test.YthjpaongoflgiaaShapQ2
namespace Go.Proofs.Ythjpaongoflgiaa
open Go Go.VX Go.RowKit
set_option linter.unusedVariables false
set_option linter.unusedSimpArgs false
set_option maxHeartbeats 20000000
set_option maxRecDepth 100000

theorem sum_set : ∀ (l : List Int) (i : Nat) (x : Int), i < l.length → (l.set i x).sum = l.sum - l.getD i 0 + x
  | [], i, x, h => by simp at h
  | y :: l, 0, x, h => by simp; omega
  | y :: l, i + 1, x, h => by
    have ih := sum_set l i x (by simpa using h)
    simp only [List.set_cons_succ, List.sum_cons, ih, List.getD_cons_succ]
    omega
def orL (l : List Int) (c : Nat) : Nat := l.foldl (fun c p => c ||| p2 p.toNat) c
theorem fold_sum (g : List Int) : ∀ (l : List Int) (c : Nat) (out : List Int), (∀ x ∈ l, 0 ≤ x ∧ x < out.length) → ((l.foldl (stp g) (c, out)).2).sum = out.sum + (g.getD (orL l c) 0 - g.getD c 0)
  | [], c, out, _ => by simp [orL]
  | p :: l, c, out, h => by
    have hp := h p (by simp)
    rw [List.foldl_cons, fold_sum g l _ _ (fun x hx => by simpa [stp] using h x (by simp [hx]))]
    simp only [stp, orL, List.foldl_cons]
    rw [sum_set _ _ _ (by omega)]
    omega
theorem orL_bit : ∀ (l : List Int) (c j : Nat), (∀ x ∈ l, 0 ≤ x) → (orL l c).testBit j = (c.testBit j || decide ((j : Int) ∈ l))
  | [], c, j, _ => by simp [orL]
  | p :: l, c, j, h => by
    have hp := h p (by simp)
    have ih := orL_bit l (c ||| p2 p.toNat) j fun x hx => h x (by simp [hx])
    have e : orL (p :: l) c = orL l (c ||| p2 p.toNat) := rfl
    rw [e, ih, Nat.testBit_or, p2_eq, Nat.testBit_two_pow]
    have e2 : decide (p.toNat = j) = decide ((j : Int) = p) := by congr 1; exact propext ⟨fun q => by omega, fun q => by omega⟩
    rw [e2, Bool.or_assoc]
    congr 1
    by_cases q1 : (j : Int) = p <;> by_cases q2 : (j : Int) ∈ l <;> simp [q1, q2]
theorem orL_all {m : Nat} {l : List Int} (h : l.Perm (rangeI m)) : orL l 0 = p2 m - 1 := by
  obtain ⟨h1, _, h3⟩ := perm_facts h
  apply Nat.eq_of_testBit_eq
  intro j
  rw [orL_bit l 0 j fun x hx => (h1 x hx).1, p2_eq, Nat.testBit_two_pow_sub_one]
  simp only [Nat.zero_testBit, Bool.false_or]
  congr 1
  refine propext ⟨fun q => ?_, fun q => h3 j q⟩
  have := h1 _ q
  omega
theorem oneO_sum {m : Nat} {g out l : List Int} (h : l.Perm (rangeI m)) (ho : out.length = m) : (oneO g out l).sum = out.sum + (g.getD (p2 m - 1) 0 - g.getD 0 0) := by
  rw [oneO, fold_sum g l 0 out fun x hx => by rw [ho]; exact (perm_facts h).1 x hx, orL_all h]
theorem samp_sum {m : Nat} {g : List Int} : ∀ (os : List (List Int)) (out : List Int), (∀ l ∈ os, l.Perm (rangeI m)) → out.length = m → (os.foldl (oneO g) out).sum = out.sum + os.length * (g.getD (p2 m - 1) 0 - g.getD 0 0)
  | [], out, _, _ => by simp
  | l :: os, out, h, ho => by
    rw [List.foldl_cons, samp_sum os _ (fun x hx => h x (by simp [hx])) (by rw [oneO_len, ho]), oneO_sum (h l (by simp)) ho]
    simp only [List.length_cons, Int.natCast_add, Int.add_mul]
    omega
theorem sum_zeros (m : Nat) : (List.replicate m (0 : Int)).sum = 0 := by
  induction m with
  | zero => rfl
  | succ m ih => rw [List.replicate_succ, List.sum_cons, ih]; rfl
theorem sampL_sum {m : Nat} {g : List Int} {os : List (List Int)} (h : ∀ l ∈ os, l.Perm (rangeI m)) (h0 : g[0]? = some 0) {w : Int} (hw : g[p2 m - 1]? = some w) : (sampL m g os).sum = os.length * w := by
  rw [sampL, samp_sum os _ h (by simp), sum_zeros, getD_of h0, getD_of hw]
  simp
theorem exact_sum {m : Nat} {g : List Int} (h6 : m ≤ 6) (h0 : g[0]? = some 0) {w : Int} (hw : g[p2 m - 1]? = some w) : (exactL m g).sum = fct m * w := by
  rw [exact_samp g h6, sampL_sum (fun l hl => orders_perm hl) h0 hw, ordersL_len]
theorem samp_bound {m : Nat} {g : List Int} (hm6 : m ≤ 6) (hgl : g.length = p2 m) (hgb : ∀ (j : Nat) y, g[j]? = some y → -1099511627776 ≤ y ∧ y ≤ 1099511627776) : ∀ (os : List (List Int)) (out : List Int) (i : Nat), (∀ l ∈ os, isB (m : Int) l = true) → out.length = m →
    (∀ (j : Nat) v, out[j]? = some v → -((i : Int) * 13194139533312) ≤ v ∧ v ≤ (i : Int) * 13194139533312) → ∀ (j : Nat) v, (os.foldl (oneO g) out)[j]? = some v → -(((i + os.length : Nat) : Int) * 13194139533312) ≤ v ∧ v ≤ ((i + os.length : Nat) : Int) * 13194139533312
  | [], out, i, _, _, hb, j, v, h => hb j v h
  | l :: os, out, i, ho, hol, hb, j, v, h => by
    obtain ⟨h1, h2⟩ := oneO_bound hm6 hgl hgb (ho l (by simp)) hol hb
    have := samp_bound hm6 hgl hgb os (oneO g out l) (i + 1) (fun x hx => ho x (by simp [hx])) h1 (fun j v q => by have := h2 j v q; omega) j v h
    simp only [List.length_cons]
    omega
theorem sampL_bound {m : Nat} {g : List Int} {os : List (List Int)} (hm6 : m ≤ 6) (hgl : g.length = p2 m) (hgb : ∀ (j : Nat) y, g[j]? = some y → -1099511627776 ≤ y ∧ y ≤ 1099511627776) (ho : ∀ l ∈ os, isB (m : Int) l = true) (hn : os.length ≤ 1000) : ∀ x ∈ sampL m g os, -13194139533312000 ≤ x ∧ x ≤ 13194139533312000 := by
  intro x hx
  obtain ⟨j, hj⟩ := List.getElem?_of_mem hx
  have := samp_bound hm6 hgl hgb os (List.replicate m 0) 0 ho (by simp) (fun j v h => by
    rw [List.getElem?_replicate] at h
    split at h
    · cases h; simp
    · cases h) j x hj
  omega
theorem exact_bound {m : Nat} {g : List Int} (hm6 : m ≤ 6) (hgl : g.length = p2 m) (hgb : ∀ (j : Nat) y, g[j]? = some y → -1099511627776 ≤ y ∧ y ≤ 1099511627776) : ∀ x ∈ exactL m g, -13194139533312000 ≤ x ∧ x ≤ 13194139533312000 := by
  rw [exact_samp g hm6]
  exact sampL_bound hm6 hgl hgb (fun l hl => orders_isB hl) (by rw [ordersL_len]; have := fct_le m hm6; omega)
/-- Sums so far. -/
theorem take_sum {l : List Int} {i : Nat} {x : Int} (h : l[i]? = some x) : (l.take (i + 1)).sum = (l.take i).sum + x := by
  simp [List.take_add_one, h]
theorem take_sum_bound {l : List Int} {B : Int} (hB : 0 ≤ B) (h : ∀ x ∈ l, -B ≤ x ∧ x ≤ B) : ∀ i, i ≤ l.length → -((i : Int) * B) ≤ (l.take i).sum ∧ (l.take i).sum ≤ (i : Int) * B
  | 0, _ => by simp
  | i + 1, hi => by
    obtain ⟨x, hx⟩ := getI (l := l) (i := i) (by omega)
    have ih := take_sum_bound hB h i (by omega)
    have := h x (List.mem_of_getElem? hx)
    rw [take_sum hx, Int.natCast_add, Int.add_mul]
    omega
end Go.Proofs.Ythjpaongoflgiaa
