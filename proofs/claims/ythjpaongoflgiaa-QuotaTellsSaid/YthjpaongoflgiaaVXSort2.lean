/- Sorting that keeps the order of what is alike: steps of the program's own way. -/
import Derived.Test.YthjpaongoflgiaaVXSort
namespace Go.VX.Srt
set_option linter.unusedVariables false
set_option maxHeartbeats 2000000
section
variable {α β : Type} {lt : α → α → Bool}
theorem fst_get {L : List (α × Nat)} {i : Nat} {x : α × Nat} (h : L[i]? = some x) : (L.map Prod.fst)[i]? = some x.1 := by simp [h]
theorem get_mid {A B C : List β} {a j : Nat} (ha : A.length = a) (h : a ≤ j) (h2 : j < a + B.length) : (A ++ B ++ C)[j]? = B[j - a]? := by
  subst ha
  rw [List.append_assoc, List.getElem?_append_right h, List.getElem?_append_left (by omega)]
theorem get_back {A B C : List β} {a j : Nat} (ha : A.length + B.length = a) (h : a ≤ j) : (A ++ B ++ C)[j]? = C[j - a]? := by
  subst ha
  rw [List.getElem?_append_right (by rw [List.length_append]; exact h), List.length_append]
theorem swp_map (f : α → β) (L : List α) (i j : Nat) : (swp L i j).map f = swp (L.map f) i j := by
  unfold swp
  simp only [List.getElem?_map]
  rcases L[i]? with _ | x <;> rcases L[j]? with _ | y <;> simp [List.map_set]
theorem seg_one {Z : List β} {i : Nat} {x : β} (h : Z[i]? = some x) (a : Nat) (ha : a ≤ i) : seg Z a (i + 1) = seg Z a i ++ [x] := by
  have hl := (List.getElem?_eq_some_iff.1 h).1
  unfold seg
  rw [List.take_add_one, h, List.drop_append_of_le_length (by simp; omega)]
  rfl
theorem drop_one {Z : List β} {i : Nat} {x : β} (h : Z[i]? = some x) : Z.drop i = x :: Z.drop (i + 1) := by
  obtain ⟨hl, e⟩ := List.getElem?_eq_some_iff.1 h
  rw [List.drop_eq_getElem_cons hl, e]
theorem sorted_short {S : List (α × Nat)} (h : S.length ≤ 1) : Sorted lt S := by
  match S, h with
  | [], _ => exact List.Pairwise.nil
  | [x], _ => exact List.pairwise_singleton _ _
/-- A new one put where it belongs. -/
theorem ins_one (hw : Weak lt) {S : List (α × Nat)} {x : α × Nat} (hS : Sorted lt S) (hb : ∀ y ∈ S, y.2 < x.2) {k : Nat} (hk : k ≤ S.length)
    (c1 : k = 0 ∨ ∃ y, S[k - 1]? = some y ∧ lt x.1 y.1 = false) (c2 : k = S.length ∨ ∃ y, S[k]? = some y ∧ lt x.1 y.1 = true) :
    Sorted lt (S.take k ++ x :: S.drop k) ∧ (S.take k ++ x :: S.drop k).Perm (S ++ [x]) := by
  have h := Merged.one_right hw hS hk (v := x) (fun y hy z hz => by simp at hz; subst hz; exact hb y hy) c1 c2
  exact ⟨h.sorted, h.perm⟩
/-- Where two rows part, so that the halves are merged each by itself. -/
theorem merge_facts (hw : Weak lt) {A U V B L : List (α × Nat)} {a m b mid q p s0 r0 r : Nat} (hL : L = A ++ U ++ V ++ B) (ha : a = A.length) (hm1 : m = A.length + U.length) (hb : b = A.length + U.length + V.length)
    (sU : Sorted lt U) (sV : Sorted lt V) (hBel : Below U V) (hu : 0 < U.length) (hv : 0 < V.length) (hmid : mid = (a + b) / 2) (hq : q = mid + m) (hp : p = q - 1)
    (hsr : (mid < m ∧ s0 = q - b ∧ r0 = mid) ∨ (m ≤ mid ∧ s0 = a ∧ r0 = m)) (h1 : s0 ≤ r) (h2 : r ≤ r0)
    (c1 : r = s0 ∨ ∃ w z, L[q - r]? = some w ∧ L[r - 1]? = some z ∧ lt w.1 z.1 = false) (c2 : r = r0 ∨ ∃ w z, L[p - r]? = some w ∧ L[r]? = some z ∧ lt w.1 z.1 = true) :
    ∃ e U1 U2 V1 V2, e = q - r ∧ (m ≤ e ∧ e ≤ b ∧ a ≤ r ∧ r ≤ m ∧ mid = a + (r - a) + (e - m)) ∧ (U1.length = r - a ∧ U2.length = m - r ∧ V1.length = e - m ∧ V2.length = b - e) ∧ U1 ++ U2 = U ∧ V1 ++ V2 = V ∧
      (Sorted lt U1 ∧ Sorted lt U2 ∧ Sorted lt V1 ∧ Sorted lt V2) ∧ Below U1 V1 ∧ Below U2 V2 ∧ ∀ W1 W2, Merged lt U1 V1 W1 → Merged lt U2 V2 W2 → Merged lt U V (W1 ++ W2) := by
  have hrange : m ≤ q - r ∧ q - r ≤ b ∧ a ≤ r ∧ r ≤ m ∧ mid = a + (r - a) + (q - r - m) := by
    rcases hsr with ⟨x1, rfl, rfl⟩ | ⟨x1, rfl, rfl⟩ <;> omega
  have hs0 : r = s0 → r - a = 0 ∨ V.length ≤ q - r - m := by
    rcases hsr with ⟨x1, rfl, rfl⟩ | ⟨x1, rfl, rfl⟩ <;> omega
  have hr0 : r = r0 → q - r - m = 0 ∨ U.length ≤ r - a := by
    rcases hsr with ⟨x1, rfl, rfl⟩ | ⟨x1, rfl, rfl⟩ <;> omega
  have hlo : r ≠ s0 → q - r < b ∧ a ≤ r - 1 ∧ 0 < r := by
    rcases hsr with ⟨x1, rfl, rfl⟩ | ⟨x1, rfl, rfl⟩ <;> omega
  have hhi : r ≠ r0 → m ≤ p - r ∧ p - r < b ∧ r < m := by
    rcases hsr with ⟨x1, rfl, rfl⟩ | ⟨x1, rfl, rfl⟩ <;> omega
  clear hsr h1 h2
  obtain ⟨e, he⟩ : ∃ e, e = q - r := ⟨_, rfl⟩
  rw [← he] at hrange hs0 hr0 hlo c1
  have getU : ∀ i, a ≤ i → i < m → L[i]? = U[i - a]? := fun i h1 h2 => by rw [hL, List.append_assoc (A ++ U), get_mid (a := a) ha.symm h1 (by omega)]
  have getV : ∀ i, m ≤ i → i < b → L[i]? = V[i - m]? := fun i h1 h2 => by rw [hL, get_mid (a := m) (by simp; omega) h1 (by omega)]
  have k1 : r - a = 0 ∨ V.length ≤ e - m ∨ ∃ x y, U[r - a - 1]? = some x ∧ V[e - m]? = some y ∧ T lt x y := by
    rcases c1 with c | ⟨w, z, q1, q2, q3⟩
    · rcases hs0 c with g | g
      · exact .inl g
      · exact .inr (.inl g)
    · by_cases h0 : r = s0
      · rcases hs0 h0 with g | g
        · exact .inl g
        · exact .inr (.inl g)
      · obtain ⟨g1, g2, g3⟩ := hlo h0
        rw [getV e (by omega) g1] at q1
        rw [getU (r - 1) g2 (by omega)] at q2
        exact .inr (.inr ⟨z, w, by rw [← q2]; congr 1; omega, q1, T.of_not q3 (hBel z (List.mem_of_getElem? q2) w (List.mem_of_getElem? q1))⟩)
  have k2 : e - m = 0 ∨ U.length ≤ r - a ∨ ∃ x y, V[e - m - 1]? = some x ∧ U[r - a]? = some y ∧ T lt x y := by
    rcases c2 with c | ⟨w, z, q1, q2, q3⟩
    · rcases hr0 c with g | g
      · exact .inl g
      · exact .inr (.inl g)
    · by_cases h0 : r = r0
      · rcases hr0 h0 with g | g
        · exact .inl g
        · exact .inr (.inl g)
      · obtain ⟨g1, g2, g3⟩ := hhi h0
        rw [getV _ g1 g2] at q1
        rw [getU r (by omega) g3] at q2
        exact .inr (.inr ⟨w, z, by rw [← q1]; congr 1; omega, q2, .inl q3⟩)
  refine ⟨e, U.take (r - a), U.drop (r - a), V.take (e - m), V.drop (e - m), he, hrange, ⟨?_, ?_, ?_, ?_⟩, List.take_append_drop _ _, List.take_append_drop _ _, ⟨sU.sublist (List.take_sublist _ _), sU.sublist (List.drop_sublist _ _), sV.sublist (List.take_sublist _ _), sV.sublist (List.drop_sublist _ _)⟩, ?_, ?_, fun W1 W2 j1 j2 => Merged.join hw sU sV j1 j2 k1 k2⟩
  · rw [List.length_take]; omega
  · rw [List.length_drop]; omega
  · rw [List.length_take]; omega
  · rw [List.length_drop]; omega
  · exact fun x hx y hy => hBel x (List.mem_of_mem_take hx) y (List.mem_of_mem_take hy)
  · exact fun x hx y hy => hBel x (List.mem_of_mem_drop hx) y (List.mem_of_mem_drop hy)
end
end Go.VX.Srt
