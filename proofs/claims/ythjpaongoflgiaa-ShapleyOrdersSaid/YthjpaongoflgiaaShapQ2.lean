/- What is added, in all orders, is what all orders add: plain laws. -/
import Derived.Test.YthjpaongoflgiaaShapQ
namespace Go.Proofs.Ythjpaongoflgiaa
open Go Go.VX Go.RowKit
set_option linter.unusedVariables false
set_option linter.unusedSimpArgs false
set_option maxHeartbeats 20000000
set_option maxRecDepth 100000

/-! Each order is one of all. -/
theorem erase_perm : ∀ (l : List Int) (i : Nat) (h : i < l.length), (l[i] :: l.eraseIdx i).Perm l
  | x :: l, 0, _ => List.Perm.refl _
  | x :: l, i + 1, h => by
    have ih := erase_perm l i (by simpa using h)
    exact (List.Perm.swap _ _ _).trans (ih.cons x)
theorem layL_perm : ∀ (k : Nat) (l rest : List Int), rest.length = k → ∀ x ∈ layL k l rest, ∃ t, x = l ++ t ∧ t.Perm rest
  | 0, l, rest, hr, x, hx => by
    obtain rfl : rest = [] := List.length_eq_zero_iff.1 hr
    simp only [layL, List.mem_singleton] at hx
    exact ⟨[], by simp [hx], List.Perm.refl _⟩
  | k + 1, l, rest, hr, x, hx => by
    simp only [layL, List.mem_flatMap, List.mem_range] at hx
    obtain ⟨i, hi, hx⟩ := hx
    have hlt : i < rest.length := by omega
    have he : (rest.eraseIdx i).length = k := by rw [List.length_eraseIdx, if_pos hlt]; omega
    obtain ⟨t, h1, h2⟩ := layL_perm k _ _ he x hx
    have hg : rest.getD i 0 = rest[i] := by simp [hlt]
    refine ⟨rest[i] :: t, by rw [h1, hg]; simp, ?_⟩
    exact (h2.cons _).trans (erase_perm rest i hlt)
theorem orders_perm {m : Nat} {x : List Int} (h : x ∈ ordersL m) : x.Perm (rangeI m) := by
  obtain ⟨t, h1, h2⟩ := layL_perm m [] (rangeI m) rangeI_len x h
  rw [h1]; simpa using h2
theorem orders_isB {m : Nat} {x : List Int} (h : x ∈ ordersL m) : isB (m : Int) x = true := isB_of_perm (orders_perm h)
/-- What is drawn is one of them. -/
theorem fold_mem : ∀ (k : Nat) (l rest ds : List Int), rest.length = k → ds.length = k → (ds.foldl ordStep (l, rest)).1 ∈ layL k l rest
  | 0, l, rest, ds, hr, hd => by
    obtain rfl : ds = [] := List.length_eq_zero_iff.1 hd
    simp [layL]
  | k + 1, l, rest, [], hr, hd => by simp at hd
  | k + 1, l, rest, d :: ds, hr, hd => by
    have hlt : (d.tmod rest.length).natAbs < k + 1 := by
      have := tmod_abs d (k := rest.length) (by omega)
      omega
    rw [List.foldl_cons, layL, List.mem_flatMap]
    refine ⟨_, List.mem_range.2 hlt, ?_⟩
    exact fold_mem k _ _ ds (by rw [List.length_eraseIdx, if_pos (by omega)]; omega) (by simpa using hd)
theorem ordL_mem {m : Nat} {ds : List Int} (h : ds.length = m) : ordL m ds ∈ ordersL m := fold_mem m [] (rangeI m) ds rangeI_len h

/-! What one order adds. -/
def maskB : List Int → Nat → Nat → Nat
  | [], _, c => c
  | p :: l, i, c => if p.toNat = i then c else maskB l i (c ||| p2 p.toNat)
def dif (g : List Int) (i c : Nat) : Int := g.getD (c ||| p2 i) 0 - g.getD c 0
theorem getD_set_ne' {l : List Int} {i j : Nat} {x : Int} (h : i ≠ j) : (l.set i x).getD j 0 = l.getD j 0 := by
  simp [List.getD_eq_getElem?_getD, List.getElem?_set_ne h]
theorem getD_set_eq' {l : List Int} {i : Nat} {x : Int} (h : i < l.length) : (l.set i x).getD i 0 = x := by
  simp [List.getD_eq_getElem?_getD, h]
theorem fold_at (g : List Int) {i : Nat} : ∀ (l : List Int) (c : Nat) (out : List Int), (∀ x ∈ l, 0 ≤ x) → l.Nodup → i < out.length →
    ((l.foldl (stp g) (c, out)).2).getD i 0 = out.getD i 0 + (if (i : Int) ∈ l then dif g i (maskB l i c) else 0)
  | [], c, out, _, _, _ => by simp
  | p :: l, c, out, h0, hn, hi => by
    obtain ⟨hp, hn2⟩ := List.nodup_cons.1 hn
    have hp0 := h0 p (by simp)
    rw [List.foldl_cons, fold_at g l _ _ (fun x hx => h0 x (by simp [hx])) hn2 (by simpa [stp] using hi)]
    simp only [stp]
    by_cases e : p.toNat = i
    · have e2 : (i : Int) = p := by omega
      have hni : ¬ (i : Int) ∈ l := by rw [e2]; exact hp
      rw [if_neg hni, e, getD_set_eq' hi, if_pos (by simp [e2]), maskB, if_pos e, dif]
      omega
    · have e2 : (i : Int) ≠ p := by omega
      rw [getD_set_ne' e, maskB, if_neg e]
      congr 1
      simp [e2]
theorem fold_len (g : List Int) : ∀ (l : List Int) (c : Nat) (out : List Int), ((l.foldl (stp g) (c, out)).2).length = out.length
  | [], _, _ => rfl
  | p :: l, c, out => by rw [List.foldl_cons, fold_len g l]; simp [stp]
theorem oneO_len (g out l : List Int) : (oneO g out l).length = out.length := fold_len g l 0 out
theorem perm_facts {m : Nat} {l : List Int} (h : l.Perm (rangeI m)) : (∀ x ∈ l, 0 ≤ x ∧ x < m) ∧ l.Nodup ∧ ∀ i : Nat, i < m → (i : Int) ∈ l := by
  refine ⟨fun x hx => ?_, h.nodup_iff.2 rangeI_nodup, fun i hi => h.mem_iff.2 (mem_rangeI hi)⟩
  have := h.mem_iff.1 hx
  simp only [rangeI, List.mem_map, List.mem_range] at this
  obtain ⟨q, h1, rfl⟩ := this
  omega
theorem oneO_at {m : Nat} {g out l : List Int} {i : Nat} (h : l.Perm (rangeI m)) (hi : i < m) (ho : out.length = m) : (oneO g out l).getD i 0 = out.getD i 0 + dif g i (maskB l i 0) := by
  obtain ⟨h1, h2, h3⟩ := perm_facts h
  have := fold_at g (i := i) l 0 out (fun x hx => (h1 x hx).1) h2 (by omega)
  rw [if_pos (h3 i hi)] at this
  exact this
theorem samp_at {m : Nat} {g : List Int} {i : Nat} (hi : i < m) : ∀ (os : List (List Int)) (out : List Int), (∀ l ∈ os, l.Perm (rangeI m)) → out.length = m →
    (os.foldl (oneO g) out).length = m ∧ (os.foldl (oneO g) out).getD i 0 = out.getD i 0 + (os.map fun l => dif g i (maskB l i 0)).sum
  | [], out, _, ho => ⟨ho, by simp⟩
  | l :: os, out, h, ho => by
    obtain ⟨h1, h2⟩ := samp_at (g := g) hi os (oneO g out l) (fun x hx => h x (by simp [hx])) (by rw [oneO_len, ho])
    rw [List.foldl_cons]
    refine ⟨h1, ?_⟩
    rw [h2, oneO_at (h l (by simp)) hi ho]
    simp; omega
theorem sampL_len {g : List Int} : ∀ (os : List (List Int)) (out : List Int), (os.foldl (oneO g) out).length = out.length
  | [], _ => rfl
  | l :: os, out => by rw [List.foldl_cons, sampL_len os, oneO_len]

/-! Sums, by how often. -/
theorem sum_map_add {α : Type} (f h : α → Int) : ∀ l : List α, (l.map fun x => f x + h x).sum = (l.map f).sum + (l.map h).sum
  | [] => rfl
  | x :: l => by simp only [List.map_cons, List.sum_cons, sum_map_add f h l]; omega
theorem sum_map_zero {α : Type} : ∀ l : List α, (l.map fun _ => (0 : Int)).sum = 0
  | [] => rfl
  | x :: l => by simp only [List.map_cons, List.sum_cons, sum_map_zero l]; rfl
theorem sum_one (f : Nat → Int) (x : Nat) : ∀ n, ((List.range n).map fun c => if c = x then f c else 0).sum = if x < n then f x else 0
  | 0 => by simp
  | n + 1 => by
    rw [List.range_succ, List.map_append, List.sum_append, sum_one f x n]
    simp only [List.map_cons, List.map_nil, List.sum_cons, List.sum_nil]
    by_cases e : n = x
    · subst e; simp
    · by_cases h : x < n
      · rw [if_pos h, if_neg e, if_pos (by omega)]; simp
      · rw [if_neg h, if_neg e, if_neg (by omega)]; simp
theorem sum_counts (N : Nat) (f : Nat → Int) : ∀ L : List Nat, (∀ x ∈ L, x < N) → (L.map f).sum = ((List.range N).map fun c => (L.count c : Int) * f c).sum
  | [], _ => by simp [sum_map_zero]
  | x :: L, h => by
    have hx := h x (by simp)
    have e : (fun c => ((x :: L).count c : Int) * f c) = fun c => (if c = x then f c else 0) + (L.count c : Int) * f c := by
      funext c
      rw [List.count_cons]
      by_cases e : x = c
      · subst e; simp [Int.add_mul]; omega
      · have e' : ¬ c = x := fun q => e q.symm
        simp [e, e']
    rw [e, sum_map_add, sum_one, if_pos hx, ← sum_counts N f L fun y hy => h y (by simp [hy])]
    simp

theorem mask_dec : ∀ m, m < 7 → ∀ i, i < m → (((ordersL m).map fun l => maskB l i 0).all fun x => decide (x < p2 m)) = true := by decide +kernel
theorem count_dec : ∀ m, m < 7 → ∀ i, i < m → ((List.range (p2 m)).map fun c => ((ordersL m).map fun l => maskB l i 0).count c) = (List.range (p2 m)).map fun c => if c / p2 i % 2 = 0 then fct (popF 64 c) * fct (m - popF 64 c - 1) else 0 := by decide +kernel
theorem map_range_eq {f h : Nat → Nat} {n c : Nat} (e : (List.range n).map f = (List.range n).map h) (hc : c < n) : f c = h c := by
  have := congrArg (fun l => l[c]?) e
  simpa [hc] using this
theorem exact_samp {m : Nat} (g : List Int) (hm : m ≤ 6) : exactL m g = sampL m g (ordersL m) := by
  have hl1 : (exactL m g).length = m := by simp [exactL]
  have hl2 : (sampL m g (ordersL m)).length = m := by rw [sampL, sampL_len]; simp
  apply List.ext_getElem (by rw [hl1, hl2])
  intro i h1 h2
  have hi : i < m := by omega
  have e1 : (exactL m g)[i] = exAt m g (p2 m) i := by simp [exactL, exRow]
  have e2 : (sampL m g (ordersL m))[i] = (sampL m g (ordersL m)).getD i 0 := by simp [h2]
  rw [e1, e2, sampL, (samp_at hi (ordersL m) (List.replicate m 0) (fun l hl => orders_perm hl) (by simp)).2]
  have e3 : (List.replicate m (0 : Int)).getD i 0 = 0 := by simp [hi]
  rw [e3, Int.zero_add]
  have hmask := mask_dec m (by omega) i hi
  have e4 : ((ordersL m).map fun l => dif g i (maskB l i 0)) = ((ordersL m).map fun l => maskB l i 0).map (dif g i) := by rw [List.map_map]; rfl
  rw [e4, sum_counts (p2 m) (dif g i) _ fun x hx => by simpa using List.all_eq_true.1 hmask x hx, exAt]
  congr 1
  refine List.map_congr_left fun c hc => ?_
  have hc' := List.mem_range.1 hc
  have h64 := p2_le m hm
  rw [map_range_eq (count_dec m (by omega) i hi) hc', exTerm, pop_popF 64 c (by omega), dif]
  split
  · rfl
  · simp
end Go.Proofs.Ythjpaongoflgiaa
