/- slices.SortFunc over a row of structs in place, by the library's contract, as a contract over abstract values. -/
import Derived.Test.YtmpakfpmmkfgpaaVXc
import Derived.Shelf.SlSortCmp.WholeK
import Derived.Shelf.SlSortCmp.NoneTotal
namespace Go.VX
open Go.RowKit
set_option linter.unusedVariables false
set_option linter.unusedSimpArgs false

/-- A struct whose cells are the values themselves. -/
class Flat (α : Type) [Row α] where
  vals : α → List Value
  rep : ∀ E a us, VReps .cell E (Row.cells a) us → us = vals a
  put : ∀ E a, VReps .cell E (Row.cells a) (vals a)
  one : ∀ a, ∀ v ∈ vals a, v.oneCell' = true
section
variable {α : Type} [Row α] [Flat α]
theorem Flat.len (a : α) : (Flat.vals a).length = Row.sz α := by
  rw [← Row.len a]; exact ((Flat.put (mkE (fun _ => True) (fun _ => none) [] default) a).length).symm
def rowsU (l : List α) : List Value := l.flatMap Flat.vals
theorem rowsU_mk (E : Env) : ∀ l : List α, VReps .cell E (rowsV l) (rowsU l)
  | [] => rfl
  | a :: l => (Flat.put E a).append (rowsU_mk E l)
theorem VReps.split : ∀ {E : Env} {xs ys : List V} {us : List Value}, VReps .cell E (xs ++ ys) us → ∃ u v, us = u ++ v ∧ VReps .cell E xs u ∧ VReps .cell E ys v
  | E, [], ys, us, h => ⟨[], us, rfl, rfl, h⟩
  | E, x :: xs, ys, us, ⟨u, r, h1, h0, h2, h3⟩ => by
    obtain ⟨a, b, e, k1, k2⟩ := VReps.split h3
    exact ⟨u :: a, b, by rw [h1, e]; rfl, ⟨u, a, rfl, h0, h2, k1⟩, k2⟩
theorem rowsU_rep {E : Env} : ∀ {l : List α} {us : List Value}, VReps .cell E (rowsV l) us → us = rowsU l
  | [], us, h => h
  | a :: l, us, h => by
    rw [rowsV_cons] at h
    obtain ⟨u, v, rfl, h1, h2⟩ := VReps.split h
    rw [Flat.rep E a u h1, rowsU_rep h2]; rfl
theorem rowsU_length (l : List α) : (rowsU l).length = l.length * Row.sz α := by
  rw [← rowsV_length]; exact ((rowsU_mk (mkE (fun _ => True) (fun _ => none) [] default) l).length).symm
theorem rowsU_get : ∀ {l : List α} {i j : Nat} {x : α}, l[i]? = some x → j < Row.sz α → (rowsU l)[i * Row.sz α + j]? = (Flat.vals x)[j]?
  | [], i, j, x, h, _ => by simp at h
  | a :: l, 0, j, x, h, hj => by
    simp at h; subst h
    rw [Nat.zero_mul, Nat.zero_add]
    show (Flat.vals a ++ rowsU l)[j]? = _
    rw [List.getElem?_append_left (by rw [Flat.len]; exact hj)]
  | a :: l, i + 1, j, x, h, hj => by
    show (Flat.vals a ++ rowsU l)[(i + 1) * Row.sz α + j]? = _
    rw [List.getElem?_append_right (by rw [Flat.len, Nat.add_mul]; omega), Flat.len, show (i + 1) * Row.sz α + j - Row.sz α = i * Row.sz α + j by rw [Nat.add_mul]; omega]
    exact rowsU_get (by simpa using h) hj
theorem rowsU_flat [Inhabited α] (l : List α) : (Sort.flatK Flat.vals (Row.sz α) l.toArray).toList = rowsU l := by
  apply List.ext_getElem?
  intro t
  by_cases ht : t < l.length * Row.sz α
  · have hk : 0 < Row.sz α := Nat.pos_of_ne_zero fun e => by rw [e] at ht; omega
    have hd : t / Row.sz α < l.length := Nat.div_lt_of_lt_mul (by rw [Nat.mul_comm]; exact ht)
    have hm : t % Row.sz α < Row.sz α := Nat.mod_lt _ hk
    have hx : l[t / Row.sz α]? = some l[t / Row.sz α] := List.getElem?_eq_getElem hd
    have hlen := Flat.len l[t / Row.sz α]
    have e := rowsU_get hx hm
    rw [Nat.mul_comm, Nat.div_add_mod] at e
    rw [e]
    simp [Sort.flatK, ht, hd, List.getElem?_range, hlen, hm]
  · rw [List.getElem?_eq_none (by simp [Sort.flatK]; omega), List.getElem?_eq_none (by rw [rowsU_length]; omega)]

/-- A comparison that only reads: what the library asks of it. -/
theorem cmpLays_of [Inhabited α] {P : Program} {g : Nat} {cf : α → α → Int} (hc : ∀ a b : α, VC P g [.agg (Row.cells a), .agg (Row.cells b)] [] (fun r ob' => r = .int .i64 (cf a b) ∧ ob' = [])) (blk off size : Nat) (w : World) :
    Proofs.CmpLays P g #[] Flat.vals (Row.sz α) cf blk off size w := by
  intro m os dk _ x y
  generalize Proofs.sortWorldK Flat.vals (Row.sz α) w blk off m dk os = W
  refine ((hc x y).2 (fun b => b < W.heap.size) (fun _ => none) W (#[Value.agg (Flat.vals x).toArray, Value.agg (Flat.vals y).toArray] ++ #[]) ?_ ?_).mono fun e w' q => ?_
  · exact ⟨fun _ h => h, fun i o h => by simp at h, fun i j o o' b h => by simp at h⟩
  · exact ⟨_, _, rfl, trivial, ⟨_, rfl, Flat.put _ x⟩, _, _, rfl, trivial, ⟨_, rfl, Flat.put _ y⟩, rfl⟩
  cases e with
  | returned v =>
    obtain ⟨r, ob', Φ', H', h, hr, rfl, rfl⟩ := q
    simp only [VRep] at hr
    subst hr
    refine ⟨rfl, w'.drawn - W.drawn, w'.heap.extract W.heap.size w'.heap.size, ?_⟩
    have hsz : W.heap.size ≤ w'.heap.size := h.size
    have hout : w'.output = W.output ∧ W.drawn ≤ w'.drawn := h.output
    have hkept : ∀ b, b < W.heap.size → w'.heap[b]? = W.heap[b]? := fun b hb => h.kept b hb fun ⟨i, o, h1, _⟩ => by simp at h1
    have hheap : w'.heap = W.heap ++ w'.heap.extract W.heap.size w'.heap.size := by
      apply Array.ext_getElem?
      intro i
      by_cases hi : i < W.heap.size
      · rw [hkept i hi, Array.getElem?_append_left hi]
      · rw [Array.getElem?_append_right (by omega), Array.getElem?_extract]
        by_cases hi2 : i < w'.heap.size
        · rw [if_pos (by omega), show W.heap.size + (i - W.heap.size) = i by omega]
        · rw [if_neg (by omega), Array.getElem?_eq_none (by omega)]
    have hos : w'.os = W.os := h.os
    have htape : w'.tape = W.tape := h.tape
    have hdr : W.drawn + (w'.drawn - W.drawn) = w'.drawn := by omega
    cases w'; cases W
    simp only [Sort.grow, World.drewN] at *
    simp only [World.mk.injEq]
    exact ⟨hheap, htape, hdr.symm, hos, hout.1⟩
  | panicked c => exact q.elim
  | outgrown => exact q.elim

theorem VC_sortFunc [Inhabited α] {P : Program} {ρ : Shelf.Ren} (L : Proofs.SlLaysF0.n6 P ρ) (aE : ∀ w, (isAgg (ρ.t 24)).run P w = .ok true w) (zE : ∀ w, (Go.sizeOf (ρ.t 24)).run P w = .ok (Row.sz α) w)
    {cf : α → α → Int} (hO : Sort.SWO (Proofs.ltOf cf)) {g : Nat} (eg : ∀ args w, (callFunc g args).run P w = .ok (.enter g args) w)
    (hc : ∀ a b : α, VC P g [.agg (Row.cells a), .agg (Row.cells b)] [] (fun r ob' => r = .int .i64 (cf a b) ∧ ob' = [])) (hent : Ent P (ρ.f 6)) (l : List α) (hl : l.length < 4611686018427387904) :
    VC P (ρ.f 6) [.sl 0 (l.length * Row.sz α) (Row.sz α) 0 l.length, .fn g []] [.live (rowsV l)] (fun r ob' => r = .tup [] ∧ ∃ m : List α, m.Perm l ∧ m.Pairwise (fun x y => 0 ≤ cf y x) ∧ ob' = [.live (rowsV m)]) := by
  refine ⟨hent, fun Φ H w vals hsim hv => ?_⟩
  obtain ⟨u, r1, h1, _, h2, fv, r2, h3, _, h4, h5⟩ := hv
  simp only [VReps] at h5
  subst h5 h3
  obtain ⟨fa, _, rfl, hfa⟩ := h4
  simp only [VReps] at hfa
  have hvals : vals = #[u, .func (.func g) #[] fa] := by apply Array.ext'; simpa using h1
  have hfa' : fa = #[] := by apply Array.ext'; simpa using hfa
  subst hvals hfa'
  obtain ⟨_, _, h2⟩ := h2
  obtain ⟨_, h2⟩ := h2 (rowsV l).length (by simp [mkE, Lof, Ob.len])
  replace h2 := h2 (rowsV_length l).symm
  have hr := hsim.rep 0 _ (by rfl)
  simp only [mkE] at h2 hr
  have hnil : l = [] → ∀ p cap, Calls P (ρ.f 6) #[.slice p 0 cap, .func (.func g) #[] #[]] w (post Φ H [.live (rowsV l)] w (fun r ob' => r = .tup [] ∧ ∃ m : List α, m.Perm l ∧ m.Pairwise (fun x y => 0 ≤ cf y x) ∧ ob' = [.live (rowsV m)])) := by
    intro e p cap
    subst e
    refine (Proofs.AnyF.slices_SortFunc_none L p cap _ w).mono ?_
    rintro e w' ⟨rfl, rfl⟩
    exact ⟨.tup [], _, Φ, H, HS.refl hsim, ⟨#[], rfl, rfl, rfl⟩, rfl, [], .refl _, .nil, rfl⟩
  cases hH : H 0 with
  | none =>
    rw [hH] at h2
    obtain ⟨e1, _, e3, rfl⟩ := h2
    exact hnil (List.length_eq_zero_iff.1 e3) none 0
  | some b =>
    rw [hH] at h2 hr
    obtain ⟨cap, rfl, e2, e3, e4⟩ := h2
    obtain ⟨c, el, g1, g2, g3, g4⟩ := hr
    have g1' : w.heap[b]? = some (.cells c el (0, 0)) := g1
    have hc2 := rowsU_rep g4
    have hFl := rowsU_flat l
    have hFs : (Sort.flatK Flat.vals (Row.sz α) l.toArray).size = l.length * Row.sz α := by simp
    have hH : Sort.HoldsK Flat.vals (Row.sz α) w b 0 l.toArray := by
      intro j hj
      rw [hFs] at hj
      have hj2 : j < (rowsV l).length := by rw [rowsV_length]; exact hj
      have q : (c.toList.take (rowsV l).length)[j]? = some (Sort.flatK Flat.vals (Row.sz α) l.toArray)[j]! := by
        rw [hc2, ← hFl]
        simp [hj]
      rw [List.getElem?_take, if_pos hj2] at q
      refine ⟨?_, by simp [World.frozen?, g1']⟩
      simp only [World.cell?, g1', Nat.zero_add, id]
      simpa using q
    have hk : ∀ x : α, (Flat.vals x).length = Row.sz α := Flat.len
    have hcall := Proofs.AnyQ.slices_SortFunc L (Row.sz α) aE zE Flat.vals hk Flat.one cf hO g #[] b 0 cap l.toArray w eg (cmpLays_of hc b 0 _ w) hH (lt_of_heap g1') (by simpa using hl)
    refine hcall.mono ?_
    rintro e w' ⟨rfl, d', n, os, hp, hs, rfl⟩
    obtain ⟨hps, _, hpp⟩ := hp
    have hd's : d'.size = l.length := by simpa using hps
    have hpe : d'.toList.Perm l := by
      have q : (List.take l.length d'.toList).Perm l := by simpa [hd's] using hpp
      rwa [List.take_of_length_le (by simp [hd's])] at q
    have hpw : d'.toList.Pairwise (fun x y => 0 ≤ cf y x) := by
      rw [List.pairwise_iff_getElem]
      intro i j hi hj hij
      have q := hs i j (Nat.zero_le _) hij (by simpa [hd's] using hj)
      simp only [Array.length_toList] at hi hj
      simp only [Proofs.ltOf, getElem!_pos d' j hj, getElem!_pos d' i hi, decide_eq_false_iff_not] at q
      simpa using q
    have hM := rowsU_flat d'.toList
    simp only [Array.toArray_toList] at hM
    generalize hFd : Sort.flatK Flat.vals (Row.sz α) d' = F at hM
    have hFz : F.size = l.length * Row.sz α := by rw [← hFd]; simp [hd's]
    generalize hmm : d'.toList = mm at hM hpe hpw
    have hmml : mm.length = l.length := hpe.length_eq
    have hlt := lt_of_heap g1'
    show post Φ H [Ob.live (rowsV l)] w _ (Ending.returned (.tuple #[])) (Sort.grow (Sort.putRow id (Sort.ahead w n) b 0 (Sort.flatK Flat.vals (Row.sz α) d')) os)
    rw [hFd]
    obtain ⟨W, hW⟩ : ∃ W, Sort.putRow id (Sort.ahead w n) b 0 F = W := ⟨_, rfl⟩
    rw [hW]
    have hWs : W.heap.size = w.heap.size := by rw [← hW]; simp [Sort.putRow, Sort.mapBlock, Sort.ahead]
    have hWb : W.heap[b]? = some (.cells (Sort.putCells id 0 F c) el (0, 0)) := by
      rw [← hW]
      simp [Sort.putRow, Sort.mapBlock, Sort.ahead, Array.getElem?_modify, g1', Sort.onCells]
    have hWo : ∀ i, i ≠ b → W.heap[i]? = w.heap[i]? := fun i hi => by
      rw [← hW]
      simp [Sort.putRow, Sort.mapBlock, Sort.ahead, Array.getElem?_modify, Ne.symm hi]
    have hGs : (Sort.grow W os).heap.size = w.heap.size + os.size := by simp [hWs]
    have hG : ∀ i, i < w.heap.size → (Sort.grow W os).heap[i]? = W.heap[i]? := fun i hi => by
      simp only [Sort.grow]
      rw [Array.getElem?_append_left (by omega)]
    have hpc : (Sort.putCells id 0 F c).size = c.size := by simp [Sort.putCells]
    have hdr : w.drawn ≤ (Sort.grow W os).drawn := by rw [← hW]; exact Nat.le_add_right _ _
    have hlr : (rowsV mm).length = (rowsV l).length := by rw [rowsV_length, rowsV_length, hmml]
    have hst := HStep.ofChange (Φ' := Φ) (x := some b) (o' := .live (rowsV mm)) (w' := Sort.grow W os) hsim (i := 0) (o := .live (rowsV l)) rfl rfl (by rw [← hW]; rfl) (by rw [← hW]; rfl) (by rw [← hW]; rfl)
      (fun i hi hn => (hG i hi).trans (hWo i fun e => hn (e ▸ ‹H 0 = some b›))) (by omega) (fun _ h => h) (fun _ h => .inl h) (fun b' hb' => .inl ((‹H 0 = some b›).trans hb'))
      (fun T' hT' => ⟨T', by simpa [Ob.len, hlr] using hT', Nat.le_refl _, fun _ => ⟨(‹H 0 = some b›).symm, fun b' hb' => by
        obtain rfl : b = b' := Option.some.inj ((‹H 0 = some b›).symm.trans hb')
        simp [bsize, hG _ hlt, hWb, g1', hpc]⟩⟩)
      (fun E' hE hw hΦ => by
        refine ⟨Sort.putCells id 0 F c, el, by rw [hw, hG _ hlt]; exact hWb, by rw [hΦ]; exact g2, by rw [hpc, hlr]; exact g3, ?_⟩
        have : (Sort.putCells id 0 F c).toList.take (rowsV mm).length = rowsU mm := by
          rw [hlr, ← hM]
          apply List.ext_getElem?
          intro j
          rw [List.getElem?_take]
          by_cases hj : j < (rowsV l).length
          · rw [if_pos hj]
            have hjc : j < c.size := by omega
            rw [rowsV_length] at hj
            have hjF : j < F.size := by omega
            simp [Sort.putCells, hjc, hjF]
          · rw [if_neg hj, List.getElem?_eq_none]
            rw [rowsV_length] at hj
            simp; omega
        rw [this]
        exact rowsU_mk _ mm)
    exact ⟨.tup [], _, Φ, _, HS.ofStep hsim hst, ⟨#[], rfl, rfl, rfl⟩, rfl, mm, hpe, hpw, rfl⟩
end
end Go.VX
