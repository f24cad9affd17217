/- New variables, literals, make, append, copy. -/
import Derived.Test.YthjpaongoflgiaaVXOp5
namespace Go.VX
open Go.RowKit
set_option linter.unusedVariables false
set_option linter.unusedSimpArgs false

/-- So many zero values, one behind the other. -/
def zerosV : List V → Nat → List V
  | [z], n => List.replicate n z
  | zc, n => (List.replicate n zc).flatten

theorem zerosV_eq (zc : List V) (n : Nat) : zerosV zc n = (List.replicate n zc).flatten := by
  unfold zerosV
  split
  · rename_i z
    induction n with
    | zero => rfl
    | succ n ih => simp only [List.replicate_succ, List.flatten_cons] at ih ⊢; rw [ih]; rfl
  · rfl

def vfill (place : Nat → Option (Nat × Nat)) (cells : List V) : List (Nat × V) → Option (Prop × List V)
  | [] => some (True, cells)
  | (i, x) :: rest =>
    match place i with
    | none => none
    | some (off, size) =>
      if x.known then
        match vfill place (spl cells off x.cells) rest with
        | none => none
        | some (p, cs) => some ((x.cells.length = size ∧ off + x.cells.length ≤ cells.length) ∧ p, cs)
      else none

def structPlaces (T : Nat → Option TI) (fs : List (Nat × Nat)) (i : Nat) : Option (Nat × Nat) :=
  match fs[i]? with
  | some (o, ft) => match T ft with
    | some ti => some (o, ti.size)
    | none => none
  | none => none

def vbuild (T : Nat → Option TI) (t : Nat) (parts : List (Nat × V)) : Option (Prop × V) :=
  match T t with
  | some ⟨.struct fs, _, _, z⟩ => if fs.all (fun f => (T f.2).isSome) then
      match vfill (structPlaces T fs) z.cells parts with
      | some (p, cs) => some (p, .agg cs)
      | none => none
    else none
  | some ⟨.array _ e, _, _, z⟩ => match T e with
    | some ie => match vfill (fun i => some (i * ie.size, ie.size)) z.cells parts with
      | some (p, cs) => some (p, .agg cs)
      | none => none
    | none => none
  | _ => none

section
variable {P : Program} {T : Nat → Option TI} {w : World} {Φ : Nat → Prop} {H : Nat → Option Nat} {ob : List Ob}

theorem foldl_set_list (off : Nat) : ∀ (us : List Value) (k : Nat) (cells : Array Value), off + k + us.length ≤ cells.size →
    ((us.zipIdx k).foldl (fun cs (c : Value × Nat) => cs.setIfInBounds (off + c.2) c.1) cells).toList = cells.toList.take (off + k) ++ us ++ cells.toList.drop (off + k + us.length)
  | [], k, cells, _ => by simp
  | u :: us, k, cells, h => by
    simp only [List.zipIdx_cons, List.foldl_cons]
    rw [foldl_set_list off us (k + 1) _ (by simp at h ⊢; omega)]
    simp only [List.length_cons] at h ⊢
    simp only [Array.toList_setIfInBounds]
    have e1 : (cells.toList.set (off + k) u).take (off + (k + 1)) = cells.toList.take (off + k) ++ [u] := by
      rw [List.set_eq_take_append_cons_drop, if_pos (by simp; omega)]
      rw [List.take_append]
      have : (cells.toList.take (off + k)).length = off + k := by simp; omega
      rw [this, List.take_of_length_le (by omega)]
      congr 1
      have : off + (k + 1) - (off + k) = 1 := by omega
      rw [this]; rfl
    have e2 : (cells.toList.set (off + k) u).drop (off + (k + 1) + us.length) = cells.toList.drop (off + k + (us.length + 1)) := by
      rw [List.drop_set_of_lt (by omega)]
      congr 1
      omega
    rw [e1, e2]; simp

theorem fill_sound {E : Env} {place : Nat → Option (Nat × Nat)} : ∀ {parts : List (Nat × V)} {vals : List (Nat × Value)} {cells cs : List V} {arr : Array Value} {p : Prop},
    parts.map (·.1) = vals.map (·.1) → VReps .any E (parts.map (·.2)) (vals.map (·.2)) → VReps .cell E cells arr.toList → vfill place cells parts = some (p, cs) → p →
    ∃ arr', Instr.fill place arr vals = some arr' ∧ VReps .cell E cs arr'.toList
  | [], vals, cells, cs, arr, p, h1, h2, h3, h4, hp => by
    cases vals with
    | nil =>
      simp only [vfill, Option.some.injEq, Prod.mk.injEq] at h4
      obtain ⟨_, rfl⟩ := h4
      exact ⟨arr, rfl, h3⟩
    | cons a b => simp at h1
  | (i, x) :: rest, vals, cells, cs, arr, p, h1, h2, h3, h4, hp => by
    cases vals with
    | nil => simp at h1
    | cons q vals =>
      obtain ⟨j, v⟩ := q
      simp only [List.map_cons, List.cons.injEq] at h1
      obtain ⟨rfl, h1⟩ := h1
      simp only [List.map_cons] at h2
      obtain ⟨u, r, he, _, hx, hr⟩ := h2
      simp only [List.cons.injEq] at he
      obtain ⟨rfl, rfl⟩ := he
      simp only [vfill] at h4
      cases hpl : place i with
      | none => simp [hpl] at h4
      | some os =>
        obtain ⟨off, size⟩ := os
        simp only [hpl] at h4
        split at h4
        case isFalse => cases h4
        rename_i hk
        cases hrec : vfill place (spl cells off x.cells) rest with
        | none => simp [hrec] at h4
        | some q =>
          obtain ⟨p', cs'⟩ := q
          simp only [hrec, Option.some.injEq, Prod.mk.injEq] at h4
          obtain ⟨rfl, rfl⟩ := h4
          obtain ⟨⟨hl, hf⟩, hp'⟩ := hp
          have hv := cells_rep hx hk
          have hlv := hv.length
          have hla := h3.length
          simp only [Array.length_toList] at hlv hla
          have harr : VReps .cell E (spl cells off x.cells) (v.cells.zipIdx.foldl (fun cs (c : Value × Nat) => cs.setIfInBounds (off + c.2) c.1) arr).toList := by
            rw [← Array.foldl_toList, Array.toList_zipIdx]
            rw [foldl_set_list off v.cells.toList 0 arr (by simp; omega)]
            have hc : VReps .cell E cells (arr.toList.take cells.length) := by rw [List.take_of_length_le (by simp; omega)]; exact h3
            have := write_rep (off := off) hc (by omega) hv hf
            rw [List.take_of_length_le (by simp; omega)] at this
            simpa using this
          obtain ⟨arr', g1, g2⟩ := fill_sound h1 hr harr hrec hp'
          refine ⟨arr', ?_, g2⟩
          simp only [Instr.fill, hpl]
          rw [if_neg (by simp only [Bool.or_eq_true, decide_eq_true_eq]; omega)]
          exact g1

theorem zero_rep (hT : TabOK P T) {t : Nat} {i : TI} (ht : T t = some i) (E : Env) : ∃ info z, P.info? t = some info ∧ info.zero = some z ∧ VReps .cell E i.zero.cells z.cells.toList ∧ z.cells.size = i.size ∧ i.zero.cells.length = i.size := by
  obtain ⟨info, d, z, e1, e2, e3, e4, e5, e6, e7, e8, e9⟩ := hT t i ht
  have hr := vconst_rep E z
  rw [e7] at hr
  have hc := cells_rep hr e8
  exact ⟨info, z, e1, e6, hc, by have := hc.length; simp only [Array.length_toList] at this; omega, e9⟩

theorem places_run {fs : List Field} (h : ∀ f ∈ fs, (T f.type).isSome = true) (hT : TabOK P T) :
    fs.mapM (fun f => (P.info? f.type).map fun i => (f.offset, i.size)) = some (fs.map fun f => (f.offset, ((T f.type).map (·.size)).getD 0)) := by
  induction fs with
  | nil => rfl
  | cons f fs ih =>
    have hf := h f (by simp)
    cases hti : T f.type with
    | none => simp [hti] at hf
    | some i =>
      obtain ⟨info, d, z, e1, e2, e3, e4, _⟩ := hT _ i hti
      simp [List.mapM_cons, e1, e4, hti, ih (fun g hg => h g (by simp [hg]))]

theorem build_sound (hT : TabOK P T) {t : Nat} {parts : List (Nat × V)} {vals : Array (Nat × Value)} (h1 : parts.map (·.1) = vals.toList.map (·.1)) (h2 : VReps .any (mkE Φ H ob w) (parts.map (·.2)) (vals.toList.map (·.2)))
    {p : Prop} {y : V} (h : vbuild T t parts = some (p, y)) (hp : p) : ∃ u, (Instr.build t vals).run P w = .ok u w ∧ VRep (mkE Φ H ob w) y u := by
  unfold vbuild at h
  split at h
  · rename_i fs sz by_ z ht
    split at h
    case isFalse => cases h
    rename_i hall
    cases hq : vfill (structPlaces T fs) z.cells parts with
    | none => simp [hq] at h
    | some q =>
      obtain ⟨p', cs⟩ := q
      simp only [hq, Option.some.injEq, Prod.mk.injEq] at h
      obtain ⟨rfl, rfl⟩ := h
      obtain ⟨info, zz, e1, e2, e3, e4, e5⟩ := zero_rep hT ht (mkE Φ H ob w)
      obtain ⟨info', d, z', f1, f2, f3, f4, _⟩ := hT t _ ht
      obtain ⟨a, rfl, rfl⟩ := kindOf_struct f3
      obtain ⟨arr', g1, g2⟩ := fill_sound h1 h2 e3 hq hp
      refine ⟨.agg arr', run_build w t vals arr' ?_, ⟨arr', rfl, g2⟩⟩
      have hpl := places_run (fs := a.toList) (fun f hf => by simpa using List.all_eq_true.1 hall (f.offset, f.type) (List.mem_map.2 ⟨f, hf, rfl⟩)) hT
      simp only [Program.built, e1, f2, e2, hpl]
      rw [← g1]
      congr 1
      funext i
      simp only [structPlaces, List.getElem?_map]
      cases hi : a.toList[i]? with
      | none =>
        have hi' : a[i]? = none := by simpa using hi
        simp [hi, hi']
      | some f =>
        have hi' : a[i]? = some f := by simpa using hi
        have hm : f ∈ a.toList := List.mem_of_getElem? hi
        have := List.all_eq_true.1 hall (f.offset, f.type) (List.mem_map.2 ⟨f, hm, rfl⟩)
        cases hti : T f.type with
        | none => simp [hti] at this
        | some ti => simp [hi, hi', hti]
  · rename_i n e sz by_ z ht
    cases hte : T e with
    | none => simp [hte] at h
    | some ie =>
      simp only [hte] at h
      cases hq : vfill (fun i => some (i * ie.size, ie.size)) z.cells parts with
      | none => simp [hq] at h
      | some q =>
        obtain ⟨p', cs⟩ := q
        simp only [hq, Option.some.injEq, Prod.mk.injEq] at h
        obtain ⟨rfl, rfl⟩ := h
        obtain ⟨info, zz, e1, e2, e3, e4, e5⟩ := zero_rep hT ht (mkE Φ H ob w)
        obtain ⟨info', d, z', f1, f2, f3, f4, _⟩ := hT t _ ht
        obtain rfl := kindOf_array f3
        obtain ⟨info2, d2, z2, k1, k2, k3, k4, _⟩ := hT e ie hte
        obtain ⟨arr', g1, g2⟩ := fill_sound h1 h2 e3 hq hp
        refine ⟨.agg arr', run_build w t vals arr' ?_, ⟨arr', rfl, g2⟩⟩
        simp only [Program.built, e1, f2, e2, k1, k4]
        exact g1
  · cases h

/-- The pointer to an object that has just come. -/
theorem ptr_new (w' : World) (cs : List V) (b : Nat) : VRep (mkE Φ (upd H ob.length (some b)) (ob ++ [.live cs]) w') (.ptr ob.length cs.length 0) (.pointer (some ⟨b, 0, none⟩)) :=
  ⟨rfl, by simp [mkE], fun T' hT' => by
    have : T' = cs.length := by
      have h : (ob ++ [Ob.live cs])[ob.length]? = some (.live cs) := by simp
      have h2 : Lof (ob ++ [Ob.live cs]) ob.length = some cs.length := by simp [Lof, Ob.len]
      rw [show (mkE Φ (upd H ob.length (some b)) (ob ++ [.live cs]) w').L ob.length = Lof (ob ++ [Ob.live cs]) ob.length from rfl, h2] at hT'
      exact (Option.some.inj hT').symm
    exact ⟨by omega, fun _ => ⟨b, by simp [mkE], rfl⟩⟩⟩

theorem alloc_sound (hT : TabOK P T) (hs : HSim Φ H ob w) {t : Nat} {i : TI} (ht : T t = some i) :
    ∃ u w' H', (Instr.alloc t true (.tuple #[])).run P w = .ok u w' ∧ HStep Φ H ob w Φ H' (ob ++ [.live i.zero.cells]) w' ∧ VRep (mkE Φ H' (ob ++ [.live i.zero.cells]) w') (.ptr ob.length i.zero.cells.length 0) u := by
  obtain ⟨info, z, e1, e2, e3, e4, e5⟩ := zero_rep hT ht (mkE Φ H ob w)
  have hl := e3.length
  refine ⟨.pointer (some ⟨w.heap.size, 0, none⟩), _, _, ?_, HStep.alloc hs z.cells t (by simp at hl; omega) (by rw [List.take_of_length_le (by omega)]; exact e3), ptr_new _ _ _⟩
  simp [Instr.alloc, zeroValue, typeInfo, e1, e2, newVar, newRow]

theorem box_sound (hs : HSim Φ H ob w) {t : Nat} {x : V} {v : Value} (hx : VRep (mkE Φ H ob w) x v) (hk : x.known = true) :
    ∃ u w' H', (Instr.box t v).run P w = .ok u w' ∧ HStep Φ H ob w Φ H' (ob ++ [.live x.cells]) w' ∧ VRep (mkE Φ H' (ob ++ [.live x.cells]) w') (.ptr ob.length x.cells.length 0) u := by
  have hc := cells_rep hx hk
  have hl := hc.length
  refine ⟨.pointer (some ⟨w.heap.size, 0, none⟩), _, _, ?_, HStep.alloc hs v.cells t (by simp at hl; omega) (by rw [List.take_of_length_le (by omega)]; exact hc), ptr_new _ _ _⟩
  simp [Instr.box, newVar, newRow]

/-- The header of a row that has just come. -/
theorem sl_new (w' : World) (cs : List V) (b esz n cap : Nat) (hn : n * esz = cs.length) (hc : n ≤ cap) (hb : cap * esz ≤ bsize w' b) :
    VRep (mkE Φ (upd H ob.length (some b)) (ob ++ [.live cs]) w') (.sl ob.length cs.length esz 0 n) (.slice (some ⟨b, 0, none⟩) n cap) :=
  ⟨rfl, by simp [mkE], fun T' hT' => by
    have : T' = cs.length := by
      have h2 : Lof (ob ++ [Ob.live cs]) ob.length = some cs.length := by simp [Lof, Ob.len]
      rw [show (mkE Φ (upd H ob.length (some b)) (ob ++ [.live cs]) w').L ob.length = Lof (ob ++ [Ob.live cs]) ob.length from rfl, h2] at hT'
      exact (Option.some.inj hT').symm
    refine ⟨by omega, fun _ => ?_⟩
    simp only [mkE, upd_same, SlV]
    exact ⟨cap, rfl, hc, by omega, by omega⟩⟩

theorem bsize_alloc (w : World) (c : Array Value) (el : TypeId) : bsize (w.alloc (.cells c el)) w.heap.size = c.size := by
  unfold bsize; rw [heap_alloc_new]

end
end Go.VX
