/- Going through a map. -/
import Derived.Test.YthjpaongoflgiaaVXMap
import Derived.Maps.RangeRun
namespace Go.VX
open Go.RowKit
set_option linter.unusedVariables false
set_option linter.unusedSimpArgs false

/-- The entry of a stamp. -/
def vfindB (n : Nat) : List Nat → List (V × V) → Option (V × V)
  | b :: bs, e :: es => if b = n then some e else vfindB n bs es
  | _, _ => none
theorem vfindB_get {n : Nat} : ∀ {bs : List Nat} {es : List (V × V)} {i : Nat} {e : V × V}, bs.Nodup → bs[i]? = some n → es[i]? = some e → vfindB n bs es = some e
  | [], _, i, e, _, h, _ => by simp at h
  | b :: bs, [], i, e, _, _, h => by simp at h
  | b :: bs, c :: es, 0, e, hn, h1, h2 => by
    simp at h1 h2
    subst h1; subst h2
    simp [vfindB]
  | b :: bs, c :: es, i + 1, e, hn, h1, h2 => by
    simp only [List.getElem?_cons_succ] at h1 h2
    have hne : b ≠ n := fun q => by
      subst q
      exact (List.nodup_cons.1 hn).1 (List.mem_of_getElem? h1)
    simp only [vfindB, if_neg hne]
    exact vfindB_get (List.nodup_cons.1 hn).2 h1 h2
theorem vfindB_some {n : Nat} : ∀ {bs : List Nat} {es : List (V × V)} {e : V × V}, vfindB n bs es = some e → ∃ i : Nat, bs[i]? = some n ∧ es[i]? = some e
  | [], _, e, h => by simp [vfindB] at h
  | b :: bs, [], e, h => by simp [vfindB] at h
  | b :: bs, c :: es, e, h => by
    simp only [vfindB] at h
    split at h
    · rename_i q
      simp only [Option.some.injEq] at h
      exact ⟨0, by simp [q], by simp [h]⟩
    · obtain ⟨i, h1, h2⟩ := vfindB_some h
      exact ⟨i + 1, by simpa using h1, by simpa using h2⟩

def vrange (T : Nat → Option TI) (ob : List Ob) (t : Nat) (x : V) : Option (V × List Ob) :=
  match T t, x with
  | some ⟨.map _ _, _, _, _⟩, .mp id => match ob[id]? with
    | some (.map _ _ ck) => some (.ptr ob.length 0 0, ob ++ [.iter (.mp id) ck [] ck])
    | _ => none
  | _, _ => none
def ventry (ob : List Ob) (x : V) : Option (Prop × V) :=
  match x with
  | .ptr id 0 0 => match ob[id]? with
    | some (.iter (.mp m) _ seen last) => match ob[m]? with
      | some (.map es bs ck) => match seen.getLast? with
        | some n => match vfindB n bs es with
          | some e => some (ck = last, .tup [e.1, e.2])
          | none => none
        | none => none
      | _ => none
    | _ => none
  | _ => none

section
variable {P : Program} {T : Nat → Option TI} {w : World} {Φ : Nat → Prop} {H : Nat → Option Nat} {ob : List Ob}

theorem iter_at (hs : HSim Φ H ob w) {id m : Nat} {since last : Nat} {seen : List Nat} {v : Value} (hx : VRep (mkE Φ H ob w) (.ptr id 0 0) v) (ho : ob[id]? = some (.iter (.mp m) since seen last)) {es : List (V × V)} {bs : List Nat} {ck : Nat} (hm : ob[m]? = some (.map es bs ck)) :
    ∃ b bm arr, v = .pointer (some ⟨b, 0, none⟩) ∧ H id = some b ∧ H m = some bm ∧ w.heap[b]? = some (.mapIter (some bm) since seen.toArray last) ∧ w.heap[bm]? = some (.map arr ck) ∧ ¬ Φ b ∧
      VReps .any (mkE Φ H ob w) (es.map (·.1)) (arr.toList.map (·.key)) ∧ VReps .any (mkE Φ H ob w) (es.map (·.2)) (arr.toList.map (·.val)) ∧
      (es.all fun e => e.1.notTup && e.2.notTup) = true ∧ arr.toList.map (·.born) = bs ∧ bs.Nodup ∧ (∀ n ∈ bs, n < ck) := by
  obtain ⟨_, h1, h2⟩ := hx
  obtain ⟨_, hh⟩ := h2 0 (by simp [mkE, Lof, ho, Ob.len])
  obtain ⟨b, hb, rfl⟩ := hh rfl
  have hb' : H id = some b := hb
  have hr := hs.rep id _ ho
  obtain ⟨q0, b', r, g1, g2, g3, g4⟩ := hr
  obtain rfl : b = b' := by rw [hb'] at g1; exact Option.some.inj g1
  obtain ⟨bm, arr, e1, e2, e3, _, e5, e6, e7, e8, e9, e10, _⟩ := map_at hs g4 hm
  simp only [Value.map.injEq] at e1
  subst e1
  exact ⟨b, bm, arr, rfl, hb', e2, g2, e3, g3, e5, e6, e7, e8, e9, e10⟩

theorem range_sound (hT : TabOK P T) (hs : HSim Φ H ob w) {t : Nat} {x y : V} {v : Value} {ob' : List Ob} (hx : VRep (mkE Φ H ob w) x v) (h : vrange T ob t x = some (y, ob')) :
    ∃ q w' H', (Instr.range t v).run P w = .ok q w' ∧ HStep Φ H ob w Φ H' ob' w' ∧ VRep (mkE Φ H' ob' w') y q := by
  unfold vrange at h
  split at h
  case h_2 => cases h
  rename_i kt et _ _ _ id ht
  split at h
  case h_2 => cases h
  rename_i es bs ck ho
  simp only [Option.some.injEq, Prod.mk.injEq] at h
  obtain ⟨rfl, rfl⟩ := h
  obtain ⟨info, d, zq, f1, f2, f3, _⟩ := hT t _ ht
  obtain rfl := kindOf_map f3
  have hx0 := hx
  obtain ⟨b, arr, rfl, hb, hw, _⟩ := map_at hs hx ho
  have hg := MapKept.run_getObj_map (P := P) hw
  have hst : HStep Φ H ob w Φ (upd H ob.length (some w.heap.size)) (ob ++ [.iter (.mp id) ck [] ck]) (w.alloc (.mapIter (some b) ck #[] ck)) := by
    refine HStep.ofPush hs rfl rfl rfl (fun k hk => Below.heap_alloc w _ k hk) (by simp) (fun b hb => by simp at hb; omega) fun E' hE hw' hΦ => ?_
    refine ⟨rfl, _, some b, rfl, by rw [hw']; exact heap_alloc_new w _, fun hp => ?_, VRep.ext hE _ _ hx0⟩
    rw [hΦ] at hp
    exact absurd (hs.phi _ hp) (by omega)
  refine ⟨.pointer (some ⟨w.heap.size, 0, none⟩), _, _, ?_, hst, ?_⟩
  · simp [Instr.range, run_underlying f2, hg]
  · refine ⟨rfl, by simp [mkE], fun T' hT' => ⟨by omega, fun _ => ⟨w.heap.size, by simp [mkE], rfl⟩⟩⟩

theorem entry_sound (hs : HSim Φ H ob w) {x y : V} {v : Value} {p : Prop} (hx : VRep (mkE Φ H ob w) x v) (h : ventry ob x = some (p, y)) (hp : p) : ∃ q, (Instr.entry v).run P w = .ok q w ∧ VRep (mkE Φ H ob w) y q := by
  unfold ventry at h
  split at h
  case h_2 => cases h
  rename_i id
  split at h
  case h_2 => cases h
  rename_i m since seen last ho
  split at h
  case h_2 => cases h
  rename_i es bs ck hm
  split at h
  case h_2 => cases h
  rename_i n hl
  split at h
  case h_2 => cases h
  rename_i e he
  simp only [Option.some.injEq, Prod.mk.injEq] at h
  obtain ⟨rfl, rfl⟩ := h
  obtain ⟨b, bm, arr, rfl, hb, hbm, g1, g2, g3, g4, g5, g6, g7, g8, g9⟩ := iter_at hs hx ho hm
  obtain ⟨i, h1, h2⟩ := vfindB_some he
  have hil : i < arr.toList.length := by
    have := (List.getElem?_eq_some_iff.1 h1).1
    rw [← g7] at this
    simpa using this
  have hai : arr.toList[i]? = some arr.toList[i] := List.getElem?_eq_getElem hil
  have hborn : arr.toList[i].born = n := by
    rw [← g7, List.getElem?_map, hai] at h1
    simpa using h1
  have hseen : seen.toArray = (seen.dropLast.toArray).push arr.toList[i].born := by
    rw [hborn]
    have : seen = seen.dropLast ++ [n] := by
      have hne : seen ≠ [] := by intro q; subst q; simp at hl
      have h3 := List.dropLast_concat_getLast hne
      rw [List.getLast?_eq_some_getLast hne] at hl
      simp only [Option.some.injEq] at hl
      rw [hl] at h3
      exact h3.symm
    conv => lhs; rw [this]
    simp
  rw [hseen, ← hp] at g1
  have hr := run_entry_at (P := P) w b bm since _ arr ck _ g1 g2 (List.getElem_mem hil) (by rw [g7]; exact g8)
  refine ⟨_, hr, ?_⟩
  obtain ⟨u1, k1, _, k2⟩ := g4.get i e.1 (by rw [List.getElem?_map, h2]; rfl)
  obtain ⟨u2, k3, _, k4⟩ := g5.get i e.2 (by rw [List.getElem?_map, h2]; rfl)
  rw [List.getElem?_map, hai] at k1 k3
  simp only [Option.map_some, Option.some.injEq] at k1 k3
  have hnt := List.all_eq_true.1 g6 e (List.mem_of_getElem? h2)
  simp only [Bool.and_eq_true] at hnt
  refine ⟨_, by show (e.1.notTup && (e.2.notTup && true)) = true; rw [hnt.1, hnt.2]; rfl, rfl, u1, [u2], by rw [← k1, ← k3], trivial, k2, u2, [], rfl, trivial, k4, rfl⟩

theorem next_sound (hs : HSim Φ H ob w) {id m : Nat} {since last : Nat} {seen : List Nat} {v : Value} {ty : Nat} (hx : VRep (mkE Φ H ob w) (.ptr id 0 0) v) (ho : ob[id]? = some (.iter (.mp m) since seen last)) {es : List (V × V)} {bs : List Nat} {ck : Nat} (hm : ob[m]? = some (.map es bs ck))
    (hcs : ck ≤ since) (hsl : since ≤ last) :
    ((∀ n ∈ bs, n ∈ seen) ∧ (Instr.next v false ty).run P w = .ok (.tuple #[.bool false]) w) ∨
    ∃ (i n : Nat) (e : V × V) (q : Value) (w' : World) (H' : Nat → Option Nat), bs[i]? = some n ∧ es[i]? = some e ∧ n ∉ seen ∧ (Instr.next v false ty).run P w = .ok q w' ∧ HStep Φ H ob w Φ H' (ob.set id (.iter (.mp m) since (seen ++ [n]) ck)) w' ∧ VRep (mkE Φ H' (ob.set id (.iter (.mp m) since (seen ++ [n]) ck)) w') (.tup [.bool true, e.1, e.2]) q := by
  obtain ⟨b, bm, arr, rfl, hb, hbm, g1, g2, g3, g4, g5, g6, g7, g8, g9⟩ := iter_at hs hx ho hm
  have hold : ∀ x ∈ arr.toList, x.born < since := fun x hx => by
    have := g9 x.born (by rw [← g7]; exact List.mem_map_of_mem hx)
    omega
  rcases run_next_at (P := P) w ty b bm since last seen.toArray arr ck g1 g2 hold hsl with ⟨h0, hr⟩ | ⟨e0, he0, w1, hw1, hr⟩
  · refine .inl ⟨fun n hn => ?_, hr⟩
    rw [← g7] at hn
    obtain ⟨e, he, rfl⟩ := List.mem_map.1 hn
    have h0' : leftOf arr seen.toArray = #[] := Array.eq_empty_of_size_eq_zero h0
    unfold leftOf at h0'
    rw [Array.filter_eq_empty_iff] at h0'
    have := h0' e (by simpa using he)
    simpa using this
  · right
    have he1 : e0 ∈ arr.toList ∧ e0.born ∉ seen := by
      unfold leftOf at he0
      simpa using he0
    obtain ⟨i, hi⟩ := List.getElem?_of_mem he1.1
    have hbi : bs[i]? = some e0.born := by rw [← g7, List.getElem?_map, hi]; rfl
    have hei : i < es.length := by
      have := g4.length
      have := (List.getElem?_eq_some_iff.1 hi).1
      simp at *; omega
    have hes : es[i]? = some es[i] := List.getElem?_eq_getElem hei
    have hw1h : w1.heap = w.heap := by rcases hw1 with rfl | rfl <;> rfl
    have g1' : w1.heap[b]? = some (.mapIter (some bm) since seen.toArray last) := by rw [hw1h]; exact g1
    have hst0 : HStep Φ H ob w Φ H ob w1 := by
      rcases hw1 with rfl | rfl
      · exact HStep.refl hs
      · exact HStep.same hs rfl rfl rfl rfl
    have hs1 : HSim Φ H ob w1 := (hs.same hw1h).1
    have hE1 := (hs.same (w' := w1) hw1h).2
    have hrep := hs1.rep id _ ho
    rw [hb] at hrep
    obtain ⟨q0, b', r', k1, k2, k3, k4⟩ := hrep
    have hst : HStep Φ H ob w1 Φ (upd H id (some b)) (ob.set id (.iter (.mp m) since (seen ++ [e0.born]) ck)) { w1 with heap := w1.heap.setIfInBounds b (.mapIter (some bm) since (seen.toArray.push e0.born) ck) } := by
      refine HStep.ofChange hs1 ho rfl rfl rfl rfl (fun k hk hne => ?_) (by simp) (fun _ h => h) (fun _ h => .inl h) (fun b' hb' => .inl (by rw [hb]; exact hb')) (fun T' hT' => ?_) (fun E' hE hw' hΦ => ?_)
      · rw [heap_setObj w1 g1', if_neg (fun e => hne (by rw [e]; exact hb))]
      · simp only [Ob.len, Option.some.injEq] at hT'
        refine ⟨0, rfl, by omega, fun _ => ⟨hb.symm, fun b' hb' => ?_⟩⟩
        rw [hb] at hb'
        obtain rfl := Option.some.inj hb'
        simp only [bsize]
        rw [heap_setObj w1 g1', if_pos rfl, g1']
      · simp only [Option.some.injEq] at k1
        subst k1
        have k2 : w1.heap[b]? = _ := k2
        rw [g1'] at k2
        simp only [Option.some.injEq, Obj.mapIter.injEq] at k2
        obtain ⟨rfl, _⟩ := k2
        refine ⟨rfl, b, some bm, rfl, by rw [hw', heap_setObj w1 g1', if_pos rfl]; simp, by rw [hΦ]; exact g3, VRep.ext hE _ _ k4⟩
    obtain ⟨u1, k1', _, k2'⟩ := g4.get i es[i].1 (by rw [List.getElem?_map, hes]; rfl)
    obtain ⟨u2, k3', _, k4'⟩ := g5.get i es[i].2 (by rw [List.getElem?_map, hes]; rfl)
    rw [List.getElem?_map, hi] at k1' k3'
    simp only [Option.map_some, Option.some.injEq] at k1' k3'
    have hnt := List.all_eq_true.1 g6 es[i] (List.mem_of_getElem? hes)
    simp only [Bool.and_eq_true] at hnt
    have hst2 := hst0.trans hst
    refine ⟨i, e0.born, es[i], _, _, _, hbi, hes, he1.2, hr, hst2, _, by show (V.notTup (.bool true) && (es[i].1.notTup && (es[i].2.notTup && true))) = true; rw [hnt.1, hnt.2]; rfl, rfl, .bool true, [u1, u2], by simp [k1', k3'], trivial, rfl, u1, [u2], rfl, trivial, VRep.ext hst2.ext _ _ k2', u2, [], rfl, trivial, VRep.ext hst2.ext _ _ k4', rfl⟩
end
end Go.VX
