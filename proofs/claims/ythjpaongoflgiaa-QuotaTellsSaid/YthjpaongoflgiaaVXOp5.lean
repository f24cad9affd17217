/- New objects, and stores into them. -/
import Derived.Test.YthjpaongoflgiaaVXOp4
import Derived.Laws.CopyRow
namespace Go.VX
open Go.RowKit
set_option linter.unusedVariables false
set_option linter.unusedSimpArgs false

def spl (cs : List V) (off : Nat) : List V → List V
  | [v] => cs.set off v
  | vs => cs.take off ++ vs ++ cs.drop (off + vs.length)

theorem spl_eq {cs : List V} {off : Nat} {vs : List V} (h : off + vs.length ≤ cs.length) : spl cs off vs = cs.take off ++ vs ++ cs.drop (off + vs.length) := by
  unfold spl
  split
  · rename_i v
    simp only [List.length_cons, List.length_nil] at h ⊢
    rw [List.set_eq_take_append_cons_drop, if_pos (by omega)]
    simp
  · rfl
theorem spl_length {cs : List V} {off : Nat} {vs : List V} (h : off + vs.length ≤ cs.length) : (spl cs off vs).length = cs.length := by
  rw [spl_eq h]; simp; omega

theorem cells_rep {E : Env} {x : V} {v : Value} (hx : VRep E x v) (hk : x.known = true) : VReps .cell E x.cells v.cells.toList := by
  by_cases h1 : x.one = true
  · have ho := VRep.oneCell h1 hx
    have hc : x.cells = [x] := by cases x <;> simp_all [V.cells, V.one]
    have hv : v.cells = #[v] := by cases v <;> simp_all [Value.cells, Value.oneCell']
    rw [hc, hv]
    exact ⟨v, [], rfl, h1, hx, rfl⟩
  · cases x <;> simp_all [V.one, V.known]
    obtain ⟨a, rfl, h⟩ := hx
    exact h

theorem VReps.one {E : Env} : ∀ {xs : List V} {us : List Value}, VReps .cell E xs us → ∀ u ∈ us, u.oneCell' = true
  | [], us, hu, u, hm => by simp [VReps] at hu; subst hu; simp at hm
  | c :: cs, us, ⟨u, r, h1, h0, h2, h3⟩, y, hm => by
    subst h1
    rcases List.mem_cons.1 hm with rfl | hm
    · exact VRep.oneCell h0 h2
    · exact VReps.one h3 y hm

section
variable {P : Program} {T : Nat → Option TI} {w : World} {Φ : Nat → Prop} {H : Nat → Option Nat} {ob : List Ob}

theorem HStep.same (hs : HSim Φ H ob w) {w' : World} (h1 : w'.os = w.os) (h2 : w'.tape = w.tape) (h3 : w'.output = w.output) (hh : w'.heap = w.heap) : HStep Φ H ob w Φ H ob w' := by
  obtain ⟨g1, g2⟩ := hs.same hh
  exact ⟨h1, h2, h3, by rw [hh]; exact Nat.le_refl _, fun b hb _ => by rw [hh], g1, g2, fun _ h => .inl h, fun i o b k1 k2 k3 => .inl ⟨i, o, k1, k2, k3⟩⟩

theorem HStep.ofPush (hs : HSim Φ H ob w) {w' : World} {o : Ob} {x : Option Nat} (h1 : w'.os = w.os) (h2 : w'.tape = w.tape) (h3 : w'.output = w.output)
    (hkeep : ∀ k, k < w.heap.size → w'.heap[k]? = w.heap[k]?) (hsz : w.heap.size ≤ w'.heap.size) (hx : ∀ b, x = some b → w.heap.size ≤ b)
    (ho : ∀ E', Ext (mkE Φ H ob w) E' → E'.w = w' → E'.Φ = Φ → ObRep E' x o) : HStep Φ H ob w Φ (upd H ob.length x) (ob ++ [o]) w' := by
  obtain ⟨g1, g2⟩ := hs.push hkeep hsz hx ho
  refine ⟨h1, h2, h3, hsz, fun b hb _ => hkeep b hb, g1, g2, fun _ h => .inl h, fun i o' b k1 k2 k3 => ?_⟩
  rcases Nat.lt_or_ge i ob.length with hlt | hge
  · rw [List.getElem?_append_left hlt] at k1
    rw [upd_other _ _ (by omega)] at k3
    exact .inl ⟨i, o', k1, k2, k3⟩
  · have hlt2 : i < (ob ++ [o]).length := by
      rcases Nat.lt_or_ge i (ob ++ [o]).length with q | q
      · exact q
      · simp [List.getElem?_eq_none q] at k1
    obtain rfl : i = ob.length := by simp at hlt2; omega
    rw [upd_same] at k3
    exact .inr (hx b k3)

/-- A new block of cells. -/
theorem HStep.alloc (hs : HSim Φ H ob w) (c : Array Value) (el : TypeId) {cs : List V} (hle : cs.length ≤ c.size) (hv : VReps .cell (mkE Φ H ob w) cs (c.toList.take cs.length)) :
    HStep Φ H ob w Φ (upd H ob.length (some w.heap.size)) (ob ++ [.live cs]) (w.alloc (.cells c el)) := by
  refine HStep.ofPush hs rfl rfl rfl (fun k hk => Below.heap_alloc w _ k hk) (by simp) (fun b hb => by simp at hb; omega) fun E' hE hw hΦ => ?_
  refine ⟨c, el, by rw [hw]; exact heap_alloc_new w _, fun hp => ?_, hle, VReps.ext hE _ _ hv⟩
  rw [hΦ] at hp
  exact absurd (hs.phi _ hp) (by omega)

theorem HStep.ofChange (hs : HSim Φ H ob w) {i : Nat} {o o' : Ob} (hi : ob[i]? = some o) (hm : o.mutb = true)
    {Φ' : Nat → Prop} {w' : World} {x : Option Nat} (h1 : w'.os = w.os) (h2 : w'.tape = w.tape) (h3 : w'.output = w.output)
    (hkeep : ∀ k, k < w.heap.size → H i ≠ some k → w'.heap[k]? = w.heap[k]?) (hsz : w.heap.size ≤ w'.heap.size)
    (hp1 : ∀ b, Φ b → Φ' b) (hp2 : ∀ b, Φ' b → Φ b ∨ (H i = some b ∧ o'.mutb = false))
    (hx : ∀ b, x = some b → H i = some b ∨ w.heap.size ≤ b)
    (hl : ∀ T', o'.len = some T' → ∃ T, o.len = some T ∧ T ≤ T' ∧ (T = T' → x = H i ∧ ∀ b, H i = some b → bsize w' b = bsize w b))
    (ho : ∀ E', Ext (mkE Φ H ob w) E' → E'.w = w' → E'.Φ = Φ' → ObRep E' x o') : HStep Φ H ob w Φ' (upd H i x) (ob.set i o') w' := by
  obtain ⟨g1, g2⟩ := hs.change hi hm hkeep hsz hp1 hp2 hx hl ho
  have hilt : i < ob.length := (List.getElem?_eq_some_iff.1 hi).1
  refine ⟨h1, h2, h3, hsz, fun b hb hn => hkeep b hb (hn i o hi hm), g1, g2, fun b hb => ?_, fun j o1 b k1 k2 k3 => ?_⟩
  · rcases hp2 b hb with q | ⟨q, _⟩
    · exact .inl q
    · exact .inr (.inl ⟨i, o, hi, hm, q⟩)
  · by_cases hji : j = i
    · subst hji
      rw [upd_same] at k3
      rcases hx b k3 with q | q
      · exact .inl ⟨j, o, hi, hm, q⟩
      · exact .inr q
    · rw [List.getElem?_set_ne (by omega : i ≠ j)] at k1
      rw [upd_other _ _ hji] at k3
      exact .inl ⟨j, o1, k1, k2, k3⟩

theorem write_rep {E : Env} {cs vs : List V} {us : List Value} {c : Array Value} {off : Nat} (hc : VReps .cell E cs (c.toList.take cs.length)) (hle : cs.length ≤ c.size) (hv : VReps .cell E vs us) (ho : off + vs.length ≤ cs.length) :
    VReps .cell E (spl cs off vs) ((c.toList.take off ++ us ++ c.toList.drop (off + us.length)).take cs.length) := by
  rw [spl_eq ho]
  have hl := hv.length
  have h1 := hc.take off
  have h2 := hc.drop (off + vs.length)
  rw [List.take_take, Nat.min_eq_left (by omega)] at h1
  rw [List.drop_take] at h2
  have e : (c.toList.take off ++ us ++ c.toList.drop (off + us.length)).take cs.length = c.toList.take off ++ us ++ (c.toList.drop (off + vs.length)).take (cs.length - (off + vs.length)) := by
    have la : (c.toList.take off ++ us).length = off + us.length := by simp; omega
    rw [List.take_append, List.take_of_length_le (by omega), la, hl]
  rw [e]
  exact (h1.append hv).append h2

/-- Cells of an object are written. -/
theorem HStep.write (hs : HSim Φ H ob w) {i : Nat} {cs : List V} (hi : ob[i]? = some (.live cs)) {b : Nat} (hb : H i = some b) {off : Nat} {vs : List V} {us : List Value}
    (hv : VReps .cell (mkE Φ H ob w) vs us) (ho : off + vs.length ≤ cs.length) :
    ∃ (cur : Array Value) (el : TypeId), w.heap[b]? = some (.cells cur el (0, 0)) ∧ off + us.length ≤ cur.size ∧
      HStep Φ H ob w Φ (upd H i (H i)) (ob.set i (.live (spl cs off vs))) (w.setRow b (cur.toList.take off ++ us ++ cur.toList.drop (off + us.length)).toArray) := by
  have hr := hs.rep i _ hi
  rw [hb] at hr
  obtain ⟨c, el, g1, g2, g3, g4⟩ := hr
  have g1' : w.heap[b]? = some (.cells c el (0, 0)) := g1
  have hl := hv.length
  refine ⟨c, el, g1, by omega, ?_⟩
  have hsz : (c.toList.take off ++ us ++ c.toList.drop (off + us.length)).length = c.size := by simp; omega
  refine HStep.ofChange hs hi rfl rfl rfl rfl (fun k hk hn => ?_) (by simp) (fun _ h => h) (fun _ h => .inl h) (fun b' hb' => .inl hb') (fun T' hT' => ?_) (fun E' hE hw hΦ => ?_)
  · exact setRow_other w b k _ (fun e => hn (by rw [e]; exact hb))
  · simp only [Ob.len, Option.some.injEq] at hT'
    rw [spl_length ho] at hT'
    refine ⟨cs.length, rfl, by omega, fun _ => ⟨rfl, fun b' hb' => ?_⟩⟩
    rw [hb] at hb'
    obtain rfl := Option.some.inj hb'
    simp only [bsize, setRow_heap w b c _ el _ g1', g1']
    simpa using hsz
  · rw [hb]
    refine ⟨_, el, by rw [hw]; exact setRow_heap w b c _ el _ g1', by rw [hΦ]; exact g2, by rw [spl_length ho]; simp only [List.size_toArray]; omega, ?_⟩
    rw [spl_length ho]
    simp only [List.toList_toArray]
    exact VReps.ext hE _ _ (write_rep g4 g3 hv ho)

/-- A store through a pointer. -/
theorem store_sound (hT : TabOK P T) (hs : HSim Φ H ob w) {t : Nat} {i : TI} (ht : T t = some i) {id tot off : Nat} {v : Value} (hx : VRep (mkE Φ H ob w) (.ptr id tot off) v)
    {cs : List V} (ho : ob[id]? = some (.live cs)) (hlen : cs.length = tot) {y : V} {u : Value} (hy : VRep (mkE Φ H ob w) y u) (hk : y.known = true) (hsz : y.cells.length = i.size) (hfit : off + y.cells.length ≤ cs.length) (hpos : 0 < y.cells.length) :
    ∃ w' H', (Instr.storeAt t v u).run P w = .ok () w' ∧ HStep Φ H ob w Φ H' (ob.set id (.live (spl cs off y.cells))) w' := by
  obtain ⟨info, d, z, e1, e2, e3, e4, e5, e6, e7⟩ := hT t i ht
  obtain ⟨h0, h1, h2⟩ := hx
  obtain ⟨_, hh⟩ := h2 cs.length (by simp [mkE, Lof, ho, Ob.len])
  obtain ⟨b, hb, rfl⟩ := hh hlen.symm
  have hv := cells_rep hy hk
  obtain ⟨cur, el, g1, g2, g3⟩ := HStep.write hs ho hb hv hfit
  have hst := run_storeCells_at P b off el u.cells.toList 0 cur w g1 (by simpa using g2) (VReps.one hv)
  have hl := hv.length
  refine ⟨_, _, ?_, g3⟩
  have hsz2 := run_sizeOf_tab (P := P) (w := w) e1
  have : u.cells.size = info.size := by rw [e4, ← hsz, hl]; simp
  simp only [Nat.add_zero] at hst
  simp [Instr.storeAt, Instr.sureAddr, storeVar, hsz2, this, hst]

end
end Go.VX
