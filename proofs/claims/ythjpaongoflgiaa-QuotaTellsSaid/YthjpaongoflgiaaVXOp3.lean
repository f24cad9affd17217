/- What the operations make of abstract values: addresses, parts, slices of slices. -/
import Derived.Test.YthjpaongoflgiaaVXOp2
namespace Go.VX
set_option linter.unusedVariables false
set_option linter.unusedSimpArgs false

def vun (op : UnOp) : V → Option V
  | .int k n => match op with
    | .neg => some (.int k (k.wrap (0 - n)))
    | .xor => some (.int k (ibits .xor k (if k.signed then -1 else k.max) n))
    | _ => none
  | .bool b => match op with
    | .not => some (.bool !b)
    | _ => none
  | _ => none

/-- A field or an element of a struct or array value. -/
def vpart (T : Nat → Option TI) (t : Nat) (cs : List V) (off : Nat) : Option (Prop × V) :=
  match T t with
  | some i => if i.k.isAgg then some (off + i.size ≤ cs.length, .agg ((cs.drop off).take i.size)) else
    match cs[off]? with
    | some y => some (True, y)
    | none => none
  | none => none

/-- The same where the place is a number that isn't known. -/
def vpartN (T : Nat → Option TI) (t : Nat) (cs : List V) (off : Nat) : Option (Prop × V) :=
  match T t with
  | some i => if i.k.isAgg then some (off + i.size ≤ cs.length, .agg ((cs.drop off).take i.size)) else some (off < cs.length, cs.getD off .junk)
  | none => none

def strAt (s : ByteArray) (j : Nat) : Int := ((s.data[j]?.getD 0).toNat : Int)

def vindex (T : Nat → Option TI) (t : Nat) (x : V) (i : Int) : Option (Prop × V) :=
  match T t, x with
  | some ⟨.array n e, _, _, _⟩, .agg cs => match T e with
    | some ie => match vpartN T e cs (i.toNat * ie.size) with
      | some (p, y) => some ((0 ≤ i ∧ i < n) ∧ p, y)
      | none => none
    | none => none
  | some ⟨.string, _, _, _⟩, .str s => some (0 ≤ i ∧ i < s.size, .int .u8 (strAt s i.toNat))
  | _, _ => none

/-- The address so many cells on. -/
def vadd (x : V) (n : Nat) : Option V :=
  match x with
  | .fp cs => some (.fp (cs.drop n))
  | .ptr id tot off => some (.ptr id tot (off + n))
  | _ => none

def vfieldAddr (T : Nat → Option TI) (ob : List Ob) (t : Nat) (x : V) (f : Nat) : Option (Prop × V) :=
  match T t, rdV ob x with
  | some ⟨.struct fs, _, _, _⟩, some (p, _, _) => match fs[f]? with
    | some (o, ft) => match T ft with
      | some i => if i.size = 0 then none else match vadd x o with
        | some y => some (p, y)
        | none => none
      | none => none
    | none => none
  | _, _ => none

def vindexAddr (T : Nat → Option TI) (ob : List Ob) (t : Nat) (x : V) (i : Int) : Option (Prop × V) :=
  match T t with
  | some ⟨.array n e, _, _, _⟩ => match T e, rdV ob x with
    | some ie, some (p, _, _) => match vadd x (i.toNat * ie.size) with
      | some y => some ((0 ≤ i ∧ i < n) ∧ p, y)
      | none => none
    | _, _ => none
  | some ⟨.slice e, _, _, _⟩ => match T e, x with
    | some ie, .fs n cs => some (0 ≤ i ∧ i < n ∧ i.toNat * ie.size < cs.length, .fp (cs.drop (i.toNat * ie.size)))
    | some ie, .sl id tot esz off n => match rdS ob x with
      | some (p, _, _) => if esz = ie.size then some (0 ≤ i ∧ i < n ∧ 0 < ie.size ∧ p, .ptr id tot (off + i.toNat * ie.size)) else none
      | none => none
    | _, _ => none
  | _ => none

/-- A part that may be empty. -/
def vsub (l h : Int) (x : V) : V := if l < h then x else .fs 0 []
/-- A slice of a slice, of an array behind a pointer, of a string. -/
def vslice (T : Nat → Option TI) (ob : List Ob) (t : Nat) (x : V) (lo hi : Option Int) : Option (Prop × V) :=
  match T t with
  | some ⟨.string, _, _, _⟩ => match x with
    | .str s => let h := hi.getD s.size; let l := lo.getD 0
      some (0 ≤ l ∧ l ≤ h ∧ h ≤ s.size, .str (s.extract l.toNat h.toNat))
    | _ => none
  | some ⟨.slice e, _, _, _⟩ => match T e, rdS ob x with
    | some ie, some (p, n, cs) => let h := hi.getD n; let l := lo.getD 0
      match x with
      | .sl id tot esz off _ => if esz = ie.size then
          match lo with
          | none => some (p ∧ 0 ≤ h ∧ h ≤ n, .sl id tot esz off h.toNat)
          | some _ => some (p ∧ 0 ≤ l ∧ l ≤ h ∧ h ≤ n, vsub l h (.sl id tot esz (off + l.toNat * ie.size) (h.toNat - l.toNat)))
        else none
      | _ => some (p ∧ 0 ≤ l ∧ l ≤ h ∧ h ≤ n ∧ cs.length = n * ie.size, .fs (h.toNat - l.toNat) ((cs.drop (l.toNat * ie.size)).take ((h.toNat - l.toNat) * ie.size)))
    | _, _ => none
  | some ⟨.array n e, _, _, _⟩ => match T e, rdV ob x with
    | some ie, some (p, cs, off) => let h := hi.getD n; let l := lo.getD 0
      match x with
      | .ptr id tot o => some (p ∧ 0 ≤ l ∧ l ≤ h ∧ h ≤ n ∧ o + n * ie.size ≤ tot ∧ (l < n ∨ l = 0), .sl id tot ie.size (o + l.toNat * ie.size) (h.toNat - l.toNat))
      | .fp cs => some (0 ≤ l ∧ l ≤ h ∧ h ≤ n ∧ n * ie.size ≤ cs.length, .fs (h.toNat - l.toNat) ((cs.drop (l.toNat * ie.size)).take ((h.toNat - l.toNat) * ie.size)))
      | _ => none
    | _, _ => none
  | _ => none

section
variable {P : Program} {T : Nat → Option TI} {w : World} {Φ : Nat → Prop} {H : Nat → Option Nat} {ob : List Ob}

theorem vun_run {op : UnOp} {x y : V} {v : Value} (h : vun op x = some y) (hx : VRep (mkE Φ H ob w) x v) : ∃ u, (Op.unary op v).run P w = .ok u w ∧ VRep (mkE Φ H ob w) y u := by
  cases x <;> simp only [vun] at h <;> (try (simp at h; done)) <;> simp only [VRep] at hx <;> subst hx <;> cases op <;> simp at h <;> subst h <;>
    simp [Op.unary, Op.intArith, Op.intBits, VRep, ibits]

theorem part_sound (hT : TabOK P T) {t : Nat} {i : TI} (ht : T t = some i) {cs : List V} {a : Array Value} (hv : VReps .cell (mkE Φ H ob w) cs a.toList) (off : Nat) :
    (i.k.isAgg = true → off + i.size ≤ cs.length → ∃ u, (part t a off).run P w = .ok u w ∧ VRep (mkE Φ H ob w) (.agg ((cs.drop off).take i.size)) u) ∧
    (i.k.isAgg = false → ∀ y, cs[off]? = some y → ∃ u, (part t a off).run P w = .ok u w ∧ VRep (mkE Φ H ob w) y u) := by
  obtain ⟨info, d, z, e1, e2, e3, e4, e5, e6, e7⟩ := hT t i ht
  have hag := run_isAgg_tab (P := P) (w := w) e2 e3
  have hsz := run_sizeOf_tab (P := P) (w := w) e1
  refine ⟨fun ha hle => ⟨.agg (a.extract off (off + i.size)), by simp [part, hag, hsz, ha, e4], ?_⟩, fun ha y hy => ?_⟩
  · refine ⟨_, rfl, ?_⟩
    have := (hv.drop off).take i.size
    simpa [Array.toList_extract, List.extract_eq_take_drop] using this
  · obtain ⟨u, hu, _, hr⟩ := hv.get off y hy
    refine ⟨u, ?_, hr⟩
    have hu' : a[off]? = some u := by simpa using hu
    simp [part, hag, ha, hu']

theorem vpart_sound (hT : TabOK P T) {t : Nat} {cs : List V} {a : Array Value} (hv : VReps .cell (mkE Φ H ob w) cs a.toList) {off : Nat} {p : Prop} {y : V} (h : vpart T t cs off = some (p, y)) (hp : p) :
    ∃ u, (part t a off).run P w = .ok u w ∧ VRep (mkE Φ H ob w) y u := by
  unfold vpart at h
  cases ht : T t with
  | none => simp [ht] at h
  | some i =>
    simp only [ht] at h
    obtain ⟨k1, k2⟩ := part_sound hT ht hv off
    split at h
    · rename_i ha
      simp only [Option.some.injEq, Prod.mk.injEq] at h; obtain ⟨rfl, rfl⟩ := h
      exact k1 ha hp
    · rename_i ha
      split at h
      · rename_i y' hy
        simp only [Option.some.injEq, Prod.mk.injEq] at h; obtain ⟨rfl, rfl⟩ := h
        exact k2 (by simpa using ha) _ hy
      · cases h
theorem vpartN_sound (hT : TabOK P T) {t : Nat} {cs : List V} {a : Array Value} (hv : VReps .cell (mkE Φ H ob w) cs a.toList) {off : Nat} {p : Prop} {y : V} (h : vpartN T t cs off = some (p, y)) (hp : p) :
    ∃ u, (part t a off).run P w = .ok u w ∧ VRep (mkE Φ H ob w) y u := by
  unfold vpartN at h
  cases ht : T t with
  | none => simp [ht] at h
  | some i =>
    simp only [ht] at h
    obtain ⟨k1, k2⟩ := part_sound hT ht hv off
    split at h
    · rename_i ha
      simp only [Option.some.injEq, Prod.mk.injEq] at h; obtain ⟨rfl, rfl⟩ := h
      exact k1 ha hp
    · rename_i ha
      simp only [Option.some.injEq, Prod.mk.injEq] at h; obtain ⟨rfl, rfl⟩ := h
      exact k2 (by simpa using ha) _ (by rw [List.getD_eq_getElem?_getD, List.getElem?_eq_getElem hp]; rfl)

theorem kindOf_struct {d : TypeDesc} {fs : List (Nat × Nat)} (h : kindOf d = .struct fs) : ∃ a, d = .struct a ∧ fs = a.toList.map fun f => (f.offset, f.type) := by
  cases d <;> simp_all [kindOf]
theorem kindOf_slice {d : TypeDesc} {e : Nat} (h : kindOf d = .slice e) : d = .slice e := by
  cases d <;> simp_all [kindOf]
theorem kindOf_array {d : TypeDesc} {n e : Nat} (h : kindOf d = .array n e) : d = .array n e := by
  cases d <;> simp_all [kindOf]
theorem kindOf_string {d : TypeDesc} (h : kindOf d = .string) : d = .string := by
  cases d <;> simp_all [kindOf]
theorem kindOf_int {d : TypeDesc} {k : IntKind} (h : kindOf d = .int k) : d = .int k := by
  cases d <;> simp_all [kindOf]

theorem vfield_sound (hT : TabOK P T) {t f : Nat} {i : TI} {fs : List (Nat × Nat)} {o ft : Nat} (ht : T t = some i) (hk : i.k = .struct fs) (hf : fs[f]? = some (o, ft)) {cs : List V} {v : Value} (hx : VRep (mkE Φ H ob w) (.agg cs) v)
    {p : Prop} {y : V} (h : vpart T ft cs o = some (p, y)) (hp : p) : ∃ u, (Instr.field t v f).run P w = .ok u w ∧ VRep (mkE Φ H ob w) y u := by
  obtain ⟨info, d, z, e1, e2, e3, e4, e5, e6, e7⟩ := hT t i ht
  obtain ⟨a, rfl, rfl⟩ := kindOf_struct (e3.trans hk)
  obtain ⟨arr, rfl, hv⟩ := hx
  obtain ⟨u, h1, h2⟩ := vpart_sound (P := P) hT hv h hp
  simp only [List.getElem?_map, Option.map_eq_some_iff, Prod.mk.injEq] at hf
  obtain ⟨fld, hfl, rfl, rfl⟩ := hf
  have hfl' : a[f]? = some fld := by simpa using hfl
  exact ⟨u, by simp [Instr.field, run_underlying e2, hfl', asAgg, h1], h2⟩

theorem vindex_sound (hT : TabOK P T) {t : Nat} {x : V} {v : Value} (hx : VRep (mkE Φ H ob w) x v) {k : IntKind} {i : Int} {p : Prop} {y : V} (h : vindex T t x i = some (p, y)) (hp : p) :
    ∃ u, (Instr.index t v (.int k i)).run P w = .ok u w ∧ VRep (mkE Φ H ob w) y u := by
  unfold vindex at h
  split at h
  · rename_i n e _ _ _ cs ht
    obtain ⟨info, d, z, e1, e2, e3, e4, e5, e6, e7⟩ := hT t _ ht
    obtain rfl := kindOf_array e3
    cases he : T e with
    | none => simp [he] at h
    | some ie =>
      simp only [he] at h
      cases hq : vpartN T e cs (i.toNat * ie.size) with
      | none => simp [hq] at h
      | some q =>
        simp only [hq, Option.some.injEq, Prod.mk.injEq] at h
        obtain ⟨rfl, rfl⟩ := h
        obtain ⟨arr, rfl, hv⟩ := hx
        obtain ⟨u, h1, h2⟩ := vpartN_sound (P := P) hT hv (p := q.1) (y := q.2) hq hp.2
        obtain ⟨info', d', z', e1', _, _, e4', _⟩ := hT e ie he
        have hsz := run_sizeOf_tab (P := P) (w := w) e1'
        rw [e4'] at hsz
        exact ⟨u, by simp [Instr.index, asIntOf, run_underlying e2, hp.1, hsz, h1], h2⟩
  · rename_i _ _ _ s ht
    obtain ⟨info, d, z, e1, e2, e3, e4, e5, e6, e7⟩ := hT t _ ht
    obtain rfl := kindOf_string e3
    simp only [VRep] at hx; subst hx
    simp only [Option.some.injEq, Prod.mk.injEq] at h; obtain ⟨rfl, rfl⟩ := h
    have hlt : i.toNat < s.size := by omega
    have hb : s[i.toNat]? = some s[i.toNat] := by simp [getElem?_pos, hlt]
    refine ⟨_, ?_, rfl⟩
    simp only [Instr.index, asIntOf, Sem.run_bind, Sem.run_pure, Result.andThen_ok, run_underlying e2, if_pos hp.1, hb]
    have : s.data[i.toNat]?.getD 0 = s[i.toNat] := by
      have : i.toNat < s.data.size := hlt
      simp [Array.getElem?_eq_getElem this]; rfl
    rw [strAt, this]
  · cases h

end
end Go.VX
