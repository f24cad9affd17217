/- The state of a call in abstract values; what each operation makes of it. -/
import Derived.Test.YthjpaongoflgiaaVXCore
namespace Go.VX
set_option linter.unusedVariables false

/-! ### Slots -/
def getS : List (Nat × V) → Nat → V
  | [], _ => .junk
  | (t, x) :: r, s => if t = s then x else getS r s
def setS : List (Nat × V) → Nat → V → List (Nat × V)
  | [], s, v => [(s, v)]
  | (t, x) :: r, s, v => if t = s then (t, v) :: r else (t, x) :: setS r s v
theorem getS_setS (l : List (Nat × V)) (s : Nat) (v : V) (t : Nat) : getS (setS l s v) t = if s = t then v else getS l t := by
  induction l with
  | nil => simp [setS, getS]
  | cons p r ih =>
    obtain ⟨q, x⟩ := p
    simp only [setS]
    split
    · subst_vars
      simp only [getS]
      split <;> simp_all
    · simp only [getS, ih]
      split <;> split <;> simp_all

structure St where
  sl : List (Nat × V)
  ob : List Ob

/-- How many slots there are, and how many objects were handed over. -/
structure Sh where
  nt : Nat
  k0 : Nat

structure Ctx where
  E0 : Env
  own : Nat → Prop
  nt : Sh

/-- Memory, within a call. -/
structure HS (C : Ctx) (Φ : Nat → Prop) (H : Nat → Option Nat) (ob : List Ob) (w : World) : Prop where
  os : w.os = C.E0.w.os
  tape : w.tape = C.E0.w.tape
  output : w.output = C.E0.w.output
  size : C.E0.w.heap.size ≤ w.heap.size
  kept : ∀ b, b < C.E0.w.heap.size → ¬ C.own b → w.heap[b]? = C.E0.w.heap[b]?
  sim : HSim Φ H ob w
  ext : Ext C.E0 (mkE Φ H ob w)
  phi : ∀ b, Φ b → C.E0.Φ b ∨ C.own b ∨ C.E0.w.heap.size ≤ b
  mine : ∀ i o b, ob[i]? = some o → o.mutb = true → H i = some b → C.own b ∨ C.E0.w.heap.size ≤ b

structure SimE (C : Ctx) (Φ : Nat → Prop) (H : Nat → Option Nat) (st : St) (a : Act) (w : World) : Prop where
  hs : HS C Φ H st.ob w
  defers : a.defers = []
  nt : a.tmps.size = C.nt.nt
  k0 : C.E0.N = C.nt.k0
  slots : ∀ s, VRep (mkE Φ H st.ob w) (getS st.sl s) (a.tmps.getD s undef)

/-- One step of memory. -/
structure HStep (Φ : Nat → Prop) (H : Nat → Option Nat) (ob : List Ob) (w : World) (Φ' : Nat → Prop) (H' : Nat → Option Nat) (ob' : List Ob) (w' : World) : Prop where
  os : w'.os = w.os
  tape : w'.tape = w.tape
  output : w'.output = w.output
  size : w.heap.size ≤ w'.heap.size
  kept : ∀ b, b < w.heap.size → (∀ i o, ob[i]? = some o → o.mutb = true → H i ≠ some b) → w'.heap[b]? = w.heap[b]?
  sim : HSim Φ' H' ob' w'
  ext : Ext (mkE Φ H ob w) (mkE Φ' H' ob' w')
  phi : ∀ b, Φ' b → Φ b ∨ (∃ i o, ob[i]? = some o ∧ o.mutb = true ∧ H i = some b) ∨ w.heap.size ≤ b
  mine : ∀ i o b, ob'[i]? = some o → o.mutb = true → H' i = some b → (∃ j o, ob[j]? = some o ∧ o.mutb = true ∧ H j = some b) ∨ w.heap.size ≤ b

theorem HStep.refl {Φ H ob w} (h : HSim Φ H ob w) : HStep Φ H ob w Φ H ob w :=
  ⟨rfl, rfl, rfl, Nat.le_refl _, fun _ _ _ => rfl, h, Ext.refl _, fun _ h => .inl h, fun i o b h1 h2 h3 => .inl ⟨i, o, h1, h2, h3⟩⟩
theorem HStep.trans {Φ H ob w Φ' H' ob' w' Φ2 H2 ob2 w2} (h : HStep Φ H ob w Φ' H' ob' w') (k : HStep Φ' H' ob' w' Φ2 H2 ob2 w2) : HStep Φ H ob w Φ2 H2 ob2 w2 := by
  refine ⟨k.os.trans h.os, k.tape.trans h.tape, k.output.trans h.output, Nat.le_trans h.size k.size, fun b hb hn => ?_, k.sim, h.ext.trans k.ext, fun b hb => ?_, fun i o b h1 h2 h3 => ?_⟩
  · rw [k.kept b (Nat.lt_of_lt_of_le hb h.size) fun i o h1 h2 h3 => ?_, h.kept b hb hn]
    rcases h.mine i o b h1 h2 h3 with ⟨j, o', g1, g2, g3⟩ | g
    · exact hn j o' g1 g2 g3
    · omega
  · rcases k.phi b hb with q | ⟨i, o, h1, h2, h3⟩ | q
    · exact h.phi b q
    · exact .inr (h.mine i o b h1 h2 h3)
    · exact .inr (.inr (Nat.le_trans h.size q))
  · rcases k.mine i o b h1 h2 h3 with ⟨j, o', g1, g2, g3⟩ | q
    · exact h.mine j o' b g1 g2 g3
    · exact .inr (Nat.le_trans h.size q)

theorem HS.step {C Φ H ob w Φ' H' ob' w'} (h : HS C Φ H ob w) (k : HStep Φ H ob w Φ' H' ob' w') : HS C Φ' H' ob' w' := by
  refine ⟨k.os.trans h.os, k.tape.trans h.tape, k.output.trans h.output, Nat.le_trans h.size k.size, fun b hb hn => ?_, k.sim, h.ext.trans k.ext, fun b hb => ?_, fun i o b h1 h2 h3 => ?_⟩
  · rw [k.kept b (Nat.lt_of_lt_of_le hb h.size) fun i o h1 h2 h3 => ?_, h.kept b hb hn]
    rcases h.mine i o b h1 h2 h3 with g | g
    · exact hn g
    · omega
  · rcases k.phi b hb with q | ⟨i, o, h1, h2, h3⟩ | q
    · exact h.phi b q
    · exact .inr (h.mine i o b h1 h2 h3)
    · exact .inr (.inr (Nat.le_trans h.size q))
  · rcases k.mine i o b h1 h2 h3 with ⟨j, o', g1, g2, g3⟩ | q
    · exact h.mine j o' b g1 g2 g3
    · exact .inr (Nat.le_trans h.size q)

theorem SimE.step {C Φ H st a w Φ' H' ob' w'} (h : SimE C Φ H st a w) (k : HStep Φ H st.ob w Φ' H' ob' w') : SimE C Φ' H' ⟨st.sl, ob'⟩ a w' :=
  ⟨h.hs.step k, h.defers, h.nt, h.k0, fun s => VRep.ext k.ext _ _ (h.slots s)⟩

def putD (sl : List (Nat × V)) (d : Option Nat) (x : V) : List (Nat × V) :=
  match d with
  | some d => setS sl d x
  | none => sl

theorem SimE.put {C Φ H st a w} (h : SimE C Φ H st a w) {d : Option Nat} {x : V} {v : Value} (hx : VRep (mkE Φ H st.ob w) x v) (hd : ∀ i, d = some i → i < C.nt.nt) :
    SimE C Φ H ⟨putD st.sl d x, st.ob⟩ (a.put d v) w := by
  cases d with
  | none => exact h
  | some d =>
    have hlt := hd d rfl
    refine ⟨h.hs, h.defers, by simpa [Act.put] using h.nt, h.k0, fun s => ?_⟩
    simp only [putD, getS_setS, Act.put]
    have hs := h.nt
    by_cases e : d = s
    · subst e
      simp only [if_true]
      have : (a.tmps.setIfInBounds d v).getD d undef = v := by
        simp [Array.getD, hs, hlt]
      rw [this]; exact hx
    · rw [if_neg e]
      have : (a.tmps.setIfInBounds d v).getD s undef = a.tmps.getD s undef := by
        simp only [Array.getD_eq_getD_getElem?, Array.getElem?_setIfInBounds_ne e]
      rw [this]; exact h.slots s

/-! ### Types -/
inductive TK where
  | bool | int (k : IntKind) | string | slice (e : Nat) | array (n e : Nat) | struct (fs : List (Nat × Nat)) | ptr (e : Nat) | map (k e : Nat) | func | tuple | other
  deriving Inhabited

def kindOf : TypeDesc → TK
  | .bool => .bool
  | .int k => .int k
  | .string => .string
  | .slice e => .slice e
  | .array n e => .array n e
  | .struct fs => .struct (fs.toList.map fun f => (f.offset, f.type))
  | .pointer e => .ptr e
  | .map k e => .map k e
  | .func _ _ _ => .func
  | .tuple _ => .tuple
  | _ => .other

def vconst1 : Value → V
  | .bool b => .bool b
  | .int k n => .int k n
  | .string s => .str s
  | .pointer none => .nilp
  | .slice none 0 0 => .nils
  | .nilFunc => .nilf
  | .map none => .nilm
  | .nilIface => .nili
  | _ => .junk
def vconst : Value → V
  | .agg a => if (a.toList.map vconst1).all V.one then .agg (a.toList.map vconst1) else .junk
  | v => vconst1 v

theorem vconst1_rep (E : Env) (v : Value) : VRep E (vconst1 v) v := by
  unfold vconst1
  split <;> simp [VRep]
theorem vconst_rep (E : Env) (v : Value) : VRep E (vconst v) v := by
  unfold vconst
  split
  · rename_i a
    split
    · rename_i h
      refine ⟨a, rfl, ?_⟩
      generalize a.toList = l at h ⊢
      induction l with
      | nil => simp [VReps]
      | cons u r ih =>
        simp only [List.map_cons, List.all_cons, Bool.and_eq_true] at h
        exact ⟨u, r, rfl, h.1, vconst1_rep E u, ih h.2⟩
    · trivial
  · exact vconst1_rep E v

def V.known : V → Bool
  | .junk | .tup _ => false
  | _ => true
def V.cells : V → List V
  | .agg cs => cs
  | x => [x]

structure TI where
  k : TK
  size : Nat
  bytes : Nat
  zero : V
  deriving Inhabited

/-- Values of a struct may be compared, field by field. -/
def eqOK (P : Program) (t : Nat) : Bool :=
  !P.stoodInHeld t && (!P.eqGuardType P.depth t && match P.underlying t with
    | some (.struct F) => F.toList.all fun f => decide (f.name ≠ "_")
    | _ => false)
structure TabOK (P : Program) (T : Nat → Option TI) : Prop where
  tab : ∀ t i, T t = some i → ∃ info d z, P.info? t = some info ∧ P.underlying t = some d ∧ kindOf d = i.k ∧ info.size = i.size ∧ info.bytes = i.bytes ∧ info.zero = some z ∧ vconst z = i.zero ∧ i.zero.known = true ∧ i.zero.cells.length = i.size
  eqs : ∀ t fs s b z, T t = some ⟨.struct fs, s, b, z⟩ → eqOK P t = true
instance (P : Program) (T : Nat → Option TI) : CoeFun (TabOK P T) (fun _ => ∀ t i, T t = some i → ∃ info d z, P.info? t = some info ∧ P.underlying t = some d ∧ kindOf d = i.k ∧ info.size = i.size ∧ info.bytes = i.bytes ∧ info.zero = some z ∧ vconst z = i.zero ∧ i.zero.known = true ∧ i.zero.cells.length = i.size) := ⟨TabOK.tab⟩

/-! ### Operands -/
def evV (sl : List (Nat × V)) : Operand → V
  | .tmp t => getS sl t
  | .const v => vconst v
  | .func f => .fn f []
  | .global _ => .junk

theorem SimE.eval {C Φ H st a w} (h : SimE C Φ H st a w) (x : Operand) : VRep (mkE Φ H st.ob w) (evV st.sl x) (a.eval x) := by
  cases x with
  | tmp t => exact h.slots t
  | const v => exact vconst_rep _ v
  | func f => exact ⟨#[], rfl, rfl, rfl⟩
  | global g => trivial
end Go.VX
