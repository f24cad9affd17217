/- What the operations make of abstract values: those that leave memory alone. -/
import Derived.Test.YthjpaongoflgiaaVXOp1
namespace Go.VX
set_option linter.unusedVariables false
set_option linter.unusedSimpArgs false

def ibits (op : BinOp) (k : IntKind) (x y : Int) : Int :=
  let a := BitVec.ofInt k.bits x
  let b := BitVec.ofInt k.bits y
  match op with
  | .and => k.wrap (a &&& b).toNat
  | .or => k.wrap (a ||| b).toNat
  | .xor => k.wrap (a ^^^ b).toNat
  | _ => k.wrap (a &&& ~~~b).toNat

def vbinI (op : BinOp) (k : IntKind) (a b : Int) : Option (Prop × V) :=
  match op with
  | .add => some (True, .int k (k.wrap (a + b)))
  | .sub => some (True, .int k (k.wrap (a - b)))
  | .mul => some (True, .int k (k.wrap (a * b)))
  | .quo => some (b ≠ 0, .int k (k.wrap (a.tdiv b)))
  | .rem => some (b ≠ 0, .int k (a.tmod b))
  | .and => some (True, .int k (ibits .and k a b))
  | .or => some (True, .int k (ibits .or k a b))
  | .xor => some (True, .int k (ibits .xor k a b))
  | .andNot => some (True, .int k (ibits .andNot k a b))
  | .eql => some (True, .bool (a == b))
  | .neq => some (True, .bool (a != b))
  | .lss => some (True, .bool (decide (a < b)))
  | .leq => some (True, .bool (decide (a ≤ b)))
  | .gtr => some (True, .bool (decide (a > b)))
  | .geq => some (True, .bool (decide (a ≥ b)))
  | _ => none

def vbinS (op : BinOp) (a b : ByteArray) : Option (Prop × V) :=
  match op with
  | .add => some (a.size + b.size ≤ 9223372036854775807, .str (a ++ b))
  | .eql => some (True, .bool (a.toList == b.toList))
  | .neq => some (True, .bool (!(a.toList == b.toList)))
  | .lss => some (True, .bool (Op.bytesLess a.toList b.toList))
  | .leq => some (True, .bool (Op.bytesLess a.toList b.toList || a.toList == b.toList))
  | .gtr => some (True, .bool (!(Op.bytesLess a.toList b.toList || a.toList == b.toList)))
  | .geq => some (True, .bool (!Op.bytesLess a.toList b.toList))
  | _ => none

/-- Is a pointer surely none, or surely one? What must hold for that. -/
def vnil (ob : List Ob) : V → Option (Prop × Bool)
  | .nilp => some (True, true)
  | .fp _ => some (True, false)
  | .ptr id tot _ => match ob[id]? with
    | some (.live cs) | some (.frz cs) => some (cs.length = tot, false)
    | _ => none
  | _ => none

def vbin (T : Nat → Option TI) (ob : List Ob) (op : BinOp) (t : Nat) (x y : V) : Option (Prop × V) :=
  match op, x, y with
  | .shl, .int k a, .int _ b => some (0 ≤ b, .int k (k.wrap (a * 2 ^ (min b.toNat k.bits))))
  | .shr, .int k a, .int _ b => some (0 ≤ b, .int k (a.fdiv (2 ^ (min b.toNat k.bits))))
  | op, .int k a, .int k' b => if k = k' then vbinI op k a b else none
  | op, .str a, .str b => vbinS op a b
  | .eql, .bool a, .bool b => match T t with
    | some ⟨.bool, _, _, _⟩ => some (True, .bool (a == b))
    | _ => none
  | .neq, .bool a, .bool b => match T t with
    | some ⟨.bool, _, _, _⟩ => some (True, .bool (!(a == b)))
    | _ => none
  | .eql, x, .nilp => match T t, vnil ob x with
    | some ⟨.ptr _, _, _, _⟩, some (p, b) => some (p, .bool b)
    | _, _ => none
  | .neq, x, .nilp => match T t, vnil ob x with
    | some ⟨.ptr _, _, _, _⟩, some (p, b) => some (p, .bool (!b))
    | _, _ => none
  | _, _, _ => none

section
variable {P : Program} {w : World}

theorem vbinI_run {op : BinOp} {k : IntKind} {a b : Int} {p : Prop} {y : V} (h : vbinI op k a b = some (p, y)) (hp : p) (t : Nat) :
    ∃ v, (binOp op t (.int k a) (.int k b)).run P w = .ok v w ∧ ∀ E, VRep E y v := by
  cases op <;> simp only [vbinI, Option.some.injEq, Prod.mk.injEq, reduceCtorEq] at h <;> obtain ⟨rfl, rfl⟩ := h <;>
    simp [binOp, Op.intArith, Op.intDiv, Op.intBits, Op.intCmp, VRep, ibits, hp]

theorem vbinS_run {op : BinOp} {a b : ByteArray} {p : Prop} {y : V} (h : vbinS op a b = some (p, y)) (hp : p) (t : Nat) :
    ∃ v, (binOp op t (.string a) (.string b)).run P w = .ok v w ∧ ∀ E, VRep E y v := by
  have hmx : IntKind.i64.max = 9223372036854775807 := by decide
  cases op <;> simp only [vbinS, Option.some.injEq, Prod.mk.injEq, reduceCtorEq] at h <;> obtain ⟨rfl, rfl⟩ := h <;>
    first
    | (have hn : ¬ (((a.size + b.size : Nat) : Int) > IntKind.i64.max) := by (rw [hmx]; omega)
       simp only [binOp, Op.stringOp, if_neg hn]
       simp [VRep])
    | simp [binOp, Op.stringOp, VRep]

theorem vnil_sound {Φ H ob} {x : V} {v : Value} (hx : VRep (mkE Φ H ob w) x v) {p : Prop} {b : Bool} (h : vnil ob x = some (p, b)) (hp : p) :
    (b = true ∧ v = .pointer none) ∨ (b = false ∧ ∃ ad, v = .pointer (some ad)) := by
  cases x <;> simp only [vnil] at h <;> (try (simp at h; done))
  · simp only [Option.some.injEq, Prod.mk.injEq] at h
    simp only [VRep] at hx
    exact .inl ⟨h.2.symm, hx⟩
  · simp only [Option.some.injEq, Prod.mk.injEq] at h
    obtain ⟨b, o, us, h1, _⟩ := hx
    exact .inr ⟨h.2.symm, _, h1⟩
  · rename_i id tot off
    obtain ⟨h0, h1, h2⟩ := hx
    split at h
    all_goals simp only [Option.some.injEq, Prod.mk.injEq, reduceCtorEq] at h
    all_goals
      rename_i cs ho
      obtain ⟨rfl, rfl⟩ := h
      obtain ⟨_, hh⟩ := h2 cs.length (by simp [mkE, Lof, ho, Ob.len])
      obtain ⟨b, hb, hv⟩ := hh hp.symm
      exact .inr ⟨rfl, _, hv⟩

theorem run_equalIn_ptr_nil (d : Nat) (t el : TypeId) (a : Option Addr) (h : P.underlying t = some (.pointer el)) : (Op.equalIn (d + 1) t (.pointer a) (.pointer none)).run P w = .ok a.isNone w := by
  cases a <;> simp [Op.equalIn, run_underlying h]
theorem run_eql_ptr_nil (t el : TypeId) (a : Option Addr) (h : P.underlying t = some (.pointer el)) : (binOp .eql t (.pointer a) (.pointer none)).run P w = .ok (.bool a.isNone) w := by
  have : (Op.equal t (.pointer a) (.pointer none)).run P w = .ok a.isNone w := run_equalIn_ptr_nil 9999 t el a h
  simp only [binOp]
  simp [this]
theorem run_neq_ptr_nil (t el : TypeId) (a : Option Addr) (h : P.underlying t = some (.pointer el)) : (binOp .neq t (.pointer a) (.pointer none)).run P w = .ok (.bool (!a.isNone)) w := by
  have : (Op.equal t (.pointer a) (.pointer none)).run P w = .ok a.isNone w := run_equalIn_ptr_nil 9999 t el a h
  simp only [binOp]
  simp [this]

theorem vbin_run {T : Nat → Option TI} (hT : TabOK P T) {Φ H ob} {op : BinOp} {t : Nat} {x y z : V} {u v : Value} {p : Prop} (h : vbin T ob op t x y = some (p, z)) (hp : p)
    (hx : VRep (mkE Φ H ob w) x u) (hy : VRep (mkE Φ H ob w) y v) (ox oy : Operand) :
    ∃ r, (do eqGuard op t ox oy u v; binOp op t u v : Sem Value).run P w = .ok r w ∧ VRep (mkE Φ H ob w) z r := by
  have key : ∀ (p : Prop) (z : V) (q : (eqGuard op t ox oy u v).run P w = .ok () w), (∃ r, (binOp op t u v).run P w = .ok r w ∧ VRep (mkE Φ H ob w) z r) →
      ∃ r, (do eqGuard op t ox oy u v; binOp op t u v : Sem Value).run P w = .ok r w ∧ VRep (mkE Φ H ob w) z r := by
    rintro p z q ⟨r, h1, h2⟩
    exact ⟨r, by simp [q, h1], h2⟩
  unfold vbin at h
  split at h
  · simp only [VRep] at hx hy; subst hx hy
    simp only [Option.some.injEq, Prod.mk.injEq] at h; obtain ⟨rfl, rfl⟩ := h
    refine key True _ (by simp [eqGuard]) ⟨_, ?_, rfl⟩
    simp [binOp, Op.shift, Int.not_lt.2 hp]
  · simp only [VRep] at hx hy; subst hx hy
    simp only [Option.some.injEq, Prod.mk.injEq] at h; obtain ⟨rfl, rfl⟩ := h
    refine key True _ (by simp [eqGuard]) ⟨_, ?_, rfl⟩
    simp [binOp, Op.shift, Int.not_lt.2 hp]
  · simp only [VRep] at hx hy; subst hx hy
    split at h
    · rename_i hk; subst hk
      obtain ⟨r, h1, h2⟩ := vbinI_run (P := P) (w := w) h hp t
      exact key True _ (by unfold eqGuard; split <;> simp) ⟨r, h1, h2 _⟩
    · cases h
  · simp only [VRep] at hx hy; subst hx hy
    obtain ⟨r, h1, h2⟩ := vbinS_run (P := P) (w := w) h hp t
    exact key True _ (by unfold eqGuard; split <;> simp) ⟨r, h1, h2 _⟩
  · simp only [VRep] at hx hy; subst hx hy
    split at h
    · rename_i e
      simp only [Option.some.injEq, Prod.mk.injEq] at h; obtain ⟨rfl, rfl⟩ := h
      obtain ⟨info, d, zz, e1, e2, e3, _⟩ := hT t _ e
      have hd : d = .bool := by cases d <;> simp_all [kindOf]
      subst hd
      exact key True _ (by simp [eqGuard]) ⟨_, run_eql_bool w t _ _ e2, rfl⟩
    · cases h
  · simp only [VRep] at hx hy; subst hx hy
    split at h
    · rename_i e
      simp only [Option.some.injEq, Prod.mk.injEq] at h; obtain ⟨rfl, rfl⟩ := h
      obtain ⟨info, d, zz, e1, e2, e3, _⟩ := hT t _ e
      have hd : d = .bool := by cases d <;> simp_all [kindOf]
      subst hd
      exact key True _ (by simp [eqGuard]) ⟨_, run_neq_bool w t _ _ e2, rfl⟩
    · cases h
  · simp only [VRep] at hy; subst hy
    split at h
    · rename_i e1' e2'
      simp only [Option.some.injEq, Prod.mk.injEq] at h; obtain ⟨rfl, rfl⟩ := h
      obtain ⟨info, d, zz, e1, e2, e3, _⟩ := hT t _ e1'
      obtain ⟨el, hd⟩ : ∃ el, d = .pointer el := by cases d <;> simp_all [kindOf]
      subst hd
      rcases vnil_sound hx e2' hp with ⟨rfl, rfl⟩ | ⟨rfl, ad, rfl⟩
      · exact key True _ (by simp [eqGuard]) ⟨_, run_eql_ptr_nil t _ _ e2, rfl⟩
      · exact key True _ (by simp [eqGuard]) ⟨_, run_eql_ptr_nil t _ _ e2, rfl⟩
    · cases h
  · simp only [VRep] at hy; subst hy
    split at h
    · rename_i e1' e2'
      simp only [Option.some.injEq, Prod.mk.injEq] at h; obtain ⟨rfl, rfl⟩ := h
      obtain ⟨info, d, zz, e1, e2, e3, _⟩ := hT t _ e1'
      obtain ⟨el, hd⟩ : ∃ el, d = .pointer el := by cases d <;> simp_all [kindOf]
      subst hd
      rcases vnil_sound hx e2' hp with ⟨rfl, rfl⟩ | ⟨rfl, ad, rfl⟩
      · exact key True _ (by simp [eqGuard]) ⟨_, run_neq_ptr_nil t _ _ e2, rfl⟩
      · exact key True _ (by simp [eqGuard]) ⟨_, run_neq_ptr_nil t _ _ e2, rfl⟩
    · cases h
  · cases h
end
end Go.VX
