/- Structs compared. -/
import Derived.Test.YthjpaongoflgiaaVXOp3
import Derived.Laws.StructEq
import Derived.MapKept
namespace Go.VX
open Go.RowKit
set_option linter.unusedVariables false
set_option linter.unusedSimpArgs false

def veqFs (T : Nat → Option TI) (E : Nat → V → V → Option (Prop × Bool)) : List (Nat × Nat) → List V → List V → Option (Prop × Bool)
  | [], _, _ => some (True, true)
  | f :: fs, xs, ys => match vpart T f.2 xs f.1, vpart T f.2 ys f.1 with
    | some (p1, a), some (p2, b) => match E f.2 a b, veqFs T E fs xs ys with
      | some (p3, q), some (p4, r) => some (p1 ∧ p2 ∧ p3 ∧ p4, q && r)
      | _, _ => none
    | _, _ => none
def veqV (T : Nat → Option TI) : Nat → Nat → V → V → Option (Prop × Bool)
  | 0, _, _, _ => none
  | d + 1, t, x, y => match T t with
    | some ⟨.int _, _, _, _⟩ => match x, y with
      | .int k a, .int k' b => if k = k' then some (True, a == b) else none
      | _, _ => none
    | some ⟨.bool, _, _, _⟩ => match x, y with
      | .bool a, .bool b => some (True, a == b)
      | _, _ => none
    | some ⟨.string, _, _, _⟩ => match x, y with
      | .str a, .str b => some (True, decide (a = b))
      | _, _ => none
    | some ⟨.struct fs, _, _, _⟩ => match x, y with
      | .agg xs, .agg ys => veqFs T (veqV T d) fs xs ys
      | _, _ => none
    | _ => none
/-- .. with structs. -/
def vbinE (T : Nat → Option TI) (ob : List Ob) (op : BinOp) (t : Nat) (x y : V) : Option (Prop × V) :=
  match op, x, y with
  | .eql, .agg xs, .agg ys => match veqV T 4 t (.agg xs) (.agg ys) with
    | some (p, q) => some (p, .bool q)
    | none => none
  | .neq, .agg xs, .agg ys => match veqV T 4 t (.agg xs) (.agg ys) with
    | some (p, q) => some (p, .bool (!q))
    | none => none
  | op, x, y => vbin T ob op t x y

section
variable {P : Program} {T : Nat → Option TI} {w : World} {Φ : Nat → Prop} {H : Nat → Option Nat} {ob : List Ob}

theorem kindOf_bool {d : TypeDesc} (h : kindOf d = .bool) : d = .bool := by
  cases d <;> simp_all [kindOf]

theorem veqFs_sound (hT : TabOK P T) {d : Nat} (ih : ∀ (t : Nat) (x y : V) (u v : Value) {p : Prop} {q : Bool}, veqV T d t x y = some (p, q) → p → VRep (mkE Φ H ob w) x u → VRep (mkE Φ H ob w) y v → ∀ n, d ≤ n → (Op.equalIn n t u v).run P w = .ok q w) : ∀ (F : List Field) (xs ys : List V) (a b : Array Value) {p : Prop} {q : Bool}, veqFs T (veqV T d) (F.map fun f => (f.offset, f.type)) xs ys = some (p, q) → p → VReps .cell (mkE Φ H ob w) xs a.toList → VReps .cell (mkE Φ H ob w) ys b.toList →
    (∀ f ∈ F, f.name ≠ "_") → ∀ n, d ≤ n → (Op.eqFields n a b F).run P w = .ok q w
  | [], xs, ys, a, b, p, q, h, hp, ha, hb, hf, n, hn => by
    simp only [List.map_nil, veqFs, Option.some.injEq, Prod.mk.injEq] at h
    obtain ⟨_, rfl⟩ := h
    simp [Op.eqFields]
  | f :: F, xs, ys, a, b, p, q, h, hp, ha, hb, hf, n, hn => by
    simp only [List.map_cons, veqFs] at h
    split at h
    case h_2 => cases h
    rename_i p1 x p2 y h1 h2
    split at h
    case h_2 => cases h
    rename_i p3 q3 p4 q4 h3 h4
    simp only [Option.some.injEq, Prod.mk.injEq] at h
    obtain ⟨rfl, rfl⟩ := h
    obtain ⟨hp1, hp2, hp3, hp4⟩ := hp
    obtain ⟨u, g1, g2⟩ := vpart_sound (P := P) hT ha h1 hp1
    obtain ⟨v, g3, g4⟩ := vpart_sound (P := P) hT hb h2 hp2
    have g5 := ih f.type x y u v h3 hp3 g2 g4 n hn
    have g6 := veqFs_sound hT ih F xs ys a b h4 hp4 ha hb (fun g hg => hf g (List.mem_cons_of_mem _ hg)) n hn
    have hne := hf f (by simp)
    cases q3
    · simp [Op.eqFields, hne, g1, g3, g5]
    · simp [Op.eqFields, hne, g1, g3, g5, g6]
theorem veqV_sound (hT : TabOK P T) : ∀ (d t : Nat) (x y : V) (u v : Value) {p : Prop} {q : Bool}, veqV T d t x y = some (p, q) → p → VRep (mkE Φ H ob w) x u → VRep (mkE Φ H ob w) y v → ∀ n, d ≤ n → (Op.equalIn n t u v).run P w = .ok q w
  | 0, _, _, _, _, _, _, _, h, _, _, _, _, _ => by simp [veqV] at h
  | d + 1, t, x, y, u, v, p, q, h, hp, hx, hy, 0, hn => by omega
  | d + 1, t, x, y, u, v, p, q, h, hp, hx, hy, n + 1, hn => by
    simp only [veqV] at h
    split at h
    · rename_i k _ _ _ ht
      obtain ⟨info, dd, z, e1, e2, e3, _⟩ := hT t _ ht
      obtain rfl := kindOf_int e3
      split at h
      case h_2 => cases h
      split at h
      case isFalse => cases h
      rename_i hk
      subst hk
      simp only [Option.some.injEq, Prod.mk.injEq] at h
      obtain ⟨_, rfl⟩ := h
      simp only [VRep] at hx hy
      subst hx; subst hy
      exact run_equalIn_int w n t _ _ _ _ e2
    · rename_i _ _ _ ht
      obtain ⟨info, dd, z, e1, e2, e3, _⟩ := hT t _ ht
      obtain rfl := kindOf_bool e3
      split at h
      case h_2 => cases h
      simp only [Option.some.injEq, Prod.mk.injEq] at h
      obtain ⟨_, rfl⟩ := h
      simp only [VRep] at hx hy
      subst hx; subst hy
      exact run_equalIn_bool' w n t _ _ e2
    · rename_i _ _ _ ht
      obtain ⟨info, dd, z, e1, e2, e3, _⟩ := hT t _ ht
      obtain rfl := kindOf_string e3
      split at h
      case h_2 => cases h
      simp only [Option.some.injEq, Prod.mk.injEq] at h
      obtain ⟨_, rfl⟩ := h
      simp only [VRep] at hx hy
      subst hx; subst hy
      rw [run_equalIn_string w n t _ _ e2, ← beq_toListBytes]
      congr 1
      rw [Bool.eq_iff_iff, decide_eq_true_iff]
      exact MapKept.bytes_beq _ _
    · rename_i fs _ _ _ ht
      have hq := hT.eqs t _ _ _ _ ht
      obtain ⟨info, dd, z, e1, e2, e3, _⟩ := hT t _ ht
      obtain ⟨F, rfl, rfl⟩ := kindOf_struct e3
      split at h
      case h_2 => cases h
      rename_i xs ys
      obtain ⟨a, rfl, ha⟩ := hx
      obtain ⟨b, rfl, hb⟩ := hy
      have hF : P.fieldsOf t = F := by unfold Program.fieldsOf; rw [e2]
      unfold eqOK at hq
      simp only [e2, Bool.and_eq_true, Bool.not_eq_true', List.all_eq_true, decide_eq_true_eq] at hq
      rw [run_equalIn_struct w n t a b (by rw [hF]; exact e2) hq.1, hF]
      exact veqFs_sound hT (fun t x y u v {p q} h hp hx hy n hn => veqV_sound hT d t x y u v h hp hx hy n hn) F.toList xs ys a b h hp ha hb hq.2.2 n (by omega)
    · cases h
theorem vbinE_run (hT : TabOK P T) {op : BinOp} {t : Nat} {x y z : V} {u v : Value} {p : Prop} (h : vbinE T ob op t x y = some (p, z)) (hp : p)
    (hx : VRep (mkE Φ H ob w) x u) (hy : VRep (mkE Φ H ob w) y v) (ox oy : Operand) :
    ∃ r, (do eqGuard op t ox oy u v; binOp op t u v : Sem Value).run P w = .ok r w ∧ VRep (mkE Φ H ob w) z r := by
  have agg : ∀ (xs ys : List V) (q : Bool), veqV T 4 t (.agg xs) (.agg ys) = some (p, q) → VRep (mkE Φ H ob w) (.agg xs) u → VRep (mkE Φ H ob w) (.agg ys) v →
      ∃ a b : Array Value, u = .agg a ∧ v = .agg b ∧ (Op.equalIn 10000 t (.agg a) (.agg b)).run P w = .ok q w ∧ P.eqGuardType P.depth t = false := by
    intro xs ys q hv h1 h2
    have h1' := h1
    have h2' := h2
    obtain ⟨a, rfl, _⟩ := h1
    obtain ⟨b, rfl, _⟩ := h2
    refine ⟨a, b, rfl, rfl, veqV_sound hT 4 t _ _ _ _ hv hp h1' h2' 10000 (by omega), ?_⟩
    simp only [veqV] at hv
    split at hv
    · cases hv
    · cases hv
    · cases hv
    · rename_i fs _ _ _ ht
      have hq := hT.eqs t _ _ _ _ ht
      unfold eqOK at hq
      simp only [Bool.and_eq_true, Bool.not_eq_true'] at hq
      exact hq.2.1
    · cases hv
  unfold vbinE at h
  split at h
  · split at h
    case h_2 => cases h
    rename_i p' q hv
    simp only [Option.some.injEq, Prod.mk.injEq] at h
    obtain ⟨rfl, rfl⟩ := h
    obtain ⟨a, b, rfl, rfl, h1, h2⟩ := agg _ _ _ hv hx hy
    exact ⟨.bool q, by simp [run_eqGuard_agg w _ t ox oy a b h2, run_eql_struct, h1], rfl⟩
  · split at h
    case h_2 => cases h
    rename_i p' q hv
    simp only [Option.some.injEq, Prod.mk.injEq] at h
    obtain ⟨rfl, rfl⟩ := h
    obtain ⟨a, b, rfl, rfl, h1, h2⟩ := agg _ _ _ hv hx hy
    exact ⟨.bool (!q), by simp [run_eqGuard_agg w _ t ox oy a b h2, run_neq_struct, h1], rfl⟩
  · exact vbin_run hT h hp hx hy ox oy
end
end Go.VX
