/- Operations that leave memory alone; guarded ones, all at once. -/
import Derived.Test.YthjpaongoflgiaaVXVop
import Derived.StillTail
namespace Go.VX
open Go.RowKit
set_option linter.unusedVariables false
set_option linter.unusedSimpArgs false
set_option linter.unusedSectionVars false

def quietOp : Op → Bool
  | .move _ | .assign _ | .pick .. | .build .. | .load .. | .nilCheck _ | .binOp .. | .unOp .. | .fieldAddr .. | .field .. | .indexAddr .. | .index .. | .extract .. | .slice .. | .makeFunc .. => true
  | .call ⟨.builtin .len, _, _⟩ | .call ⟨.builtin .min, _, _⟩ | .call ⟨.builtin .max, _, _⟩ => true
  | _ => false

/-- .. a conversion too, but one that makes bytes of a text. -/
def quietR : Op → V → Bool
  | .convert .., .fs _ _ => false
  | .convert .., .sl _ _ _ _ _ => false
  | .convert .., _ => true
  | op, _ => quietOp op

section
variable {P : Program} {T : Nat → Option TI} {C : Ctx} {Φ : Nat → Prop} {H : Nat → Option Nat} {sl : List (Nat × V)} {ob : List Ob} {a : Act} {w : World}

theorem mkq {o : Oper} {x : V} {v : Value} (hr : (execOp a.eval o).run P w = .ok (.value v) w) (hx : VRep (mkE Φ H ob w) x v) : ob = ob ∧ ∃ v, (execOp a.eval o).run P w = .ok (.value v) w ∧ VRep (mkE Φ H ob w) x v := ⟨rfl, v, hr, hx⟩

theorem vop_quiet (hT : TabOK P T) (s : SimE C Φ H ⟨sl, ob⟩ a w) {o : Oper} {p : Prop} {x : V} {ob' : List Ob} (hq : quietR o.op x = true) (h : vop T sl ob o.op = some (p, x, ob')) (hp : p) :
    ob' = ob ∧ ∃ v, (execOp a.eval o).run P w = .ok (.value v) w ∧ VRep (mkE Φ H ob w) x v := by
  have hs : HSim Φ H ob w := s.hs.sim
  obtain ⟨dst, op, ty, pos, aft, gd⟩ := o
  dsimp only at h
  cases op with
  | move y => simp only [vop, Option.some.injEq, Prod.mk.injEq] at h; obtain ⟨rfl, rfl, rfl⟩ := h; exact mkq rfl (s.eval y)
  | assign y => simp only [vop, Option.some.injEq, Prod.mk.injEq] at h; obtain ⟨rfl, rfl, rfl⟩ := h; exact mkq rfl (s.eval y)
  | pick c y z =>
    simp only [vop] at h
    split at h
    case h_2 => cases h
    rename_i b hc
    simp only [Option.some.injEq, Prod.mk.injEq] at h; obtain ⟨rfl, rfl, rfl⟩ := h
    have hb := s.eval c
    simp only [hc, VRep] at hb
    refine mkq (v := if b = true then a.eval y else a.eval z) (by simp [execOp, hb, asBool]) ?_
    unfold vpick
    split
    · exact s.eval y
    · exact s.eval z
  | alloc t => simp [quietR, quietOp] at hq
  | box t y => simp [quietR, quietOp] at hq
  | build t parts =>
    simp only [vop] at h
    split at h
    case h_2 => cases h
    rename_i p' y hb
    simp only [Option.some.injEq, Prod.mk.injEq] at h; obtain ⟨rfl, rfl, rfl⟩ := h
    obtain ⟨u, h1, h2⟩ := build_sound (P := P) hT (vals := parts.map fun (i, x) => (i, a.eval x)) (by simp) (by simpa [Function.comp_def] using evals_rep s parts.toList) hb hp
    exact mkq (by simp [execOp, h1]) h2
  | buildSlice t n parts => simp [quietR, quietOp] at hq
  | load t y =>
    simp only [vop] at h
    split at h
    case h_2 => cases h
    rename_i i p' cs off ht hr
    have hx := s.eval y
    split at h
    · rename_i ha
      simp only [Option.some.injEq, Prod.mk.injEq] at h; obtain ⟨rfl, rfl, rfl⟩ := h
      obtain ⟨u, h1, h2⟩ := (load_sound hT hs ht hx hr hp.1).1 ha hp.2
      exact mkq (by simp [execOp, h1]) h2
    · rename_i ha
      simp only [Option.some.injEq, Prod.mk.injEq] at h; obtain ⟨rfl, rfl, rfl⟩ := h
      obtain ⟨u, h1, h2, _⟩ := (load_sound hT hs ht hx hr hp.1).2 (by simpa using ha) (cs.getD off .junk) (by rw [List.getD_eq_getElem?_getD, List.getElem?_eq_getElem hp.2]; rfl)
      exact mkq (by simp [execOp, h1]) h2
  | store t y z => simp [quietR, quietOp] at hq
  | nilCheck y =>
    simp only [vop] at h
    have hx := s.eval y
    split at h
    · rename_i f cs hf
      simp only [Option.some.injEq, Prod.mk.injEq] at h; obtain ⟨rfl, rfl, rfl⟩ := h
      have hx' := hx
      rw [hf] at hx'
      obtain ⟨arr, e0, e1, e2⟩ := hx'
      exact mkq (v := .func (.func f) #[] arr) (by simp [execOp, e1]) ⟨arr, e0, rfl, e2⟩
    · split at h
      case h_2 => cases h
      rename_i p' hn
      simp only [Option.some.injEq, Prod.mk.injEq] at h; obtain ⟨rfl, rfl, rfl⟩ := h
      rcases vnil_sound hx hn hp with ⟨q, _⟩ | ⟨_, ad, e⟩
      · cases q
      · exact mkq (v := a.eval y) (by simp [execOp, e]) hx
  | binOp op t y z t2 =>
    simp only [vop] at h
    split at h
    case h_2 => cases h
    rename_i p' r hb
    simp only [Option.some.injEq, Prod.mk.injEq] at h; obtain ⟨rfl, rfl, rfl⟩ := h
    obtain ⟨r, h1, h2⟩ := vbinE_run (P := P) hT hb hp (s.eval y) (s.eval z) y z
    refine mkq (v := r) ?_ h2
    simp only [execOp, Sem.run_bind] at h1 ⊢
    simp [h1]
  | unOp op t y =>
    simp only [vop] at h
    split at h
    case h_2 => cases h
    rename_i r hb
    simp only [Option.some.injEq, Prod.mk.injEq] at h; obtain ⟨rfl, rfl, rfl⟩ := h
    obtain ⟨r, h1, h2⟩ := vun_run (P := P) hb (s.eval y)
    exact mkq (by simp [execOp, h1]) h2
  | convert src dst' y =>
    simp only [vop] at h
    split at h
    · rename_i hmk
      simp only [Option.some.injEq] at h
      subst h
      exfalso
      unfold vmark at hmk
      split at hmk
      case isFalse => cases hmk
      split at hmk
      case h_2 => cases hmk
      split at hmk
      case h_2 => cases hmk
      simp only [Option.some.injEq, Prod.mk.injEq] at hmk
      obtain ⟨_, rfl, _⟩ := hmk
      simp [quietR] at hq
    split at h
    case h_2 => cases h
    rename_i p' r hb
    simp only [Option.some.injEq, Prod.mk.injEq] at h; obtain ⟨rfl, rfl, rfl⟩ := h
    have hx := s.eval y
    unfold vconv at hb
    split at hb
    case h_2 => cases hb
    rename_i i j hi hj
    obtain ⟨info, d, z, e1, e2, e3, _⟩ := hT dst' _ hj
    obtain ⟨info', d', z', f1, f2, f3, _⟩ := hT src _ hi
    split at hb
    · rename_i k k0 n hjk hey
      simp only [Option.some.injEq, Prod.mk.injEq] at hb; obtain ⟨rfl, rfl⟩ := hb
      obtain rfl := kindOf_int (e3.trans hjk)
      rw [hey] at hx
      simp only [VRep] at hx
      refine mkq (v := .int k (k.wrap n)) ?_ rfl
      simp [execOp, convert, run_underlying e2, run_underlying f2, hx, Conv.intToInt]
    · rename_i st hjk hey
      simp only [Option.some.injEq, Prod.mk.injEq] at hb; obtain ⟨rfl, rfl⟩ := hb
      obtain rfl := kindOf_string (e3.trans hjk)
      rw [hey] at hx
      simp only [VRep] at hx
      refine mkq (v := .string st) ?_ rfl
      simp [execOp, convert, run_underlying e2, run_underlying f2, hx]
    · rename_i e st hjk hey
      split at hb
      case h_2 => cases hb
      rename_i hik he
      simp only [Option.some.injEq, Prod.mk.injEq] at hb; obtain ⟨rfl, rfl⟩ := hb
      rw [hey] at hx
      simp only [VRep] at hx
      simp [quietR] at hq
    · rename_i hjk _
      split at hb
      case h_2 => cases hb
      rename_i e hik
      split at hb
      case h_2 => cases hb
      rename_i _ p'' n ys he hrd
      simp only [Option.some.injEq, Prod.mk.injEq] at hb; obtain ⟨rfl, rfl⟩ := hb
      obtain ⟨q1, q2, q3⟩ := hp
      have := str_sound (P := P) hT hs hi hik he rfl hj hjk hx hrd q1 q2 q3
      exact mkq (v := .string (strOfV ys)) (by simp [execOp, this]) rfl
    · cases hb
  | makeFunc fn first caps =>
    cases fn with
    | func f =>
      simp only [vop] at h
      split at h
      case isFalse => cases h
      rename_i hfe
      simp only [Option.some.injEq, Prod.mk.injEq] at h; obtain ⟨rfl, rfl, rfl⟩ := h
      simp only [Bool.and_eq_true] at hfe
      have hf0 : first = #[] := by simpa using hfe.1
      subst hf0
      refine mkq (v := .func (.func f) #[] (caps.map a.eval)) (by simp [execOp, Instr.makeFunc]) ⟨_, hfe.2, rfl, by simpa using evals_rep' s caps.toList⟩
    | _ => simp [vop] at h
  | makeSlice t l c => simp [quietR, quietOp] at hq
  | slice t y lo hi mx =>
    cases mx with
    | some m => simp [vop] at h
    | none =>
      simp only [vop] at h
      have key : ∀ (l h' : Option Int), (∀ o, lo = some o → ∃ k n, a.eval o = .int k n ∧ l = some n) → (lo = none → l = none) → (∀ o, hi = some o → ∃ k n, a.eval o = .int k n ∧ h' = some n) → (hi = none → h' = none) →
          ∀ {p' y'}, vslice T ob t (evV sl y) l h' = some (p', y') → p' → ∃ v, (execOp a.eval ⟨dst, .slice t y lo hi none, ty, pos, aft, gd⟩).run P w = .ok (.value v) w ∧ VRep (mkE Φ H ob w) y' v := by
        intro l h' hl1 hl2 hh1 hh2 p' y' hv hp'
        obtain ⟨kl, el⟩ : ∃ k, lo.map a.eval = l.map (Value.int k) := by
          cases lo with
          | none => exact ⟨.i64, by rw [hl2 rfl]; rfl⟩
          | some o => obtain ⟨k, n, q1, q2⟩ := hl1 o rfl; exact ⟨k, by rw [q2]; simp [q1]⟩
        obtain ⟨kh, eh⟩ : ∃ k, hi.map a.eval = h'.map (Value.int k) := by
          cases hi with
          | none => exact ⟨.i64, by rw [hh2 rfl]; rfl⟩
          | some o => obtain ⟨k, n, q1, q2⟩ := hh1 o rfl; exact ⟨k, by rw [q2]; simp [q1]⟩
        obtain ⟨u, h1, h2⟩ := vslice_sound (P := P) hT hs (s.eval y) (kl := kl) (kh := kh) hv hp'
        exact ⟨u, by simp [execOp, el, eh, h1], h2⟩
      have hint : ∀ o n, intOfV (evV sl o) = some n → ∃ k, a.eval o = .int k n := fun o n q => int_of_rep (s.eval o) q
      split at h
      · cases h
      · cases h
      · rename_i l0 h0 hn1 hn2
        split at h
        case h_2 => cases h
        rename_i p' y' hv
        simp only [Option.some.injEq, Prod.mk.injEq] at h; obtain ⟨rfl, rfl, rfl⟩ := h
        refine (fun q => ⟨rfl, q⟩) (key _ _  (fun o e => ?_) (fun e => by simp [e]) (fun o e => ?_) (fun e => by simp [e]) hv hp)
        · subst e
          cases q : intOfV (evV sl o) with
          | none => exact (hn1 (by simp [q])).elim
          | some n => obtain ⟨k, hk⟩ := hint o n q; exact ⟨k, n, hk, by simp [q]⟩
        · subst e
          cases q : intOfV (evV sl o) with
          | none => exact (hn2 (by simp [q])).elim
          | some n => obtain ⟨k, hk⟩ := hint o n q; exact ⟨k, n, hk, by simp [q]⟩
  | fieldAddr t y f =>
    simp only [vop] at h
    split at h
    case h_2 => cases h
    rename_i p' r hb
    simp only [Option.some.injEq, Prod.mk.injEq] at h; obtain ⟨rfl, rfl, rfl⟩ := h
    obtain ⟨u, h1, h2⟩ := vfieldAddr_sound (P := P) hT hs (s.eval y) hb hp
    exact mkq (by simp [execOp, h1]) h2
  | field t y f =>
    simp only [vop] at h
    split at h
    case h_2 => cases h
    rename_i fs _ _ _ cs ht hy
    split at h
    case h_2 => cases h
    rename_i o' ft hf
    split at h
    case h_2 => cases h
    rename_i p' r hb
    simp only [Option.some.injEq, Prod.mk.injEq] at h; obtain ⟨rfl, rfl, rfl⟩ := h
    have hx := s.eval y
    rw [hy] at hx
    obtain ⟨info, d, z, e1, e2, e3, _⟩ := hT t _ ht
    obtain ⟨arr', rfl, rfl⟩ := kindOf_struct e3
    obtain ⟨arr, e, hv⟩ := hx
    obtain ⟨u, h1, h2⟩ := vpartN_sound (P := P) hT hv hb hp
    simp only [List.getElem?_map, Option.map_eq_some_iff, Prod.mk.injEq] at hf
    obtain ⟨fld, hfl, rfl, rfl⟩ := hf
    have hfl' : arr'[f]? = some fld := by simpa using hfl
    exact mkq (by simp [execOp, Instr.field, run_underlying e2, hfl', e, asAgg, h1]) h2
  | indexAddr t y i =>
    simp only [vop] at h
    split at h
    case h_2 => cases h
    rename_i k n hi
    split at h
    case h_2 => cases h
    rename_i p' r hb
    simp only [Option.some.injEq, Prod.mk.injEq] at h; obtain ⟨rfl, rfl, rfl⟩ := h
    have hi' := s.eval i
    rw [hi] at hi'
    simp only [VRep] at hi'
    obtain ⟨u, h1, h2⟩ := vindexAddr_sound (P := P) hT hs (s.eval y) (k := k) hb hp
    exact mkq (by simp [execOp, hi', h1]) h2
  | index t y i =>
    simp only [vop] at h
    split at h
    case h_2 => cases h
    rename_i k n hi
    split at h
    case h_2 => cases h
    rename_i p' r hb
    simp only [Option.some.injEq, Prod.mk.injEq] at h; obtain ⟨rfl, rfl, rfl⟩ := h
    have hi' := s.eval i
    rw [hi] at hi'
    simp only [VRep] at hi'
    obtain ⟨u, h1, h2⟩ := vindex_sound (P := P) hT (s.eval y) (k := k) hb hp
    exact mkq (by simp [execOp, hi', h1]) h2
  | extract y i =>
    simp only [vop] at h
    split at h
    case h_2 => cases h
    rename_i cs hy
    split at h
    case h_2 => cases h
    rename_i r hb
    simp only [Option.some.injEq, Prod.mk.injEq] at h; obtain ⟨rfl, rfl, rfl⟩ := h
    have hx := s.eval y
    rw [hy] at hx
    obtain ⟨arr, _, e, hv⟩ := hx
    obtain ⟨u, hu, _, h2⟩ := hv.get i _ hb
    have hu' : arr[i]? = some u := by simpa using hu
    exact mkq (by simp [execOp, Instr.extract, e, hu']) h2
  | call c =>
    obtain ⟨callee, args, ts⟩ := c
    simp only [vop] at h
    split at h
    case h_2 => cases h
    rename_i b
    unfold vopCall at h
    split at h
    · rename_i y t e1 e2
      split at h
      case h_2 => cases h
      rename_i p' r hb
      simp only [Option.some.injEq, Prod.mk.injEq] at h; obtain ⟨rfl, rfl, rfl⟩ := h
      obtain rfl : args = #[y] := by apply Array.ext'; exact e1
      obtain rfl : ts = #[t] := by apply Array.ext'; exact e2
      obtain ⟨u, h1, h2⟩ := vlen_sound (P := P) hT hs (ty := ty) (s.eval y) hb hp
      exact mkq (by simp [execOp, resolve, invoke, builtin, h1]) h2
    · rename_i y z e1
      split at h
      case h_2 => cases h
      rename_i r hb
      simp only [Option.some.injEq, Prod.mk.injEq] at h; obtain ⟨rfl, rfl, rfl⟩ := h
      obtain rfl : args = #[y, z] := by apply Array.ext'; exact e1
      unfold vmin at hb
      split at hb
      case h_2 => cases hb
      rename_i k m k' n hy hz
      split at hb
      case isFalse => cases hb
      simp only [Option.some.injEq] at hb; subst hb
      have q1 := s.eval y; rw [hy] at q1
      have q2 := s.eval z; rw [hz] at q2
      simp only [VRep] at q1 q2
      refine mkq (v := .int k (if n < m then n else m)) ?_ rfl
      simp [execOp, resolve, invoke, builtin, q1, q2, run_min_int2]
    · rename_i y z e1
      split at h
      case h_2 => cases h
      rename_i r hb
      simp only [Option.some.injEq, Prod.mk.injEq] at h; obtain ⟨rfl, rfl, rfl⟩ := h
      obtain rfl : args = #[y, z] := by apply Array.ext'; exact e1
      unfold vmax at hb
      split at hb
      case h_2 => cases hb
      rename_i k m k' n hy hz
      split at hb
      case isFalse => cases hb
      simp only [Option.some.injEq] at hb; subst hb
      have q1 := s.eval y; rw [hy] at q1
      have q2 := s.eval z; rw [hz] at q2
      simp only [VRep] at q1 q2
      refine mkq (v := .int k (if n > m then n else m)) ?_ rfl
      simp [execOp, resolve, invoke, builtin, q1, q2, run_max_int2]
    · simp [quietR, quietOp] at hq
    · simp [quietR, quietOp] at hq
    · simp [quietR, quietOp] at hq
    · cases h
  | makeMap t r => simp [quietR, quietOp] at hq
  | lookup t y k ok => simp [quietR, quietOp] at hq
  | mapUpdate t m k y => simp [quietR, quietOp] at hq
  | range t y => simp [quietR, quietOp] at hq
  | entry y => simp [quietR, quietOp] at hq
  | _ => simp [vop] at h

end

def okd (nt : Sh) : Option Nat → Prop
  | some d => d < nt.nt
  | none => True

/-! ### Operations under a guard -/
section
variable {P : Program} {T : Nat → Option TI} {nt : Sh}

/-- What a run of operations that leave memory alone does to slots. -/
inductive Steps (P : Program) (ops : Array Oper) (w : World) : List Oper → Act → Act → Prop where
  | nil (a : Act) : Steps P ops w [] a a
  | run {o : Oper} {rest : List Oper} {a a' : Act} {v : Value} (h : Region.wanted o (yielded ops a.tmps) = true) (hr : (execOp a.eval o).run P w = .ok (.value v) w) (k : Steps P ops w rest (a.put o.dst v) a') : Steps P ops w (o :: rest) a a'
  | skip {o : Oper} {rest : List Oper} {a a' : Act} (h : Region.wanted o (yielded ops a.tmps) = false) (k : Steps P ops w rest (a.put o.dst undef) a') : Steps P ops w (o :: rest) a a'

theorem Steps.append {ops : Array Oper} {w : World} {l l' : List Oper} {a b c : Act} (h : Steps P ops w l a b) (k : Steps P ops w l' b c) : Steps P ops w (l ++ l') a c := by
  induction h with
  | nil a => exact k
  | run h hr _ ih => exact .run h hr (ih k)
  | skip h _ ih => exact .skip h (ih k)
theorem Steps.list {ops : Array Oper} {w : World} {Qx : Exit → Act → World → Prop} {l rest : List Oper} {a a' : Act} (h : Steps P ops w l a a') (k : wpList P ops Qx rest a' w) : wpList P ops Qx (l ++ rest) a w := by
  induction h with
  | nil a => exact k
  | run h hr _ ih =>
    simp only [List.cons_append, wpList, h, if_true]
    refine .inl ?_
    unfold Oper.wp
    rw [hr]
    exact ih k
  | skip h _ ih =>
    simp only [List.cons_append, wpList, h, Bool.false_eq_true, if_false]
    exact ih k
theorem Steps.still {ops : Array Oper} {w : World} {Q : Act → Prop} {l rest : List Oper} {a a' : Act} (h : Steps P ops w l a a') (k : wpStill P ops w Q rest a') : wpStill P ops w Q (l ++ rest) a := by
  induction h with
  | nil a => exact k
  | run h hr _ ih =>
    simp only [List.cons_append, wpStill, h, if_true]
    unfold Oper.still
    rw [hr]
    exact ⟨rfl, ih k⟩
  | skip h _ ih =>
    simp only [List.cons_append, wpStill, h, Bool.false_eq_true, if_false]
    exact ih k

def dsts (l : List Oper) : List Nat := l.filterMap (·.dst)

theorem put_other {a : Act} {d : Option Nat} {v : Value} {t : Nat} (h : d ≠ some t) : (a.put d v).tmps.getD t undef = a.tmps.getD t undef := by
  cases d with
  | none => rfl
  | some d =>
    have : d ≠ t := fun e => h (by rw [e])
    simp only [Act.put, Array.getD_eq_getD_getElem?, Array.getElem?_setIfInBounds_ne this]
theorem Steps.other {ops : Array Oper} {w : World} {l : List Oper} {a a' : Act} (h : Steps P ops w l a a') : a'.defers = a.defers ∧ a'.tmps.size = a.tmps.size ∧ ∀ t, t ∉ dsts l → a'.tmps.getD t undef = a.tmps.getD t undef := by
  have key : ∀ (o : Oper) (rest : List Oper) (t : Nat), t ∉ dsts (o :: rest) → o.dst ≠ some t ∧ t ∉ dsts rest := by
    intro o rest t ht
    simp only [dsts, List.filterMap_cons] at ht ⊢
    cases hd : o.dst with
    | none => simp only [hd] at ht; exact ⟨by simp, ht⟩
    | some d => simp only [hd, List.mem_cons, not_or] at ht; exact ⟨fun e => ht.1 (Option.some.inj e).symm, ht.2⟩
  have pd : ∀ (a : Act) (d : Option Nat) (v : Value), (a.put d v).defers = a.defers ∧ (a.put d v).tmps.size = a.tmps.size := by
    intro a d v; cases d <;> simp [Act.put]
  induction h with
  | nil a => exact ⟨rfl, rfl, fun _ _ => rfl⟩
  | run h hr _ ih =>
    obtain ⟨i1, i2, i3⟩ := ih
    exact ⟨i1.trans (pd _ _ _).1, i2.trans (pd _ _ _).2, fun t ht => (i3 t (key _ _ t ht).2).trans (put_other (key _ _ t ht).1)⟩
  | skip h _ ih =>
    obtain ⟨i1, i2, i3⟩ := ih
    exact ⟨i1.trans (pd _ _ _).1, i2.trans (pd _ _ _).2, fun t ht => (i3 t (key _ _ t ht).2).trans (put_other (key _ _ t ht).1)⟩

def gslot (ops : List Oper) (g : Nat × Bool) : Option (Nat × Bool) :=
  match (ops[g.1]?).bind (·.dst) with
  | some d => some (d, g.2)
  | none => none

/-- How many operations are passed over, where none of these guards is met. -/
def skips (ops : List Oper) : List (Nat × Bool) → List Oper → Nat
  | _, [] => 0
  | D, o :: rest => match o.guard with
    | none => 0
    | some g => match gslot ops g with
      | some s => if s ∈ D then match o.dst with
          | some d => skips ops ((d, true) :: (d, false) :: D) rest + 1
          | none => 0
        else 0
      | none => 0

theorem not_wanted {ops : List Oper} {o : Oper} {g s : Nat × Bool} {a : Act} (hg : o.guard = some g) (hs : gslot ops g = some s) (hn : a.tmps[s.1]? ≠ some (.bool s.2)) : Region.wanted o (yielded ops.toArray a.tmps) = false := by
  obtain ⟨j, want⟩ := g
  unfold gslot at hs
  split at hs
  case h_2 => cases hs
  rename_i d hd
  simp only [Option.some.injEq] at hs; subst hs
  simp only [Region.wanted, hg]
  have hd' : (ops.toArray[j]?).bind (·.dst) = some d := by simpa using hd
  cases hy : yielded ops.toArray a.tmps j with
  | none => rfl
  | some b =>
    unfold yielded at hy
    rw [hd', Option.bind_some] at hy
    split at hy
    · rename_i b' hb'
      simp only [Option.some.injEq] at hy; subst hy
      simp only [beq_eq_false_iff_ne, ne_eq, Option.some.injEq]
      intro e; subst e
      exact hn hb'
    · cases hy

theorem skips_run {w : World} {ops : List Oper} : ∀ (l : List Oper) (D : List (Nat × Bool)) (a : Act), (∀ s ∈ D, a.tmps[s.1]? ≠ some (.bool s.2)) → ∃ a', Steps P ops.toArray w (l.take (skips ops D l)) a a'
  | [], D, a, _ => ⟨a, by simpa [skips] using Steps.nil a⟩
  | o :: rest, D, a, hD => by
    have stop : ∃ a', Steps P ops.toArray w ((o :: rest).take 0) a a' := ⟨a, by simpa using Steps.nil a⟩
    unfold skips
    split
    · exact stop
    · rename_i g hg
      split
      · rename_i s hs
        split
        · rename_i hm
          split
          · rename_i d hd
            have hnw := not_wanted (ops := ops) hg hs (hD s hm)
            obtain ⟨a', ih⟩ := skips_run rest ((d, true) :: (d, false) :: D) (a.put o.dst undef) (by
              have same : ∀ b, (a.put o.dst undef).tmps[d]? ≠ some (.bool b) := by
                intro b
                rw [hd]
                simp only [Act.put]
                rw [Array.getElem?_setIfInBounds]
                simp only [if_true]
                split
                · simp [undef]
                · simp
              intro s' hs'
              rcases List.mem_cons.1 hs' with rfl | hs'
              · exact same true
              rcases List.mem_cons.1 hs' with rfl | hs'
              · exact same false
              by_cases e : d = s'.1
              · rw [← e]; exact same _
              · have : (a.put o.dst undef).tmps[s'.1]? = a.tmps[s'.1]? := by
                  rw [hd]; simp only [Act.put, Array.getElem?_setIfInBounds_ne e]
                rw [this]; exact hD s' hs')
            exact ⟨a', by rw [List.take_succ_cons]; exact .skip hnw ih⟩
          · exact stop
        · exact stop
      · exact stop

/-- A slot that is written under a guard. -/
def gt (b want : Bool) (x : V) : V := if b = want then x else .junk
def gateS (b want : Bool) (sl1 : List (Nat × V)) : List Nat → List (Nat × V) → List (Nat × V)
  | [], sl => sl
  | d :: ds, sl => gateS b want sl1 ds (setS sl d (gt b want (getS sl1 d)))
theorem getS_gateS (b want : Bool) (sl1 : List (Nat × V)) : ∀ (ds : List Nat) (sl : List (Nat × V)) (t : Nat), getS (gateS b want sl1 ds sl) t = if t ∈ ds then gt b want (getS sl1 t) else getS sl t
  | [], sl, t => by simp [gateS]
  | d :: ds, sl, t => by
    rw [gateS, getS_gateS b want sl1 ds _ t, getS_setS]
    by_cases h1 : t ∈ ds
    · simp [h1]
    · by_cases h2 : d = t
      · subst h2; simp [h1]
      · have : t ≠ d := fun e => h2 e.symm
        simp [h1, h2, this]

/-- Operations that leave memory alone, with guards; A: guards that are met. -/
def vgo (T : Nat → Option TI) (nt : Sh) (ops : List Oper) (ob : List Ob) : Nat → List (Nat × Bool) → List Oper → List (Nat × V) → Option (Prop × List (Nat × V))
  | 0, _, _, _ => none
  | _ + 1, _, [], sl => some (True, sl)
  | f + 1, A, o :: rest, sl => match o.guard with
    | none => none
    | some g => match gslot ops g with
      | none => none
      | some s => if s ∈ A then
          match vop T sl ob o.op with
          | some (p, x, _) => if quietR o.op x = true ∧ (∀ s ∈ A, o.dst ≠ some s.1) then
              match vgo T nt ops ob f A rest (putD sl o.dst x) with
              | some (q, sl') => some (p ∧ okd nt o.dst ∧ q, sl')
              | none => none
            else none
          | none => none
        else match getS sl s.1 with
          | .bool b => match vgo T nt ops ob f (s :: A) ((o :: rest).take (skips ops [s] (o :: rest))) (setS sl s.1 (.bool s.2)) with
            | some (p, sl1) => if (∀ s' ∈ A, s'.1 ∉ dsts ((o :: rest).take (skips ops [s] (o :: rest)))) then
                match vgo T nt ops ob f A ((o :: rest).drop (skips ops [s] (o :: rest))) (gateS b s.2 sl1 (dsts ((o :: rest).take (skips ops [s] (o :: rest)))) sl) with
                | some (q, sl2) => some ((b = s.2 → p) ∧ q, sl2)
                | none => none
              else none
            | none => none
          | _ => none

/-- A group of operations under one guard. -/
def vgrp (T : Nat → Option TI) (nt : Sh) (ops : List Oper) (st : St) (s : Nat × Bool) (l : List Oper) : Option (Prop × List (Nat × V) × Nat) :=
  match skips ops [s] l with
  | 0 => none
  | n + 1 => match vgo T nt ops st.ob 90 [] (l.take (n + 1)) st.sl with
    | some (p, sl) => some (p, sl, n)
    | none => none

theorem get_of_getD {a : Act} {t : Nat} {b : Bool} (h : a.tmps.getD t undef = .bool b) : a.tmps[t]? = some (.bool b) := by
  rw [Array.getD_eq_getD_getElem?] at h
  cases q : a.tmps[t]? with
  | none => rw [q] at h; simp [undef] at h
  | some v => rw [q] at h; simpa using h
theorem wanted_of {ops : List Oper} {o : Oper} {g s : Nat × Bool} {a : Act} (hg : o.guard = some g) (hs : gslot ops g = some s) (hn : a.tmps[s.1]? = some (.bool s.2)) : Region.wanted o (yielded ops.toArray a.tmps) = true := by
  obtain ⟨j, want⟩ := g
  unfold gslot at hs
  split at hs
  case h_2 => cases hs
  rename_i d hd
  simp only [Option.some.injEq] at hs; subst hs
  have hd' : (ops.toArray[j]?).bind (·.dst) = some d := by simpa using hd
  simp only at hn
  have hy : yielded ops.toArray a.tmps j = some want := by
    unfold yielded
    rw [hd', Option.bind_some, hn]
  simp [Region.wanted, hg, hy]

theorem SimE.slotsOf {C : Ctx} {Φ H ob w} {sl sl' : List (Nat × V)} {a a' : Act} (s : SimE C Φ H ⟨sl, ob⟩ a w) (h1 : a'.defers = a.defers) (h2 : a'.tmps.size = a.tmps.size) (h : ∀ t, VRep (mkE Φ H ob w) (getS sl' t) (a'.tmps.getD t undef)) : SimE C Φ H ⟨sl', ob⟩ a' w :=
  ⟨s.hs, h1.trans s.defers, h2.trans s.nt, s.k0, h⟩

theorem vgo_sound (hT : TabOK P T) {ops : List Oper} {ob : List Ob} : ∀ (f : Nat) (A : List (Nat × Bool)) (l : List Oper) (sl sl' : List (Nat × V)) (p : Prop), vgo T nt ops ob f A l sl = some (p, sl') → p →
    ∀ (C : Ctx), C.nt = nt → ∀ Φ H a w, SimE C Φ H ⟨sl, ob⟩ a w → (∀ s ∈ A, a.tmps.getD s.1 undef = .bool s.2) → ∃ a', Steps P ops.toArray w l a a' ∧ SimE C Φ H ⟨sl', ob⟩ a' w
  | 0, _, _, _, _, _, h, _, _, _, _, _, _, _, _, _ => by simp [vgo] at h
  | f + 1, A, [], sl, sl', p, h, hp, C, hC, Φ, H, a, w, s, hA => by
    simp only [vgo, Option.some.injEq, Prod.mk.injEq] at h
    obtain ⟨_, rfl⟩ := h
    exact ⟨a, .nil a, s⟩
  | f + 1, A, o :: rest, sl, sl', p, h, hp, C, hC, Φ, H, a, w, s, hA => by
    simp only [vgo] at h
    split at h
    · cases h
    rename_i g hg
    split at h
    · cases h
    rename_i sg hsg
    split at h
    · rename_i hm
      split at h
      case h_2 => cases h
      rename_i p1 x ob1 hv
      split at h
      case isFalse => cases h
      rename_i hq
      split at h
      case h_2 => cases h
      rename_i q sl2 hrec
      simp only [Option.some.injEq, Prod.mk.injEq] at h
      obtain ⟨rfl, rfl⟩ := h
      obtain ⟨hp1, hok, hqq⟩ := hp
      obtain ⟨_, v, hr, hx⟩ := vop_quiet (P := P) (sl := sl) (ob := ob) hT s hq.1 hv hp1
      have s' := s.put (d := o.dst) hx fun i e => by rw [e] at hok; rw [hC]; exact hok
      obtain ⟨a', k1, k2⟩ := vgo_sound hT f A rest _ _ _ hrec hqq C hC Φ H _ w s' fun s0 hs0 => by
        rw [put_other (hq.2 s0 hs0)]; exact hA s0 hs0
      exact ⟨a', .run (wanted_of hg hsg (get_of_getD (hA sg hm))) hr k1, k2⟩
    · split at h
      case h_2 => cases h
      rename_i b hb
      split at h
      case h_2 => cases h
      rename_i p1 sl1 hrec1
      split at h
      case isFalse => cases h
      rename_i hfree
      split at h
      case h_2 => cases h
      rename_i q sl2 hrec2
      simp only [Option.some.injEq, Prod.mk.injEq] at h
      obtain ⟨rfl, rfl⟩ := h
      obtain ⟨hpp, hqq⟩ := hp
      have hsl := s.slots sg.1
      rw [hb] at hsl
      simp only [VRep] at hsl
      have hsplit : ∀ n, (o :: rest) = (o :: rest).take n ++ (o :: rest).drop n := fun n => (List.take_append_drop n _).symm
      have fin : ∀ a1, Steps P ops.toArray w ((o :: rest).take (skips ops [sg] (o :: rest))) a a1 → (∀ t ∈ dsts ((o :: rest).take (skips ops [sg] (o :: rest))), VRep (mkE Φ H ob w) (gt b sg.2 (getS sl1 t)) (a1.tmps.getD t undef)) →
          ∃ a', Steps P ops.toArray w (o :: rest) a a' ∧ SimE C Φ H ⟨sl2, ob⟩ a' w := by
        intro a1 hst hds
        obtain ⟨o1, o2, o3⟩ := hst.other
        have s1 : SimE C Φ H ⟨gateS b sg.2 sl1 (dsts ((o :: rest).take (skips ops [sg] (o :: rest)))) sl, ob⟩ a1 w := by
          refine s.slotsOf o1 o2 fun t => ?_
          rw [getS_gateS]
          split
          · rename_i ht; exact hds t ht
          · rename_i ht; rw [o3 t ht]; exact s.slots t
        obtain ⟨a', k1, k2⟩ := vgo_sound hT f A _ _ _ _ hrec2 hqq C hC Φ H a1 w s1 fun s0 hs0 => by
          rw [o3 _ (hfree s0 hs0)]; exact hA s0 hs0
        refine ⟨a', ?_, k2⟩
        rw [hsplit (skips ops [sg] (o :: rest))]
        exact hst.append k1
      by_cases hbw : b = sg.2
      · have s0 : SimE C Φ H ⟨setS sl sg.1 (.bool sg.2), ob⟩ a w := s.slotsOf rfl rfl fun t => by
          rw [getS_setS]
          split
          · rename_i e; subst e
            rw [hsl, hbw]
            rfl
          · exact s.slots t
        obtain ⟨a1, k1, k2⟩ := vgo_sound hT f (sg :: A) _ _ _ _ hrec1 (hpp hbw) C hC Φ H a w s0 fun s' hs' => by
          rcases List.mem_cons.1 hs' with rfl | hs'
          · rw [hsl, hbw]
          · exact hA s' hs'
        refine fin a1 k1 fun t _ => ?_
        rw [gt, if_pos hbw]
        exact k2.slots t
      · obtain ⟨a1, k1⟩ := skips_run (P := P) (w := w) (ops := ops) (o :: rest) [sg] a fun s' hs' => by
          rcases List.mem_cons.1 hs' with rfl | hs'
          · rw [get_of_getD hsl]
            intro e
            exact hbw (by simpa using e)
          · cases hs'
        refine fin a1 k1 fun t _ => ?_
        rw [gt, if_neg hbw]
        trivial

theorem vgrp_sound (hT : TabOK P T) {ops : List Oper} {st : St} {sg : Nat × Bool} {o : Oper} {rest : List Oper} {p : Prop} {sl : List (Nat × V)} {n : Nat} (h : vgrp T nt ops st sg (o :: rest) = some (p, sl, n)) (hp : p)
    {C : Ctx} (hC : C.nt = nt) {Φ H a w} (s : SimE C Φ H st a w) : ∃ a', Steps P ops.toArray w (o :: rest.take n) a a' ∧ SimE C Φ H ⟨sl, st.ob⟩ a' w := by
  unfold vgrp at h
  split at h
  · cases h
  · rename_i n' hn
    split at h
    case h_2 => cases h
    rename_i p' sl' hv
    simp only [Option.some.injEq, Prod.mk.injEq] at h
    obtain ⟨rfl, rfl, rfl⟩ := h
    rw [List.take_succ_cons] at hv
    exact vgo_sound hT _ _ _ _ _ _ hv hp C hC Φ H a w s fun s' hs' => by cases hs'
end
end Go.VX
