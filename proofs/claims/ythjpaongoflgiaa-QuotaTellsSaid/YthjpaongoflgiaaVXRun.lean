/- Regions, operation by operation; calls. -/
import Derived.Test.YthjpaongoflgiaaVXWp
import Derived.Test.YthjpaongoflgiaaVXQuiet
namespace Go.VX
open Go.RowKit
set_option linter.unusedVariables false
set_option linter.unusedSimpArgs false

def vcall (P : Program) (nt : Sh) (st : St) (k : Nat) (args : List V) (K : V → List Ob → Prop) : Prop :=
  Ent P k ∧ ∀ C : Ctx, C.nt = nt → ∀ Φ H a w, SimE C Φ H st a w → ∀ vals : Array Value, VReps .any (mkE Φ H st.ob w) args vals.toList →
    Calls P k vals w fun e w' => match e with
      | .returned v => ∃ Φ' H' ob' r, SimE C Φ' H' ⟨st.sl, ob'⟩ a w' ∧ VRep (mkE Φ' H' ob' w') r v ∧ K r ob'
      | .outgrown => False
      | .panicked _ => False

/-- What goes on behind a call, kept shut till the call's result is there. -/
def vcont (K : St → Prop) (sl : List (Nat × V)) (d : Option Nat) (r : V) (ob' : List Ob) : Prop := K ⟨putD sl d r, ob'⟩
theorem vcont_app (K : St → Prop) (sl : List (Nat × V)) (d : Option Nat) (r : V) (ob' : List Ob) : vcont K sl d r ob' = K ⟨putD sl d r, ob'⟩ := rfl

/-- One step through a map. -/
def vnext (nt : Sh) (dst : Option Nat) (st : St) (x : V) (K : St → Prop) : Prop :=
  match x with
  | .ptr id 0 0 => match st.ob[id]? with
    | some (.iter (.mp m) since seen last) => match st.ob[m]? with
      | some (.map es bs ck) => okd nt dst ∧ ck ≤ since ∧ since ≤ last ∧
          (∀ (i n : Nat) (e : V × V), bs[i]? = some n → es[i]? = some e → n ∉ seen → K ⟨putD st.sl dst (.tup [.bool true, e.1, e.2]), st.ob.set id (.iter (.mp m) since (seen ++ [n]) ck)⟩) ∧
          ((∀ n ∈ bs, n ∈ seen) → K ⟨putD st.sl dst (.tup [.bool false]), st.ob⟩)
      | _ => False
    | _ => False
  | _ => False

def vstep (P : Program) (T : Nat → Option TI) (nt : Sh) (o : Oper) (st : St) (K : St → Prop) : Prop :=
  match o.op with
  | .call ⟨.value f, args, _⟩ => match evV st.sl f with
    | .fn k caps => okd nt o.dst ∧ vcall P nt st k (args.toList.map (evV st.sl) ++ caps) (vcont K st.sl o.dst)
    | _ => False
  | .next x false => vnext nt o.dst st (evV st.sl x) K
  | op => match vop T st.sl st.ob op with
    | some (p, x, ob') => p ∧ okd nt o.dst ∧ K ⟨putD st.sl o.dst x, ob'⟩
    | none => False

def vrun (P : Program) (T : Nat → Option TI) (nt : Sh) (ops : List Oper) : Nat → List Oper → (St → Prop) → St → Prop
  | _, [], Q, st => Q st
  | k + 1, _ :: rest, Q, st => vrun P T nt ops k rest Q st
  | 0, o :: rest, Q, st => match o.guard with
    | none => vstep P T nt o st (vrun P T nt ops 0 rest Q)
    | some g => match gslot ops g with
      | some s => match getS st.sl s.1 with
        | .bool b => match vgrp T nt ops st s (o :: rest) with
          | some (p, sl, n) => p ∧ vrun P T nt ops n rest Q ⟨sl, st.ob⟩
          | none => if b = s.2 then vstep P T nt o ⟨setS st.sl s.1 (.bool s.2), st.ob⟩ (vrun P T nt ops 0 rest Q)
              else okd nt o.dst ∧ vrun P T nt ops 0 rest Q ⟨putD (setS st.sl s.1 (.bool (!s.2))) o.dst .junk, st.ob⟩
        | _ => False
      | none => False

section
variable {P : Program} {T : Nat → Option TI} {nt : Sh}

theorem callee_run {k : Nat} (he : Ent P k) {a : Act} {w : World} {f : Operand} {args : Array Operand} {ts : Array TypeId} {ty : TypeId} {dst pos aft gd} {caps : Array Value} (hf : a.eval f = .func (.func k) #[] caps) :
    (execOp a.eval ⟨dst, .call ⟨.value f, args, ts⟩, ty, pos, aft, gd⟩).run P w = .ok (.enter k (args.map a.eval ++ caps)) w := by
  unfold Ent at he
  cases hfn : P.funcs[k]? with
  | none => simp [hfn] at he
  | some fn =>
    simp only [hfn, Option.map_some, Option.some.injEq, Bool.and_eq_true, bne_iff_ne, ne_eq] at he
    obtain ⟨h1, h2⟩ := he
    have h3 : fn.body ≠ none := by intro e; simp [e] at h2
    simp [execOp, resolve, hf, Deferred.ofValue, invoke, callFunc, hfn, h1, h3]

theorem vstep_sound (hT : TabOK P T) {o : Oper} {st : St} {K : St → Prop} (h : vstep P T nt o st K) {C : Ctx} (hC : C.nt = nt) {Φ H a w} (s : SimE C Φ H st a w) {next : Act → World → Prop} {Qx : Exit → Act → World → Prop}
    (hn : ∀ Φ' H' st' a' w', SimE C Φ' H' st' a' w' → K st' → next a' w') (hout : True) : o.wp P a w next Qx := by
  have okd' : ∀ {d : Option Nat}, okd nt d → ∀ i, d = some i → i < C.nt.nt := by
    intro d hd i e
    subst e
    rw [hC]; exact hd
  have plain : ∀ (p : Prop) (x : V) (ob' : List Ob), vop T st.sl st.ob o.op = some (p, x, ob') → p → okd nt o.dst → K ⟨putD st.sl o.dst x, ob'⟩ → o.wp P a w next Qx := by
    intro p x ob' hv hp hd hk
    obtain ⟨v, w', Φ', H', hr, hst, hx⟩ := vop_sound (P := P) (sl := st.sl) (ob := st.ob) hT s hv hp
    have s' := (s.step hst).put (d := o.dst) hx (okd' hd)
    unfold Oper.wp
    rcases hr with hr | ⟨hr, rfl⟩
    · rw [hr]; exact hn _ _ _ _ _ s' hk
    · rw [hr]; exact hn _ _ _ _ _ s' hk
  obtain ⟨dst, op, ty, pos, aft, gd⟩ := o
  unfold vstep at h
  dsimp only at h plain
  split at h
  · rename_i f args ts
    split at h
    case h_2 => exact h.elim
    rename_i k caps hf
    obtain ⟨hd, he, hc⟩ := h
    have hfe := s.eval f
    rw [hf] at hfe
    obtain ⟨cv, _, e1, e2⟩ := hfe
    have hr := callee_run (P := P) (w := w) (args := args) (ts := ts) (ty := ty) (dst := dst) (pos := pos) (aft := aft) (gd := gd) he e1
    unfold Oper.wp
    rw [hr]
    have hargs : VReps .any (mkE Φ H st.ob w) (args.toList.map (evV st.sl) ++ caps) (args.map a.eval ++ cv).toList := by
      simp only [Array.toList_append, Array.toList_map]
      exact (evals_rep' (sl := st.sl) (ob := st.ob) s args.toList).append e2
    refine (hc C hC Φ H a w s _ hargs).mono fun e w' q => ?_
    cases e with
    | returned v =>
      obtain ⟨Φ', H', ob', r, q1, q2, q3⟩ := q
      exact hn _ _ _ _ _ (q1.put (d := dst) q2 (okd' hd)) q3
    | panicked c => exact q.elim
    | outgrown => exact q.elim
  · rename_i x
    unfold vnext at h
    split at h
    case h_2 => exact h.elim
    rename_i id hx
    split at h
    case h_2 => exact h.elim
    rename_i m since seen last ho
    split at h
    case h_2 => exact h.elim
    rename_i es bs ck hm
    obtain ⟨hd, hc1, hc2, hk1, hk2⟩ := h
    have hxe := s.eval x
    rw [hx] at hxe
    unfold Oper.wp
    rcases next_sound (P := P) (ty := ty) s.hs.sim hxe ho hm hc1 hc2 with ⟨q1, q2⟩ | ⟨i, n, e, q, w', H', q1, q2, q3, q4, q5, q6⟩
    · have hr : (execOp a.eval ⟨dst, .next x false, ty, pos, aft, gd⟩).run P w = .ok (.value (.tuple #[.bool false])) w := by simp [execOp, q2]
      rw [hr]
      refine hn _ _ _ _ _ (s.put (d := dst) (x := .tup [.bool false]) ⟨#[.bool false], rfl, rfl, .bool false, [], rfl, trivial, rfl, rfl⟩ (okd' hd)) (hk2 q1)
    · have hr : (execOp a.eval ⟨dst, .next x false, ty, pos, aft, gd⟩).run P w = .ok (.value q) w' := by simp [execOp, q4]
      rw [hr]
      exact hn _ _ _ _ _ ((s.step q5).put (d := dst) q6 (okd' hd)) (hk1 i n e q1 q2 q3)
  · split at h
    case h_2 => exact h.elim
    rename_i p x ob' hv
    exact plain p x ob' hv h.1 h.2.1 h.2.2

/-- What a guard's slot holds, put in its place. -/
theorem SimE.known {C : Ctx} {Φ H st a w} (s : SimE C Φ H st a w) {d : Nat} {b b' : Bool} (hb : getS st.sl d = .bool b) (e : b = b') : SimE C Φ H ⟨setS st.sl d (.bool b'), st.ob⟩ a w :=
  s.slotsOf rfl rfl fun t => by
    rw [getS_setS]
    split
    · rename_i q; subst q
      have := s.slots d
      rw [hb, e] at this
      exact this
    · exact s.slots t
theorem SimE.boolAt {C : Ctx} {Φ H st a w} (s : SimE C Φ H st a w) {d : Nat} {b : Bool} (hb : getS st.sl d = .bool b) : a.tmps[d]? = some (.bool b) := by
  have hsl := s.slots d
  rw [hb] at hsl
  simp only [VRep] at hsl
  exact get_of_getD hsl

theorem vrun_sound (hT : TabOK P T) {ops : List Oper} : ∀ (l : List Oper) (k : Nat) (Q : St → Prop) (st : St), vrun P T nt ops k l Q st → ∀ (C : Ctx), C.nt = nt → ∀ Φ H a w, SimE C Φ H st a w → ∀ Qx : Exit → Act → World → Prop,
    (∀ Φ' H' st' a' w', SimE C Φ' H' st' a' w' → Q st' → Qx .normal a' w') → True → wpList P ops.toArray Qx (l.drop k) a w
  | [], k, Q, st, h, C, hC, Φ, H, a, w, s, Qx, hq, hout => by
    simp only [vrun, List.drop_nil] at h ⊢
    exact hq _ _ _ _ _ s h
  | o :: rest, k + 1, Q, st, h, C, hC, Φ, H, a, w, s, Qx, hq, hout => by
    simp only [vrun, List.drop_succ_cons] at h ⊢
    exact vrun_sound hT rest k Q st h C hC Φ H a w s Qx hq hout
  | o :: rest, 0, Q, st, h, C, hC, Φ, H, a, w, s, Qx, hq, hout => by
    simp only [vrun] at h
    rw [List.drop_zero]
    have go : ∀ st' a' w' Φ' H', SimE C Φ' H' st' a' w' → vrun P T nt ops 0 rest Q st' → wpList P ops.toArray Qx rest a' w' := fun st' a' w' Φ' H' s' k => by
      have := vrun_sound hT rest 0 Q st' k C hC Φ' H' a' w' s' Qx hq hout
      rwa [List.drop_zero] at this
    split at h
    · rename_i hg
      unfold wpList
      rw [if_pos (by simp [Region.wanted, hg])]
      exact .inl (vstep_sound hT h hC s (fun Φ' H' st' a' w' s' k => go _ _ _ _ _ s' k) hout)
    · rename_i g hg
      split at h
      case h_2 => exact h.elim
      rename_i sg hsg
      split at h
      case h_2 => exact h.elim
      rename_i b hb
      split at h
      · rename_i p sl n hv
        obtain ⟨a', h1, h2⟩ := vgrp_sound (P := P) hT hv h.1 hC s
        have := vrun_sound hT rest n Q _ h.2 C hC Φ H a' w h2 Qx hq hout
        have e : o :: rest = (o :: rest.take n) ++ rest.drop n := by simp
        rw [e]
        exact h1.list this
      · unfold wpList
        by_cases hbw : b = sg.2
        · rw [if_pos hbw] at h
          rw [if_pos (wanted_of hg hsg (by rw [s.boolAt hb, hbw]))]
          exact .inl (vstep_sound hT h hC (s.known hb hbw) (fun Φ' H' st' a' w' s' k => go _ _ _ _ _ s' k) hout)
        · have hnw := not_wanted (ops := ops) (a := a) hg hsg (by rw [s.boolAt hb]; intro e; exact hbw (by simpa using e))
          rw [hnw]
          rw [if_neg hbw] at h
          obtain ⟨h1, h2⟩ := h
          simp only [Bool.false_eq_true, if_false]
          refine go _ _ _ _ _ ((s.known hb (b' := !sg.2) (by cases b <;> cases hq2 : sg.2 <;> simp_all)).put (x := .junk) trivial ?_) h2
          intro i e
          rw [e] at h1
          rw [hC]; exact h1

theorem vwp_region (hT : TabOK P T) {id : Nat} {ops : List Oper} {Q : X → St → Prop} {st : St} (h : vrun P T nt ops 0 ops (Q .norm) st) : vwp P nt (.region id ops.toArray false) Q st := by
  intro C hC Φ H a w s
  exact wp_region_lit (by simpa using vrun_sound hT ops 0 _ st h C hC Φ H a w s _ (fun Φ' H' st' a' w' s' q => ⟨Φ', H', st', s', q⟩) trivial)

end
end Go.VX
