/- Operations one by one, each guard's way by itself: for groups that can be looked at only where the guard is met. -/
import Derived.Test.YthjpaongoflgiaaVXRows
namespace Go.VX
open Go.RowKit
set_option linter.unusedVariables false

def vrunI (P : Program) (T : Nat → Option TI) (nt : Sh) (ops : List Oper) : List Oper → (St → Prop) → St → Prop
  | [], Q, st => Q st
  | o :: rest, Q, st => match o.guard with
    | none => vstep P T nt o st (vrunI P T nt ops rest Q)
    | some g => match gslot ops g with
      | some s => match getS st.sl s.1 with
        | .bool b => if b = s.2 then vstep P T nt o ⟨setS st.sl s.1 (.bool s.2), st.ob⟩ (vrunI P T nt ops rest Q)
              else okd nt o.dst ∧ vrunI P T nt ops rest Q ⟨putD (setS st.sl s.1 (.bool (!s.2))) o.dst .junk, st.ob⟩
        | _ => False
      | none => False
section
variable {P : Program} {T : Nat → Option TI} {nt : Sh}
theorem vrunI_sound (hT : TabOK P T) {ops : List Oper} : ∀ (l : List Oper) (Q : St → Prop) (st : St), vrunI P T nt ops l Q st → ∀ (C : Ctx), C.nt = nt → ∀ Φ H a w, SimE C Φ H st a w → ∀ Qx : Exit → Act → World → Prop,
    (∀ Φ' H' st' a' w', SimE C Φ' H' st' a' w' → Q st' → Qx .normal a' w') → wpList P ops.toArray Qx l a w
  | [], Q, st, h, C, hC, Φ, H, a, w, s, Qx, hq => by
    simp only [vrunI] at h
    exact hq _ _ _ _ _ s h
  | o :: rest, Q, st, h, C, hC, Φ, H, a, w, s, Qx, hq => by
    simp only [vrunI] at h
    have go : ∀ st' a' w' Φ' H', SimE C Φ' H' st' a' w' → vrunI P T nt ops rest Q st' → wpList P ops.toArray Qx rest a' w' := fun st' a' w' Φ' H' s' k =>
      vrunI_sound hT rest Q st' k C hC Φ' H' a' w' s' Qx hq
    split at h
    · rename_i hg
      unfold wpList
      rw [if_pos (by simp [Region.wanted, hg])]
      exact .inl (vstep_sound hT h hC s (fun Φ' H' st' a' w' s' k => go _ _ _ _ _ s' k) trivial)
    · rename_i g hg
      split at h
      case h_2 => exact h.elim
      rename_i sg hsg
      split at h
      case h_2 => exact h.elim
      rename_i b hb
      unfold wpList
      by_cases hbw : b = sg.2
      · rw [if_pos hbw] at h
        rw [if_pos (wanted_of hg hsg (by rw [s.boolAt hb, hbw]))]
        exact .inl (vstep_sound hT h hC (s.known hb hbw) (fun Φ' H' st' a' w' s' k => go _ _ _ _ _ s' k) trivial)
      · have hnw := not_wanted (ops := ops) (a := a) hg hsg (by rw [s.boolAt hb]; intro e; exact hbw (by simpa using e))
        rw [hnw]
        rw [if_neg hbw] at h
        obtain ⟨h1, h2⟩ := h
        simp only [Bool.false_eq_true, if_false]
        refine go _ _ _ _ _ ((s.known hb (b' := !sg.2) (by cases b <;> cases hq2 : sg.2 <;> simp_all)).put (x := .junk) trivial ?_) h2
        intro i e
        rw [e] at h1
        rw [hC]; exact h1
theorem vwp_regionI (hT : TabOK P T) {id : Nat} {ops : List Oper} {Q : X → St → Prop} {st : St} (h : vrunI P T nt ops ops (Q .norm) st) : vwp P nt (.region id ops.toArray false) Q st := by
  intro C hC Φ H a w s
  exact wp_region_lit (vrunI_sound hT ops _ st h C hC Φ H a w s _ (fun Φ' H' st' a' w' s' q => ⟨Φ', H', st', s', q⟩))
end
section
variable {P : Program} {T : Nat → Option TI} {nt : Sh} {ops rest : List Oper} {Q K : St → Prop} {sl : List (Nat × V)} {ob : List Ob} {d : Option Nat} {o : Oper}
@[simp] theorem vrunI_nil : vrunI P T nt ops [] Q ⟨sl, ob⟩ = Q ⟨sl, ob⟩ := by simp only [vrunI]
@[simp] theorem vrunI_cons : vrunI P T nt ops (o :: rest) Q ⟨sl, ob⟩ = match o.guard with
    | none => vstep P T nt o ⟨sl, ob⟩ (vrunI P T nt ops rest Q)
    | some g => match gslot ops g with
      | some s => match getS sl s.1 with
        | .bool b => if b = s.2 then vstep P T nt o ⟨setS sl s.1 (.bool s.2), ob⟩ (vrunI P T nt ops rest Q)
              else okd nt o.dst ∧ vrunI P T nt ops rest Q ⟨putD (setS sl s.1 (.bool (!s.2))) o.dst .junk, ob⟩
        | _ => False
      | none => False := by rw [vrunI.eq_2]
end
end Go.VX
