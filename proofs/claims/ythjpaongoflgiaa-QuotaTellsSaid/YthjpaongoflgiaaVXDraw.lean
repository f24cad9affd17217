/- Regions whose order is drawn. -/
import Derived.Test.YthjpaongoflgiaaVXGh
namespace Go.VX
open Go.RowKit
set_option linter.unusedVariables false
set_option linter.unusedSimpArgs false
set_option linter.unusedSectionVars false

def vstepS (T : Nat → Option TI) (nt : Sh) (o : Oper) (st : St) (K : St → Prop) : Prop :=
  match vop T st.sl st.ob o.op with
    | some (p, x, _) => quietR o.op x = true ∧ p ∧ okd nt o.dst ∧ K ⟨putD st.sl o.dst x, st.ob⟩
    | none => False

def vrunS (T : Nat → Option TI) (nt : Sh) (ops : List Oper) : Nat → List Oper → (St → Prop) → St → Prop
  | _, [], Q, st => Q st
  | k + 1, _ :: rest, Q, st => vrunS T nt ops k rest Q st
  | 0, o :: rest, Q, st => match o.guard with
    | none => vstepS T nt o st (vrunS T nt ops 0 rest Q)
    | some g => match gslot ops g with
      | some s => match getS st.sl s.1 with
        | .bool b => match vgrp T nt ops st s (o :: rest) with
          | some (p, sl, n) => p ∧ vrunS T nt ops n rest Q ⟨sl, st.ob⟩
          | none => False
        | _ => False
      | none => False

section
variable {P : Program} {T : Nat → Option TI} {nt : Sh}

theorem vstepS_sound (hT : TabOK P T) {o : Oper} {st : St} {K : St → Prop} (h : vstepS T nt o st K) {C : Ctx} (hC : C.nt = nt) {Φ H a w} (s : SimE C Φ H st a w) {next : Act → Prop}
    (hn : ∀ st' a', SimE C Φ H st' a' w → st'.ob = st.ob → K st' → next a') : o.still P a w next := by
  unfold vstepS at h
  split at h
  case h_2 => exact h.elim
  rename_i p x ob' hv
  obtain ⟨hq, hp, hd, hk⟩ := h
  obtain ⟨_, v, hr, hx⟩ := vop_quiet (P := P) (sl := st.sl) (ob := st.ob) hT s hq hv hp
  unfold Oper.still
  rw [hr]
  refine ⟨rfl, hn _ _ (s.put (d := o.dst) hx fun i e => ?_) rfl hk⟩
  rw [e] at hd
  rw [hC]; exact hd

theorem vrunS_sound (hT : TabOK P T) {ops : List Oper} : ∀ (l : List Oper) (k : Nat) (Q : St → Prop) (st : St), vrunS T nt ops k l Q st → ∀ (C : Ctx), C.nt = nt → ∀ Φ H a w, SimE C Φ H st a w → ∀ K : Act → Prop,
    (∀ st' a', SimE C Φ H st' a' w → Q st' → K a') → wpStill P ops.toArray w K (l.drop k) a
  | [], k, Q, st, h, C, hC, Φ, H, a, w, s, K, hK => by
    simp only [vrunS, List.drop_nil] at h ⊢
    exact hK st a s h
  | o :: rest, k + 1, Q, st, h, C, hC, Φ, H, a, w, s, K, hK => by
    simp only [vrunS, List.drop_succ_cons] at h ⊢
    exact vrunS_sound hT rest k Q st h C hC Φ H a w s K hK
  | o :: rest, 0, Q, st, h, C, hC, Φ, H, a, w, s, K, hK => by
    simp only [vrunS] at h
    rw [List.drop_zero]
    split at h
    · rename_i hg
      unfold wpStill
      rw [if_pos (by simp [Region.wanted, hg])]
      exact vstepS_sound hT h hC s fun st' a' s' _ k => by
        have := vrunS_sound hT rest 0 Q st' k C hC Φ H a' w s' K hK
        rwa [List.drop_zero] at this
    · rename_i g hg
      split at h
      case h_2 => exact h.elim
      rename_i sg hsg
      split at h
      case h_2 => exact h.elim
      rename_i b hb
      split at h
      case h_2 => exact h.elim
      rename_i p sl n hv
      obtain ⟨a', h1, h2⟩ := vgrp_sound (P := P) hT hv h.1 hC s
      have := vrunS_sound hT rest n Q _ h.2 C hC Φ H a' w h2 K hK
      have e : o :: rest = (o :: rest.take n) ++ rest.drop n := by simp
      rw [e]
      exact h1.still this

theorem SimE.draw {C : Ctx} {Φ H st a w} (s : SimE C Φ H st a w) : SimE C Φ H st a { w with drawn := w.drawn + 1 } :=
  s.step (HStep.same s.hs.sim rfl rfl rfl rfl)

/-- A region whose order is drawn: all its operations leave memory alone. -/
theorem vwp_still (hT : TabOK P T) (hm : P.follows .mixedOrders = true) {id : Nat} {ops : List Oper} {Q : X → St → Prop} {st : St} (hB : Region.lexB .any ops.toArray = true) (h : vrunS T nt ops 0 ops (Q .norm) st) : vwp P nt (.region id ops.toArray true) Q st := by
  intro C hC Φ H a w s
  exact wp_region_still_lit hm hB (by simpa using vrunS_sound hT ops 0 _ st h C hC Φ H a _ s.draw _ fun st' a' s' q => ⟨Φ, H, st', s', q⟩)
/-- .. all but the last ones, that come in one order alone. -/
theorem vwp_tail (hT : TabOK P T) (hm : P.follows .mixedOrders = true) (n : Nat) {id : Nat} {ops : List Oper} {Q : X → St → Prop} {st : St} (hB : Region.lexTailB .any ops.toArray n = true)
    (h : vrunS T nt ops 0 (ops.take n) (vrun P T nt ops 0 (ops.drop n) (Q .norm)) st) : vwp P nt (.region id ops.toArray true) Q st := by
  intro C hC Φ H a w s
  have hh := vrunS_sound hT (ops.take n) 0 _ st h C hC Φ H a _ s.draw (fun a' => wpList P ops.toArray (lft C Q) (ops.drop n) a' { w with drawn := w.drawn + 1 }) fun st' a' s' q => by
    have := vrun_sound hT (ops.drop n) 0 _ st' q C hC Φ H a' _ s' (lft C Q) (fun Φ' H' st2 a2 w2 s2 q2 => ⟨Φ', H', st2, s2, q2⟩) trivial
    rwa [List.drop_zero] at this
  rw [List.drop_zero] at hh
  exact wp_region_still_tail n hm hB hh
end
end Go.VX
