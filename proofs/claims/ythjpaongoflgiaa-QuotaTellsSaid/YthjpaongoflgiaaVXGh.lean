/- A call by its contract; steps that turn what is known alone. -/
import Derived.Test.YthjpaongoflgiaaVXRet
namespace Go.VX
open Go.RowKit
set_option linter.unusedVariables false
set_option linter.unusedSimpArgs false
set_option linter.unusedSectionVars false

theorem flat_of_rn {f : Nat → Nat} {E : Env} {x : Option Nat} {o : Ob} (h : ObRep E x (rnO f o)) : o.flat = true := by
  rw [← flat_rnO f]; exact ob_flat h

/-- What must hold of objects that are handed over. -/
def handed (ob : List Ob) (ρ : List Nat) (objs : List Ob) : Prop :=
  ρ.Nodup ∧ objs.length = ρ.length ∧ ∀ (j i : Nat) (o : Ob), ρ[j]? = some i → objs[j]? = some o → ob[i]? = some (rnO (fOf ρ ob.length) o)

theorem Passed.of {Φ H ob w ρ bo objs} (hs : HSim Φ H ob w) (h : handed ob ρ objs) : Passed Φ H ob w ρ bo objs := by
  obtain ⟨h1, h2, h3⟩ := h
  refine ⟨hs, h1, h2, fun j i hj => ?_⟩
  have hlt : j < objs.length := by rw [h2]; exact (List.getElem?_eq_some_iff.1 hj).1
  have ho : objs[j]? = some objs[j] := List.getElem?_eq_getElem hlt
  have hob := h3 j i _ hj ho
  exact ⟨_, ho, flat_of_rn (hs.rep i _ hob), hob⟩

theorem vcall_of_VC {P : Program} {nt : Sh} {st : St} {k : Nat} {args : List V} {K : V → List Ob → Prop} (ρ : List Nat) (bo : Bool) {args' : List V} {objs : List Ob} {Q : V → List Ob → Prop}
    (hv : VC P k args' objs Q) (ha : args.map (vwA st.ob ρ bo) = args') (hok : ∀ c ∈ args, vwAOK st.ob ρ bo c) (hh : handed st.ob ρ objs)
    (hK : ∀ r ob', Q r ob' → (bo = true → r.nofz = true ∧ ∀ o ∈ ob', o.nofz = true) ∧ K (rnV (fOf ρ st.ob.length) r) (back st.ob ρ ob')) : vcall P nt st k args K := by
  refine ⟨hv.1, fun C hC Φ H a w s vals hvals => ?_⟩
  have hp : Passed Φ H st.ob w ρ bo objs := Passed.of s.hs.sim hh
  have hargs : VReps .any (mkE (phiC Φ H st.ob ρ bo) (VX.hC H ρ) objs w) args' vals.toList := by
    rw [← ha]
    exact VReps.mapW (q := .any) args _ (fun x _ v hq hx => vwA_sound hp hx hq) (fun _ _ _ _ => trivial) hok hvals
  refine (hv.2 _ _ w vals hp.hsim hargs).mono fun e w' q => ?_
  cases e with
  | returned v =>
    obtain ⟨r, ob', Φ', H', q1, q2, q3⟩ := q
    obtain ⟨k1, k2⟩ := hK r ob' q3
    obtain ⟨Φ2, g1, g2⟩ := call_step hp q1 (fun hb => (k1 hb).2)
    exact ⟨Φ2, _, _, _, s.step g1, g2 r v (fun hb => (k1 hb).1) q2, k2⟩
  | panicked c => exact q
  | outgrown => exact q

/-! ### Steps that turn what is known alone -/
def Gh (nt : Sh) (st st' : St) : Prop := ∀ C : Ctx, C.nt = nt → ∀ Φ H a w, SimE C Φ H st a w → ∃ Φ' H', SimE C Φ' H' st' a w

theorem Gh.refl (nt : Sh) (st : St) : Gh nt st st := fun C _ Φ H a w s => ⟨Φ, H, s⟩
theorem Gh.trans {nt : Sh} {a b c : St} (h : Gh nt a b) (k : Gh nt b c) : Gh nt a c := fun C hC Φ H x w s => by
  obtain ⟨Φ', H', s'⟩ := h C hC Φ H x w s
  exact k C hC Φ' H' x w s'

section
variable {P : Program} {nt : Sh} {Q : X → St → Prop} {st st' : St}

theorem vwp_gh {c : Code} (g : Gh nt st st') (h : vwp P nt c Q st') : vwp P nt c Q st := fun C hC Φ H a w s => by
  obtain ⟨Φ', H', s'⟩ := g C hC Φ H a w s
  exact h C hC Φ' H' a w s'
theorem vwp_post {c : Code} (h : vwp P nt c (fun x st => ∃ st', Gh nt st st' ∧ Q x st') st) : vwp P nt c Q st := by
  intro C hC Φ H a w s
  refine wp_mono (h C hC Φ H a w s) fun e a w q => ?_
  cases e <;> simp only [lft] at q ⊢
  all_goals
    obtain ⟨Φ, H, st, s, st', g, q⟩ := q
    obtain ⟨Φ', H', s'⟩ := g C hC Φ H a w s
    exact ⟨Φ', H', st', s', q⟩

/-- A loop, the round's end put into the head's form. -/
theorem vwp_loop_gh {c : Code} (I : Nat → St → Prop) (n : Nat) (h0 : I n st) (round : ∀ n st, I n st → vwp P nt c (thenQ (fun st' => ∃ st2, Gh nt st' st2 ∧ ∃ m, m < n ∧ I m st2) Q) st) : vwp P nt (.loop c) Q st := by
  refine vwp_loop I n h0 fun n st hI => vwp_post (vwp_mono (round n st hI) fun x st' q => ?_)
  cases x with
  | norm => exact q
  | ex id => exact ⟨st', Gh.refl _ _, q⟩
  | ret => exact ⟨st', Gh.refl _ _, q⟩

theorem HSim.gh_ext {C : Ctx} {Φ H ob w a sl} (s : SimE C Φ H ⟨sl, ob⟩ a w) : ob.length ≥ C.E0.N := s.hs.ext.n

/-- Less may be known. -/
theorem Gh.less {sl sl' : List (Nat × V)} {ob : List Ob} (h : ∀ i, getS sl' i = getS sl i ∨ getS sl' i = .junk) : Gh nt ⟨sl, ob⟩ ⟨sl', ob⟩ :=
  fun C hC Φ H a w s => ⟨Φ, H, s.weaken h⟩

/-- An object is never written any more. -/
theorem Gh.freeze {sl : List (Nat × V)} {ob : List Ob} (id : Nat) {cs : List V} (ho : ob[id]? = some (.live cs)) (hn : ∀ c ∈ cs, c.noId = true) : Gh nt ⟨sl, ob⟩ ⟨sl, ob.set id (.frz cs)⟩ := by
  intro C hC Φ H a w s
  have hr := s.hs.sim.rep id _ ho
  let Φ' : Nat → Prop := fun b => Φ b ∨ H id = some b
  have hst : HStep Φ H ob w Φ' (upd H id (H id)) (ob.set id (.frz cs)) w := by
    refine HStep.ofChange s.hs.sim ho rfl rfl rfl rfl (fun _ _ _ => rfl) (Nat.le_refl _) (fun b hb => .inl hb) (fun b hb => ?_) (fun b hb => .inl hb) (fun T' hT' => ?_) (fun E' hE hw hΦ => ?_)
    · rcases hb with hb | hb
      · exact .inl hb
      · exact .inr ⟨hb, rfl⟩
    · exact ⟨cs.length, rfl, by simp [Ob.len] at hT'; omega, fun _ => ⟨rfl, fun _ _ => rfl⟩⟩
    · cases hH : H id with
      | none => rw [hH] at hr; exact hr
      | some b =>
        rw [hH] at hr
        obtain ⟨c, el, g1, g2, g3, g4⟩ := hr
        refine ⟨by rw [hΦ]; exact .inr hH, c.toList.take cs.length, ?_, VReps.ext hE _ _ (g4.toFrz hn)⟩
        rw [hw]
        have hrr := reads_row g1 0 cs.length
        rwa [List.drop_zero] at hrr
  exact ⟨Φ', _, s.step hst⟩

/-- A row that isn't there yet. -/
theorem Gh.virt {sl : List (Nat × V)} {ob : List Ob} (i esz : Nat) (hi : getS sl i = .nils) : Gh nt ⟨sl, ob⟩ ⟨setS sl i (.sl ob.length 0 esz 0 0), ob ++ [.live []]⟩ := by
  intro C hC Φ H a w s
  have hst : HStep Φ H ob w Φ (upd H ob.length none) (ob ++ [.live []]) w :=
    HStep.ofPush s.hs.sim rfl rfl rfl (fun _ _ => rfl) (Nat.le_refl _) (fun b hb => by cases hb) (fun E' _ _ _ => rfl)
  have s' := s.step hst
  refine ⟨Φ, _, s'.hs, s'.defers, s'.nt, s'.k0, fun j => ?_⟩
  simp only [getS_setS]
  by_cases e : i = j
  · subst e
    rw [if_pos rfl]
    have hv := s.slots i
    rw [show getS (St.mk sl ob).sl i = .nils from hi] at hv
    simp only [VRep] at hv
    rw [hv]
    refine ⟨rfl, by simp [mkE], fun T' hT' => ⟨by simp, fun _ => ?_⟩⟩
    simp only [mkE, upd_same, SlV]
    simp
  · rw [if_neg e]; exact s'.slots j

/-- Objects that are kept, under new numbers; what slots then say. -/
theorem Gh.keep {sl sl' : List (Nat × V)} {ob objs : List Ob} (ks : List Nat) (hh : handed ob ks objs) (hk0 : nt.k0 ≤ ks.length) (hks : ∀ i, i < nt.k0 → ks[i]? = some i)
    (hsl : ∀ i, getS sl' i = .junk ∨ (getS sl' i = vwA ob ks false (getS sl i) ∧ vwAOK ob ks false (getS sl i))) : Gh nt ⟨sl, ob⟩ ⟨sl', objs⟩ := by
  intro C hC Φ H a w s
  have hp : Passed Φ H ob w ks false objs := Passed.of s.hs.sim hh
  have hEI := hp.extI
  have hphi : phiC Φ H ob ks false = Φ := by funext x; simp [phiC]
  have hsim := hp.hsim
  rw [hphi] at hsim
  have hk : C.E0.N = nt.k0 := by rw [s.k0, hC]
  have hobj : ∀ (j i : Nat), ks[j]? = some i → ∃ o, objs[j]? = some o ∧ ob[i]? = some (rnO (fOf ks ob.length) o) := fun j i hj => by
    obtain ⟨o, h1, _, h3⟩ := hp.obj j i hj; exact ⟨o, h1, h3⟩
  have hHof : ∀ (i j : Nat), ks[j]? = some i → VX.hC H ks j = H i := by
    intro i j hj
    obtain ⟨h1, h2⟩ := List.getElem?_eq_some_iff.1 hj
    simp [VX.hC, h1, List.getD_eq_getElem?_getD, h2]
  refine ⟨Φ, VX.hC H ks, ⟨s.hs.os, s.hs.tape, s.hs.output, s.hs.size, s.hs.kept, hsim, ?_, s.hs.phi, fun j o b e1 m1 x1 => ?_⟩, s.defers, s.nt, s.k0, fun i => ?_⟩
  · have q := s.hs.ext
    refine ⟨q.phi, q.heap, by simp only [mkE]; rw [hh.2.1]; omega, fun i hi T' hT' => ?_⟩
    have hi' : ks[i]? = some i := hks i (by omega)
    obtain ⟨o, g1, g2⟩ := hobj i i hi'
    have e1 : (mkE Φ H ob w).L i = some T' := by
      simp only [mkE, Lof, g1, g2, Option.bind_some, rnO_len] at hT' ⊢
      exact hT'
    obtain ⟨T, k1, k2, k3⟩ := q.l i hi T' e1
    refine ⟨T, k1, k2, fun e => ?_⟩
    obtain ⟨k4, k5⟩ := k3 e
    exact ⟨by simp only [mkE] at k4 ⊢; rw [hHof i i hi']; exact k4, k5⟩
  · have hj : j < ks.length := by rw [← hh.2.1]; exact (List.getElem?_eq_some_iff.1 e1).1
    obtain ⟨o', g1, g2⟩ := hobj j ks[j] (List.getElem?_eq_getElem hj)
    obtain rfl : o = o' := by
      have e1' : objs[j]? = some o := e1
      rw [e1'] at g1; exact Option.some.inj g1
    rw [hHof ks[j] j (List.getElem?_eq_getElem hj)] at x1
    exact s.hs.mine _ _ b g2 (by rw [rnO_mutb]; exact m1) x1
  · rcases hsl i with q | ⟨q1, q2⟩
    · show VRep _ (getS sl' i) _
      rw [q]; trivial
    · show VRep _ (getS sl' i) _
      rw [q1]
      have := vwA_sound hp (s.slots i) q2
      rw [hphi] at this
      exact this

end

/-- What a body must come to, put into the contract's form. -/
theorem VC_of_vwp' {P : Program} {k : Nat} {fn : Func} {c : Code} {args : List V} {ob : List Ob} {Q : V → List Ob → Prop} (he : Ent P k) (hf : P.funcs[k]? = some fn) (hb : fn.body = some c) (hn : args.length ≤ fn.ntmps)
    (h : vwp P ⟨fn.ntmps, ob.length⟩ c (fun x st => ∃ st', Gh ⟨fn.ntmps, ob.length⟩ st st' ∧ retQ fn Q x st') ⟨argSlots 0 args, ob⟩) : VC P k args ob Q :=
  VC_of_vwp he hf hb hn (vwp_post h)
end Go.VX
