/- Results that lie in memory. -/
import Derived.Test.YthjpaongoflgiaaVXTac
namespace Go.VX
open Go.RowKit
set_option linter.unusedVariables false
set_option linter.unusedSimpArgs false

def vres (T : Nat → Option TI) (st : St) : ResultVar → Option (Prop × V)
  | .tmp t => some (True, getS st.sl t)
  | .cell c t => match vop T st.sl st.ob (.load t (.tmp c)) with
    | some (p, x, _) => some (p, x)
    | none => none
def vress (T : Nat → Option TI) (st : St) : List ResultVar → Option (Prop × List V)
  | [] => some (True, [])
  | r :: rs => match vres T st r, vress T st rs with
    | some (p, x), some (q, xs) => some (p ∧ q, x :: xs)
    | _, _ => none
def tupV : List V → V
  | [x] => x
  | xs => .tup xs
/-- Results, and what is still wanted of the objects. -/
def outQ (k0 : Nat) (Q : V → List Ob → Prop) (xs : List V) (ob : List Ob) : Prop :=
  ∃ xs' objs, xs'.length = xs.length ∧ (xs'.length = 1 ∨ xs'.all V.notTup = true) ∧ Gh ⟨xs.length, k0⟩ ⟨argSlots 0 xs, ob⟩ ⟨argSlots 0 xs', objs⟩ ∧ Q (tupV xs') objs
def retQc (T : Nat → Option TI) (fn : Func) (k0 : Nat) (Q : V → List Ob → Prop) : X → St → Prop
  | .norm, st => ∃ p xs, vress T st fn.results.toList = some (p, xs) ∧ p ∧ outQ k0 Q xs st.ob
  | .ret, st => ∃ p xs, vress T st fn.results.toList = some (p, xs) ∧ p ∧ outQ k0 Q xs st.ob
  | .ex _, _ => False

section
variable {P : Program} {T : Nat → Option TI}

def resOf (tmps : Array Value) : ResultVar → Sem Value
  | .tmp t => pure (tmps.getD t undef)
  | .cell a t => do loadVar t (← asAddr (tmps.getD a undef))
theorem results_eq (fn : Func) (tmps : Array Value) : results fn tmps = (do
    let vs ← fn.results.mapM (resOf tmps)
    pure (if h : vs.size = 1 then vs[0] else .tuple vs)) := by
  unfold results
  congr 1

theorem vres_sound (hT : TabOK P T) {C Φ H st a w} (s : SimE C Φ H st a w) {x : ResultVar} {p : Prop} {r : V} (h : vres T st x = some (p, r)) (hp : p) : ∃ v, (resOf a.tmps x).run P w = .ok v w ∧ VRep (mkE Φ H st.ob w) r v := by
  cases x with
  | tmp t =>
    simp only [vres, Option.some.injEq, Prod.mk.injEq] at h
    obtain ⟨_, rfl⟩ := h
    exact ⟨_, rfl, s.slots t⟩
  | cell c t =>
    simp only [vres, vop] at h
    split at h
    case h_2 => cases h
    rename_i p' x' ob' hv
    simp only [Option.some.injEq, Prod.mk.injEq] at h
    obtain ⟨rfl, rfl⟩ := h
    split at hv
    case h_2 => cases hv
    rename_i i p' cs off ht hr
    have hx := s.eval (.tmp c)
    have he : a.eval (.tmp c) = a.tmps.getD c undef := rfl
    rw [he] at hx
    have conv : ∀ (p'' : Prop) (h3 : p'') (e : p'' = p') (u : Value), (Instr.loadAt t (a.tmps.getD c undef)).run P w = .ok u w → (resOf a.tmps (.cell c t)).run P w = .ok u w := by
      intro p'' h3 e u h4
      obtain ⟨b, o, us, hv', _⟩ := rdV_sound s.hs.sim hx hr (e ▸ h3)
      show (do loadVar t (← asAddr (a.tmps.getD c undef)) : Sem Value).run P w = _
      rw [hv'] at h4 ⊢
      simpa [Instr.loadAt, Instr.sureAddr, asAddr] using h4
    split at hv
    · rename_i ha
      simp only [Option.some.injEq, Prod.mk.injEq] at hv; obtain ⟨rfl, rfl, rfl⟩ := hv
      obtain ⟨u, h1, h2⟩ := (load_sound (P := P) hT s.hs.sim ht hx hr hp.1).1 ha hp.2
      exact ⟨u, conv _ hp.1 rfl u h1, h2⟩
    · rename_i ha
      simp only [Option.some.injEq, Prod.mk.injEq] at hv; obtain ⟨rfl, rfl, rfl⟩ := hv
      obtain ⟨u, h1, h2, _⟩ := (load_sound (P := P) hT s.hs.sim ht hx hr hp.1).2 (by simpa using ha) (cs.getD off .junk) (by rw [List.getD_eq_getElem?_getD, List.getElem?_eq_getElem hp.2]; rfl)
      exact ⟨u, conv _ hp.1 rfl u h1, h2⟩

theorem vress_sound (hT : TabOK P T) {C Φ H st a w} (s : SimE C Φ H st a w) : ∀ {rs : List ResultVar} {p : Prop} {xs : List V}, vress T st rs = some (p, xs) → p →
    ∃ vs : List Value, (rs.mapM (resOf a.tmps)).run P w = .ok vs w ∧ VReps .any (mkE Φ H st.ob w) xs vs
  | [], p, xs, h, hp => by
    simp only [vress, Option.some.injEq, Prod.mk.injEq] at h
    obtain ⟨_, rfl⟩ := h
    exact ⟨[], by simp, rfl⟩
  | r :: rs, p, xs, h, hp => by
    simp only [vress] at h
    split at h
    case h_2 => cases h
    rename_i p1 x p2 ys h1 h2
    simp only [Option.some.injEq, Prod.mk.injEq] at h
    obtain ⟨rfl, rfl⟩ := h
    obtain ⟨v, g1, g2⟩ := vres_sound hT s h1 hp.1
    obtain ⟨vs, g3, g4⟩ := vress_sound hT s h2 hp.2
    refine ⟨v :: vs, ?_, v, vs, rfl, trivial, g2, g4⟩
    rw [List.mapM_cons]
    simp [g1, g3]

theorem results_run {fn : Func} {tmps : Array Value} {w : World} {vs : List Value} (hvs : (fn.results.toList.mapM (resOf tmps)).run P w = .ok vs w) : (results fn tmps).run P w = .ok (if h : vs.toArray.size = 1 then vs.toArray[0] else .tuple vs.toArray) w := by
  rw [results_eq]
  have hfr : fn.results = fn.results.toList.toArray := by simp
  rw [hfr, List.mapM_toArray]
  simp only [Sem.run_bind, Sem.run_map, hvs]
  simp only [Result.andThen_ok, Sem.run_pure]
theorem tupV_rep {E : Env} {xs : List V} {vs : List Value} (h : VReps .any E xs vs) (hn : xs.length = 1 ∨ xs.all V.notTup = true) : VRep E (tupV xs) (if h : vs.toArray.size = 1 then vs.toArray[0] else .tuple vs.toArray) := by
  have hl := h.length
  by_cases h1 : xs.length = 1
  · match xs, h1, h with
    | [x], _, ⟨v, r, e, _, g3, g4⟩ =>
      have g5 : r = [] := g4
      subst g5
      subst e
      simpa [tupV] using g3
  · rw [dif_neg (by simpa [← hl] using h1)]
    have hn' := hn.resolve_left h1
    have e : tupV xs = .tup xs := by
      match xs, h1 with
      | [], _ => rfl
      | _ :: _ :: _, _ => rfl
    rw [e]
    exact ⟨vs.toArray, hn', rfl, by simpa using h⟩
theorem reps_of_slots {E : Env} : ∀ {xs : List V} {vs : List Value}, xs.length = vs.length → (∀ i, VRep E (xs.getD i .junk) (vs.getD i undef)) → VReps .any E xs vs
  | [], [], _, _ => rfl
  | [], _ :: _, h, _ => by simp at h
  | _ :: _, [], h, _ => by simp at h
  | x :: xs, v :: vs, h, k => ⟨v, vs, rfl, trivial, by simpa using k 0, reps_of_slots (by simpa using h) fun i => by simpa using k (i + 1)⟩

theorem VC_of_vwp_c (hT : TabOK P T) {k : Nat} {fn : Func} {c : Code} {args : List V} {ob : List Ob} {Q : V → List Ob → Prop} (he : Ent P k) (hf : P.funcs[k]? = some fn) (hb : fn.body = some c) (hn : args.length ≤ fn.ntmps)
    (h : ∀ R : X → St → Prop, (∀ x st, (∃ st', Gh ⟨fn.ntmps, ob.length⟩ st st' ∧ retQc T fn ob.length Q x st') → R x st) → vwp P ⟨fn.ntmps, ob.length⟩ c R ⟨argSlots 0 args, ob⟩) : VC P k args ob Q := by
  replace h := vwp_post (h _ fun _ _ h => h)
  refine ⟨he, fun Φ H w vals hs hv => calls_of_wp hf hb ?_⟩
  have hl := hv.length
  simp only [Array.length_toList] at hl
  have s : SimE (ctx Φ H ob w ⟨fn.ntmps, ob.length⟩) Φ H ⟨argSlots 0 args, ob⟩ { tmps := vals ++ Array.replicate (fn.ntmps - vals.size) undef, defers := [] } w := by
    refine ⟨HS.refl hs, rfl, by simp [ctx]; omega, rfl, fun i => ?_⟩
    simp only [getS_argSlots, Nat.zero_le, if_true, Nat.sub_zero]
    rcases Nat.lt_or_ge i args.length with hi | hi
    · obtain ⟨u, hu, _, hr⟩ := hv.get i args[i] (List.getElem?_eq_getElem hi)
      have e1 : args.getD i .junk = args[i] := by simp [List.getD_eq_getElem?_getD, List.getElem?_eq_getElem hi]
      have e2 : (vals ++ Array.replicate (fn.ntmps - vals.size) undef).getD i undef = u := by
        have hu' : vals[i]? = some u := by simpa using hu
        rw [Array.getD_eq_getD_getElem?, Array.getElem?_append_left (by omega), hu']; rfl
      rw [e1, e2]; exact hr
    · have e1 : args.getD i .junk = .junk := by simp [List.getD_eq_getElem?_getD, List.getElem?_eq_none hi]
      rw [e1]; trivial
  refine wp_mono (h (ctx Φ H ob w ⟨fn.ntmps, ob.length⟩) rfl Φ H _ w s) fun e a w' q => ?_
  have key : ∀ Φ' H' st, SimE (ctx Φ H ob w ⟨fn.ntmps, ob.length⟩) Φ' H' st a w' → (∃ p xs, vress T st fn.results.toList = some (p, xs) ∧ p ∧ outQ ob.length Q xs st.ob) → a.defers = [] ∧ ∃ v, (results fn a.tmps).run P w' = .ok v w' ∧ post Φ H ob w Q (.returned v) w' := by
    rintro Φ' H' st s' ⟨p, xs, h1, h0, xs', objs, hle, hn', hg, h2⟩
    obtain ⟨vs, k1, k2⟩ := vress_sound (P := P) hT s' h1 h0
    have q0 := s'.hs
    have hl2 := k2.length
    have s2 : SimE (ctx Φ H ob w ⟨xs.length, ob.length⟩) Φ' H' ⟨argSlots 0 xs, st.ob⟩ { tmps := vs.toArray, defers := [] } w' := by
      refine ⟨⟨q0.os, q0.tape, q0.output, q0.size, q0.kept, q0.sim, q0.ext, q0.phi, q0.mine⟩, rfl, by simp [ctx, hl2], rfl, fun i => ?_⟩
      simp only [getS_argSlots, Nat.zero_le, if_true, Nat.sub_zero]
      rcases Nat.lt_or_ge i xs.length with hi | hi
      · obtain ⟨u, hu, _, hr⟩ := k2.get i xs[i] (List.getElem?_eq_getElem hi)
        have e1 : xs.getD i .junk = xs[i] := by simp [List.getD_eq_getElem?_getD, List.getElem?_eq_getElem hi]
        have e2 : vs.toArray.getD i undef = u := by rw [Array.getD_eq_getD_getElem?]; simp [hu]
        rw [e1, e2]; exact hr
      · have e1 : xs.getD i .junk = .junk := by simp [List.getD_eq_getElem?_getD, List.getElem?_eq_none hi]
        rw [e1]; trivial
    obtain ⟨Φ2, H2, s3⟩ := hg _ rfl _ _ _ _ s2
    have q := s3.hs
    have hr3 : VReps .any (mkE Φ2 H2 objs w') xs' vs := reps_of_slots (by omega) fun i => by
      have := s3.slots i
      simp only [getS_argSlots, Nat.zero_le, if_true, Nat.sub_zero] at this
      rw [Array.getD_eq_getD_getElem?] at this
      simpa [List.getD_eq_getElem?_getD] using this
    exact ⟨s'.defers, _, results_run k1, tupV xs', objs, Φ2, H2, ⟨q.os, q.tape, q.output, q.size, q.kept, q.sim, q.ext, q.phi, q.mine⟩, tupV_rep hr3 hn', h2⟩
  cases e <;> simp only [lft, retQc] at q
  · obtain ⟨Φ', H', st, s', q⟩ := q
    exact key Φ' H' st s' q
  · obtain ⟨_, _, _, _, q⟩ := q; exact q.elim
  · obtain ⟨Φ', H', st, s', q⟩ := q
    exact key Φ' H' st s' q
theorem retc_only {nt : Sh} {fn : Func} {k0 : Nat} {Q : V → List Ob → Prop} {sl : List (Nat × V)} {ob : List Ob} (ks : List Nat) (objs : List Ob) {p : Prop} {xs xs' : List V} (hr : vress T ⟨sl, ob⟩ fn.results.toList = some (p, xs)) (hp : p)
    (hn : ks.Nodup) (hh : hand ob (fOf ks ob.length) ks objs) (hk : pre k0 ks) (hs : slotsOK (vwAOK ob ks false) (argSlots 0 xs) (List.range xs.length)) (he : keepS ob ks (argSlots 0 xs) (List.range xs.length) = argSlots 0 xs')
    (hl : xs'.length = xs.length) (ht : xs'.length = 1 ∨ xs'.all V.notTup = true) (hq : Q (tupV xs') objs) : ∃ st', Gh nt ⟨sl, ob⟩ st' ∧ retQc T fn k0 Q .ret st' :=
  ⟨_, Gh.refl _ _, p, xs, hr, hp, xs', objs, hl, ht, Gh.to _ ks _ _ hn hh hk hs he, hq⟩
theorem normc_only {nt : Sh} {fn : Func} {k0 : Nat} {Q : V → List Ob → Prop} {sl : List (Nat × V)} {ob : List Ob} (ks : List Nat) (objs : List Ob) {p : Prop} {xs xs' : List V} (hr : vress T ⟨sl, ob⟩ fn.results.toList = some (p, xs)) (hp : p)
    (hn : ks.Nodup) (hh : hand ob (fOf ks ob.length) ks objs) (hk : pre k0 ks) (hs : slotsOK (vwAOK ob ks false) (argSlots 0 xs) (List.range xs.length)) (he : keepS ob ks (argSlots 0 xs) (List.range xs.length) = argSlots 0 xs')
    (hl : xs'.length = xs.length) (ht : xs'.length = 1 ∨ xs'.all V.notTup = true) (hq : Q (tupV xs') objs) : ∃ st', Gh nt ⟨sl, ob⟩ st' ∧ retQc T fn k0 Q .norm st' :=
  ⟨_, Gh.refl _ _, p, xs, hr, hp, xs', objs, hl, ht, Gh.to _ ks _ _ hn hh hk hs he, hq⟩
end
attribute [simp] vres vress tupV
@[simp] theorem range1 : List.range 1 = [0] := rfl
@[simp] theorem range2 : List.range 2 = [0, 1] := rfl
@[simp] theorem range3 : List.range 3 = [0, 1, 2] := rfl
@[simp] theorem range4 : List.range 4 = [0, 1, 2, 3] := rfl
end Go.VX
