/- What is handed to a callee, and what comes back. -/
import Derived.Test.YthjpaongoflgiaaVXCall
namespace Go.VX
open Go.RowKit
set_option linter.unusedVariables false
set_option linter.unusedSimpArgs false
set_option linter.unusedSectionVars false

/-! ### Back from one numbering to another -/
structure ExtI (f : Nat → Nat) (E E' : Env) : Prop where
  phi : ∀ b, E'.Φ b → E.Φ b
  w : E.w = E'.w
  n : ∀ i, f i < E'.N → i < E.N
  l : ∀ i, i < E.N → E.L i = E'.L (f i)
  hh : ∀ i, i < E.N → E.H i = E'.H (f i)

section
variable {f : Nat → Nat} {E E' : Env} (h : ExtI f E E')
include h

mutual
theorem VRep.noIdI : ∀ (x : V) (v : Value), x.noId = true → x.flat0 = true → VRep E' x v → VRep E x v
  | .junk, _, _, _, _ => by simp [VRep]
  | .bool b, v, _, _, hv => hv
  | .int k n, v, _, _, hv => hv
  | .str s, v, _, _, hv => hv
  | .nilp, v, _, _, hv => hv
  | .nils, v, _, _, hv => hv
  | .nilf, v, _, _, hv => hv
  | .nilm, v, _, _, hv => hv
  | .nili, v, _, _, hv => hv
  | .fp cs, v, _, _, ⟨b, o, us, h1, h2, h3, h4⟩ => ⟨b, o, us, h1, h.phi _ h2, by rw [h.w]; exact h3, VReps.noIdI cs _ h4⟩
  | .fs n cs, v, _, _, ⟨ad, cap, us, h1, h2, h3, h4⟩ => ⟨ad, cap, us, h1, h2, VReps.noIdI cs _ h3, fun hu => by
      obtain ⟨b, o, e, hp, hr⟩ := h4 hu
      exact ⟨b, o, e, h.phi _ hp, by rw [h.w]; exact hr⟩⟩
  | .agg cs, v, _, hf, _ => by simp [V.flat0] at hf
  | .tup cs, v, _, hf, _ => by simp [V.flat0] at hf
  | .ptr _ _ _, v, hn, _, _ => by simp [V.noId] at hn
  | .sl _ _ _ _ _, v, hn, _, _ => by simp [V.noId] at hn
  | .mp _, v, hn, _, _ => by simp [V.noId] at hn
  | .fn _ _, v, _, hf, _ => by simp [V.flat0] at hf
theorem VReps.noIdI : ∀ (xs : List V) (us : List Value), VReps .frz E' xs us → VReps .frz E xs us
  | [], us, hu => hu
  | c :: cs, us, ⟨u, r, h1, h0, h2, h3⟩ => ⟨u, r, h1, h0, by
      by_cases hf : c.flat0 = true
      · exact VRep.noIdI c u h0.2 hf h2
      · cases c <;> simp_all [V.flat0, okq, V.one, V.noId]
        rename_i k caps
        obtain ⟨a, e0, e1, e2⟩ := h2
        exact ⟨a, e0, e1, VReps.plainI caps _ h0 e2⟩, VReps.noIdI cs r h3⟩
theorem VReps.plainI : ∀ (xs : List V) (us : List Value), (∀ c ∈ xs, c.plain = true) → VReps .any E' xs us → VReps .any E xs us
  | [], us, _, hu => hu
  | c :: cs, us, hc, ⟨u, r, h1, h0, h2, h3⟩ => ⟨u, r, h1, trivial, VRep.noIdI c u (by have := hc c (by simp); cases c <;> simp_all [V.plain, V.noId]) (by have := hc c (by simp); cases c <;> simp_all [V.plain, V.flat0]) h2, VReps.plainI cs r (fun d hd => hc d (by simp [hd])) h3⟩
end

theorem VRep.rn0I (x : V) (v : Value) (hf : x.flat0 = true) (hv : VRep E' (VX.rn0 f x) v) : VRep E x v := by
  cases x with
  | ptr id tot off =>
    obtain ⟨h0, h1, h2⟩ := hv
    have hid := h.n id h1
    refine ⟨h0, hid, fun T hT => ?_⟩
    rw [h.l id hid] at hT
    obtain ⟨k1, k2⟩ := h2 T hT
    refine ⟨k1, fun e => ?_⟩
    obtain ⟨b, hb, hv⟩ := k2 e
    exact ⟨b, (h.hh id hid).trans hb, hv⟩
  | sl id tot esz off n =>
    obtain ⟨h0, h1, h2⟩ := hv
    have hid := h.n id h1
    refine ⟨h0, hid, fun T hT => ?_⟩
    rw [h.l id hid] at hT
    obtain ⟨k1, k2⟩ := h2 T hT
    refine ⟨k1, fun e => ?_⟩
    rw [h.hh id hid, h.w]
    exact k2 e
  | mp id =>
    obtain ⟨h0, h1, h2⟩ := hv
    have hid := h.n id h1
    refine ⟨h0, hid, fun hT => ?_⟩
    rw [h.l id hid] at hT
    obtain ⟨b, hb, hv⟩ := h2 hT
    exact ⟨b, (h.hh id hid).trans hb, hv⟩
  | fn k cs => simp [V.flat0] at hf
  | agg cs => simp [V.flat0] at hf
  | tup cs => simp [V.flat0] at hf
  | _ => exact VRep.noIdI h _ v rfl rfl hv

theorem VReps.mapI {g : V → V} {p : V → Bool} {q : Fl} (hg : ∀ x v, p x = true → VRep E' (g x) v → VRep E x v) (hq : ∀ x, okq q (g x) → okq q x) : ∀ (xs : List V) (us : List Value), xs.all p = true → VReps q E' (xs.map g) us → VReps q E xs us
  | [], us, _, hu => hu
  | c :: cs, us, ha, ⟨u, r, h1, h0, h2, h3⟩ => by
    simp only [List.all_cons, Bool.and_eq_true] at ha
    exact ⟨u, r, h1, hq c h0, hg c u ha.1 h2, VReps.mapI hg hq cs r ha.2 h3⟩
theorem VRep.rn1I (x : V) (v : Value) (hf : x.flat1 = true) (hv : VRep E' (VX.rn1 f x) v) : VRep E x v := by
  cases x with
  | fn k cs =>
    obtain ⟨a, e0, e1, e2⟩ := hv
    exact ⟨a, by simpa [Function.comp_def, flat0_rn0] using e0, e1, VReps.mapI (q := .any) h (fun x v hp hx => VRep.rn0I h x v hp hx) (fun _ _ => trivial) cs _ hf e2⟩
  | agg cs => simp [V.flat1] at hf
  | tup cs => simp [V.flat1] at hf
  | _ => exact VRep.rn0I h _ v rfl hv
theorem okq_rn1I {x : V} (hx : okq .cell (rn1 f x)) : okq .cell x := by
  cases x <;> simp_all [okq, rn1, rn0, V.one]
theorem VRep.rnAI (x : V) (v : Value) (hf : x.flatA = true) (hv : VRep E' (VX.rnA f x) v) : VRep E x v := by
  cases x with
  | agg cs =>
    obtain ⟨a, e1, e2⟩ := hv
    exact ⟨a, e1, VReps.mapI (q := .cell) h (fun x v hp hx => VRep.rn1I h x v hp hx) (fun _ ho => okq_rn1I h ho) cs _ hf e2⟩
  | tup cs => simp [V.flatA, V.flat1] at hf
  | fn k cs => exact VRep.rn1I h (.fn k cs) v hf hv
  | _ => exact VRep.rn1I h _ v rfl hv
end

theorem rnO_len (f : Nat → Nat) (o : Ob) : (rnO f o).len = o.len := by cases o <;> simp [rnO, Ob.len]
theorem rnO_mutb (f : Nat → Nat) (o : Ob) : (rnO f o).mutb = o.mutb := by cases o <;> rfl

theorem VReps.mapPI {f : Nat → Nat} {E E' : Env} (h : ExtI f E E') {g : V × V → V} : ∀ (es : List (V × V)) (us : List Value), (es.all fun e => (g e).flatA) = true → VReps .any E' (es.map fun e => rnA f (g e)) us → VReps .any E (es.map g) us
  | [], us, _, hu => hu
  | c :: cs, us, ha, ⟨u, r, h1, h0, h2, h3⟩ => by
    simp only [List.all_cons, Bool.and_eq_true] at ha
    exact ⟨u, r, h1, trivial, VRep.rnAI h _ u ha.1 h2, VReps.mapPI h cs r ha.2 h3⟩
theorem VReps.mapPR {f : Nat → Nat} {E E' : Env} (h : ExtR f E E') {g : V × V → V} : ∀ (es : List (V × V)) (us : List Value), (es.all fun e => (g e).flatA) = true → VReps .any E (es.map g) us → VReps .any E' (es.map fun e => rnA f (g e)) us
  | [], us, _, hu => hu
  | c :: cs, us, ha, ⟨u, r, h1, h0, h2, h3⟩ => by
    simp only [List.all_cons, Bool.and_eq_true] at ha
    exact ⟨u, r, h1, trivial, VRep.rnA h _ u ha.1 h2, VReps.mapPR h cs r ha.2 h3⟩

theorem ObRep.rnI {f : Nat → Nat} {E E' : Env} (h : ExtI f E E') {o : Ob} {x : Option Nat} (hf : o.flat = true) (hp : o.mutb = true → ∀ b, x = some b → ¬ E.Φ b) (k : ObRep E' x (rnO f o)) : ObRep E x o := by
  cases o with
  | live cs =>
    cases x with
    | none =>
      have k' : cs.map (rn1 f) = [] := k
      exact List.map_eq_nil_iff.1 k'
    | some b =>
      obtain ⟨c, el, h1, h2, h3, h4⟩ := k
      simp only [List.length_map] at h3 h4
      exact ⟨c, el, by rw [h.w]; exact h1, hp rfl b rfl, h3, VReps.mapI (q := .cell) h (fun x v hp hx => VRep.rn1I h x v hp hx) (fun _ ho => okq_rn1I h ho) cs _ hf h4⟩
  | frz cs =>
    cases x with
    | none => exact k
    | some b =>
      obtain ⟨h1, us, h2, h3⟩ := k
      exact ⟨h.phi b h1, us, by rw [h.w]; exact h2, VReps.noIdI h _ _ h3⟩
  | iter m s sn l =>
    obtain ⟨h0, b, r, e, h1, h2, h3⟩ := k
    exact ⟨hf, b, r, e, by rw [h.w]; exact h1, hp rfl b e, VRep.rn0I h m _ hf h3⟩
  | map es bs ck =>
    obtain ⟨h0, b, arr, e, h1, h2, h3, h4, h5⟩ := k
    have hf' : (es.all fun e => e.1.flatA) = true ∧ (es.all fun e => e.2.flatA) = true := by
      have := hf
      simp only [Ob.flat, List.all_eq_true, Bool.and_eq_true] at this ⊢
      exact ⟨fun x hx => (this x hx).1, fun x hx => (this x hx).2⟩
    simp only [List.map_map, Function.comp_def] at h3 h4
    exact ⟨by simpa [Function.comp_def, notTup_rnA] using h0, b, arr, e, by rw [h.w]; exact h1, hp rfl b e, VReps.mapPI h es _ hf'.1 h3, VReps.mapPI h es _ hf'.2 h4, h5⟩
  | dead => trivial

theorem ObRep.rnR {f : Nat → Nat} {E E' : Env} (h : ExtR f E E') (hw : E'.w = E.w) {o : Ob} {x : Option Nat} (hf : o.flat = true) (hp : o.mutb = true → ∀ b, x = some b → ¬ E'.Φ b) (k : ObRep E x o) : ObRep E' x (rnO f o) := by
  cases o with
  | live cs =>
    cases x with
    | none =>
      have k' : cs = [] := k
      subst k'
      rfl
    | some b =>
      obtain ⟨c, el, h1, h2, h3, h4⟩ := k
      refine ⟨c, el, by rw [hw]; exact h1, hp rfl b rfl, by simpa using h3, ?_⟩
      simp only [List.length_map]
      exact VReps.mapR (q := .cell) h (fun x v hp hx => VRep.rn1 h x v hp hx) (fun _ ho => okq_rn1 ho) cs _ hf h4
  | frz cs =>
    cases x with
    | none => exact k
    | some b =>
      obtain ⟨h1, us, h2, h3⟩ := k
      exact ⟨h.phi b h1, us, by rw [hw]; exact h2, VReps.noIdR h _ _ h3⟩
  | iter m s sn l =>
    obtain ⟨h0, b, r, e, h1, h2, h3⟩ := k
    exact ⟨by rw [flat0_rn0]; exact h0, b, r, e, by rw [hw]; exact h1, hp rfl b e, VRep.rn0 h m _ hf h3⟩
  | map es bs ck =>
    obtain ⟨h0, b, arr, e, h1, h2, h3, h4, h5⟩ := k
    have hf' : (es.all fun e => e.1.flatA) = true ∧ (es.all fun e => e.2.flatA) = true := by
      have := hf
      simp only [Ob.flat, List.all_eq_true, Bool.and_eq_true] at this ⊢
      exact ⟨fun x hx => (this x hx).1, fun x hx => (this x hx).2⟩
    refine ⟨by simpa [Function.comp_def, notTup_rnA] using h0, b, arr, e, by rw [hw]; exact h1, hp rfl b e, ?_, ?_, h5⟩
    · simp only [List.map_map, Function.comp_def]; exact VReps.mapPR h es _ hf'.1 h3
    · simp only [List.map_map, Function.comp_def]; exact VReps.mapPR h es _ hf'.2 h4
  | dead => trivial

/-! ### A callee's view of a value -/
def vw0 (ob : List Ob) (ρ : List Nat) (bo : Bool) : V → V
  | .ptr id tot off => match ρ.idxOf? id with
    | some j => .ptr j tot off
    | none => match ob[id]? with
      | some (.frz cs) => .fp (cs.drop off)
      | some (.live cs) => if bo then .fp (cs.drop off) else .junk
      | _ => .junk
  | .sl id tot esz off n => match ρ.idxOf? id with
    | some j => .sl j tot esz off n
    | none => match ob[id]? with
      | some (.frz cs) => .fs n ((cs.drop off).take (n * esz))
      | some (.live cs) => if bo then .fs n ((cs.drop off).take (n * esz)) else .junk
      | _ => .junk
  | .mp id => match ρ.idxOf? id with
    | some j => .mp j
    | none => .junk
  | x => x
def vw0OK (ob : List Ob) (ρ : List Nat) (bo : Bool) : V → Prop
  | .ptr id tot off => match ρ.idxOf? id with
    | some _ => True
    | none => match ob[id]? with
      | some (.frz cs) => cs.length = tot
      | some (.live cs) => bo = true ∧ cs.length = tot ∧ ∀ c ∈ cs, c.noId = true
      | _ => False
  | .sl id tot _ _ _ => match ρ.idxOf? id with
    | some _ => True
    | none => match ob[id]? with
      | some (.frz cs) => cs.length = tot
      | some (.live cs) => bo = true ∧ cs.length = tot ∧ ∀ c ∈ cs, c.noId = true
      | _ => False
  | .mp id => match ρ.idxOf? id with
    | some _ => True
    | none => False
  | .fn _ _ | .agg _ | .tup _ => False
  | _ => True
def vw1 (ob : List Ob) (ρ : List Nat) (bo : Bool) : V → V
  | .fn k cs => .fn k (cs.map (vw0 ob ρ bo))
  | x => vw0 ob ρ bo x
def vw1OK (ob : List Ob) (ρ : List Nat) (bo : Bool) : V → Prop
  | .fn _ cs => ∀ c ∈ cs, vw0OK ob ρ bo c
  | x => vw0OK ob ρ bo x
def vwA (ob : List Ob) (ρ : List Nat) (bo : Bool) : V → V
  | .agg cs => .agg (cs.map (vw1 ob ρ bo))
  | x => vw1 ob ρ bo x
def vwAOK (ob : List Ob) (ρ : List Nat) (bo : Bool) : V → Prop
  | .agg cs => ∀ c ∈ cs, vw1OK ob ρ bo c
  | x => vw1OK ob ρ bo x

/-- From the callee's numbers to the caller's. -/
def fOf (ρ : List Nat) (base : Nat) (j : Nat) : Nat := if j < ρ.length then ρ.getD j 0 else base + (j - ρ.length)

/-- What the callee may take for frozen. -/
def phiC (Φ : Nat → Prop) (H : Nat → Option Nat) (ob : List Ob) (ρ : List Nat) (bo : Bool) : Nat → Prop :=
  fun x => Φ x ∨ (bo = true ∧ ∃ i o, ob[i]? = some o ∧ o.mutb = true ∧ i ∉ ρ ∧ H i = some x)
def hC (H : Nat → Option Nat) (ρ : List Nat) : Nat → Option Nat := fun j => if j < ρ.length then H (ρ.getD j 0) else none

section
variable {Φ : Nat → Prop} {H : Nat → Option Nat} {ob objs : List Ob} {w : World} {ρ : List Nat} {bo : Bool}

theorem idxOf?_some {l : List Nat} {a j : Nat} (h : l.idxOf? a = some j) : l[j]? = some a ∧ j < l.length := by
  rw [List.idxOf?, List.findIdx?_eq_some_iff_getElem] at h
  obtain ⟨h1, h2, _⟩ := h
  exact ⟨by rw [List.getElem?_eq_getElem h1]; simp at h2; rw [h2], h1⟩

/-- The callee's world: the caller's, less. -/
structure Passed (Φ : Nat → Prop) (H : Nat → Option Nat) (ob : List Ob) (w : World) (ρ : List Nat) (bo : Bool) (objs : List Ob) : Prop where
  sim : HSim Φ H ob w
  nodup : ρ.Nodup
  len : objs.length = ρ.length
  obj : ∀ (j : Nat) (i : Nat), ρ[j]? = some i → ∃ o, objs[j]? = some o ∧ o.flat = true ∧ ob[i]? = some (rnO (fOf ρ ob.length) o)

theorem Passed.extI (h : Passed Φ H ob w ρ bo objs) : ExtI (fOf ρ ob.length) (mkE (phiC Φ H ob ρ bo) (hC H ρ) objs w) (mkE Φ H ob w) := by
  have key : ∀ i, i < objs.length → ∃ k, ρ[i]? = some k ∧ fOf ρ ob.length i = k ∧ hC H ρ i = H k := by
    intro i hi
    have hi' : i < ρ.length := by rw [← h.len]; exact hi
    exact ⟨ρ[i], List.getElem?_eq_getElem hi', by simp [fOf, hi', List.getD_eq_getElem?_getD, List.getElem?_eq_getElem hi'], by simp [hC, hi', List.getD_eq_getElem?_getD, List.getElem?_eq_getElem hi']⟩
  refine ⟨fun b hb => .inl hb, rfl, fun i hi => ?_, fun i hi => ?_, fun i hi => ?_⟩
  · simp only [mkE, fOf] at hi ⊢
    rw [h.len]
    split at hi
    · assumption
    · omega
  · obtain ⟨k, h1, h2, h3⟩ := key i hi
    obtain ⟨o, g1, g2, g3⟩ := h.obj i k h1
    simp only [mkE, Lof, h2, g1, g3, Option.bind_some, rnO_len]
  · obtain ⟨k, h1, h2, h3⟩ := key i hi
    simp only [mkE, h2, h3]

theorem Passed.hsim (h : Passed Φ H ob w ρ bo objs) : HSim (phiC Φ H ob ρ bo) (hC H ρ) objs w := by
  have hE := h.extI
  refine ⟨fun b hb => ?_, fun j o hj => ?_, fun i j o o' b hi hj m1 m2 e1 e2 => ?_⟩
  · rcases hb with hb | ⟨_, i, o, h1, h2, _, h3⟩
    · exact h.sim.phi b hb
    · exact (h.sim.mutb h1 h2 h3).1
  · have hjl : j < ρ.length := by rw [← h.len]; exact (List.getElem?_eq_some_iff.1 hj).1
    obtain ⟨o', g1, g2, g3⟩ := h.obj j ρ[j] (List.getElem?_eq_getElem hjl)
    obtain rfl : o = o' := by rw [hj] at g1; exact Option.some.inj g1
    have hr := h.sim.rep _ _ g3
    have hHj : hC H ρ j = H ρ[j] := by simp [hC, hjl, List.getD_eq_getElem?_getD, List.getElem?_eq_getElem hjl]
    rw [← hHj] at hr
    refine ObRep.rnI hE g2 (fun hm b hb => ?_) hr
    rw [hHj] at hb
    have hq := h.sim.mutb g3 (by rw [rnO_mutb]; exact hm) hb
    rintro (hp | ⟨_, i, o2, h1, h2, h3, h4⟩)
    · exact hq.2 hp
    · have := h.sim.inj i ρ[j] o2 _ b h1 g3 h2 (by rw [rnO_mutb]; exact hm) h4 hb
      exact h3 (this ▸ List.getElem_mem hjl)
  · have hil : i < ρ.length := by rw [← h.len]; exact (List.getElem?_eq_some_iff.1 hi).1
    have hjl : j < ρ.length := by rw [← h.len]; exact (List.getElem?_eq_some_iff.1 hj).1
    obtain ⟨o1, g1, g2, g3⟩ := h.obj i ρ[i] (List.getElem?_eq_getElem hil)
    obtain ⟨o2, k1, k2, k3⟩ := h.obj j ρ[j] (List.getElem?_eq_getElem hjl)
    obtain rfl : o = o1 := by rw [hi] at g1; exact Option.some.inj g1
    obtain rfl : o' = o2 := by rw [hj] at k1; exact Option.some.inj k1
    simp only [hC, hil, hjl, if_true, List.getD_eq_getElem?_getD, List.getElem?_eq_getElem hil, List.getElem?_eq_getElem hjl, Option.getD_some] at e1 e2
    have := h.sim.inj _ _ _ _ b g3 k3 (by rw [rnO_mutb]; exact m1) (by rw [rnO_mutb]; exact m2) e1 e2
    exact (List.getElem_inj h.nodup).1 this

theorem vw0_sound (h : Passed Φ H ob w ρ bo objs) {x : V} {v : Value} (hx : VRep (mkE Φ H ob w) x v) (ho : vw0OK ob ρ bo x) : VRep (mkE (phiC Φ H ob ρ bo) (hC H ρ) objs w) (vw0 ob ρ bo x) v := by
  have hE := h.extI
  have hf : ∀ {id j : Nat}, ρ.idxOf? id = some j → fOf ρ ob.length j = id := by
    intro id j hj
    obtain ⟨h1, h2⟩ := idxOf?_some hj
    simp only [fOf, if_pos h2, List.getD_eq_getElem?_getD, h1]; rfl
  cases x with
  | ptr id tot off =>
    simp only [vw0, vw0OK] at ho ⊢
    cases hi : ρ.idxOf? id with
    | some j =>
      simp only [hi]
      refine VRep.rn0I hE (.ptr j tot off) v rfl ?_
      simp only [rn0, hf hi]; exact hx
    | none =>
      simp only [hi] at ho ⊢
      obtain ⟨k0, k1, k2⟩ := hx
      cases hob : ob[id]? with
      | none => simp [hob] at ho
      | some o =>
        have hr := h.sim.rep id o hob
        cases o with
        | frz cs =>
          simp only [hob] at ho ⊢
          obtain ⟨_, q⟩ := k2 cs.length (by simp [mkE, Lof, hob, Ob.len])
          obtain ⟨b, hb, rfl⟩ := q ho.symm
          have hb' : H id = some b := hb
          rw [hb'] at hr
          obtain ⟨r1, us, r2, r3⟩ := hr
          exact ⟨b, off, us.drop off, rfl, .inl r1, by have := reads_drop off r2; rwa [Nat.zero_add] at this, VReps.noIdI hE _ _ (r3.drop off)⟩
        | live cs =>
          simp only [hob] at ho ⊢
          obtain ⟨rfl, hl, hn⟩ := ho
          obtain ⟨_, q⟩ := k2 cs.length (by simp [mkE, Lof, hob, Ob.len])
          obtain ⟨b, hb, rfl⟩ := q hl.symm
          have hb' : H id = some b := hb
          rw [hb'] at hr
          obtain ⟨c, el, r1, r2, r3, r4⟩ := hr
          have hnm : id ∉ ρ := by
            intro hm
            have := List.isSome_idxOf? (l := ρ) (a := id)
            simp [hi, hm] at this
          simp only [if_true]
          exact ⟨b, off, (c.toList.take cs.length).drop off, rfl, .inr ⟨rfl, id, _, hob, rfl, hnm, hb'⟩, reads_row r1 _ _, (VReps.noIdI hE _ _ (r4.toFrz hn)).drop off⟩
        | map es bs ck => simp [hob] at ho
        | iter m s sn l => simp [hob] at ho
        | dead => simp [hob] at ho
  | sl id tot esz off n =>
    simp only [vw0, vw0OK] at ho ⊢
    cases hi : ρ.idxOf? id with
    | some j =>
      simp only [hi]
      refine VRep.rn0I hE (.sl j tot esz off n) v rfl ?_
      simp only [rn0, hf hi]; exact hx
    | none =>
      simp only [hi] at ho ⊢
      obtain ⟨k0, k1, k2⟩ := hx
      cases hob : ob[id]? with
      | none => simp [hob] at ho
      | some o =>
        have hr := h.sim.rep id o hob
        cases o with
        | frz cs =>
          simp only [hob] at ho ⊢
          obtain ⟨_, q⟩ := k2 cs.length (by simp [mkE, Lof, hob, Ob.len])
          have hsl := q ho.symm
          simp only [mkE] at hsl
          cases hH : H id with
          | none =>
            rw [hH] at hsl hr
            obtain ⟨_, rfl, rfl, rfl⟩ := hsl
            simp only [ObRep] at hr
            subst hr
            exact ⟨none, 0, [], rfl, Nat.le_refl _, by simp [VReps], by simp⟩
          | some b =>
            rw [hH] at hsl hr
            obtain ⟨cap, rfl, e2, e3, e4⟩ := hsl
            obtain ⟨r1, us, r2, r3⟩ := hr
            exact ⟨_, cap, (us.drop off).take (n * esz), rfl, e2, ((VReps.noIdI hE _ _ r3).drop off).take _, fun _ => ⟨b, off, rfl, .inl r1, reads_take _ (by have := reads_drop off r2; rwa [Nat.zero_add] at this)⟩⟩
        | live cs =>
          simp only [hob] at ho ⊢
          obtain ⟨rfl, hl, hn⟩ := ho
          obtain ⟨_, q⟩ := k2 cs.length (by simp [mkE, Lof, hob, Ob.len])
          have hsl := q hl.symm
          simp only [mkE] at hsl
          have hnm : id ∉ ρ := by
            intro hm
            have := List.isSome_idxOf? (l := ρ) (a := id)
            simp [hi, hm] at this
          simp only [if_true]
          cases hH : H id with
          | none =>
            rw [hH] at hsl hr
            obtain ⟨_, rfl, rfl, rfl⟩ := hsl
            simp only [ObRep] at hr
            subst hr
            exact ⟨none, 0, [], rfl, Nat.le_refl _, by simp [VReps], by simp⟩
          | some b =>
            rw [hH] at hsl hr
            obtain ⟨cap, rfl, e2, e3, e4⟩ := hsl
            obtain ⟨c, el, r1, r2, r3, r4⟩ := hr
            exact ⟨_, cap, ((c.toList.take cs.length).drop off).take (n * esz), rfl, e2, ((VReps.noIdI hE _ _ (r4.toFrz hn)).drop off).take _, fun _ => ⟨b, off, rfl, .inr ⟨rfl, id, _, hob, rfl, hnm, hH⟩, reads_take _ (reads_row r1 _ _)⟩⟩
        | map es bs ck => simp [hob] at ho
        | iter m s sn l => simp [hob] at ho
        | dead => simp [hob] at ho
  | mp id =>
    simp only [vw0, vw0OK] at ho ⊢
    cases hi : ρ.idxOf? id with
    | some j =>
      simp only [hi]
      refine VRep.rn0I hE (.mp j) v rfl ?_
      simp only [rn0, hf hi]; exact hx
    | none => simp [hi] at ho
  | fn k cs => exact ho.elim
  | agg cs => exact ho.elim
  | tup cs => exact ho.elim
  | _ => exact VRep.noIdI hE _ v rfl rfl hx

theorem VReps.mapW {E E' : Env} {g : V → V} {p : V → Prop} {q q' : Fl} : ∀ (xs : List V) (us : List Value), (∀ x ∈ xs, ∀ v, p x → VRep E x v → VRep E' (g x) v) → (∀ x ∈ xs, p x → okq q x → okq q' (g x)) → (∀ c ∈ xs, p c) → VReps q E xs us → VReps q' E' (xs.map g) us
  | [], us, _, _, _, hu => hu
  | c :: cs, us, hg, hq, ha, ⟨u, r, h1, h0, h2, h3⟩ =>
    ⟨u, r, h1, hq c (by simp) (ha c (by simp)) h0, hg c (by simp) u (ha c (by simp)) h2, VReps.mapW cs r (fun x hx => hg x (by simp [hx])) (fun x hx => hq x (by simp [hx])) (fun x hx => ha x (by simp [hx])) h3⟩

theorem okq_vw0 {x : V} (ho : vw0OK ob ρ bo x) (h : okq .cell x) : okq .cell (vw0 ob ρ bo x) := by
  cases x <;> simp_all [okq, V.one, vw0, vw0OK]
  all_goals
    (repeat' split at ho) <;> simp_all [V.one]
theorem flat0_vw0 {x : V} (ho : vw0OK ob ρ bo x) (h : x.flat0 = true) : (vw0 ob ρ bo x).flat0 = true := by
  cases x <;> simp_all [V.flat0, vw0, vw0OK]
  all_goals
    (repeat' split at ho) <;> simp_all [V.flat0]
theorem vw1_sound (h : Passed Φ H ob w ρ bo objs) {x : V} {v : Value} (hx : VRep (mkE Φ H ob w) x v) (ho : vw1OK ob ρ bo x) : VRep (mkE (phiC Φ H ob ρ bo) (hC H ρ) objs w) (vw1 ob ρ bo x) v := by
  cases x with
  | fn k cs =>
    obtain ⟨a, e0, e1, e2⟩ := hx
    exact ⟨a, by
      simp only [List.all_map, List.all_eq_true, Function.comp_apply] at e0 ⊢
      exact fun c hc => flat0_vw0 (ho c hc) (e0 c hc), e1, VReps.mapW (q := .any) (q' := .any) cs _ (fun x _ v hp hx => vw0_sound h hx hp) (fun _ _ _ _ => trivial) ho e2⟩
  | _ => exact vw0_sound h hx ho
theorem okq_vw1 {x : V} (ho : vw1OK ob ρ bo x) (h : okq .cell x) : okq .cell (vw1 ob ρ bo x) := by
  cases x with
  | fn k cs => rfl
  | _ => exact (fun q => okq_vw0 (ob := ob) (ρ := ρ) (bo := bo) q h) ho
theorem vwA_sound (h : Passed Φ H ob w ρ bo objs) {x : V} {v : Value} (hx : VRep (mkE Φ H ob w) x v) (ho : vwAOK ob ρ bo x) : VRep (mkE (phiC Φ H ob ρ bo) (hC H ρ) objs w) (vwA ob ρ bo x) v := by
  cases x with
  | agg cs =>
    obtain ⟨a, e1, e2⟩ := hx
    exact ⟨a, e1, VReps.mapW (q := .cell) (q' := .cell) cs _ (fun x _ v hp hx => vw1_sound h hx hp) (fun x _ hp hq => okq_vw1 hp hq) ho e2⟩
  | _ => exact vw1_sound h hx ho
end
end Go.VX
