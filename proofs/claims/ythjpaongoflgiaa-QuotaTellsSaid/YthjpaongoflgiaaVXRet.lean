/- Behind a call. -/
import Derived.Test.YthjpaongoflgiaaVXPass
namespace Go.VX
open Go.RowKit
set_option linter.unusedVariables false
set_option linter.unusedSimpArgs false
set_option linter.unusedSectionVars false

theorem flat0_eq_rn0 (f : Nat → Nat) (x : V) : (rn0 f x).flat0 = x.flat0 := flat0_rn0 f x
theorem flat1_rn1 (f : Nat → Nat) (x : V) : (rn1 f x).flat1 = x.flat1 := by
  cases x with
  | fn k cs => simp only [rn1, V.flat1, List.all_map, Function.comp_def, flat0_rn0]
  | _ => rfl
theorem flatA_rnA (f : Nat → Nat) (x : V) : (rnA f x).flatA = x.flatA := by
  cases x with
  | agg cs => simp [rnA, V.flatA, List.all_map, Function.comp_def, flat1_rn1]
  | fn k cs => exact flat1_rn1 f (.fn k cs)
  | _ => rfl
theorem flat_rnO (f : Nat → Nat) (o : Ob) : (rnO f o).flat = o.flat := by
  cases o <;> simp [rnO, Ob.flat, List.all_map, Function.comp_def, flat1_rn1, flatA_rnA, flat0_rn0]

/-! ### Values without frozen memory -/
def V.nofz0 : V → Bool
  | .fp _ | .fs _ _ | .fn _ _ | .agg _ | .tup _ => false
  | _ => true
def V.nofz1 : V → Bool
  | .fn _ cs => cs.all V.nofz0
  | x => x.nofz0
def V.nofzA : V → Bool
  | .agg cs => cs.all V.nofz1
  | x => x.nofz1
def V.nofz : V → Bool
  | .tup cs => cs.all V.nofzA
  | x => x.nofzA
def Ob.nofz : Ob → Bool
  | .live cs => cs.all V.nofz1
  | .map es _ _ => es.all fun e => e.1.nofzA && e.2.nofzA
  | .iter m _ _ _ => m.nofz0
  | .frz _ => false
  | .dead => true

section
variable {E : Env} {Φ' : Nat → Prop}

theorem VRep.nofz0 {x : V} {v : Value} (hn : x.nofz0 = true) (h : VRep E x v) : VRep { E with Φ := Φ' } x v := by
  cases x <;> simp [V.nofz0] at hn <;> exact h
theorem VReps.mapN {p : V → Bool} {q : Fl} (hp : ∀ x v, p x = true → VRep E x v → VRep { E with Φ := Φ' } x v) : ∀ {xs : List V} {us : List Value}, xs.all p = true → VReps q E xs us → VReps q { E with Φ := Φ' } xs us
  | [], us, _, hu => hu
  | c :: cs, us, ha, ⟨u, r, h1, h0, h2, h3⟩ => by
    simp only [List.all_cons, Bool.and_eq_true] at ha
    exact ⟨u, r, h1, h0, hp c u ha.1 h2, VReps.mapN hp ha.2 h3⟩
theorem VRep.nofz1 {x : V} {v : Value} (hn : x.nofz1 = true) (h : VRep E x v) : VRep { E with Φ := Φ' } x v := by
  cases x with
  | fn k cs => obtain ⟨a, e0, e1, e2⟩ := h; exact ⟨a, e0, e1, VReps.mapN (fun x v hp hx => VRep.nofz0 hp hx) hn e2⟩
  | _ => exact VRep.nofz0 hn h
theorem VRep.nofzA {x : V} {v : Value} (hn : x.nofzA = true) (h : VRep E x v) : VRep { E with Φ := Φ' } x v := by
  cases x with
  | agg cs => obtain ⟨a, e1, e2⟩ := h; exact ⟨a, e1, VReps.mapN (fun x v hp hx => VRep.nofz1 hp hx) hn e2⟩
  | _ => exact VRep.nofz1 hn h
theorem VRep.nofz {x : V} {v : Value} (hn : x.nofz = true) (h : VRep E x v) : VRep { E with Φ := Φ' } x v := by
  cases x with
  | tup cs => obtain ⟨a, e0, e1, e2⟩ := h; exact ⟨a, e0, e1, VReps.mapN (fun x v hp hx => VRep.nofzA hp hx) hn e2⟩
  | _ => exact VRep.nofzA hn h
theorem ObRep.nofz {o : Ob} {x : Option Nat} (hn : o.nofz = true) (hf : o.mutb = true → ∀ b, x = some b → ¬ Φ' b) (h : ObRep E x o) : ObRep { E with Φ := Φ' } x o := by
  cases o with
  | live cs =>
    cases x with
    | none => exact h
    | some b => obtain ⟨c, el, h1, h2, h3, h4⟩ := h; exact ⟨c, el, h1, hf rfl b rfl, h3, VReps.mapN (fun x v hp hx => VRep.nofz1 hp hx) hn h4⟩
  | frz cs => simp [Ob.nofz] at hn
  | iter m s sn l =>
    obtain ⟨h0, b, r, e, h1, h2, h3⟩ := h
    exact ⟨h0, b, r, e, h1, hf rfl b e, VRep.nofz0 hn h3⟩
  | map es bs ck =>
    obtain ⟨h0, b, arr, e, h1, h2, h3, h4, h5⟩ := h
    have hn' : (es.map (·.1)).all V.nofzA = true ∧ (es.map (·.2)).all V.nofzA = true := by
      simp only [Ob.nofz, List.all_eq_true, Bool.and_eq_true] at hn
      simp only [List.all_map, List.all_eq_true]
      exact ⟨fun e he => (hn e he).1, fun e he => (hn e he).2⟩
    exact ⟨h0, b, arr, e, h1, hf rfl b e, VReps.mapN (fun x v hp hx => VRep.nofzA hp hx) hn'.1 h3, VReps.mapN (fun x v hp hx => VRep.nofzA hp hx) hn'.2 h4, h5⟩
  | dead => trivial
end

/-! ### The caller's objects, behind the call -/
def setAll : List Ob → List Nat → List Ob → List Ob
  | ob, i :: ρ, o :: os => setAll (ob.set i o) ρ os
  | ob, _, _ => ob
def back (ob : List Ob) (ρ : List Nat) (ob' : List Ob) : List Ob :=
  setAll ob ρ (ob'.map (rnO (fOf ρ ob.length))) ++ (ob'.drop ρ.length).map (rnO (fOf ρ ob.length))

theorem setAll_length : ∀ (ob : List Ob) (ρ : List Nat) (os : List Ob), (setAll ob ρ os).length = ob.length
  | ob, [], os => by simp [setAll]
  | ob, i :: ρ, [] => by simp [setAll]
  | ob, i :: ρ, o :: os => by simp [setAll, setAll_length]
theorem setAll_other : ∀ (ob : List Ob) (ρ : List Nat) (os : List Ob) (i : Nat), i ∉ ρ → (setAll ob ρ os)[i]? = ob[i]?
  | ob, [], os, i, _ => by simp [setAll]
  | ob, k :: ρ, [], i, _ => by simp [setAll]
  | ob, k :: ρ, o :: os, i, h => by
    simp only [List.mem_cons, not_or] at h
    simp only [setAll]
    rw [setAll_other _ ρ os i h.2, List.getElem?_set_ne (by omega)]
theorem setAll_at : ∀ (ob : List Ob) (ρ : List Nat) (os : List Ob) (j i : Nat), ρ.Nodup → ρ.length ≤ os.length → i < ob.length → ρ[j]? = some i → (setAll ob ρ os)[i]? = os[j]?
  | ob, [], os, j, i, _, _, _, h => by simp at h
  | ob, k :: ρ, [], j, i, _, hl, _, _ => by simp at hl
  | ob, k :: ρ, o :: os, j, i, hn, hl, hi, h => by
    obtain ⟨hk, hn⟩ := List.nodup_cons.1 hn
    simp only [setAll]
    cases j with
    | zero =>
      simp at h; subst h
      rw [setAll_other _ ρ os k hk]
      simp [hi]
    | succ j =>
      simp at h
      rw [setAll_at _ ρ os j i hn (by simpa using hl) (by simpa using hi) h]
      simp

/-- From the caller's numbers to the callee's. -/
def gOf (ρ : List Nat) (base i : Nat) : Option Nat := if i < base then ρ.idxOf? i else some (ρ.length + (i - base))

theorem gOf_f {ρ : List Nat} {base i j : Nat} (h : gOf ρ base i = some j) : fOf ρ base j = i := by
  unfold gOf at h
  split at h
  · obtain ⟨h1, h2⟩ := idxOf?_some h
    simp only [fOf, if_pos h2, List.getD_eq_getElem?_getD, h1]; rfl
  · simp only [Option.some.injEq] at h
    simp only [fOf]
    rw [if_neg (by omega)]
    omega
theorem idxOf?_of_nodup {ρ : List Nat} (hn : ρ.Nodup) {i j : Nat} (h : ρ[j]? = some i) : ρ.idxOf? i = some j := by
  cases q : ρ.idxOf? i with
  | none =>
    have := List.isSome_idxOf? (l := ρ) (a := i)
    simp [q] at this
    exact absurd (List.mem_of_getElem? h) this
  | some k =>
    obtain ⟨h1, h2⟩ := idxOf?_some q
    obtain ⟨h3, h4⟩ := List.getElem?_eq_some_iff.1 h
    rw [List.getElem?_eq_getElem h2] at h1
    have h5 : ρ[k] = ρ[j] := (Option.some.inj h1).trans h4.symm
    exact congrArg some ((List.getElem_inj hn).1 h5)
theorem f_gOf {ρ : List Nat} {base j : Nat} (hn : ρ.Nodup) (hb : ∀ i ∈ ρ, i < base) : gOf ρ base (fOf ρ base j) = some j := by
  unfold fOf gOf
  split
  · rename_i hj
    have h1 : ρ[j]? = some ρ[j] := List.getElem?_eq_getElem hj
    simp only [List.getD_eq_getElem?_getD, h1, Option.getD_some]
    rw [if_pos (hb _ (List.getElem_mem hj))]
    exact idxOf?_of_nodup hn h1
  · rw [if_neg (by omega)]
    congr 1
    omega

def hBack (H H' : Nat → Option Nat) (ρ : List Nat) (base : Nat) : Nat → Option Nat := fun i => match gOf ρ base i with
  | some j => H' j
  | none => H i

theorem back_get {ob ob' : List Ob} {ρ : List Nat} (hn : ρ.Nodup) (hb : ∀ i ∈ ρ, i < ob.length) (hl : ρ.length ≤ ob'.length) (i : Nat) :
    (back ob ρ ob')[i]? = match gOf ρ ob.length i with
      | some j => (ob'[j]?).map (rnO (fOf ρ ob.length))
      | none => ob[i]? := by
  unfold back gOf
  by_cases hi : i < ob.length
  · rw [if_pos hi, List.getElem?_append_left (by rw [setAll_length]; exact hi)]
    cases q : ρ.idxOf? i with
    | none =>
      have hm : i ∉ ρ := by
        intro hm
        have := List.isSome_idxOf? (l := ρ) (a := i)
        simp [q, hm] at this
      simp only [setAll_other _ _ _ _ hm]
    | some j =>
      obtain ⟨h1, h2⟩ := idxOf?_some q
      rw [setAll_at ob ρ _ j i hn (by simpa using hl) hi h1, List.getElem?_map]
  · rw [if_neg hi, List.getElem?_append_right (by rw [setAll_length]; omega), setAll_length]
    simp

theorem back_length {ob ob' : List Ob} {ρ : List Nat} : (back ob ρ ob').length = ob.length + (ob'.length - ρ.length) := by
  simp [back, setAll_length]

section
variable {Φ Φ' : Nat → Prop} {H H' : Nat → Option Nat} {ob objs ob' : List Ob} {w w' : World} {ρ : List Nat} {bo : Bool} {nt : Sh}

/-- What is behind the call, as the caller has it. -/
theorem call_step (h : Passed Φ H ob w ρ bo objs) (k : HS (ctx (phiC Φ H ob ρ bo) (hC H ρ) objs w nt) Φ' H' ob' w') (hnf : bo = true → ∀ o ∈ ob', o.nofz = true) :
    ∃ Φ2, HStep Φ H ob w Φ2 (hBack H H' ρ ob.length) (back ob ρ ob') w' ∧
      ∀ r v, (bo = true → r.nofz = true) → VRep (mkE Φ' H' ob' w') r v → VRep (mkE Φ2 (hBack H H' ρ ob.length) (back ob ρ ob') w') (rnV (fOf ρ ob.length) r) v := by
  have hρ : ∀ i ∈ ρ, i < ob.length := by
    intro i hi
    obtain ⟨j, hj, e⟩ := List.getElem_of_mem hi
    obtain ⟨o, _, _, g3⟩ := h.obj j i (by rw [List.getElem?_eq_getElem hj, e])
    exact (List.getElem?_eq_some_iff.1 g3).1
  have hl : ρ.length ≤ ob'.length := by
    have := k.ext.n
    simp only [ctx, mkE] at this
    rw [← h.len]; exact this
  have hget := back_get (ob' := ob') h.nodup hρ hl
  have hEI := h.extI
  -- frozen for the callee alone
  let bor : Nat → Prop := fun x => bo = true ∧ ∃ i o, ob[i]? = some o ∧ o.mutb = true ∧ i ∉ ρ ∧ H i = some x
  let Φ2 : Nat → Prop := fun x => Φ' x ∧ ¬ bor x
  have hΦ : ∀ x, Φ x → Φ' x ∧ ¬ bor x := by
    intro x hx
    refine ⟨k.ext.phi x (.inl hx), ?_⟩
    rintro ⟨_, i, o, h1, h2, _, h3⟩
    exact (h.sim.mutb h1 h2 h3).2 hx
  have hnew : ∀ x, w.heap.size ≤ x → ¬ bor x := by
    rintro x hx ⟨_, i, o, h1, h2, _, h3⟩
    have := (h.sim.mutb h1 h2 h3).1
    omega
  -- whose blocks the callee had
  have hown : ∀ b, ownOf objs (hC H ρ) b → ∃ (j i : Nat) (o : Ob), ρ[j]? = some i ∧ ob[i]? = some o ∧ o.mutb = true ∧ H i = some b := by
    rintro b ⟨j, o, h1, h2, h3⟩
    have hj : j < ρ.length := by rw [← h.len]; exact (List.getElem?_eq_some_iff.1 h1).1
    obtain ⟨o', g1, g2, g3⟩ := h.obj j ρ[j] (List.getElem?_eq_getElem hj)
    obtain rfl : o = o' := by rw [h1] at g1; exact Option.some.inj g1
    refine ⟨j, ρ[j], _, List.getElem?_eq_getElem hj, g3, by rw [rnO_mutb]; exact h2, ?_⟩
    simpa [hC, hj, List.getD_eq_getElem?_getD, List.getElem?_eq_getElem hj] using h3
  have hE : ∀ (i j : Nat), gOf ρ ob.length i = some j → j < ρ.length → i < ob.length ∧ ρ[j]? = some i := by
    intro i j hg hj
    have hf := gOf_f hg
    simp only [fOf, if_pos hj, List.getD_eq_getElem?_getD, List.getElem?_eq_getElem hj, Option.getD_some] at hf
    subst hf
    exact ⟨hρ _ (List.getElem_mem hj), List.getElem?_eq_getElem hj⟩
  have hkept : ∀ b, b < w.heap.size → (∀ i o, ob[i]? = some o → o.mutb = true → H i ≠ some b) → w'.heap[b]? = w.heap[b]? := by
    intro b hb hn
    refine k.kept b hb fun ho => ?_
    obtain ⟨j, i, o, _, h2, h3, h4⟩ := hown b ho
    exact hn i o h2 h3 h4
  have hkeptU : ∀ (i : Nat) (o : Ob) (b : Nat), ob[i]? = some o → o.mutb = true → i ∉ ρ → H i = some b → w'.heap[b]? = w.heap[b]? := by
    intro i o b h1 h2 h3 h4
    refine k.kept b (h.sim.mutb h1 h2 h4).1 fun ho => ?_
    obtain ⟨j, i', o', g1, g2, g3, g4⟩ := hown b ho
    have := h.sim.inj i i' o o' b h1 g2 h2 g3 h4 g4
    exact h3 (this ▸ List.mem_of_getElem? g1)
  have hkeptF : ∀ b, Φ b → w'.heap[b]? = w.heap[b]? := fun b hb => hkept b (h.sim.phi b hb) fun i o h1 h2 h3 => (h.sim.mutb h1 h2 h3).2 hb
  have hnone : ∀ i, gOf ρ ob.length i = none → i < ob.length ∧ i ∉ ρ := by
    intro i hg
    unfold gOf at hg
    split at hg
    · rename_i hi
      refine ⟨hi, fun hm => ?_⟩
      have := List.isSome_idxOf? (l := ρ) (a := i)
      simp [hg, hm] at this
    · cases hg
  -- lengths of what was handed over
  have hLof : ∀ (i j : Nat), ρ[j]? = some i → Lof objs j = Lof ob i := by
    intro i j hj
    obtain ⟨o, g1, g2, g3⟩ := h.obj j i hj
    simp [Lof, g1, g3, rnO_len]
  have hHof : ∀ (i j : Nat), ρ[j]? = some i → hC H ρ j = H i := by
    intro i j hj
    obtain ⟨h1, h2⟩ := List.getElem?_eq_some_iff.1 hj
    simp [hC, h1, List.getD_eq_getElem?_getD, h2]
  have hbsz : ∀ b, w'.heap[b]? = w.heap[b]? → bsize w' b = bsize w b := fun b e => by simp [bsize, e]
  have hExt : Ext (mkE Φ H ob w) (mkE Φ2 (hBack H H' ρ ob.length) (back ob ρ ob') w') := by
    refine ⟨hΦ, fun b hb => hkeptF b hb, by simp only [mkE, back_length]; omega, fun i hi T' hT => ?_⟩
    simp only [mkE] at hi hT ⊢
    simp only [Lof, hget] at hT
    cases hg : gOf ρ ob.length i with
    | none =>
      simp only [hg] at hT
      refine ⟨T', hT, Nat.le_refl _, fun _ => ⟨by simp [hBack, hg], fun b hb => ?_⟩⟩
      obtain ⟨_, hni⟩ := hnone i hg
      obtain ⟨o, ho⟩ : ∃ o, ob[i]? = some o := ⟨ob[i], by simp [List.getElem?_eq_getElem hi]⟩
      have hr := h.sim.rep i o ho
      refine hbsz b ?_
      cases hm : o.mutb with
      | true => exact hkeptU i o b ho hm hni hb
      | false =>
        cases o with
        | frz cs => rw [hb] at hr; exact hkeptF b hr.1
        | dead => simp [ho, Ob.len] at hT
        | live cs => simp [Ob.mutb] at hm
        | map es bs ck => simp [Ob.mutb] at hm
        | iter m s sn l => simp [Ob.mutb] at hm
    | some j =>
      simp only [hg] at hT
      have hj : j < ρ.length := by
        unfold gOf at hg
        rw [if_pos hi] at hg
        exact (idxOf?_some hg).2
      obtain ⟨_, hji⟩ := hE i j hg hj
      have hT2 : Lof ob' j = some T' := by
        simp only [Lof]
        cases q : ob'[j]? with
        | none => simp [q] at hT
        | some o => simpa [q, rnO_len] using hT
      obtain ⟨T, g1, g2, g3⟩ := k.ext.l j (by simp only [ctx, mkE]; rw [h.len]; exact hj) T' hT2
      simp only [ctx, mkE] at g1 g3
      rw [hLof i j hji] at g1
      rw [hHof i j hji] at g3
      refine ⟨T, g1, g2, fun e => ?_⟩
      obtain ⟨q1, q2⟩ := g3 e
      exact ⟨by simp only [hBack, hg]; exact q1, q2⟩
  -- from the callee's end to the caller's
  have hR : ExtR (fOf ρ ob.length) (mkE Φ2 H' ob' w') (mkE Φ2 (hBack H H' ρ ob.length) (back ob ρ ob') w') := by
    refine ⟨fun _ hb => hb, fun _ _ => rfl, fun i hi => ?_, fun i hi T' hT => ?_⟩
    · simp only [mkE, back_length, fOf] at hi ⊢
      split
      · rename_i hlt
        have := hρ (ρ.getD i 0) (by rw [List.getD_eq_getElem?_getD, List.getElem?_eq_getElem hlt]; exact List.getElem_mem hlt)
        omega
      · omega
    · simp only [mkE] at hi hT ⊢
      have hg := f_gOf (ρ := ρ) (base := ob.length) (j := i) h.nodup hρ
      simp only [Lof, hget, hg] at hT
      have hT2 : Lof ob' i = some T' := by
        simp only [Lof]
        cases q : ob'[i]? with
        | none => simp [q] at hT
        | some o => simpa [q, rnO_len] using hT
      exact ⟨T', hT2, Nat.le_refl _, fun _ => ⟨by simp [hBack, hg], fun _ _ => by first | rfl | trivial⟩⟩
  -- no mutable object of the callee's lies in what it took for frozen
  have hmut2 : ∀ (j : Nat) (o : Ob) (b : Nat), ob'[j]? = some o → o.mutb = true → H' j = some b → ¬ Φ2 b := fun j o b h1 h2 h3 hp => (k.sim.mutb h1 h2 h3).2 hp.1
  have hsim : HSim Φ2 (hBack H H' ρ ob.length) (back ob ρ ob') w' := by
    refine ⟨fun b hb => k.sim.phi b hb.1, fun i o hi => ?_, fun i1 i2 o1 o2 b e1 e2 m1 m2 x1 x2 => ?_⟩
    · rw [hget] at hi
      cases hg : gOf ρ ob.length i with
      | none =>
        simp only [hg] at hi
        obtain ⟨_, hni⟩ := hnone i hg
        refine ObRep.ext hExt (by simp [hBack, hg]) (fun hm b hb => ⟨hkeptU i o b hi hm hni hb, ?_⟩) (h.sim.rep i o hi)
        rintro ⟨hp1, hp2⟩
        have hlt := (h.sim.mutb hi hm hb).1
        rcases k.phi b hp1 with q | q | q
        · rcases q with q | q
          · exact (h.sim.mutb hi hm hb).2 q
          · exact hp2 q
        · obtain ⟨j, i', o', g1, g2, g3, g4⟩ := hown b q
          have := h.sim.inj i i' o o' b hi g2 hm g3 hb g4
          exact hni (this ▸ List.mem_of_getElem? g1)
        · have q' : w.heap.size ≤ b := q
          omega
      | some j =>
        simp only [hg] at hi
        cases hoj : ob'[j]? with
        | none => simp [hoj] at hi
        | some o' =>
          simp only [hoj, Option.map_some, Option.some.injEq] at hi
          subst hi
          have hr := k.sim.rep j o' hoj
          have hr2 : ObRep (mkE Φ2 H' ob' w') (H' j) o' := by
            cases hbo : bo with
            | true => exact ObRep.nofz (Φ' := Φ2) (hnf hbo o' (List.mem_of_getElem? hoj)) (fun hm b hb => hmut2 j o' b hoj hm hb) hr
            | false =>
              have : Φ2 = Φ' := by
                funext x
                simp only [Φ2, bor, hbo, Bool.false_eq_true, false_and, not_false_eq_true, and_true]
              rw [this]; exact hr
          have := ObRep.rnR hR rfl (ob_flat hr) (fun hm b hb => hmut2 j o' b hoj hm hb) hr2
          simpa only [hBack, hg] using this
    · rw [hget] at e1 e2
      simp only [hBack] at x1 x2
      have cross : ∀ (i1 i2 : Nat) (o1 : Ob) (b j2 : Nat) (o2' : Ob), gOf ρ ob.length i1 = none → ob[i1]? = some o1 → o1.mutb = true → H i1 = some b → ob'[j2]? = some o2' → o2'.mutb = true → H' j2 = some b → False := by
        intro i1 i2 o1 b j2 o2' hg e1 m1 x1 e2 m2 x2
        obtain ⟨_, hni⟩ := hnone i1 hg
        have hlt := (h.sim.mutb e1 m1 x1).1
        rcases k.mine j2 o2' b e2 m2 x2 with q | q
        · obtain ⟨j, i', o', g1, g2, g3, g4⟩ := hown b q
          have := h.sim.inj i1 i' o1 o' b e1 g2 m1 g3 x1 g4
          exact hni (this ▸ List.mem_of_getElem? g1)
        · have q' : w.heap.size ≤ b := q
          omega
      cases hg1 : gOf ρ ob.length i1 with
      | none =>
        simp only [hg1] at e1 x1
        cases hg2 : gOf ρ ob.length i2 with
        | none =>
          simp only [hg2] at e2 x2
          exact h.sim.inj i1 i2 o1 o2 b e1 e2 m1 m2 x1 x2
        | some j2 =>
          simp only [hg2] at e2 x2
          cases hoj : ob'[j2]? with
          | none => simp [hoj] at e2
          | some o2' =>
            simp only [hoj, Option.map_some, Option.some.injEq] at e2
            subst e2
            rw [rnO_mutb] at m2
            exact (cross i1 i2 o1 b j2 o2' hg1 e1 m1 x1 hoj m2 x2).elim
      | some j1 =>
        simp only [hg1] at e1 x1
        cases hoj1 : ob'[j1]? with
        | none => simp [hoj1] at e1
        | some o1' =>
          simp only [hoj1, Option.map_some, Option.some.injEq] at e1
          subst e1
          rw [rnO_mutb] at m1
          cases hg2 : gOf ρ ob.length i2 with
          | none =>
            simp only [hg2] at e2 x2
            exact (cross i2 i1 o2 b j1 o1' hg2 e2 m2 x2 hoj1 m1 x1).elim
          | some j2 =>
            simp only [hg2] at e2 x2
            cases hoj : ob'[j2]? with
            | none => simp [hoj] at e2
            | some o2' =>
              simp only [hoj, Option.map_some, Option.some.injEq] at e2
              subst e2
              rw [rnO_mutb] at m2
              have := k.sim.inj j1 j2 o1' o2' b hoj1 hoj m1 m2 x1 x2
              subst this
              rw [← gOf_f hg1, ← gOf_f hg2]
  refine ⟨Φ2, ⟨k.os, k.tape, k.output, k.size, hkept, hsim, hExt, fun b hb => ?_, fun i o b e1 m1 x1 => ?_⟩, fun r v hrn hr => ?_⟩
  · rcases k.phi b hb.1 with q | q | q
    · rcases q with q | q
      · exact .inl q
      · exact absurd q hb.2
    · obtain ⟨j, i', o', g1, g2, g3, g4⟩ := hown b q
      exact .inr (.inl ⟨i', o', g2, g3, g4⟩)
    · exact .inr (.inr q)
  · rw [hget] at e1
    simp only [hBack] at x1
    cases hg : gOf ρ ob.length i with
    | none =>
      simp only [hg] at e1 x1
      exact .inl ⟨i, o, e1, m1, x1⟩
    | some j =>
      simp only [hg] at e1 x1
      cases hoj : ob'[j]? with
      | none => simp [hoj] at e1
      | some o' =>
        simp only [hoj, Option.map_some, Option.some.injEq] at e1
        subst e1
        rw [rnO_mutb] at m1
        rcases k.mine j o' b hoj m1 x1 with q | q
        · obtain ⟨j', i', o'', g1, g2, g3, g4⟩ := hown b q
          exact .inl ⟨i', o'', g2, g3, g4⟩
        · exact .inr q
  · have hfl := rep_flat hr
    have hr2 : VRep (mkE Φ2 H' ob' w') r v := by
      cases hbo : bo with
      | true => exact VRep.nofz (Φ' := Φ2) (hrn hbo) hr
      | false =>
        have : Φ2 = Φ' := by
          funext x
          simp only [Φ2, bor, hbo, Bool.false_eq_true, false_and, not_false_eq_true, and_true]
        rw [this]; exact hr
    exact VRep.rnV hR r v hfl hr2

end
end Go.VX
