/- Calls: what a callee sees of a caller's objects, and what comes back. -/
import Derived.Test.YthjpaongoflgiaaVXRun
namespace Go.VX
open Go.RowKit
set_option linter.unusedVariables false
set_option linter.unusedSimpArgs false
set_option linter.unusedSectionVars false

/-! ### Objects' numbers, changed -/
def rn0 (f : Nat → Nat) : V → V
  | .ptr id t o => .ptr (f id) t o
  | .sl id t e o n => .sl (f id) t e o n
  | .mp id => .mp (f id)
  | x => x
def rn1 (f : Nat → Nat) : V → V
  | .fn k cs => .fn k (cs.map (rn0 f))
  | x => rn0 f x
def rnA (f : Nat → Nat) : V → V
  | .agg cs => .agg (cs.map (rn1 f))
  | x => rn1 f x
def rnV (f : Nat → Nat) : V → V
  | .tup cs => .tup (cs.map (rnA f))
  | x => rnA f x
def rnO (f : Nat → Nat) : Ob → Ob
  | .live cs => .live (cs.map (rn1 f))
  | .frz cs => .frz cs
  | .map es bs ck => .map (es.map fun e => (rnA f e.1, rnA f e.2)) bs ck
  | .iter m s sn l => .iter (rn0 f m) s sn l
  | .dead => .dead

/-- What is deep in a value keeps to what the renaming reaches. -/
def V.flat1 : V → Bool
  | .fn _ cs => cs.all V.flat0
  | .agg _ | .tup _ => false
  | _ => true
def V.flatA : V → Bool
  | .agg cs => cs.all V.flat1
  | x => x.flat1
def V.flat : V → Bool
  | .tup cs => cs.all V.flatA
  | x => x.flatA
def Ob.flat : Ob → Bool
  | .live cs => cs.all V.flat1
  | .map es _ _ => es.all fun e => e.1.flatA && e.2.flatA
  | .iter m _ _ _ => m.flat0
  | _ => true

theorem flat0_rn0 (f : Nat → Nat) (x : V) : (rn0 f x).flat0 = x.flat0 := by cases x <;> rfl
theorem all_flat0_rn0 (f : Nat → Nat) {cs : List V} (h : cs.all V.flat0 = true) : (cs.map (rn0 f)).all V.flat0 = true := by
  simp only [List.all_map, List.all_eq_true, Function.comp_apply, flat0_rn0] at h ⊢
  exact h
theorem notTup_rnA (f : Nat → Nat) (x : V) : (rnA f x).notTup = x.notTup := by cases x <;> rfl
theorem all_notTup_rnA (f : Nat → Nat) {cs : List V} (h : cs.all V.notTup = true) : (cs.map (rnA f)).all V.notTup = true := by
  simp only [List.all_map, List.all_eq_true, Function.comp_apply, notTup_rnA] at h ⊢
  exact h

section
variable {E : Env}
theorem rep_flat1 {x : V} {v : Value} (h1 : x.one = true) (h : VRep E x v) : x.flat1 = true := by
  cases x <;> simp_all [V.one, V.flat1]
  obtain ⟨a, e0, _⟩ := h
  simpa using e0
theorem reps_flat1 : ∀ {xs : List V} {us : List Value}, VReps .cell E xs us → xs.all V.flat1 = true
  | [], us, _ => rfl
  | c :: cs, us, ⟨u, r, h1, h0, h2, h3⟩ => by simp only [List.all_cons, Bool.and_eq_true]; exact ⟨rep_flat1 h0 h2, reps_flat1 h3⟩
theorem rep_flatA {x : V} {v : Value} (h1 : x.notTup = true) (h : VRep E x v) : x.flatA = true := by
  cases x with
  | agg cs => obtain ⟨a, _, h2⟩ := h; exact reps_flat1 h2
  | tup cs => simp [V.notTup] at h1
  | fn k cs => obtain ⟨a, e0, _⟩ := h; exact e0
  | _ => rfl
theorem reps_flatA : ∀ {xs : List V} {us : List Value}, xs.all V.notTup = true → VReps .any E xs us → xs.all V.flatA = true
  | [], us, _, _ => rfl
  | c :: cs, us, ha, ⟨u, r, h1, h0, h2, h3⟩ => by
    simp only [List.all_cons, Bool.and_eq_true] at ha ⊢
    exact ⟨rep_flatA ha.1 h2, reps_flatA ha.2 h3⟩
theorem rep_flat {x : V} {v : Value} (h : VRep E x v) : x.flat = true := by
  cases x with
  | tup cs => obtain ⟨a, e0, _, h2⟩ := h; exact reps_flatA e0 h2
  | agg cs => exact rep_flatA (x := .agg cs) rfl h
  | fn k cs => exact rep_flatA (x := .fn k cs) rfl h
  | _ => rfl
theorem ob_flat {o : Ob} {x : Option Nat} (h : ObRep E x o) : o.flat = true := by
  cases o with
  | live cs =>
    cases x with
    | none => have : cs = [] := h
              subst this; rfl
    | some b => obtain ⟨c, el, _, _, _, h4⟩ := h; exact reps_flat1 h4
  | iter m s sn l => exact h.1
  | map es bs ck =>
    obtain ⟨h0, b, arr, _, _, _, h3, h4, _⟩ := h
    simp only [Ob.flat, List.all_eq_true, Bool.and_eq_true] at h0 ⊢
    have k1 : (es.map (·.1)).all V.notTup = true := by simp only [List.all_map, List.all_eq_true]; exact fun e he => (h0 e he).1
    have k2 : (es.map (·.2)).all V.notTup = true := by simp only [List.all_map, List.all_eq_true]; exact fun e he => (h0 e he).2
    have q1 := reps_flatA k1 h3
    have q2 := reps_flatA k2 h4
    simp only [List.all_map, List.all_eq_true] at q1 q2
    exact fun e he => ⟨q1 e he, q2 e he⟩
  | _ => rfl
end

/-- From one numbering of objects to another. -/
structure ExtR (f : Nat → Nat) (E E' : Env) : Prop where
  phi : ∀ b, E.Φ b → E'.Φ b
  heap : ∀ b, E.Φ b → E'.w.heap[b]? = E.w.heap[b]?
  n : ∀ i, i < E.N → f i < E'.N
  l : ∀ i, i < E.N → ∀ T', E'.L (f i) = some T' → ∃ T, E.L i = some T ∧ T ≤ T' ∧ (T = T' → E'.H (f i) = E.H i ∧ ∀ b, E.H i = some b → bsize E'.w b = bsize E.w b)

theorem okq_rn1 {q : Fl} {f : Nat → Nat} {x : V} (h : okq q x) : okq q (rn1 f x) := by
  cases q
  · trivial
  · cases x <;> simp_all [okq, rn1, rn0, V.one]
  · cases x <;> simp_all [okq, rn1, rn0, V.one, V.noId]
    intro c hc
    have := h c hc
    cases c <;> simp_all [rn0, V.plain]

section
variable {f : Nat → Nat} {E E' : Env} (h : ExtR f E E')
include h

mutual
theorem VRep.noIdR : ∀ (x : V) (v : Value), x.noId = true → x.flat0 = true → VRep E x v → VRep E' x v
  | .junk, _, _, _, _ => by simp [VRep]
  | .bool b, v, _, _, hv => hv
  | .int k n, v, _, _, hv => hv
  | .str s, v, _, _, hv => hv
  | .nilp, v, _, _, hv => hv
  | .nils, v, _, _, hv => hv
  | .nilf, v, _, _, hv => hv
  | .nilm, v, _, _, hv => hv
  | .nili, v, _, _, hv => hv
  | .fp cs, v, _, _, ⟨b, o, us, h1, h2, h3, h4⟩ => ⟨b, o, us, h1, h.phi _ h2, reads_of_heap (h.heap b h2) h3, VReps.noIdR cs _ h4⟩
  | .fs n cs, v, _, _, ⟨ad, cap, us, h1, h2, h3, h4⟩ => ⟨ad, cap, us, h1, h2, VReps.noIdR cs _ h3, fun hu => by
      obtain ⟨b, o, e, hp, hr⟩ := h4 hu
      exact ⟨b, o, e, h.phi _ hp, reads_of_heap (h.heap b hp) hr⟩⟩
  | .agg cs, v, _, hf, _ => by simp [V.flat0] at hf
  | .tup cs, v, _, hf, _ => by simp [V.flat0] at hf
  | .ptr _ _ _, v, hn, _, _ => by simp [V.noId] at hn
  | .sl _ _ _ _ _, v, hn, _, _ => by simp [V.noId] at hn
  | .mp _, v, hn, _, _ => by simp [V.noId] at hn
  | .fn _ _, v, _, hf, _ => by simp [V.flat0] at hf
theorem VReps.noIdR : ∀ (xs : List V) (us : List Value), VReps .frz E xs us → VReps .frz E' xs us
  | [], us, hu => hu
  | c :: cs, us, ⟨u, r, h1, h0, h2, h3⟩ => ⟨u, r, h1, h0, by
      by_cases hf : c.flat0 = true
      · exact VRep.noIdR c u h0.2 hf h2
      · cases c <;> simp_all [V.flat0, okq, V.one, V.noId]
        rename_i k caps
        obtain ⟨a, e0, e1, e2⟩ := h2
        exact ⟨a, e0, e1, VReps.plainR caps _ h0 e2⟩, VReps.noIdR cs r h3⟩
theorem VReps.plainR : ∀ (xs : List V) (us : List Value), (∀ c ∈ xs, c.plain = true) → VReps .any E xs us → VReps .any E' xs us
  | [], us, _, hu => hu
  | c :: cs, us, hc, ⟨u, r, h1, h0, h2, h3⟩ => ⟨u, r, h1, trivial, VRep.noIdR c u (by have := hc c (by simp); cases c <;> simp_all [V.plain, V.noId]) (by have := hc c (by simp); cases c <;> simp_all [V.plain, V.flat0]) h2, VReps.plainR cs r (fun d hd => hc d (by simp [hd])) h3⟩
end

theorem VRep.rn0 (x : V) (v : Value) (hf : x.flat0 = true) (hv : VRep E x v) : VRep E' (rn0 f x) v := by
  cases x with
  | ptr id tot off =>
    obtain ⟨h0, h1, h2⟩ := hv
    refine ⟨h0, h.n id h1, fun T' hT' => ?_⟩
    obtain ⟨T, g1, g2, g3⟩ := h.l id h1 T' hT'
    obtain ⟨k1, k2⟩ := h2 T g1
    refine ⟨Nat.le_trans k1 g2, fun e => ?_⟩
    obtain ⟨b, hb, hv⟩ := k2 (by omega)
    exact ⟨b, (g3 (by omega)).1.trans hb, hv⟩
  | sl id tot esz off n =>
    obtain ⟨h0, h1, h2⟩ := hv
    refine ⟨h0, h.n id h1, fun T' hT' => ?_⟩
    obtain ⟨T, g1, g2, g3⟩ := h.l id h1 T' hT'
    obtain ⟨k1, k2⟩ := h2 T g1
    refine ⟨Nat.le_trans k1 g2, fun e => ?_⟩
    obtain ⟨e1, e2⟩ := g3 (by omega)
    rw [e1]
    exact (k2 (by omega)).of e2
  | mp id =>
    obtain ⟨h0, h1, h2⟩ := hv
    refine ⟨h0, h.n id h1, fun hT' => ?_⟩
    obtain ⟨T, g1, g2, g3⟩ := h.l id h1 0 hT'
    obtain rfl : T = 0 := by omega
    obtain ⟨b, hb, hv⟩ := h2 g1
    exact ⟨b, (g3 rfl).1.trans hb, hv⟩
  | fn k cs => simp [V.flat0] at hf
  | agg cs => simp [V.flat0] at hf
  | tup cs => simp [V.flat0] at hf
  | _ => exact VRep.noIdR h _ v rfl rfl hv

theorem VReps.mapR {g : V → V} {p : V → Bool} {q : Fl} (hg : ∀ x v, p x = true → VRep E x v → VRep E' (g x) v) (hq : ∀ x, okq q x → okq q (g x)) : ∀ (xs : List V) (us : List Value), xs.all p = true → VReps q E xs us → VReps q E' (xs.map g) us
  | [], us, _, hu => hu
  | c :: cs, us, ha, ⟨u, r, h1, h0, h2, h3⟩ => by
    simp only [List.all_cons, Bool.and_eq_true] at ha
    exact ⟨u, r, h1, hq c h0, hg c u ha.1 h2, VReps.mapR hg hq cs r ha.2 h3⟩

theorem VRep.rn1 (x : V) (v : Value) (hf : x.flat1 = true) (hv : VRep E x v) : VRep E' (rn1 f x) v := by
  cases x with
  | fn k cs =>
    obtain ⟨a, e0, e1, e2⟩ := hv
    exact ⟨a, all_flat0_rn0 f e0, e1, VReps.mapR (q := .any) h (fun x v hp hx => VRep.rn0 h x v hp hx) (fun _ _ => trivial) cs _ hf e2⟩
  | agg cs => simp [V.flat1] at hf
  | tup cs => simp [V.flat1] at hf
  | _ => exact VRep.rn0 h _ v rfl hv
theorem VRep.rnA (x : V) (v : Value) (hf : x.flatA = true) (hv : VRep E x v) : VRep E' (rnA f x) v := by
  cases x with
  | agg cs =>
    obtain ⟨a, e1, e2⟩ := hv
    exact ⟨a, e1, VReps.mapR h (fun x v hp hx => VRep.rn1 h x v hp hx) (fun _ ho => okq_rn1 ho) cs _ hf e2⟩
  | tup cs => simp [V.flatA, V.flat1] at hf
  | fn k cs => exact VRep.rn1 h (.fn k cs) v hf hv
  | _ => exact VRep.rn1 h _ v rfl hv
theorem VRep.rnV (x : V) (v : Value) (hf : x.flat = true) (hv : VRep E x v) : VRep E' (rnV f x) v := by
  cases x with
  | tup cs =>
    obtain ⟨a, e0, e1, e2⟩ := hv
    exact ⟨a, all_notTup_rnA f e0, e1, VReps.mapR (q := .any) h (fun x v hp hx => VRep.rnA h x v hp hx) (fun _ _ => trivial) cs _ hf e2⟩
  | agg cs => exact VRep.rnA h (.agg cs) v hf hv
  | fn k cs => exact VRep.rnA h (.fn k cs) v hf hv
  | _ => exact VRep.rnA h _ v rfl hv

end
end Go.VX
