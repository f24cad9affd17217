/- Code over abstract values: weakest preconditions, contracts of functions. -/
import Derived.Test.YthjpaongoflgiaaVXVop
namespace Go.VX
open Go.RowKit
set_option linter.unusedVariables false
set_option linter.unusedSimpArgs false

inductive X where
  | norm
  | ex (id : Nat)
  | ret

def lft (C : Ctx) (Q : X → St → Prop) : Exit → Act → World → Prop
  | .outgrown, _, _ => False
  | .normal, a, w => ∃ Φ H st, SimE C Φ H st a w ∧ Q .norm st
  | .exit id, a, w => ∃ Φ H st, SimE C Φ H st a w ∧ Q (.ex id) st
  | .ret, a, w => ∃ Φ H st, SimE C Φ H st a w ∧ Q .ret st
  | _, _, _ => False

def vwp (P : Program) (nt : Sh) (c : Code) (Q : X → St → Prop) (st : St) : Prop :=
  ∀ C : Ctx, C.nt = nt → ∀ Φ H a w, SimE C Φ H st a w → c.wp P (lft C Q) a w

def thenQ (N : St → Prop) (Q : X → St → Prop) : X → St → Prop
  | .norm, st => N st
  | x, st => Q x st
def inBlk (id : Nat) (Q : X → St → Prop) : X → St → Prop
  | .ex j, st => if j = id then Q .norm st else Q (.ex j) st
  | x, st => Q x st

section
variable {P : Program} {nt : Sh} {Q : X → St → Prop} {st : St}

theorem vwp_mono {c : Code} {Q' : X → St → Prop} (h : vwp P nt c Q st) (hq : ∀ x st, Q x st → Q' x st) : vwp P nt c Q' st := by
  intro C hC Φ H a w s
  refine wp_mono (h C hC Φ H a w s) fun e a w q => ?_
  cases e <;> simp only [lft] at q ⊢
  all_goals
    obtain ⟨Φ, H, st, s, q⟩ := q
    exact ⟨Φ, H, st, s, hq _ _ q⟩

theorem vwp_seq {x y : Code} (h : vwp P nt x (thenQ (vwp P nt y Q) Q) st) : vwp P nt (.seq x y) Q st := by
  intro C hC Φ H a w s
  refine wp_seq (wp_mono (h C hC Φ H a w s) fun e a w q => ?_)
  cases e <;> simp only [lft, Exit.then, thenQ] at q ⊢ <;> try exact q
  obtain ⟨Φ, H, st, s, q⟩ := q
  exact q C hC Φ H a w s
theorem vwp_seq_k {x y : Code} (h : ∀ K : St → Prop, (∀ st, vwp P nt y Q st → K st) → vwp P nt x (thenQ K Q) st) : vwp P nt (.seq x y) Q st :=
  vwp_seq (h _ fun _ h => h)
/-- A sequence, through a middle. -/
theorem vwp_cut {x y : Code} (M : St → Prop) (h : vwp P nt x (thenQ M Q) st) (k : ∀ st, M st → vwp P nt y Q st) : vwp P nt (.seq x y) Q st :=
  vwp_seq (vwp_mono h fun e st q => by cases e <;> first | exact k _ q | exact q)
theorem vwp_skip (h : Q .norm st) : vwp P nt .skip Q st := fun C hC Φ H a w s => wp_skip ⟨Φ, H, st, s, h⟩
theorem vwp_exit {id : Nat} (h : Q (.ex id) st) : vwp P nt (.exit id) Q st := fun C hC Φ H a w s => wp_exit ⟨Φ, H, st, s, h⟩
theorem vwp_ret (h : Q .ret st) : vwp P nt .ret Q st := fun C hC Φ H a w s => wp_ret ⟨Φ, H, st, s, h⟩
theorem vwp_block {id : Nat} {c : Code} (h : vwp P nt c (inBlk id Q) st) : vwp P nt (.block id c) Q st := by
  intro C hC Φ H a w s
  refine wp_block (wp_mono (h C hC Φ H a w s) fun e a w q => ?_)
  cases e <;> simp only [lft, Exit.inBlock, inBlk] at q ⊢ <;> try exact q
  rename_i j
  obtain ⟨Φ, H, st, s, q⟩ := q
  by_cases hj : j = id
  · rw [if_pos hj] at q ⊢; exact ⟨Φ, H, st, s, q⟩
  · rw [if_neg hj] at q ⊢; exact ⟨Φ, H, st, s, q⟩
theorem vwp_cond {c : Operand} {x y : Code} {t : Bool} (hc : evV st.sl c = .bool t) (h1 : t = true → vwp P nt x Q st) (h2 : t = false → vwp P nt y Q st) : vwp P nt (.cond c x y) Q st := by
  intro C hC Φ H a w s
  have he := s.eval c
  rw [hc] at he
  simp only [VRep] at he
  exact wp_cond_split he (fun h => h1 h C hC Φ H a w s) (fun h => h2 h C hC Φ H a w s)

/-- A loop: what holds at its head, with a number that falls. -/
theorem vwp_loop {c : Code} (I : Nat → St → Prop) (n : Nat) (h0 : I n st) (round : ∀ n st, I n st → vwp P nt c (thenQ (fun st' => ∃ m, m < n ∧ I m st') Q) st) : vwp P nt (.loop c) Q st := by
  intro C hC Φ H a w s
  let S : Act → World → Nat → Prop := fun a w n => ∃ Φ H st, SimE C Φ H st a w ∧ I n st
  let J : Act → World → Prop := fun a w => ∃ n, S a w n
  have hmin : ∀ a w, J a w → ∃ n, S a w n ∧ ∀ m, S a w m → n ≤ m := by
    rintro a w ⟨n, hn⟩
    induction n using Nat.strongRecOn with
    | _ n ih =>
      by_cases h : ∃ m, m < n ∧ S a w m
      · obtain ⟨m, h1, h2⟩ := h
        exact ih m h1 h2
      · exact ⟨n, hn, fun m hm => Nat.le_of_not_lt fun hlt => h ⟨m, hlt, hm⟩⟩
  let μ : Act → World → Nat := fun a w => open Classical in if h : J a w then (hmin a w h).choose else 0
  have hμ : ∀ a w, J a w → S a w (μ a w) ∧ ∀ m, S a w m → μ a w ≤ m := by
    intro a w h
    simp only [μ, dif_pos h]
    exact (hmin a w h).choose_spec
  refine wp_loop J μ ⟨n, Φ, H, st, s, h0⟩ fun a w hJ => ?_
  obtain ⟨⟨Φ, H, st, s, hI⟩, hle⟩ := hμ a w hJ
  refine wp_mono (round _ st hI C hC Φ H a w s) fun e a' w' q => ?_
  cases e <;> simp only [lft, Exit.then, thenQ] at q ⊢ <;> try exact q
  obtain ⟨Φ', H', st', s', m, hm, hI'⟩ := q
  have hS : S a' w' m := ⟨Φ', H', st', s', hI'⟩
  refine ⟨⟨m, hS⟩, ?_⟩
  have := (hμ a' w' ⟨m, hS⟩).2 m hS
  omega

/-- Less may be known. -/
theorem SimE.weaken {C : Ctx} {Φ : Nat → Prop} {H : Nat → Option Nat} {sl sl' : List (Nat × V)} {ob : List Ob} {a : Act} {w : World} (s : SimE C Φ H ⟨sl, ob⟩ a w) (h : ∀ i, getS sl' i = getS sl i ∨ getS sl' i = .junk) : SimE C Φ H ⟨sl', ob⟩ a w :=
  ⟨s.hs, s.defers, s.nt, s.k0, fun i => by
    rcases h i with q | q
    · show VRep _ (getS sl' i) _
      rw [q]; exact s.slots i
    · show VRep _ (getS sl' i) _
      rw [q]; trivial⟩
end

/-! ### Contracts -/
def ownOf (ob : List Ob) (H : Nat → Option Nat) : Nat → Prop := fun b => ∃ i o, ob[i]? = some o ∧ o.mutb = true ∧ H i = some b
def ctx (Φ : Nat → Prop) (H : Nat → Option Nat) (ob : List Ob) (w : World) (nt : Sh) : Ctx := ⟨mkE Φ H ob w, ownOf ob H, nt⟩

def Ent (P : Program) (k : Nat) : Prop := ((P.funcs[k]?).map fun fn => fn.name != "runtime.NumGoroutine" && fn.body.isSome) = some true

def post (Φ : Nat → Prop) (H : Nat → Option Nat) (ob : List Ob) (w : World) (Q : V → List Ob → Prop) : Ending → World → Prop
  | .returned v, w' => ∃ r ob' Φ' H', HS (ctx Φ H ob w ⟨0, 0⟩) Φ' H' ob' w' ∧ VRep (mkE Φ' H' ob' w') r v ∧ Q r ob'
  | .outgrown, _ => False
  | .panicked _, _ => False

def VC (P : Program) (k : Nat) (args : List V) (ob : List Ob) (Q : V → List Ob → Prop) : Prop :=
  Ent P k ∧ ∀ Φ H w (vals : Array Value), HSim Φ H ob w → VReps .any (mkE Φ H ob w) args vals.toList → Calls P k vals w (post Φ H ob w Q)

theorem VC.mono {P k args ob Q Q'} (h : VC P k args ob Q) (hq : ∀ r ob', Q r ob' → Q' r ob') : VC P k args ob Q' :=
  ⟨h.1, fun Φ H w vals hs hv => (h.2 Φ H w vals hs hv).mono fun e w' q => by
    cases e <;> simp only [post] at q ⊢
    · obtain ⟨r, ob', Φ', H', h1, h2, h3⟩ := q
      exact ⟨r, ob', Φ', H', h1, h2, hq _ _ h3⟩⟩

theorem HS.refl {Φ H ob w nt} (hs : HSim Φ H ob w) : HS (ctx Φ H ob w nt) Φ H ob w :=
  ⟨rfl, rfl, rfl, Nat.le_refl _, fun _ _ _ => rfl, hs, Ext.refl _, fun _ h => .inl h, fun i o b h1 h2 h3 => .inl ⟨i, o, h1, h2, h3⟩⟩

/-- The slots at a call's begin. -/
def argSlots : Nat → List V → List (Nat × V)
  | _, [] => []
  | n, x :: r => (n, x) :: argSlots (n + 1) r
theorem getS_argSlots : ∀ (n : Nat) (xs : List V) (i : Nat), getS (argSlots n xs) i = if n ≤ i then xs.getD (i - n) .junk else .junk
  | n, [], i => by simp [argSlots, getS]
  | n, x :: r, i => by
    simp only [argSlots, getS]
    by_cases h : n = i
    · subst h; simp
    · rw [if_neg h, getS_argSlots (n + 1) r i]
      by_cases h2 : n ≤ i
      · have e : i - n = (i - (n + 1)) + 1 := by omega
        rw [if_pos (by omega), if_pos h2, e]
        simp
      · rw [if_neg (by omega), if_neg h2]

def retV (sl : List (Nat × V)) : List ResultVar → Option V
  | [.tmp t] => some (getS sl t)
  | rs => if rs.all (fun | .tmp _ => true | _ => false) && (rs.map fun | .tmp t => getS sl t | _ => .junk).all V.notTup then some (.tup (rs.map fun | .tmp t => getS sl t | _ => .junk)) else none

theorem mapM_run {α : Type} {P : Program} {w : World} {f : α → Sem Value} {g : α → Value} : ∀ {rs : List α}, (∀ x ∈ rs, (f x).run P w = .ok (g x) w) → (rs.mapM f).run P w = .ok (rs.map g) w
  | [], _ => by simp
  | x :: rs, h => by
    have h1 := h x (by simp)
    have h2 := mapM_run (rs := rs) (g := g) fun y hy => h y (by simp [hy])
    simp [List.mapM_cons, h1, h2]

theorem retV_sound {P : Program} {C Φ H st a w} (s : SimE C Φ H st a w) {fn : Func} {r : V} (h : retV st.sl fn.results.toList = some r) : ∃ v, (results fn a.tmps).run P w = .ok v w ∧ VRep (mkE Φ H st.ob w) r v := by
  unfold retV at h
  split at h
  · rename_i t hr
    simp only [Option.some.injEq] at h; subst h
    have e : fn.results = #[.tmp t] := by apply Array.ext'; exact hr
    exact ⟨_, results_tmp e _ P w, s.slots t⟩
  · rename_i hne
    split at h
    case isFalse => cases h
    rename_i hall'
    simp only [Bool.and_eq_true] at hall'
    obtain ⟨hall, hnt⟩ := hall'
    simp only [Option.some.injEq] at h; subst h
    have hg : ∀ x ∈ fn.results.toList, ∃ t, x = .tmp t := by
      intro x hx
      have := List.all_eq_true.1 hall x hx
      cases x with
      | tmp t => exact ⟨t, rfl⟩
      | cell c t => simp at this
    have hrep : ∀ rs : List ResultVar, (∀ x ∈ rs, ∃ t, x = .tmp t) → VReps .any (mkE Φ H st.ob w) (rs.map fun | .tmp t => getS st.sl t | _ => .junk) (rs.map fun | .tmp t => a.tmps.getD t undef | _ => undef) := by
      intro rs
      induction rs with
      | nil => intro _; simp [VReps]
      | cons r rs ih =>
        intro hr
        obtain ⟨t, rfl⟩ := hr r (by simp)
        exact ⟨_, _, rfl, trivial, s.slots t, ih fun x hx => hr x (by simp [hx])⟩
    have hsz : (fn.results.toList.map fun | .tmp t => a.tmps.getD t undef | _ => undef).toArray.size ≠ 1 := by
      intro e
      have e' : fn.results.toList.length = 1 := by simpa using e
      match hq : fn.results.toList, e' with
      | [x], _ =>
        obtain ⟨t, rfl⟩ := hg x (by rw [hq]; simp)
        exact hne t hq
    refine ⟨.tuple (fn.results.toList.map fun | .tmp t => a.tmps.getD t undef | _ => undef).toArray, ?_, ⟨_, hnt, rfl, by simpa using hrep _ hg⟩⟩
    have hfr : fn.results = fn.results.toList.toArray := by simp
    unfold results
    rw [hfr, List.mapM_toArray]
    simp only [Sem.run_bind, Sem.run_map]
    rw [mapM_run (g := fun | .tmp t => a.tmps.getD t undef | _ => undef)]
    · simp only [Result.andThen_ok, Sem.run_pure]
      rw [dif_neg hsz]
    · intro x hx
      obtain ⟨t, rfl⟩ := hg x (by simpa using hx)
      rfl

/-- What a body must come to. -/
def retQ (fn : Func) (Q : V → List Ob → Prop) : X → St → Prop
  | .norm, st => ∃ r, retV st.sl fn.results.toList = some r ∧ Q r st.ob
  | .ret, st => ∃ r, retV st.sl fn.results.toList = some r ∧ Q r st.ob
  | .ex _, _ => False

theorem VC_of_vwp {P : Program} {k : Nat} {fn : Func} {c : Code} {args : List V} {ob : List Ob} {Q : V → List Ob → Prop} (he : Ent P k) (hf : P.funcs[k]? = some fn) (hb : fn.body = some c) (hn : args.length ≤ fn.ntmps)
    (h : vwp P ⟨fn.ntmps, ob.length⟩ c (retQ fn Q) ⟨argSlots 0 args, ob⟩) : VC P k args ob Q := by
  refine ⟨he, fun Φ H w vals hs hv => calls_of_wp hf hb ?_⟩
  have hl := hv.length
  simp only [Array.length_toList] at hl
  have s : SimE (ctx Φ H ob w ⟨fn.ntmps, ob.length⟩) Φ H ⟨argSlots 0 args, ob⟩ { tmps := vals ++ Array.replicate (fn.ntmps - vals.size) undef, defers := [] } w := by
    refine ⟨HS.refl hs, rfl, by simp [ctx]; omega, rfl, fun i => ?_⟩
    simp only [getS_argSlots, Nat.zero_le, if_true, Nat.sub_zero]
    rcases Nat.lt_or_ge i args.length with hi | hi
    · obtain ⟨u, hu, _, hr⟩ := hv.get i args[i] (List.getElem?_eq_getElem hi)
      have e1 : args.getD i .junk = args[i] := by simp [List.getD_eq_getElem?_getD, List.getElem?_eq_getElem hi]
      have e2 : (vals ++ Array.replicate (fn.ntmps - vals.size) undef).getD i undef = u := by
        have hu' : vals[i]? = some u := by simpa using hu
        rw [Array.getD_eq_getD_getElem?, Array.getElem?_append_left (by omega), hu']; rfl
      rw [e1, e2]; exact hr
    · have e1 : args.getD i .junk = .junk := by simp [List.getD_eq_getElem?_getD, List.getElem?_eq_none hi]
      rw [e1]; trivial
  refine wp_mono (h (ctx Φ H ob w ⟨fn.ntmps, ob.length⟩) rfl Φ H _ w s) fun e a w' q => ?_
  have key : ∀ Φ' H' st, SimE (ctx Φ H ob w ⟨fn.ntmps, ob.length⟩) Φ' H' st a w' → (∃ r, retV st.sl fn.results.toList = some r ∧ Q r st.ob) → a.defers = [] ∧ ∃ v, (results fn a.tmps).run P w' = .ok v w' ∧ post Φ H ob w Q (.returned v) w' := by
    rintro Φ' H' st s' ⟨r, h1, h2⟩
    obtain ⟨v, k1, k2⟩ := retV_sound (P := P) s' h1
    have q := s'.hs
    exact ⟨s'.defers, v, k1, r, st.ob, Φ', H', ⟨q.os, q.tape, q.output, q.size, q.kept, q.sim, q.ext, q.phi, q.mine⟩, k2, h2⟩
  cases e <;> simp only [lft, retQ] at q
  · obtain ⟨Φ', H', st, s', q⟩ := q
    exact key Φ' H' st s' q
  · obtain ⟨_, _, _, _, q⟩ := q; exact q.elim
  · obtain ⟨Φ', H', st, s', q⟩ := q
    exact key Φ' H' st s' q
end Go.VX
