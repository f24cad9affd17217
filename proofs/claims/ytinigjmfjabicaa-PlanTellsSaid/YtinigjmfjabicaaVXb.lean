/- A calculus over abstract values. -/
import Derived.Test.YtinigjmfjabicaaVXa
import Derived.RangeFuncFrom
import Derived.RangeFuncLeaves
import Derived.OrdersIn
import Derived.StillTail
/- Code in a call's own frame, and in that of a round of a range over a function. -/
namespace Go.VX
open Go.RowKit
set_option linter.unusedVariables false
set_option linter.unusedSimpArgs false

def nd (o : Oper) : Bool :=
  match o.op with
  | .defer _ => false
  | _ => true
theorem nd_ne {o : Oper} (h : nd o = true) : ∀ c, o.op ≠ .defer c := by
  intro c e
  simp [nd, e] at h

section
variable {P : Program} {ops : Array Oper} {Q : Exit → Act → World → Prop} {l : Nat}

theorem wp_in {o : Oper} {a : Act} {w : World} {next : Act → World → Prop} (hn : nd o = true) (h : o.wp P a w next Q) : o.wpIn (Fence.wide.inRound l) 0 P a w next Q := by
  refine ⟨fun f _ => trivial, ?_⟩
  rw [Oper.semAt_eq _ _ _ (nd_ne hn)]
  unfold Oper.wp at h
  generalize (execOp a.eval o).run P w = r at h ⊢
  have hdep : (Fence.wide.inRound l).depth.isSome = true → 1 ≤ 0 := by intro k; cases k
  cases r with
  | ok x w' =>
    cases x <;> simp only [Oper.upon, Oper.uponIn] at h ⊢
    case enter f args => exact ⟨hdep, callsIn_wide.2 h⟩
    case row row args => exact ⟨hdep, fun c cs _ => let ⟨v, w', r, s⟩ := h c cs; ⟨v, w', r, stepsIn_wide.2 s⟩⟩
    all_goals exact h
  | halt x w' => cases x <;> simp only [Oper.upon, Oper.uponIn] at h ⊢ <;> exact h
theorem list_in (hQ : ¬ LetsOut Q) : ∀ (r : List Oper), r.all nd = true → ∀ (a : Act) (w : World), wpList P ops Q r a w → wpListIn (Fence.wide.inRound l) 0 P ops Q r a w
  | [], _, a, w, h => h
  | o :: r, hn, a, w, h => by
    simp only [List.all_cons, Bool.and_eq_true] at hn
    unfold wpList at h
    unfold wpListIn
    split
    · rename_i hw
      rw [if_pos hw] at h
      rcases h with h | ⟨_, h⟩
      · exact Oper.wpIn_mono (fun a w k => list_in hQ r hn.2 a w k) (wp_in hn.1 h)
      · exact absurd h hQ
    · rename_i hw
      rw [if_neg hw] at h
      exact ⟨fun _ _ => trivial, list_in hQ r hn.2 _ _ h⟩
theorem any_in {md : Region.Mode} (hQ : ¬ LetsOut Q) (hn : ∀ (i : Nat) (o : Oper), ops[i]? = some o → nd o = true) : ∀ (fuel : Nat) (listed : Array Bool) (a : Act) (w : World), wpAny P md ops Q fuel listed a w → wpAnyIn (Fence.wide.inRound l) 0 P md ops Q fuel listed a w
  | 0, listed, a, w, h => h
  | fuel + 1, listed, a, w, ⟨h1, h2⟩ => by
    refine ⟨h1, fun i hi => ?_⟩
    have h := h2 i hi
    unfold wpOp at h
    unfold wpOpIn
    cases ho : ops[i]? with
    | none =>
      simp only [ho] at h ⊢
      exact any_in hQ hn fuel _ _ _ h
    | some o =>
      simp only [ho] at h ⊢
      split
      · rename_i hw
        rw [if_pos hw] at h
        rcases h with h | ⟨_, h⟩
        · exact Oper.wpIn_mono (fun a w k => any_in hQ hn fuel _ a w k) (wp_in (hn i o ho) h)
        · exact absurd h hQ
      · rename_i hw
        rw [if_neg hw] at h
        exact ⟨fun _ _ => trivial, any_in hQ hn fuel _ _ _ h⟩
end

/-- Code in a call's own frame; or in any round's. -/
def gw : Bool → Program → Code → (Exit → Act → World → Prop) → Act → World → Prop
  | false, P, c, Q, a, w => c.wp P Q a w
  | true, P, c, Q, a, w => ∀ l, c.wpIn (Fence.wide.inRound l) 0 P Q a w

section
variable {rd : Bool} {P : Program} {Q : Exit → Act → World → Prop} {a : Act} {w : World}
theorem gw_mono {c : Code} {Q' : Exit → Act → World → Prop} (h : gw rd P c Q a w) (hq : ∀ e a w, Q e a w → Q' e a w) : gw rd P c Q' a w := by
  cases rd
  · exact wp_mono h hq
  · exact fun l => wpIn_mono (h l) hq
theorem gw_seq {x y : Code} (h : gw rd P x (Exit.then (gw rd P y Q) Q) a w) : gw rd P (.seq x y) Q a w := by
  cases rd
  · exact wp_seq h
  · exact fun l => wpIn_seq (wpIn_mono (h l) fun e a w q => by cases e <;> first | exact q l | exact q)
theorem gw_skip (h : Q .normal a w) : gw rd P .skip Q a w := by
  cases rd
  · exact wp_skip h
  · exact fun l => wpIn_skip h
theorem gw_exit {id : Nat} (h : Q (.exit id) a w) : gw rd P (.exit id) Q a w := by
  cases rd
  · exact wp_exit h
  · exact fun l => wpIn_exit h
theorem gw_ret (h : Q .ret a w) : gw rd P .ret Q a w := by
  cases rd
  · exact wp_ret h
  · exact fun l => wpIn_ret h
theorem gw_block {id : Nat} {c : Code} (h : gw rd P c (Exit.inBlock id Q) a w) : gw rd P (.block id c) Q a w := by
  cases rd
  · exact wp_block h
  · exact fun l => wpIn_block (h l)
theorem gw_cond_split {c : Operand} {x y : Code} {t : Bool} (hc : a.eval c = .bool t) (ht : t = true → gw rd P x Q a w) (hf : t = false → gw rd P y Q a w) : gw rd P (.cond c x y) Q a w := by
  cases rd
  · exact wp_cond_split hc ht hf
  · exact fun l => wpIn_cond_split hc (fun k => ht k l) (fun k => hf k l)
theorem gw_loop {c : Code} (I : Act → World → Prop) (μ : Act → World → Nat) (h₀ : I a w)
    (round : ∀ a w, I a w → gw rd P c (Exit.then (fun a' w' => I a' w' ∧ μ a' w' < μ a w) Q) a w) : gw rd P (.loop c) Q a w := by
  cases rd
  · exact wp_loop I μ h₀ round
  · exact fun l => wpIn_loop I μ h₀ fun a w hI => round a w hI l
theorem gw_region_lit {id : Nat} {r : List Oper} (hQ : ¬ LetsOut Q) (hn : rd = true → r.all nd = true) (h : wpList P r.toArray Q r a w) : gw rd P (.region id r.toArray false) Q a w := by
  cases rd
  · exact wp_region_lit h
  · exact fun l => wpIn_region_lit (list_in hQ r (hn rfl) a w h)
theorem gw_region_any {id : Nat} {r : List Oper} (hm : P.follows .mixedOrders = true) (hQ : ¬ LetsOut Q) (hn : rd = true → r.all nd = true)
    (h : wpAny P .any r.toArray Q r.toArray.size (Array.replicate r.toArray.size false) a { w with drawn := w.drawn + 1 }) : gw rd P (.region id r.toArray true) Q a w := by
  cases rd
  · exact wp_region_any hm h
  · refine fun l => wpIn_region_any hm (any_in hQ (fun i o ho => ?_) _ _ _ _ h)
    have h1 := hn rfl
    rw [List.all_eq_true] at h1
    have : r[i]? = some o := by simpa using ho
    exact h1 o (List.mem_of_getElem? this)
end

/-! ### Marks -/
/-- The rounds' blocks are shut, one after the other. -/
inductive Shut (P : Program) : List Deferred → World → World → Prop where
  | nil (w : World) : Shut P [] w w
  | cons {d : Deferred} {ds : List Deferred} {r : Nat} {w w' w'' : World} (hd : d.target = .collected r) (hr : (Instr.takeDeferred r).run P w = .ok [] w') (h : Shut P ds w' w'') : Shut P (d :: ds) w w''

theorem Shut.leaves {P : Program} {fn : Func} {tmps : Array Value} {R : Ending → World → Prop} {v : Value} {ds : List Deferred} {w w' : World} (h : Shut P ds w w') (hv : (results fn tmps).run P w' = .ok v w') (hR : R (.returned v) w') :
    LeavesInM Fence.wide 0 P fn tmps R ds .returning w := by
  induction h with
  | nil w => exact ⟨v, hv, hR⟩
  | cons hd hr _ ih => exact ⟨by simp, .inl ⟨_, _, hd, hr, ih hv hR⟩⟩
/-- A call, by its body's walk. -/
theorem calls_of_gw {P : Program} {f : FuncId} {fn : Func} {c : Code} {args : Array Value} {w : World} {R : Ending → World → Prop} (hf : P.funcs[f]? = some fn) (hb : fn.body = some c)
    (h : gw false P c (fun e a w => (e = .normal ∨ e = .ret) ∧ ∃ w' v, Shut P a.defers w w' ∧ (results fn a.tmps).run P w' = .ok v w' ∧ R (.returned v) w') { tmps := args ++ Array.replicate (fn.ntmps - args.size) undef, defers := [] } w) : Calls P f args w R := by
  refine callsIn_wide.1 (callsIn_of_wp_marks (n := 0) hf hb trivial (wpIn_wide.2 (wp_mono h fun e a w q => ?_)) rfl)
  obtain ⟨he, w', v, h1, h2, h3⟩ := q
  rcases he with rfl | rfl
  · exact h1.leaves h2 h3
  · exact h1.leaves h2 h3
end Go.VX

/- Code over abstract values: weakest preconditions, contracts of functions. -/
namespace Go.VX
open Go.RowKit
set_option linter.unusedVariables false
set_option linter.unusedSimpArgs false

inductive X where
  | norm
  | ex (id : Nat)
  | ret

def lft (C : Ctx) (Q : X → St → Prop) : Exit → Act → World → Prop
  | .outgrown, _, _ => False
  | .normal, a, w => ∃ Φ H st, SimE C Φ H st a w ∧ Q .norm st
  | .exit id, a, w => ∃ Φ H st, SimE C Φ H st a w ∧ Q (.ex id) st
  | .ret, a, w => ∃ Φ H st, SimE C Φ H st a w ∧ Q .ret st
  | _, _, _ => False

def vwp (P : Program) (nt : Sh) (c : Code) (Q : X → St → Prop) (st : St) : Prop :=
  ∀ C : Ctx, C.nt = nt → ∀ Φ H a w, SimE C Φ H st a w → gw nt.rd P c (lft C Q) a w

def thenQ (N : St → Prop) (Q : X → St → Prop) : X → St → Prop
  | .norm, st => N st
  | x, st => Q x st
def inBlk (id : Nat) (Q : X → St → Prop) : X → St → Prop
  | .ex j, st => if j = id then Q .norm st else Q (.ex j) st
  | x, st => Q x st

section
variable {P : Program} {nt : Sh} {Q : X → St → Prop} {st : St}

theorem vwp_mono {c : Code} {Q' : X → St → Prop} (h : vwp P nt c Q st) (hq : ∀ x st, Q x st → Q' x st) : vwp P nt c Q' st := by
  intro C hC Φ H a w s
  refine gw_mono (h C hC Φ H a w s) fun e a w q => ?_
  cases e <;> simp only [lft] at q ⊢
  all_goals
    obtain ⟨Φ, H, st, s, q⟩ := q
    exact ⟨Φ, H, st, s, hq _ _ q⟩

theorem vwp_seq {x y : Code} (h : vwp P nt x (thenQ (vwp P nt y Q) Q) st) : vwp P nt (.seq x y) Q st := by
  intro C hC Φ H a w s
  refine gw_seq (gw_mono (h C hC Φ H a w s) fun e a w q => ?_)
  cases e <;> simp only [lft, Exit.then, thenQ] at q ⊢ <;> try exact q
  obtain ⟨Φ, H, st, s, q⟩ := q
  exact q C hC Φ H a w s
theorem vwp_seq_k {x y : Code} (h : ∀ K : St → Prop, (∀ st, vwp P nt y Q st → K st) → vwp P nt x (thenQ K Q) st) : vwp P nt (.seq x y) Q st :=
  vwp_seq (h _ fun _ h => h)
/-- A sequence, through a middle. -/
theorem vwp_cut {x y : Code} (M : St → Prop) (h : vwp P nt x (thenQ M Q) st) (k : ∀ st, M st → vwp P nt y Q st) : vwp P nt (.seq x y) Q st :=
  vwp_seq (vwp_mono h fun e st q => by cases e <;> first | exact k _ q | exact q)
theorem vwp_skip (h : Q .norm st) : vwp P nt .skip Q st := fun C hC Φ H a w s => gw_skip ⟨Φ, H, st, s, h⟩
theorem vwp_exit {id : Nat} (h : Q (.ex id) st) : vwp P nt (.exit id) Q st := fun C hC Φ H a w s => gw_exit ⟨Φ, H, st, s, h⟩
theorem vwp_ret (h : Q .ret st) : vwp P nt .ret Q st := fun C hC Φ H a w s => gw_ret ⟨Φ, H, st, s, h⟩
theorem vwp_block {id : Nat} {c : Code} (h : vwp P nt c (inBlk id Q) st) : vwp P nt (.block id c) Q st := by
  intro C hC Φ H a w s
  refine gw_block (gw_mono (h C hC Φ H a w s) fun e a w q => ?_)
  cases e <;> simp only [lft, Exit.inBlock, inBlk] at q ⊢ <;> try exact q
  rename_i j
  obtain ⟨Φ, H, st, s, q⟩ := q
  by_cases hj : j = id
  · rw [if_pos hj] at q ⊢; exact ⟨Φ, H, st, s, q⟩
  · rw [if_neg hj] at q ⊢; exact ⟨Φ, H, st, s, q⟩
theorem vwp_cond {c : Operand} {x y : Code} {t : Bool} (hc : evV st.sl c = .bool t) (h1 : t = true → vwp P nt x Q st) (h2 : t = false → vwp P nt y Q st) : vwp P nt (.cond c x y) Q st := by
  intro C hC Φ H a w s
  have he := s.eval c
  rw [hc] at he
  simp only [VRep] at he
  exact gw_cond_split he (fun h => h1 h C hC Φ H a w s) (fun h => h2 h C hC Φ H a w s)

/-- A loop: what holds at its head, with a number that falls. -/
theorem vwp_loop {c : Code} (I : Nat → St → Prop) (n : Nat) (h0 : I n st) (round : ∀ n st, I n st → vwp P nt c (thenQ (fun st' => ∃ m, m < n ∧ I m st') Q) st) : vwp P nt (.loop c) Q st := by
  intro C hC Φ H a w s
  let S : Act → World → Nat → Prop := fun a w n => ∃ Φ H st, SimE C Φ H st a w ∧ I n st
  let J : Act → World → Prop := fun a w => ∃ n, S a w n
  have hmin : ∀ a w, J a w → ∃ n, S a w n ∧ ∀ m, S a w m → n ≤ m := by
    rintro a w ⟨n, hn⟩
    induction n using Nat.strongRecOn with
    | _ n ih =>
      by_cases h : ∃ m, m < n ∧ S a w m
      · obtain ⟨m, h1, h2⟩ := h
        exact ih m h1 h2
      · exact ⟨n, hn, fun m hm => Nat.le_of_not_lt fun hlt => h ⟨m, hlt, hm⟩⟩
  let μ : Act → World → Nat := fun a w => open Classical in if h : J a w then (hmin a w h).choose else 0
  have hμ : ∀ a w, J a w → S a w (μ a w) ∧ ∀ m, S a w m → μ a w ≤ m := by
    intro a w h
    simp only [μ, dif_pos h]
    exact (hmin a w h).choose_spec
  refine gw_loop J μ ⟨n, Φ, H, st, s, h0⟩ fun a w hJ => ?_
  obtain ⟨⟨Φ, H, st, s, hI⟩, hle⟩ := hμ a w hJ
  refine gw_mono (round _ st hI C hC Φ H a w s) fun e a' w' q => ?_
  cases e <;> simp only [lft, Exit.then, thenQ] at q ⊢ <;> try exact q
  obtain ⟨Φ', H', st', s', m, hm, hI'⟩ := q
  have hS : S a' w' m := ⟨Φ', H', st', s', hI'⟩
  refine ⟨⟨m, hS⟩, ?_⟩
  have := (hμ a' w' ⟨m, hS⟩).2 m hS
  omega

/-- Less may be known. -/
theorem SimE.weaken {C : Ctx} {Φ : Nat → Prop} {H : Nat → Option Nat} {sl sl' : List (Nat × V)} {ob : List Ob} {a : Act} {w : World} (s : SimE C Φ H ⟨sl, ob⟩ a w) (h : ∀ i, getS sl' i = getS sl i ∨ getS sl' i = .junk) : SimE C Φ H ⟨sl', ob⟩ a w :=
  ⟨s.hs, s.defers, s.nt, s.k0, fun i => by
    rcases h i with q | q
    · show VRep _ (getS sl' i) _
      rw [q]; exact s.slots i
    · show VRep _ (getS sl' i) _
      rw [q]; trivial⟩
end

theorem SimE.shut {P : Program} {C : Ctx} {Φ : Nat → Prop} {H : Nat → Option Nat} {st : St} {a : Act} {w : World} (s : SimE C Φ H st a w) (hdf : C.df = [] := by rfl) : ∃ w', Shut P a.defers w w' ∧ SimE C Φ H st { a with defers := [] } w' := by
  obtain ⟨ds0, e0, Ds, e, hn, hD⟩ := s.defers
  rw [hdf, List.append_nil] at e0
  rw [← e0] at e
  have key : ∀ (Ds : List Nat) (w : World), HS C Φ H st.ob w → (∀ t, VRep (mkE Φ H st.ob w) (getS st.sl t) (a.tmps.getD t undef)) → Ds.Nodup → (∀ D ∈ Ds, C.E0.w.heap.size ≤ D ∧ ¬ Φ D ∧ w.heap[D]? = some (.deferred (some []))) →
      ∃ w', Shut P (Ds.map fun D => { target := .collected D, args := #[] }) w w' ∧ HS C Φ H st.ob w' ∧ ∀ t, VRep (mkE Φ H st.ob w') (getS st.sl t) (a.tmps.getD t undef) := by
    intro Ds
    induction Ds with
    | nil => exact fun w h1 h2 _ _ => ⟨w, .nil w, h1, h2⟩
    | cons D Ds ih =>
      intro w h1 h2 hn hD
      obtain ⟨hn1, hn2⟩ := List.nodup_cons.1 hn
      obtain ⟨k1, k2, k3⟩ := hD D (by simp)
      have hlt := lt_of_heap k3
      have e1 : (w.putObj D (.deferred none)).heap[D]? = some (.deferred none) := World.putObj_heap_same hlt
      have e2 : ∀ k, k ≠ D → (w.putObj D (.deferred none)).heap[k]? = w.heap[k]? := fun k hk => World.putObj_heap_other hk
      have e3 : (w.putObj D (.deferred none)).heap.size = w.heap.size := by simp [World.putObj]
      obtain ⟨g1, g2⟩ := h1.sim.off k3 k2 e1 e2 e3
      obtain ⟨w', q1, q2, q3⟩ := ih (w.putObj D (.deferred none)) ⟨h1.os, h1.tape, h1.output, by rw [e3]; exact h1.size, fun b hb hb' => (e2 b (by omega)).trans (h1.kept b hb hb'), g1, h1.ext.trans g2, h1.phi, h1.mine⟩
        (fun t => VRep.ext g2 _ _ (h2 t)) hn2 fun D' hD' => by
          obtain ⟨m1, m2, m3⟩ := hD D' (by simp [hD'])
          exact ⟨m1, m2, (e2 D' fun e => hn1 (e ▸ hD')).trans m3⟩
      exact ⟨w', .cons rfl (run_takeDeferred k3) q1, q2, q3⟩
  obtain ⟨w', h1, h2, h3⟩ := key Ds w s.hs s.slots hn hD
  exact ⟨w', by rw [e]; exact h1, h2, ⟨[], by simp [hdf], Marks.nil⟩, s.nt, s.k0, h3⟩

/-! ### Contracts -/
def ownOf (ob : List Ob) (H : Nat → Option Nat) : Nat → Prop := fun b => ∃ i o, ob[i]? = some o ∧ o.mutb = true ∧ H i = some b
def ctx (Φ : Nat → Prop) (H : Nat → Option Nat) (ob : List Ob) (w : World) (nt : Sh) : Ctx := ⟨mkE Φ H ob w, ownOf ob H, nt, []⟩

def Ent (P : Program) (k : Nat) : Prop := ((P.funcs[k]?).map fun fn => fn.name != "runtime.NumGoroutine" && fn.body.isSome) = some true

def post (Φ : Nat → Prop) (H : Nat → Option Nat) (ob : List Ob) (w : World) (Q : V → List Ob → Prop) : Ending → World → Prop
  | .returned v, w' => ∃ r ob' Φ' H', HS (ctx Φ H ob w ⟨0, 0, false⟩) Φ' H' ob' w' ∧ VRep (mkE Φ' H' ob' w') r v ∧ Q r ob'
  | .outgrown, _ => False
  | .panicked _, _ => False

def VC (P : Program) (k : Nat) (args : List V) (ob : List Ob) (Q : V → List Ob → Prop) : Prop :=
  Ent P k ∧ ∀ Φ H w (vals : Array Value), HSim Φ H ob w → VReps .any (mkE Φ H ob w) args vals.toList → Calls P k vals w (post Φ H ob w Q)

theorem VC.mono {P k args ob Q Q'} (h : VC P k args ob Q) (hq : ∀ r ob', Q r ob' → Q' r ob') : VC P k args ob Q' :=
  ⟨h.1, fun Φ H w vals hs hv => (h.2 Φ H w vals hs hv).mono fun e w' q => by
    cases e <;> simp only [post] at q ⊢
    · obtain ⟨r, ob', Φ', H', h1, h2, h3⟩ := q
      exact ⟨r, ob', Φ', H', h1, h2, hq _ _ h3⟩⟩

theorem HS.refl {Φ H ob w nt} (hs : HSim Φ H ob w) : HS (ctx Φ H ob w nt) Φ H ob w :=
  ⟨rfl, rfl, Out.refl _, Nat.le_refl _, fun _ _ _ => rfl, hs, Ext.refl _, fun _ h => .inl h, fun i o b h1 h2 h3 => .inl ⟨i, o, h1, h2, h3⟩⟩

/-- The slots at a call's begin. -/
def argSlots : Nat → List V → List (Nat × V)
  | _, [] => []
  | n, x :: r => (n, x) :: argSlots (n + 1) r
theorem getS_argSlots : ∀ (n : Nat) (xs : List V) (i : Nat), getS (argSlots n xs) i = if n ≤ i then xs.getD (i - n) .junk else .junk
  | n, [], i => by simp [argSlots, getS]
  | n, x :: r, i => by
    simp only [argSlots, getS]
    by_cases h : n = i
    · subst h; simp
    · rw [if_neg h, getS_argSlots (n + 1) r i]
      by_cases h2 : n ≤ i
      · have e : i - n = (i - (n + 1)) + 1 := by omega
        rw [if_pos (by omega), if_pos h2, e]
        simp
      · rw [if_neg (by omega), if_neg h2]

def retV (sl : List (Nat × V)) : List ResultVar → Option V
  | [.tmp t] => some (getS sl t)
  | rs => if rs.all (fun | .tmp _ => true | _ => false) && (rs.map fun | .tmp t => getS sl t | _ => .junk).all V.notTup then some (.tup (rs.map fun | .tmp t => getS sl t | _ => .junk)) else none

theorem mapM_run {α : Type} {P : Program} {w : World} {f : α → Sem Value} {g : α → Value} : ∀ {rs : List α}, (∀ x ∈ rs, (f x).run P w = .ok (g x) w) → (rs.mapM f).run P w = .ok (rs.map g) w
  | [], _ => by simp
  | x :: rs, h => by
    have h1 := h x (by simp)
    have h2 := mapM_run (rs := rs) (g := g) fun y hy => h y (by simp [hy])
    simp [List.mapM_cons, h1, h2]

theorem retV_sound {P : Program} {C Φ H st a w} (s : SimE C Φ H st a w) {fn : Func} {r : V} (h : retV st.sl fn.results.toList = some r) : ∃ v, (results fn a.tmps).run P w = .ok v w ∧ VRep (mkE Φ H st.ob w) r v := by
  unfold retV at h
  split at h
  · rename_i t hr
    simp only [Option.some.injEq] at h; subst h
    have e : fn.results = #[.tmp t] := by apply Array.ext'; exact hr
    exact ⟨_, results_tmp e _ P w, s.slots t⟩
  · rename_i hne
    split at h
    case isFalse => cases h
    rename_i hall'
    simp only [Bool.and_eq_true] at hall'
    obtain ⟨hall, hnt⟩ := hall'
    simp only [Option.some.injEq] at h; subst h
    have hg : ∀ x ∈ fn.results.toList, ∃ t, x = .tmp t := by
      intro x hx
      have := List.all_eq_true.1 hall x hx
      cases x with
      | tmp t => exact ⟨t, rfl⟩
      | cell c t => simp at this
    have hrep : ∀ rs : List ResultVar, (∀ x ∈ rs, ∃ t, x = .tmp t) → VReps .any (mkE Φ H st.ob w) (rs.map fun | .tmp t => getS st.sl t | _ => .junk) (rs.map fun | .tmp t => a.tmps.getD t undef | _ => undef) := by
      intro rs
      induction rs with
      | nil => intro _; simp [VReps]
      | cons r rs ih =>
        intro hr
        obtain ⟨t, rfl⟩ := hr r (by simp)
        exact ⟨_, _, rfl, trivial, s.slots t, ih fun x hx => hr x (by simp [hx])⟩
    have hsz : (fn.results.toList.map fun | .tmp t => a.tmps.getD t undef | _ => undef).toArray.size ≠ 1 := by
      intro e
      have e' : fn.results.toList.length = 1 := by simpa using e
      match hq : fn.results.toList, e' with
      | [x], _ =>
        obtain ⟨t, rfl⟩ := hg x (by rw [hq]; simp)
        exact hne t hq
    refine ⟨.tuple (fn.results.toList.map fun | .tmp t => a.tmps.getD t undef | _ => undef).toArray, ?_, ⟨_, hnt, rfl, by simpa using hrep _ hg⟩⟩
    have hfr : fn.results = fn.results.toList.toArray := by simp
    unfold results
    rw [hfr, List.mapM_toArray]
    simp only [Sem.run_bind, Sem.run_map]
    rw [mapM_run (g := fun | .tmp t => a.tmps.getD t undef | _ => undef)]
    · simp only [Result.andThen_ok, Sem.run_pure]
      rw [dif_neg hsz]
    · intro x hx
      obtain ⟨t, rfl⟩ := hg x (by simpa using hx)
      rfl

/-- What a body must come to. -/
def retQ (fn : Func) (Q : V → List Ob → Prop) : X → St → Prop
  | .norm, st => ∃ r, retV st.sl fn.results.toList = some r ∧ Q r st.ob
  | .ret, st => ∃ r, retV st.sl fn.results.toList = some r ∧ Q r st.ob
  | .ex _, _ => False

theorem VC_of_vwp {P : Program} {k : Nat} {fn : Func} {c : Code} {args : List V} {ob : List Ob} {Q : V → List Ob → Prop} (he : Ent P k) (hf : P.funcs[k]? = some fn) (hb : fn.body = some c) (hn : args.length ≤ fn.ntmps)
    (h : vwp P ⟨fn.ntmps, ob.length, false⟩ c (retQ fn Q) ⟨argSlots 0 args, ob⟩) : VC P k args ob Q := by
  refine ⟨he, fun Φ H w vals hs hv => calls_of_gw hf hb ?_⟩
  have hl := hv.length
  simp only [Array.length_toList] at hl
  have s : SimE (ctx Φ H ob w ⟨fn.ntmps, ob.length, false⟩) Φ H ⟨argSlots 0 args, ob⟩ { tmps := vals ++ Array.replicate (fn.ntmps - vals.size) undef, defers := [] } w := by
    refine ⟨HS.refl hs, ⟨[], rfl, Marks.nil⟩, by simp [ctx]; omega, rfl, fun i => ?_⟩
    simp only [getS_argSlots, Nat.zero_le, if_true, Nat.sub_zero]
    rcases Nat.lt_or_ge i args.length with hi | hi
    · obtain ⟨u, hu, _, hr⟩ := hv.get i args[i] (List.getElem?_eq_getElem hi)
      have e1 : args.getD i .junk = args[i] := by simp [List.getD_eq_getElem?_getD, List.getElem?_eq_getElem hi]
      have e2 : (vals ++ Array.replicate (fn.ntmps - vals.size) undef).getD i undef = u := by
        have hu' : vals[i]? = some u := by simpa using hu
        rw [Array.getD_eq_getD_getElem?, Array.getElem?_append_left (by omega), hu']; rfl
      rw [e1, e2]; exact hr
    · have e1 : args.getD i .junk = .junk := by simp [List.getD_eq_getElem?_getD, List.getElem?_eq_none hi]
      rw [e1]; trivial
  refine gw_mono (h (ctx Φ H ob w ⟨fn.ntmps, ob.length, false⟩) rfl Φ H _ w s) fun e a w' q => ?_
  have key : ∀ Φ' H' st, SimE (ctx Φ H ob w ⟨fn.ntmps, ob.length, false⟩) Φ' H' st a w' → (∃ r, retV st.sl fn.results.toList = some r ∧ Q r st.ob) → ∃ w'' v, Shut P a.defers w' w'' ∧ (results fn a.tmps).run P w'' = .ok v w'' ∧ post Φ H ob w Q (.returned v) w'' := by
    rintro Φ' H' st s' ⟨r, h1, h2⟩
    obtain ⟨w'', hsh, s'⟩ := s'.shut (P := P)
    obtain ⟨v, k1, k2⟩ := retV_sound (P := P) s' h1
    have q := s'.hs
    exact ⟨w'', v, hsh, k1, r, st.ob, Φ', H', ⟨q.os, q.tape, q.output, q.size, q.kept, q.sim, q.ext, q.phi, q.mine⟩, k2, h2⟩
  cases e <;> simp only [lft, retQ] at q
  · obtain ⟨Φ', H', st, s', q⟩ := q
    exact ⟨.inl rfl, key Φ' H' st s' q⟩
  · obtain ⟨_, _, _, _, q⟩ := q; exact q.elim
  · obtain ⟨Φ', H', st, s', q⟩ := q
    exact ⟨.inr rfl, key Φ' H' st s' q⟩
end Go.VX

/- Operations that leave memory alone; guarded ones, all at once. -/
namespace Go.VX
open Go.RowKit
set_option linter.unusedVariables false
set_option linter.unusedSimpArgs false
set_option linter.unusedSectionVars false

def quietOp : Op → Bool
  | .move _ | .assign _ | .pick .. | .build .. | .load .. | .nilCheck _ | .binOp .. | .unOp .. | .fieldAddr .. | .field .. | .indexAddr .. | .index .. | .extract .. | .slice .. | .makeFunc .. | .makeInterface .. | .typeAssert .. | .lookup .. => true
  | .call ⟨.builtin .len, _, _⟩ | .call ⟨.builtin .min, _, _⟩ | .call ⟨.builtin .max, _, _⟩ => true
  | _ => false

/-- .. a conversion too, but one that makes bytes of a text. -/
def quietR : Op → V → Bool
  | .convert .., .fs _ _ => false
  | .convert .., .sl _ _ _ _ _ => false
  | .convert .., _ => true
  | op, _ => quietOp op

section
variable {P : Program} {T : Nat → Option TI} {C : Ctx} {Φ : Nat → Prop} {H : Nat → Option Nat} {sl : List (Nat × V)} {ob : List Ob} {a : Act} {w : World}

theorem mkq {o : Oper} {x : V} {v : Value} (hr : (execOp a.eval o).run P w = .ok (.value v) w) (hx : VRep (mkE Φ H ob w) x v) : ob = ob ∧ ∃ v, (execOp a.eval o).run P w = .ok (.value v) w ∧ VRep (mkE Φ H ob w) x v := ⟨rfl, v, hr, hx⟩

theorem vop_quiet (hT : TabOK P T) (s : SimE C Φ H ⟨sl, ob⟩ a w) {o : Oper} {p : Prop} {x : V} {ob' : List Ob} (hq : quietR o.op x = true) (h : vop T sl ob o.op = some (p, x, ob')) (hp : p) :
    ob' = ob ∧ ∃ v, (execOp a.eval o).run P w = .ok (.value v) w ∧ VRep (mkE Φ H ob w) x v := by
  have hs : HSim Φ H ob w := s.hs.sim
  obtain ⟨dst, op, ty, pos, aft, gd⟩ := o
  dsimp only at h
  cases op with
  | move y => simp only [vop, Option.some.injEq, Prod.mk.injEq] at h; obtain ⟨rfl, rfl, rfl⟩ := h; exact mkq rfl (s.eval y)
  | assign y => simp only [vop, Option.some.injEq, Prod.mk.injEq] at h; obtain ⟨rfl, rfl, rfl⟩ := h; exact mkq rfl (s.eval y)
  | pick c y z =>
    simp only [vop] at h
    split at h
    case h_2 => cases h
    rename_i b hc
    simp only [Option.some.injEq, Prod.mk.injEq] at h; obtain ⟨rfl, rfl, rfl⟩ := h
    have hb := s.eval c
    simp only [hc, VRep] at hb
    refine mkq (v := if b = true then a.eval y else a.eval z) (by simp [execOp, hb, asBool]) ?_
    unfold vpick
    split
    · exact s.eval y
    · exact s.eval z
  | alloc t => simp [quietR, quietOp] at hq
  | box t y => simp [quietR, quietOp] at hq
  | build t parts =>
    simp only [vop] at h
    split at h
    case h_2 => cases h
    rename_i p' y hb
    simp only [Option.some.injEq, Prod.mk.injEq] at h; obtain ⟨rfl, rfl, rfl⟩ := h
    obtain ⟨u, h1, h2⟩ := build_sound (P := P) hT (vals := parts.map fun (i, x) => (i, a.eval x)) (by simp) (by simpa [Function.comp_def] using evals_rep s parts.toList) hb hp
    exact mkq (by simp [execOp, h1]) h2
  | buildSlice t n parts => simp [quietR, quietOp] at hq
  | load t y =>
    simp only [vop] at h
    split at h
    case h_2 => cases h
    rename_i i p' cs off ht hr
    have hx := s.eval y
    split at h
    · rename_i ha
      simp only [Option.some.injEq, Prod.mk.injEq] at h; obtain ⟨rfl, rfl, rfl⟩ := h
      obtain ⟨u, h1, h2⟩ := (load_sound hT hs ht hx hr hp.1).1 ha hp.2
      exact mkq (by simp [execOp, h1]) h2
    · rename_i ha
      simp only [Option.some.injEq, Prod.mk.injEq] at h; obtain ⟨rfl, rfl, rfl⟩ := h
      obtain ⟨u, h1, h2, _⟩ := (load_sound hT hs ht hx hr hp.1).2 (by simpa using ha) (cs.getD off .junk) (by rw [List.getD_eq_getElem?_getD, List.getElem?_eq_getElem hp.2]; rfl)
      exact mkq (by simp [execOp, h1]) h2
  | store t y z => simp [quietR, quietOp] at hq
  | nilCheck y =>
    simp only [vop] at h
    have hx := s.eval y
    split at h
    · rename_i f cs hf
      simp only [Option.some.injEq, Prod.mk.injEq] at h; obtain ⟨rfl, rfl, rfl⟩ := h
      have hx' := hx
      rw [hf] at hx'
      obtain ⟨arr, e0, e1, e2⟩ := hx'
      exact mkq (v := .func (.func f) #[] arr) (by simp [execOp, e1]) ⟨arr, e0, rfl, e2⟩
    · split at h
      case h_2 => cases h
      rename_i p' hn
      simp only [Option.some.injEq, Prod.mk.injEq] at h; obtain ⟨rfl, rfl, rfl⟩ := h
      rcases vnil_sound hx hn hp with ⟨q, _⟩ | ⟨_, ad, e⟩
      · cases q
      · exact mkq (v := a.eval y) (by simp [execOp, e]) hx
  | binOp op t y z t2 =>
    simp only [vop] at h
    split at h
    case h_2 => cases h
    rename_i p' r hb
    simp only [Option.some.injEq, Prod.mk.injEq] at h; obtain ⟨rfl, rfl, rfl⟩ := h
    obtain ⟨r, h1, h2⟩ := vbinE_run (P := P) hT hb hp (s.eval y) (s.eval z) y z
    refine mkq (v := r) ?_ h2
    simp only [execOp, Sem.run_bind] at h1 ⊢
    simp [h1]
  | unOp op t y =>
    simp only [vop] at h
    split at h
    case h_2 => cases h
    rename_i r hb
    simp only [Option.some.injEq, Prod.mk.injEq] at h; obtain ⟨rfl, rfl, rfl⟩ := h
    obtain ⟨r, h1, h2⟩ := vun_run (P := P) hb (s.eval y)
    exact mkq (by simp [execOp, h1]) h2
  | convert src dst' y =>
    simp only [vop] at h
    split at h
    · rename_i hmk
      simp only [Option.some.injEq] at h
      subst h
      exfalso
      unfold vmark at hmk
      split at hmk
      case isFalse => cases hmk
      split at hmk
      case h_2 => cases hmk
      split at hmk
      case h_2 => cases hmk
      simp only [Option.some.injEq, Prod.mk.injEq] at hmk
      obtain ⟨_, rfl, _⟩ := hmk
      simp [quietR] at hq
    split at h
    case h_2 => cases h
    rename_i p' r hb
    simp only [Option.some.injEq, Prod.mk.injEq] at h; obtain ⟨rfl, rfl, rfl⟩ := h
    have hx := s.eval y
    unfold vconv at hb
    split at hb
    case h_2 => cases hb
    rename_i i j hi hj
    obtain ⟨info, d, z, e1, e2, e3, _⟩ := hT dst' _ hj
    obtain ⟨info', d', z', f1, f2, f3, _⟩ := hT src _ hi
    split at hb
    · rename_i k k0 n hjk hey
      simp only [Option.some.injEq, Prod.mk.injEq] at hb; obtain ⟨rfl, rfl⟩ := hb
      obtain rfl := kindOf_int (e3.trans hjk)
      rw [hey] at hx
      simp only [VRep] at hx
      refine mkq (v := .int k (k.wrap n)) ?_ rfl
      simp [execOp, convert, run_underlying e2, run_underlying f2, hx, Conv.intToInt]
    · rename_i st hjk hey
      simp only [Option.some.injEq, Prod.mk.injEq] at hb; obtain ⟨rfl, rfl⟩ := hb
      obtain rfl := kindOf_string (e3.trans hjk)
      rw [hey] at hx
      simp only [VRep] at hx
      refine mkq (v := .string st) ?_ rfl
      simp [execOp, convert, run_underlying e2, run_underlying f2, hx]
    · rename_i e st hjk hey
      split at hb
      case h_2 => cases hb
      rename_i hik he
      simp only [Option.some.injEq, Prod.mk.injEq] at hb; obtain ⟨rfl, rfl⟩ := hb
      rw [hey] at hx
      simp only [VRep] at hx
      simp [quietR] at hq
    · rename_i hjk _
      split at hb
      case h_2 => cases hb
      rename_i e hik
      split at hb
      case h_2 => cases hb
      rename_i _ p'' n ys he hrd
      simp only [Option.some.injEq, Prod.mk.injEq] at hb; obtain ⟨rfl, rfl⟩ := hb
      obtain ⟨q1, q2, q3⟩ := hp
      have := str_sound (P := P) hT hs hi hik he rfl hj hjk hx hrd q1 q2 q3
      exact mkq (v := .string (strOfV ys)) (by simp [execOp, this]) rfl
    · cases hb
  | makeFunc fn first caps =>
    cases fn with
    | func f =>
      simp only [vop] at h
      split at h
      case isFalse => cases h
      rename_i hfe
      simp only [Option.some.injEq, Prod.mk.injEq] at h; obtain ⟨rfl, rfl, rfl⟩ := h
      simp only [Bool.and_eq_true] at hfe
      have hf0 : first = #[] := by simpa using hfe.1
      subst hf0
      refine mkq (v := .func (.func f) #[] (caps.map a.eval)) (by simp [execOp, Instr.makeFunc]) ⟨_, hfe.2, rfl, by simpa using evals_rep' s caps.toList⟩
    | _ => simp [vop] at h
  | makeSlice t l c => simp [quietR, quietOp] at hq
  | slice t y lo hi mx =>
    cases mx with
    | some m =>
      cases lo with
      | none => simp [vop] at h
      | some lo =>
        cases hi with
        | none => simp [vop] at h
        | some hi =>
          simp only [vop] at h
          split at h
          case h_2 => cases h
          rename_i kl l kh h' km m' e1 e2 e3
          split at h
          case h_2 => cases h
          rename_i p' y' hv
          simp only [Option.some.injEq, Prod.mk.injEq] at h; obtain ⟨rfl, rfl, rfl⟩ := h
          have q1 := s.eval lo
          have q2 := s.eval hi
          have q3 := s.eval m
          rw [e1] at q1
          rw [e2] at q2
          rw [e3] at q3
          simp only [VRep] at q1 q2 q3
          obtain ⟨u, h1, h2⟩ := vslice3_sound (P := P) hT (s.eval y) (kl := kl) (kh := kh) (km := km) hv hp
          simp only [Option.map_some] at h1
          exact mkq (by simp [execOp, q1, q2, q3, h1]) h2
    | none =>
      simp only [vop] at h
      have key : ∀ (l h' : Option Int), (∀ o, lo = some o → ∃ k n, a.eval o = .int k n ∧ l = some n) → (lo = none → l = none) → (∀ o, hi = some o → ∃ k n, a.eval o = .int k n ∧ h' = some n) → (hi = none → h' = none) →
          ∀ {p' y'}, vslice T ob t (evV sl y) l h' = some (p', y') → p' → ∃ v, (execOp a.eval ⟨dst, .slice t y lo hi none, ty, pos, aft, gd⟩).run P w = .ok (.value v) w ∧ VRep (mkE Φ H ob w) y' v := by
        intro l h' hl1 hl2 hh1 hh2 p' y' hv hp'
        obtain ⟨kl, el⟩ : ∃ k, lo.map a.eval = l.map (Value.int k) := by
          cases lo with
          | none => exact ⟨.i64, by rw [hl2 rfl]; rfl⟩
          | some o => obtain ⟨k, n, q1, q2⟩ := hl1 o rfl; exact ⟨k, by rw [q2]; simp [q1]⟩
        obtain ⟨kh, eh⟩ : ∃ k, hi.map a.eval = h'.map (Value.int k) := by
          cases hi with
          | none => exact ⟨.i64, by rw [hh2 rfl]; rfl⟩
          | some o => obtain ⟨k, n, q1, q2⟩ := hh1 o rfl; exact ⟨k, by rw [q2]; simp [q1]⟩
        obtain ⟨u, h1, h2⟩ := vslice_sound (P := P) hT hs (s.eval y) (kl := kl) (kh := kh) hv hp'
        exact ⟨u, by simp [execOp, el, eh, h1], h2⟩
      have hint : ∀ o n, intOfV (evV sl o) = some n → ∃ k, a.eval o = .int k n := fun o n q => int_of_rep (s.eval o) q
      split at h
      · cases h
      · cases h
      · rename_i l0 h0 hn1 hn2
        split at h
        case h_2 => cases h
        rename_i p' y' hv
        simp only [Option.some.injEq, Prod.mk.injEq] at h; obtain ⟨rfl, rfl, rfl⟩ := h
        refine (fun q => ⟨rfl, q⟩) (key _ _  (fun o e => ?_) (fun e => by simp [e]) (fun o e => ?_) (fun e => by simp [e]) hv hp)
        · subst e
          cases q : intOfV (evV sl o) with
          | none => exact (hn1 (by simp [q])).elim
          | some n => obtain ⟨k, hk⟩ := hint o n q; exact ⟨k, n, hk, by simp [q]⟩
        · subst e
          cases q : intOfV (evV sl o) with
          | none => exact (hn2 (by simp [q])).elim
          | some n => obtain ⟨k, hk⟩ := hint o n q; exact ⟨k, n, hk, by simp [q]⟩
  | fieldAddr t y f =>
    simp only [vop] at h
    split at h
    case h_2 => cases h
    rename_i p' r hb
    simp only [Option.some.injEq, Prod.mk.injEq] at h; obtain ⟨rfl, rfl, rfl⟩ := h
    obtain ⟨u, h1, h2⟩ := vfieldAddr_sound (P := P) hT hs (s.eval y) hb hp
    exact mkq (by simp [execOp, h1]) h2
  | field t y f =>
    simp only [vop] at h
    split at h
    case h_2 => cases h
    rename_i fs _ _ _ cs ht hy
    split at h
    case h_2 => cases h
    rename_i o' ft hf
    split at h
    case h_2 => cases h
    rename_i p' r hb
    simp only [Option.some.injEq, Prod.mk.injEq] at h; obtain ⟨rfl, rfl, rfl⟩ := h
    have hx := s.eval y
    rw [hy] at hx
    obtain ⟨info, d, z, e1, e2, e3, _⟩ := hT t _ ht
    obtain ⟨arr', rfl, rfl⟩ := kindOf_struct e3
    obtain ⟨arr, e, hv⟩ := hx
    obtain ⟨u, h1, h2⟩ := vpartN_sound (P := P) hT hv hb hp
    simp only [List.getElem?_map, Option.map_eq_some_iff, Prod.mk.injEq] at hf
    obtain ⟨fld, hfl, rfl, rfl⟩ := hf
    have hfl' : arr'[f]? = some fld := by simpa using hfl
    exact mkq (by simp [execOp, Instr.field, run_underlying e2, hfl', e, asAgg, h1]) h2
  | indexAddr t y i =>
    simp only [vop] at h
    split at h
    case h_2 => cases h
    rename_i k n hi
    split at h
    case h_2 => cases h
    rename_i p' r hb
    simp only [Option.some.injEq, Prod.mk.injEq] at h; obtain ⟨rfl, rfl, rfl⟩ := h
    have hi' := s.eval i
    rw [hi] at hi'
    simp only [VRep] at hi'
    obtain ⟨u, h1, h2⟩ := vindexAddr_sound (P := P) hT hs (s.eval y) (k := k) hb hp
    exact mkq (by simp [execOp, hi', h1]) h2
  | index t y i =>
    simp only [vop] at h
    split at h
    case h_2 => cases h
    rename_i k n hi
    split at h
    case h_2 => cases h
    rename_i p' r hb
    simp only [Option.some.injEq, Prod.mk.injEq] at h; obtain ⟨rfl, rfl, rfl⟩ := h
    have hi' := s.eval i
    rw [hi] at hi'
    simp only [VRep] at hi'
    obtain ⟨u, h1, h2⟩ := vindex_sound (P := P) hT (s.eval y) (k := k) hb hp
    exact mkq (by simp [execOp, hi', h1]) h2
  | extract y i =>
    simp only [vop] at h
    split at h
    case h_2 => cases h
    rename_i cs hy
    split at h
    case h_2 => cases h
    rename_i r hb
    simp only [Option.some.injEq, Prod.mk.injEq] at h; obtain ⟨rfl, rfl, rfl⟩ := h
    have hx := s.eval y
    rw [hy] at hx
    obtain ⟨arr, _, e, hv⟩ := hx
    obtain ⟨u, hu, _, h2⟩ := hv.get i _ hb
    have hu' : arr[i]? = some u := by simpa using hu
    exact mkq (by simp [execOp, Instr.extract, e, hu']) h2
  | call c =>
    obtain ⟨callee, args, ts⟩ := c
    simp only [vop] at h
    split at h
    case h_2 => cases h
    rename_i b
    unfold vopCall at h
    split at h
    · rename_i y t e1 e2
      split at h
      case h_2 => cases h
      rename_i p' r hb
      simp only [Option.some.injEq, Prod.mk.injEq] at h; obtain ⟨rfl, rfl, rfl⟩ := h
      obtain rfl : args = #[y] := by apply Array.ext'; exact e1
      obtain rfl : ts = #[t] := by apply Array.ext'; exact e2
      obtain ⟨u, h1, h2⟩ := vlen_sound (P := P) hT hs (ty := ty) (s.eval y) hb hp
      exact mkq (by simp [execOp, resolve, invoke, builtin, h1]) h2
    · rename_i y z e1
      split at h
      case h_2 => cases h
      rename_i r hb
      simp only [Option.some.injEq, Prod.mk.injEq] at h; obtain ⟨rfl, rfl, rfl⟩ := h
      obtain rfl : args = #[y, z] := by apply Array.ext'; exact e1
      unfold vmin at hb
      split at hb
      case h_2 => cases hb
      rename_i k m k' n hy hz
      split at hb
      case isFalse => cases hb
      simp only [Option.some.injEq] at hb; subst hb
      have q1 := s.eval y; rw [hy] at q1
      have q2 := s.eval z; rw [hz] at q2
      simp only [VRep] at q1 q2
      refine mkq (v := .int k (if n < m then n else m)) ?_ rfl
      simp [execOp, resolve, invoke, builtin, q1, q2, run_min_int2]
    · rename_i y z e1
      split at h
      case h_2 => cases h
      rename_i r hb
      simp only [Option.some.injEq, Prod.mk.injEq] at h; obtain ⟨rfl, rfl, rfl⟩ := h
      obtain rfl : args = #[y, z] := by apply Array.ext'; exact e1
      unfold vmax at hb
      split at hb
      case h_2 => cases hb
      rename_i k m k' n hy hz
      split at hb
      case isFalse => cases hb
      simp only [Option.some.injEq] at hb; subst hb
      have q1 := s.eval y; rw [hy] at q1
      have q2 := s.eval z; rw [hz] at q2
      simp only [VRep] at q1 q2
      refine mkq (v := .int k (if n > m then n else m)) ?_ rfl
      simp [execOp, resolve, invoke, builtin, q1, q2, run_max_int2]
    · simp [quietR, quietOp] at hq
    · simp [quietR, quietOp] at hq
    · simp [quietR, quietOp] at hq
    · simp [quietR, quietOp] at hq
    · simp [quietR, quietOp] at hq
    · cases h
  | makeMap t r => simp [quietR, quietOp] at hq
  | lookup t y k ok =>
    simp only [vop] at h
    split at h
    case h_2 => cases h
    rename_i z hv
    simp only [Option.some.injEq, Prod.mk.injEq] at h; obtain ⟨rfl, rfl, rfl⟩ := h
    obtain ⟨q, h1, h2⟩ := lookup_sound (P := P) hT hs (s.eval y) (s.eval k) hv
    exact mkq (by simp [execOp, h1]) h2
  | mapUpdate t m k y => simp [quietR, quietOp] at hq
  | range t y => simp [quietR, quietOp] at hq
  | entry y => simp [quietR, quietOp] at hq
  | makeInterface t y =>
    simp only [vop] at h
    split at h
    case h_2 => cases h
    rename_i fs _ _ _ v e1 e2
    simp only [Option.some.injEq, Prod.mk.injEq] at h; obtain ⟨rfl, rfl, rfl⟩ := h
    obtain ⟨info, d, zz, f1, f2, f3, _⟩ := hT t _ e1
    obtain ⟨A, rfl, _⟩ := kindOf_struct f3
    have hv := concV_rep e2 (s.eval y)
    exact mkq (v := .iface t v) (by simp [execOp, Instr.makeInterface, run_underlying f2, hv]) rfl
  | typeAssert y xt t ok =>
    cases ok with
    | true => simp [vop] at h
    | false =>
      simp only [vop] at h
      split at h
      case h_2 => cases h
      rename_i fs _ _ _ t' v e1 e2
      split at h
      case isFalse => cases h
      rename_i ht
      subst ht
      simp only [Option.some.injEq, Prod.mk.injEq] at h; obtain ⟨rfl, rfl, rfl⟩ := h
      obtain ⟨info, d, zz, f1, f2, f3, _⟩ := hT t' _ e1
      obtain ⟨A, rfl, _⟩ := kindOf_struct f3
      have hx := s.eval y
      rw [e2] at hx
      simp only [VRep] at hx
      exact mkq (v := v) (by simp [execOp, Instr.typeAssert, run_underlying f2, hx]) (vconst_rep _ v)
  | _ => simp [vop] at h

end

def okd (nt : Sh) : Option Nat → Prop
  | some d => d < nt.nt
  | none => True

/-! ### Operations under a guard -/
section
variable {P : Program} {T : Nat → Option TI} {nt : Sh}

/-- What a run of operations that leave memory alone does to slots. -/
inductive Steps (P : Program) (ops : Array Oper) (w : World) : List Oper → Act → Act → Prop where
  | nil (a : Act) : Steps P ops w [] a a
  | run {o : Oper} {rest : List Oper} {a a' : Act} {v : Value} (h : Region.wanted o (yielded ops a.tmps) = true) (hr : (execOp a.eval o).run P w = .ok (.value v) w) (k : Steps P ops w rest (a.put o.dst v) a') : Steps P ops w (o :: rest) a a'
  | skip {o : Oper} {rest : List Oper} {a a' : Act} (h : Region.wanted o (yielded ops a.tmps) = false) (k : Steps P ops w rest (a.put o.dst undef) a') : Steps P ops w (o :: rest) a a'

theorem Steps.append {ops : Array Oper} {w : World} {l l' : List Oper} {a b c : Act} (h : Steps P ops w l a b) (k : Steps P ops w l' b c) : Steps P ops w (l ++ l') a c := by
  induction h with
  | nil a => exact k
  | run h hr _ ih => exact .run h hr (ih k)
  | skip h _ ih => exact .skip h (ih k)
theorem Steps.list {ops : Array Oper} {w : World} {Qx : Exit → Act → World → Prop} {l rest : List Oper} {a a' : Act} (h : Steps P ops w l a a') (k : wpList P ops Qx rest a' w) : wpList P ops Qx (l ++ rest) a w := by
  induction h with
  | nil a => exact k
  | run h hr _ ih =>
    simp only [List.cons_append, wpList, h, if_true]
    refine .inl ?_
    unfold Oper.wp
    rw [hr]
    exact ih k
  | skip h _ ih =>
    simp only [List.cons_append, wpList, h, Bool.false_eq_true, if_false]
    exact ih k
theorem Steps.still {ops : Array Oper} {w : World} {Q : Act → Prop} {l rest : List Oper} {a a' : Act} (h : Steps P ops w l a a') (k : wpStill P ops w Q rest a') : wpStill P ops w Q (l ++ rest) a := by
  induction h with
  | nil a => exact k
  | run h hr _ ih =>
    simp only [List.cons_append, wpStill, h, if_true]
    unfold Oper.still
    rw [hr]
    exact ⟨rfl, ih k⟩
  | skip h _ ih =>
    simp only [List.cons_append, wpStill, h, Bool.false_eq_true, if_false]
    exact ih k

def dsts (l : List Oper) : List Nat := l.filterMap (·.dst)

theorem put_other {a : Act} {d : Option Nat} {v : Value} {t : Nat} (h : d ≠ some t) : (a.put d v).tmps.getD t undef = a.tmps.getD t undef := by
  cases d with
  | none => rfl
  | some d =>
    have : d ≠ t := fun e => h (by rw [e])
    simp only [Act.put, Array.getD_eq_getD_getElem?, Array.getElem?_setIfInBounds_ne this]
theorem Steps.other {ops : Array Oper} {w : World} {l : List Oper} {a a' : Act} (h : Steps P ops w l a a') : a'.defers = a.defers ∧ a'.tmps.size = a.tmps.size ∧ ∀ t, t ∉ dsts l → a'.tmps.getD t undef = a.tmps.getD t undef := by
  have key : ∀ (o : Oper) (rest : List Oper) (t : Nat), t ∉ dsts (o :: rest) → o.dst ≠ some t ∧ t ∉ dsts rest := by
    intro o rest t ht
    simp only [dsts, List.filterMap_cons] at ht ⊢
    cases hd : o.dst with
    | none => simp only [hd] at ht; exact ⟨by simp, ht⟩
    | some d => simp only [hd, List.mem_cons, not_or] at ht; exact ⟨fun e => ht.1 (Option.some.inj e).symm, ht.2⟩
  have pd : ∀ (a : Act) (d : Option Nat) (v : Value), (a.put d v).defers = a.defers ∧ (a.put d v).tmps.size = a.tmps.size := by
    intro a d v; cases d <;> simp [Act.put]
  induction h with
  | nil a => exact ⟨rfl, rfl, fun _ _ => rfl⟩
  | run h hr _ ih =>
    obtain ⟨i1, i2, i3⟩ := ih
    exact ⟨i1.trans (pd _ _ _).1, i2.trans (pd _ _ _).2, fun t ht => (i3 t (key _ _ t ht).2).trans (put_other (key _ _ t ht).1)⟩
  | skip h _ ih =>
    obtain ⟨i1, i2, i3⟩ := ih
    exact ⟨i1.trans (pd _ _ _).1, i2.trans (pd _ _ _).2, fun t ht => (i3 t (key _ _ t ht).2).trans (put_other (key _ _ t ht).1)⟩

def gslot (ops : List Oper) (g : Nat × Bool) : Option (Nat × Bool) :=
  match (ops[g.1]?).bind (·.dst) with
  | some d => some (d, g.2)
  | none => none

/-- How many operations are passed over, where none of these guards is met. -/
def skips (ops : List Oper) : List (Nat × Bool) → List Oper → Nat
  | _, [] => 0
  | D, o :: rest => match o.guard with
    | none => 0
    | some g => match gslot ops g with
      | some s => if s ∈ D then match o.dst with
          | some d => skips ops ((d, true) :: (d, false) :: D) rest + 1
          | none => 0
        else 0
      | none => 0

theorem not_wanted {ops : List Oper} {o : Oper} {g s : Nat × Bool} {a : Act} (hg : o.guard = some g) (hs : gslot ops g = some s) (hn : a.tmps[s.1]? ≠ some (.bool s.2)) : Region.wanted o (yielded ops.toArray a.tmps) = false := by
  obtain ⟨j, want⟩ := g
  unfold gslot at hs
  split at hs
  case h_2 => cases hs
  rename_i d hd
  simp only [Option.some.injEq] at hs; subst hs
  simp only [Region.wanted, hg]
  have hd' : (ops.toArray[j]?).bind (·.dst) = some d := by simpa using hd
  cases hy : yielded ops.toArray a.tmps j with
  | none => rfl
  | some b =>
    unfold yielded at hy
    rw [hd', Option.bind_some] at hy
    split at hy
    · rename_i b' hb'
      simp only [Option.some.injEq] at hy; subst hy
      simp only [beq_eq_false_iff_ne, ne_eq, Option.some.injEq]
      intro e; subst e
      exact hn hb'
    · cases hy

theorem skips_run {w : World} {ops : List Oper} : ∀ (l : List Oper) (D : List (Nat × Bool)) (a : Act), (∀ s ∈ D, a.tmps[s.1]? ≠ some (.bool s.2)) → ∃ a', Steps P ops.toArray w (l.take (skips ops D l)) a a'
  | [], D, a, _ => ⟨a, by simpa [skips] using Steps.nil a⟩
  | o :: rest, D, a, hD => by
    have stop : ∃ a', Steps P ops.toArray w ((o :: rest).take 0) a a' := ⟨a, by simpa using Steps.nil a⟩
    unfold skips
    split
    · exact stop
    · rename_i g hg
      split
      · rename_i s hs
        split
        · rename_i hm
          split
          · rename_i d hd
            have hnw := not_wanted (ops := ops) hg hs (hD s hm)
            obtain ⟨a', ih⟩ := skips_run rest ((d, true) :: (d, false) :: D) (a.put o.dst undef) (by
              have same : ∀ b, (a.put o.dst undef).tmps[d]? ≠ some (.bool b) := by
                intro b
                rw [hd]
                simp only [Act.put]
                rw [Array.getElem?_setIfInBounds]
                simp only [if_true]
                split
                · simp [undef]
                · simp
              intro s' hs'
              rcases List.mem_cons.1 hs' with rfl | hs'
              · exact same true
              rcases List.mem_cons.1 hs' with rfl | hs'
              · exact same false
              by_cases e : d = s'.1
              · rw [← e]; exact same _
              · have : (a.put o.dst undef).tmps[s'.1]? = a.tmps[s'.1]? := by
                  rw [hd]; simp only [Act.put, Array.getElem?_setIfInBounds_ne e]
                rw [this]; exact hD s' hs')
            exact ⟨a', by rw [List.take_succ_cons]; exact .skip hnw ih⟩
          · exact stop
        · exact stop
      · exact stop

/-- A slot that is written under a guard. -/
def gt (b want : Bool) (x : V) : V := if b = want then x else .junk
def gateS (b want : Bool) (sl1 : List (Nat × V)) : List Nat → List (Nat × V) → List (Nat × V)
  | [], sl => sl
  | d :: ds, sl => gateS b want sl1 ds (setS sl d (gt b want (getS sl1 d)))
theorem getS_gateS (b want : Bool) (sl1 : List (Nat × V)) : ∀ (ds : List Nat) (sl : List (Nat × V)) (t : Nat), getS (gateS b want sl1 ds sl) t = if t ∈ ds then gt b want (getS sl1 t) else getS sl t
  | [], sl, t => by simp [gateS]
  | d :: ds, sl, t => by
    rw [gateS, getS_gateS b want sl1 ds _ t, getS_setS]
    by_cases h1 : t ∈ ds
    · simp [h1]
    · by_cases h2 : d = t
      · subst h2; simp [h1]
      · have : t ≠ d := fun e => h2 e.symm
        simp [h1, h2, this]

/-- Operations that leave memory alone, with guards; A: guards that are met. -/
def vgo (T : Nat → Option TI) (nt : Sh) (ops : List Oper) (ob : List Ob) : Nat → List (Nat × Bool) → List Oper → List (Nat × V) → Option (Prop × List (Nat × V))
  | 0, _, _, _ => none
  | _ + 1, _, [], sl => some (True, sl)
  | f + 1, A, o :: rest, sl => match o.guard with
    | none => none
    | some g => match gslot ops g with
      | none => none
      | some s => if s ∈ A then
          match vop T sl ob o.op with
          | some (p, x, _) => if quietR o.op x = true ∧ (∀ s ∈ A, o.dst ≠ some s.1) then
              match vgo T nt ops ob f A rest (putD sl o.dst x) with
              | some (q, sl') => some (p ∧ okd nt o.dst ∧ q, sl')
              | none => none
            else none
          | none => none
        else match getS sl s.1 with
          | .bool b => match vgo T nt ops ob f (s :: A) ((o :: rest).take (skips ops [s] (o :: rest))) (setS sl s.1 (.bool s.2)) with
            | some (p, sl1) => if (∀ s' ∈ A, s'.1 ∉ dsts ((o :: rest).take (skips ops [s] (o :: rest)))) then
                match vgo T nt ops ob f A ((o :: rest).drop (skips ops [s] (o :: rest))) (gateS b s.2 sl1 (dsts ((o :: rest).take (skips ops [s] (o :: rest)))) sl) with
                | some (q, sl2) => some ((b = s.2 → p) ∧ q, sl2)
                | none => none
              else none
            | none => none
          | _ => none

/-- A group of operations under one guard. -/
def vgrp (T : Nat → Option TI) (nt : Sh) (ops : List Oper) (st : St) (s : Nat × Bool) (l : List Oper) : Option (Prop × List (Nat × V) × Nat) :=
  match skips ops [s] l with
  | 0 => none
  | n + 1 => match vgo T nt ops st.ob 90 [] (l.take (n + 1)) st.sl with
    | some (p, sl) => some (p, sl, n)
    | none => none

theorem get_of_getD {a : Act} {t : Nat} {b : Bool} (h : a.tmps.getD t undef = .bool b) : a.tmps[t]? = some (.bool b) := by
  rw [Array.getD_eq_getD_getElem?] at h
  cases q : a.tmps[t]? with
  | none => rw [q] at h; simp [undef] at h
  | some v => rw [q] at h; simpa using h
theorem wanted_of {ops : List Oper} {o : Oper} {g s : Nat × Bool} {a : Act} (hg : o.guard = some g) (hs : gslot ops g = some s) (hn : a.tmps[s.1]? = some (.bool s.2)) : Region.wanted o (yielded ops.toArray a.tmps) = true := by
  obtain ⟨j, want⟩ := g
  unfold gslot at hs
  split at hs
  case h_2 => cases hs
  rename_i d hd
  simp only [Option.some.injEq] at hs; subst hs
  have hd' : (ops.toArray[j]?).bind (·.dst) = some d := by simpa using hd
  simp only at hn
  have hy : yielded ops.toArray a.tmps j = some want := by
    unfold yielded
    rw [hd', Option.bind_some, hn]
  simp [Region.wanted, hg, hy]

theorem SimE.slotsOf {C : Ctx} {Φ H ob w} {sl sl' : List (Nat × V)} {a a' : Act} (s : SimE C Φ H ⟨sl, ob⟩ a w) (h1 : a'.defers = a.defers) (h2 : a'.tmps.size = a.tmps.size) (h : ∀ t, VRep (mkE Φ H ob w) (getS sl' t) (a'.tmps.getD t undef)) : SimE C Φ H ⟨sl', ob⟩ a' w :=
  ⟨s.hs, by rw [h1]; exact s.defers, h2.trans s.nt, s.k0, h⟩

theorem vgo_sound (hT : TabOK P T) {ops : List Oper} {ob : List Ob} : ∀ (f : Nat) (A : List (Nat × Bool)) (l : List Oper) (sl sl' : List (Nat × V)) (p : Prop), vgo T nt ops ob f A l sl = some (p, sl') → p →
    ∀ (C : Ctx), C.nt = nt → ∀ Φ H a w, SimE C Φ H ⟨sl, ob⟩ a w → (∀ s ∈ A, a.tmps.getD s.1 undef = .bool s.2) → ∃ a', Steps P ops.toArray w l a a' ∧ SimE C Φ H ⟨sl', ob⟩ a' w
  | 0, _, _, _, _, _, h, _, _, _, _, _, _, _, _, _ => by simp [vgo] at h
  | f + 1, A, [], sl, sl', p, h, hp, C, hC, Φ, H, a, w, s, hA => by
    simp only [vgo, Option.some.injEq, Prod.mk.injEq] at h
    obtain ⟨_, rfl⟩ := h
    exact ⟨a, .nil a, s⟩
  | f + 1, A, o :: rest, sl, sl', p, h, hp, C, hC, Φ, H, a, w, s, hA => by
    simp only [vgo] at h
    split at h
    · cases h
    rename_i g hg
    split at h
    · cases h
    rename_i sg hsg
    split at h
    · rename_i hm
      split at h
      case h_2 => cases h
      rename_i p1 x ob1 hv
      split at h
      case isFalse => cases h
      rename_i hq
      split at h
      case h_2 => cases h
      rename_i q sl2 hrec
      simp only [Option.some.injEq, Prod.mk.injEq] at h
      obtain ⟨rfl, rfl⟩ := h
      obtain ⟨hp1, hok, hqq⟩ := hp
      obtain ⟨_, v, hr, hx⟩ := vop_quiet (P := P) (sl := sl) (ob := ob) hT s hq.1 hv hp1
      have s' := s.put (d := o.dst) hx fun i e => by rw [e] at hok; rw [hC]; exact hok
      obtain ⟨a', k1, k2⟩ := vgo_sound hT f A rest _ _ _ hrec hqq C hC Φ H _ w s' fun s0 hs0 => by
        rw [put_other (hq.2 s0 hs0)]; exact hA s0 hs0
      exact ⟨a', .run (wanted_of hg hsg (get_of_getD (hA sg hm))) hr k1, k2⟩
    · split at h
      case h_2 => cases h
      rename_i b hb
      split at h
      case h_2 => cases h
      rename_i p1 sl1 hrec1
      split at h
      case isFalse => cases h
      rename_i hfree
      split at h
      case h_2 => cases h
      rename_i q sl2 hrec2
      simp only [Option.some.injEq, Prod.mk.injEq] at h
      obtain ⟨rfl, rfl⟩ := h
      obtain ⟨hpp, hqq⟩ := hp
      have hsl := s.slots sg.1
      rw [hb] at hsl
      simp only [VRep] at hsl
      have hsplit : ∀ n, (o :: rest) = (o :: rest).take n ++ (o :: rest).drop n := fun n => (List.take_append_drop n _).symm
      have fin : ∀ a1, Steps P ops.toArray w ((o :: rest).take (skips ops [sg] (o :: rest))) a a1 → (∀ t ∈ dsts ((o :: rest).take (skips ops [sg] (o :: rest))), VRep (mkE Φ H ob w) (gt b sg.2 (getS sl1 t)) (a1.tmps.getD t undef)) →
          ∃ a', Steps P ops.toArray w (o :: rest) a a' ∧ SimE C Φ H ⟨sl2, ob⟩ a' w := by
        intro a1 hst hds
        obtain ⟨o1, o2, o3⟩ := hst.other
        have s1 : SimE C Φ H ⟨gateS b sg.2 sl1 (dsts ((o :: rest).take (skips ops [sg] (o :: rest)))) sl, ob⟩ a1 w := by
          refine s.slotsOf o1 o2 fun t => ?_
          rw [getS_gateS]
          split
          · rename_i ht; exact hds t ht
          · rename_i ht; rw [o3 t ht]; exact s.slots t
        obtain ⟨a', k1, k2⟩ := vgo_sound hT f A _ _ _ _ hrec2 hqq C hC Φ H a1 w s1 fun s0 hs0 => by
          rw [o3 _ (hfree s0 hs0)]; exact hA s0 hs0
        refine ⟨a', ?_, k2⟩
        rw [hsplit (skips ops [sg] (o :: rest))]
        exact hst.append k1
      by_cases hbw : b = sg.2
      · have s0 : SimE C Φ H ⟨setS sl sg.1 (.bool sg.2), ob⟩ a w := s.slotsOf rfl rfl fun t => by
          rw [getS_setS]
          split
          · rename_i e; subst e
            rw [hsl, hbw]
            rfl
          · exact s.slots t
        obtain ⟨a1, k1, k2⟩ := vgo_sound hT f (sg :: A) _ _ _ _ hrec1 (hpp hbw) C hC Φ H a w s0 fun s' hs' => by
          rcases List.mem_cons.1 hs' with rfl | hs'
          · rw [hsl, hbw]
          · exact hA s' hs'
        refine fin a1 k1 fun t _ => ?_
        rw [gt, if_pos hbw]
        exact k2.slots t
      · obtain ⟨a1, k1⟩ := skips_run (P := P) (w := w) (ops := ops) (o :: rest) [sg] a fun s' hs' => by
          rcases List.mem_cons.1 hs' with rfl | hs'
          · rw [get_of_getD hsl]
            intro e
            exact hbw (by simpa using e)
          · cases hs'
        refine fin a1 k1 fun t _ => ?_
        rw [gt, if_neg hbw]
        trivial

theorem vgrp_sound (hT : TabOK P T) {ops : List Oper} {st : St} {sg : Nat × Bool} {o : Oper} {rest : List Oper} {p : Prop} {sl : List (Nat × V)} {n : Nat} (h : vgrp T nt ops st sg (o :: rest) = some (p, sl, n)) (hp : p)
    {C : Ctx} (hC : C.nt = nt) {Φ H a w} (s : SimE C Φ H st a w) : ∃ a', Steps P ops.toArray w (o :: rest.take n) a a' ∧ SimE C Φ H ⟨sl, st.ob⟩ a' w := by
  unfold vgrp at h
  split at h
  · cases h
  · rename_i n' hn
    split at h
    case h_2 => cases h
    rename_i p' sl' hv
    simp only [Option.some.injEq, Prod.mk.injEq] at h
    obtain ⟨rfl, rfl, rfl⟩ := h
    rw [List.take_succ_cons] at hv
    exact vgo_sound hT _ _ _ _ _ _ hv hp C hC Φ H a w s fun s' hs' => by cases hs'
end
end Go.VX

/- Regions, operation by operation; calls. -/
namespace Go.VX
open Go.RowKit
set_option linter.unusedVariables false
set_option linter.unusedSimpArgs false

def vcall (P : Program) (nt : Sh) (st : St) (k : Nat) (args : List V) (K : V → List Ob → Prop) : Prop :=
  Ent P k ∧ ∀ C : Ctx, C.nt = nt → ∀ Φ H a w, SimE C Φ H st a w → ∀ vals : Array Value, VReps .any (mkE Φ H st.ob w) args vals.toList →
    Calls P k vals w fun e w' => match e with
      | .returned v => ∃ Φ' H' ob' r, SimE C Φ' H' ⟨st.sl, ob'⟩ a w' ∧ VRep (mkE Φ' H' ob' w') r v ∧ K r ob'
      | .outgrown => False
      | .panicked _ => False

/-- What goes on behind a call, kept shut till the call's result is there. -/
def vcont (K : St → Prop) (sl : List (Nat × V)) (d : Option Nat) (r : V) (ob' : List Ob) : Prop := K ⟨putD sl d r, ob'⟩
theorem vcont_app (K : St → Prop) (sl : List (Nat × V)) (d : Option Nat) (r : V) (ob' : List Ob) : vcont K sl d r ob' = K ⟨putD sl d r, ob'⟩ := rfl

/-- One step through a map. -/
def vnext (nt : Sh) (dst : Option Nat) (st : St) (x : V) (K : St → Prop) : Prop :=
  match x with
  | .ptr id 0 0 => match st.ob[id]? with
    | some (.iter (.mp m) since seen last) => match st.ob[m]? with
      | some (.map es bs ck) => okd nt dst ∧ ck ≤ since ∧ since ≤ last ∧
          (∀ (i n : Nat) (e : V × V), bs[i]? = some n → es[i]? = some e → n ∉ seen → K ⟨putD st.sl dst (.tup [.bool true, e.1, e.2]), st.ob.set id (.iter (.mp m) since (seen ++ [n]) ck)⟩) ∧
          ((∀ n ∈ bs, n ∈ seen) → K ⟨putD st.sl dst (.tup [.bool false]), st.ob⟩)
      | _ => False
    | _ => False
  | _ => False

def vstep (P : Program) (T : Nat → Option TI) (nt : Sh) (o : Oper) (st : St) (K : St → Prop) : Prop :=
  match o.op with
  | .call ⟨.value f, args, _⟩ => match evV st.sl f with
    | .fn k caps => okd nt o.dst ∧ vcall P nt st k (args.toList.map (evV st.sl) ++ caps) (vcont K st.sl o.dst)
    | _ => False
  | .next x false => vnext nt o.dst st (evV st.sl x) K
  | op => match vop T st.sl st.ob op with
    | some (p, x, ob') => p ∧ okd nt o.dst ∧ K ⟨putD st.sl o.dst x, ob'⟩
    | none => False

def vrun (P : Program) (T : Nat → Option TI) (nt : Sh) (ops : List Oper) : Nat → List Oper → (St → Prop) → St → Prop
  | _, [], Q, st => Q st
  | k + 1, _ :: rest, Q, st => vrun P T nt ops k rest Q st
  | 0, o :: rest, Q, st => match o.guard with
    | none => vstep P T nt o st (vrun P T nt ops 0 rest Q)
    | some g => match gslot ops g with
      | some s => match getS st.sl s.1 with
        | .bool b => match vgrp T nt ops st s (o :: rest) with
          | some (p, sl, n) => p ∧ vrun P T nt ops n rest Q ⟨sl, st.ob⟩
          | none => if b = s.2 then vstep P T nt o ⟨setS st.sl s.1 (.bool s.2), st.ob⟩ (vrun P T nt ops 0 rest Q)
              else okd nt o.dst ∧ vrun P T nt ops 0 rest Q ⟨putD (setS st.sl s.1 (.bool (!s.2))) o.dst .junk, st.ob⟩
        | _ => False
      | none => False

section
variable {P : Program} {T : Nat → Option TI} {nt : Sh}

theorem callee_run {k : Nat} (he : Ent P k) {a : Act} {w : World} {f : Operand} {args : Array Operand} {ts : Array TypeId} {ty : TypeId} {dst pos aft gd} {caps : Array Value} (hf : a.eval f = .func (.func k) #[] caps) :
    (execOp a.eval ⟨dst, .call ⟨.value f, args, ts⟩, ty, pos, aft, gd⟩).run P w = .ok (.enter k (args.map a.eval ++ caps)) w := by
  unfold Ent at he
  cases hfn : P.funcs[k]? with
  | none => simp [hfn] at he
  | some fn =>
    simp only [hfn, Option.map_some, Option.some.injEq, Bool.and_eq_true, bne_iff_ne, ne_eq] at he
    obtain ⟨h1, h2⟩ := he
    have h3 : fn.body ≠ none := by intro e; simp [e] at h2
    simp [execOp, resolve, hf, Deferred.ofValue, invoke, callFunc, hfn, h1, h3]

theorem vstep_sound (hT : TabOK P T) {o : Oper} {st : St} {K : St → Prop} (h : vstep P T nt o st K) {C : Ctx} (hC : C.nt = nt) {Φ H a w} (s : SimE C Φ H st a w) {next : Act → World → Prop} {Qx : Exit → Act → World → Prop}
    (hn : ∀ Φ' H' st' a' w', SimE C Φ' H' st' a' w' → K st' → next a' w') (hout : True) : o.wp P a w next Qx := by
  have okd' : ∀ {d : Option Nat}, okd nt d → ∀ i, d = some i → i < C.nt.nt := by
    intro d hd i e
    subst e
    rw [hC]; exact hd
  have plain : ∀ (p : Prop) (x : V) (ob' : List Ob), vop T st.sl st.ob o.op = some (p, x, ob') → p → okd nt o.dst → K ⟨putD st.sl o.dst x, ob'⟩ → o.wp P a w next Qx := by
    intro p x ob' hv hp hd hk
    obtain ⟨v, w', Φ', H', hr, hst, hx⟩ := vop_sound (P := P) (sl := st.sl) (ob := st.ob) hT s hv hp
    have s' := (s.step hst).put (d := o.dst) hx (okd' hd)
    unfold Oper.wp
    rcases hr with hr | ⟨hr, rfl⟩
    · rw [hr]; exact hn _ _ _ _ _ s' hk
    · rw [hr]; exact hn _ _ _ _ _ s' hk
  obtain ⟨dst, op, ty, pos, aft, gd⟩ := o
  unfold vstep at h
  dsimp only at h plain
  split at h
  · rename_i f args ts
    split at h
    case h_2 => exact h.elim
    rename_i k caps hf
    obtain ⟨hd, he, hc⟩ := h
    have hfe := s.eval f
    rw [hf] at hfe
    obtain ⟨cv, _, e1, e2⟩ := hfe
    have hr := callee_run (P := P) (w := w) (args := args) (ts := ts) (ty := ty) (dst := dst) (pos := pos) (aft := aft) (gd := gd) he e1
    unfold Oper.wp
    rw [hr]
    have hargs : VReps .any (mkE Φ H st.ob w) (args.toList.map (evV st.sl) ++ caps) (args.map a.eval ++ cv).toList := by
      simp only [Array.toList_append, Array.toList_map]
      exact (evals_rep' (sl := st.sl) (ob := st.ob) s args.toList).append e2
    refine (hc C hC Φ H a w s _ hargs).mono fun e w' q => ?_
    cases e with
    | returned v =>
      obtain ⟨Φ', H', ob', r, q1, q2, q3⟩ := q
      exact hn _ _ _ _ _ (q1.put (d := dst) q2 (okd' hd)) q3
    | panicked c => exact q.elim
    | outgrown => exact q.elim
  · rename_i x
    unfold vnext at h
    split at h
    case h_2 => exact h.elim
    rename_i id hx
    split at h
    case h_2 => exact h.elim
    rename_i m since seen last ho
    split at h
    case h_2 => exact h.elim
    rename_i es bs ck hm
    obtain ⟨hd, hc1, hc2, hk1, hk2⟩ := h
    have hxe := s.eval x
    rw [hx] at hxe
    unfold Oper.wp
    rcases next_sound (P := P) (ty := ty) s.hs.sim hxe ho hm hc1 hc2 with ⟨q1, q2⟩ | ⟨i, n, e, q, w', H', q1, q2, q3, q4, q5, q6⟩
    · have hr : (execOp a.eval ⟨dst, .next x false, ty, pos, aft, gd⟩).run P w = .ok (.value (.tuple #[.bool false])) w := by simp [execOp, q2]
      rw [hr]
      refine hn _ _ _ _ _ (s.put (d := dst) (x := .tup [.bool false]) ⟨#[.bool false], rfl, rfl, .bool false, [], rfl, trivial, rfl, rfl⟩ (okd' hd)) (hk2 q1)
    · have hr : (execOp a.eval ⟨dst, .next x false, ty, pos, aft, gd⟩).run P w = .ok (.value q) w' := by simp [execOp, q4]
      rw [hr]
      exact hn _ _ _ _ _ ((s.step q5).put (d := dst) q6 (okd' hd)) (hk1 i n e q1 q2 q3)
  · split at h
    case h_2 => exact h.elim
    rename_i p x ob' hv
    exact plain p x ob' hv h.1 h.2.1 h.2.2

/-- What a guard's slot holds, put in its place. -/
theorem SimE.known {C : Ctx} {Φ H st a w} (s : SimE C Φ H st a w) {d : Nat} {b b' : Bool} (hb : getS st.sl d = .bool b) (e : b = b') : SimE C Φ H ⟨setS st.sl d (.bool b'), st.ob⟩ a w :=
  s.slotsOf rfl rfl fun t => by
    rw [getS_setS]
    split
    · rename_i q; subst q
      have := s.slots d
      rw [hb, e] at this
      exact this
    · exact s.slots t
theorem SimE.boolAt {C : Ctx} {Φ H st a w} (s : SimE C Φ H st a w) {d : Nat} {b : Bool} (hb : getS st.sl d = .bool b) : a.tmps[d]? = some (.bool b) := by
  have hsl := s.slots d
  rw [hb] at hsl
  simp only [VRep] at hsl
  exact get_of_getD hsl

theorem vrun_sound (hT : TabOK P T) {ops : List Oper} : ∀ (l : List Oper) (k : Nat) (Q : St → Prop) (st : St), vrun P T nt ops k l Q st → ∀ (C : Ctx), C.nt = nt → ∀ Φ H a w, SimE C Φ H st a w → ∀ Qx : Exit → Act → World → Prop,
    (∀ Φ' H' st' a' w', SimE C Φ' H' st' a' w' → Q st' → Qx .normal a' w') → True → wpList P ops.toArray Qx (l.drop k) a w
  | [], k, Q, st, h, C, hC, Φ, H, a, w, s, Qx, hq, hout => by
    simp only [vrun, List.drop_nil] at h ⊢
    exact hq _ _ _ _ _ s h
  | o :: rest, k + 1, Q, st, h, C, hC, Φ, H, a, w, s, Qx, hq, hout => by
    simp only [vrun, List.drop_succ_cons] at h ⊢
    exact vrun_sound hT rest k Q st h C hC Φ H a w s Qx hq hout
  | o :: rest, 0, Q, st, h, C, hC, Φ, H, a, w, s, Qx, hq, hout => by
    simp only [vrun] at h
    rw [List.drop_zero]
    have go : ∀ st' a' w' Φ' H', SimE C Φ' H' st' a' w' → vrun P T nt ops 0 rest Q st' → wpList P ops.toArray Qx rest a' w' := fun st' a' w' Φ' H' s' k => by
      have := vrun_sound hT rest 0 Q st' k C hC Φ' H' a' w' s' Qx hq hout
      rwa [List.drop_zero] at this
    split at h
    · rename_i hg
      unfold wpList
      rw [if_pos (by simp [Region.wanted, hg])]
      exact .inl (vstep_sound hT h hC s (fun Φ' H' st' a' w' s' k => go _ _ _ _ _ s' k) hout)
    · rename_i g hg
      split at h
      case h_2 => exact h.elim
      rename_i sg hsg
      split at h
      case h_2 => exact h.elim
      rename_i b hb
      split at h
      · rename_i p sl n hv
        obtain ⟨a', h1, h2⟩ := vgrp_sound (P := P) hT hv h.1 hC s
        have := vrun_sound hT rest n Q _ h.2 C hC Φ H a' w h2 Qx hq hout
        have e : o :: rest = (o :: rest.take n) ++ rest.drop n := by simp
        rw [e]
        exact h1.list this
      · unfold wpList
        by_cases hbw : b = sg.2
        · rw [if_pos hbw] at h
          rw [if_pos (wanted_of hg hsg (by rw [s.boolAt hb, hbw]))]
          exact .inl (vstep_sound hT h hC (s.known hb hbw) (fun Φ' H' st' a' w' s' k => go _ _ _ _ _ s' k) hout)
        · have hnw := not_wanted (ops := ops) (a := a) hg hsg (by rw [s.boolAt hb]; intro e; exact hbw (by simpa using e))
          rw [hnw]
          rw [if_neg hbw] at h
          obtain ⟨h1, h2⟩ := h
          simp only [Bool.false_eq_true, if_false]
          refine go _ _ _ _ _ ((s.known hb (b' := !sg.2) (by cases b <;> cases hq2 : sg.2 <;> simp_all)).put (x := .junk) trivial ?_) h2
          intro i e
          rw [e] at h1
          rw [hC]; exact h1

theorem vwp_region (hT : TabOK P T) {id : Nat} {ops : List Oper} {Q : X → St → Prop} {st : St} (h : vrun P T nt ops 0 ops (Q .norm) st) (hd : nt.rd = true → ops.all nd = true := by first | (intro h; cases h; done) | (intro _; simp [nd])) : vwp P nt (.region id ops.toArray false) Q st := by
  intro C hC Φ H a w s
  exact gw_region_lit (fun ⟨_, _, h⟩ => h) hd (by simpa using vrun_sound hT ops 0 _ st h C hC Φ H a w s _ (fun Φ' H' st' a' w' s' q => ⟨Φ', H', st', s', q⟩) trivial)

end
end Go.VX

/- Calls: what a callee sees of a caller's objects, and what comes back. -/
namespace Go.VX
open Go.RowKit
set_option linter.unusedVariables false
set_option linter.unusedSimpArgs false
set_option linter.unusedSectionVars false

/-! ### Objects' numbers, changed -/
def rn0 (f : Nat → Nat) : V → V
  | .ptr id t o => .ptr (f id) t o
  | .sl id t e o n => .sl (f id) t e o n
  | .mp id => .mp (f id)
  | .yld id => .yld (f id)
  | x => x
def rn1 (f : Nat → Nat) : V → V
  | .fn k cs => .fn k (cs.map (rn0 f))
  | x => rn0 f x
def rnA (f : Nat → Nat) : V → V
  | .agg cs => .agg (cs.map (rn1 f))
  | x => rn1 f x
def rnV (f : Nat → Nat) : V → V
  | .tup cs => .tup (cs.map (rnA f))
  | x => rnA f x
def rnO (f : Nat → Nat) : Ob → Ob
  | .live cs => .live (cs.map (rn1 f))
  | .frz cs => .frz cs
  | .map es bs ck => .map (es.map fun e => (rnA f e.1, rnA f e.2)) bs ck
  | .iter m s sn l => .iter (rn0 f m) s sn l
  | .loop st pd n ks vs ps as bd => .loop st pd n ks (vs.map (rnV f)) ps as bd
  | .dead => .dead

/-- What is deep in a value keeps to what the renaming reaches. -/
def V.flat1 : V → Bool
  | .fn _ cs => cs.all V.flat0
  | .agg _ | .tup _ => false
  | _ => true
def V.flatA : V → Bool
  | .agg cs => cs.all V.flat1
  | x => x.flat1
def V.flat : V → Bool
  | .tup cs => cs.all V.flatA
  | x => x.flatA
def Ob.flat : Ob → Bool
  | .live cs => cs.all V.flat1
  | .map es _ _ => es.all fun e => e.1.flatA && e.2.flatA
  | .iter m _ _ _ => m.flat0
  | .loop _ _ _ _ vs _ _ _ => vs.all V.flat
  | _ => true

theorem flat0_rn0 (f : Nat → Nat) (x : V) : (rn0 f x).flat0 = x.flat0 := by cases x <;> rfl
theorem all_flat0_rn0 (f : Nat → Nat) {cs : List V} (h : cs.all V.flat0 = true) : (cs.map (rn0 f)).all V.flat0 = true := by
  simp only [List.all_map, List.all_eq_true, Function.comp_apply, flat0_rn0] at h ⊢
  exact h
theorem notTup_rnA (f : Nat → Nat) (x : V) : (rnA f x).notTup = x.notTup := by cases x <;> rfl
theorem all_notTup_rnA (f : Nat → Nat) {cs : List V} (h : cs.all V.notTup = true) : (cs.map (rnA f)).all V.notTup = true := by
  simp only [List.all_map, List.all_eq_true, Function.comp_apply, notTup_rnA] at h ⊢
  exact h

section
variable {E : Env}
theorem rep_flat1 {x : V} {v : Value} (h1 : x.one = true) (h : VRep E x v) : x.flat1 = true := by
  cases x <;> simp_all [V.one, V.flat1]
  obtain ⟨a, e0, _⟩ := h
  simpa using e0
theorem reps_flat1 : ∀ {xs : List V} {us : List Value}, VReps .cell E xs us → xs.all V.flat1 = true
  | [], us, _ => rfl
  | c :: cs, us, ⟨u, r, h1, h0, h2, h3⟩ => by simp only [List.all_cons, Bool.and_eq_true]; exact ⟨rep_flat1 h0 h2, reps_flat1 h3⟩
theorem rep_flatA {x : V} {v : Value} (h1 : x.notTup = true) (h : VRep E x v) : x.flatA = true := by
  cases x with
  | agg cs => obtain ⟨a, _, h2⟩ := h; exact reps_flat1 h2
  | tup cs => simp [V.notTup] at h1
  | fn k cs => obtain ⟨a, e0, _⟩ := h; exact e0
  | _ => rfl
theorem reps_flatA : ∀ {xs : List V} {us : List Value}, xs.all V.notTup = true → VReps .any E xs us → xs.all V.flatA = true
  | [], us, _, _ => rfl
  | c :: cs, us, ha, ⟨u, r, h1, h0, h2, h3⟩ => by
    simp only [List.all_cons, Bool.and_eq_true] at ha ⊢
    exact ⟨rep_flatA ha.1 h2, reps_flatA ha.2 h3⟩
theorem rep_flat {x : V} {v : Value} (h : VRep E x v) : x.flat = true := by
  cases x with
  | tup cs => obtain ⟨a, e0, _, h2⟩ := h; exact reps_flatA e0 h2
  | agg cs => exact rep_flatA (x := .agg cs) rfl h
  | fn k cs => exact rep_flatA (x := .fn k cs) rfl h
  | _ => rfl
theorem reps_flat : ∀ {xs : List V} {us : List Value}, VReps .any E xs us → xs.all V.flat = true
  | [], us, _ => rfl
  | c :: cs, us, ⟨u, r, h1, h0, h2, h3⟩ => by
    simp only [List.all_cons, Bool.and_eq_true]
    exact ⟨rep_flat h2, reps_flat h3⟩
theorem ob_flat {o : Ob} {x : Option Nat} (h : ObRep E x o) : o.flat = true := by
  cases o with
  | live cs =>
    cases x with
    | none => have : cs = [] := h
              subst this; rfl
    | some b => obtain ⟨c, el, _, _, _, h4⟩ := h; exact reps_flat1 h4
  | iter m s sn l => exact h.1
  | loop st pd n ks vs ps as bd => obtain ⟨b, r, _, _, _, _, h4⟩ := h; exact reps_flat h4
  | map es bs ck =>
    obtain ⟨h0, b, arr, _, _, _, h3, h4, _⟩ := h
    simp only [Ob.flat, List.all_eq_true, Bool.and_eq_true] at h0 ⊢
    have k1 : (es.map (·.1)).all V.notTup = true := by simp only [List.all_map, List.all_eq_true]; exact fun e he => (h0 e he).1
    have k2 : (es.map (·.2)).all V.notTup = true := by simp only [List.all_map, List.all_eq_true]; exact fun e he => (h0 e he).2
    have q1 := reps_flatA k1 h3
    have q2 := reps_flatA k2 h4
    simp only [List.all_map, List.all_eq_true] at q1 q2
    exact fun e he => ⟨q1 e he, q2 e he⟩
  | _ => rfl
end

/-- From one numbering of objects to another. -/
structure ExtR (f : Nat → Nat) (E E' : Env) : Prop where
  phi : ∀ b, E.Φ b → E'.Φ b
  heap : ∀ b, E.Φ b → E'.w.heap[b]? = E.w.heap[b]?
  n : ∀ i, i < E.N → f i < E'.N
  l : ∀ i, i < E.N → ∀ T', E'.L (f i) = some T' → ∃ T, E.L i = some T ∧ T ≤ T' ∧ (T = T' → E'.H (f i) = E.H i ∧ ∀ b, E.H i = some b → bsize E'.w b = bsize E.w b)

theorem okq_rn1 {q : Fl} {f : Nat → Nat} {x : V} (h : okq q x) : okq q (rn1 f x) := by
  cases q
  · trivial
  · cases x <;> simp_all [okq, rn1, rn0, V.one]
  · cases x <;> simp_all [okq, rn1, rn0, V.one, V.noId]
    intro c hc
    have := h c hc
    cases c <;> simp_all [rn0, V.plain]

section
variable {f : Nat → Nat} {E E' : Env} (h : ExtR f E E')
include h

mutual
theorem VRep.noIdR : ∀ (x : V) (v : Value), x.noId = true → x.flat0 = true → VRep E x v → VRep E' x v
  | .junk, _, _, _, _ => by simp [VRep]
  | .bool b, v, _, _, hv => hv
  | .int k n, v, _, _, hv => hv
  | .str s, v, _, _, hv => hv
  | .nilp, v, _, _, hv => hv
  | .nils, v, _, _, hv => hv
  | .nilf, v, _, _, hv => hv
  | .nilm, v, _, _, hv => hv
  | .nili, v, _, _, hv => hv
  | .ifc t u, v, _, _, hv => hv
  | .fp cs, v, _, _, ⟨b, o, us, h1, h2, h3, h4⟩ => ⟨b, o, us, h1, h.phi _ h2, reads_of_heap (h.heap b h2) h3, VReps.noIdR cs _ h4⟩
  | .fs n cs, v, _, _, ⟨ad, cap, us, h1, h2, h3, h4⟩ => ⟨ad, cap, us, h1, h2, VReps.noIdR cs _ h3, fun hu => by
      obtain ⟨b, o, e, hp, hr⟩ := h4 hu
      exact ⟨b, o, e, h.phi _ hp, reads_of_heap (h.heap b hp) hr⟩⟩
  | .agg cs, v, _, hf, _ => by simp [V.flat0] at hf
  | .tup cs, v, _, hf, _ => by simp [V.flat0] at hf
  | .ptr _ _ _, v, hn, _, _ => by simp [V.noId] at hn
  | .sl _ _ _ _ _, v, hn, _, _ => by simp [V.noId] at hn
  | .mp _, v, hn, _, _ => by simp [V.noId] at hn
  | .yld _, v, hn, _, _ => by simp [V.noId] at hn
  | .fn _ _, v, _, hf, _ => by simp [V.flat0] at hf
theorem VReps.noIdR : ∀ (xs : List V) (us : List Value), VReps .frz E xs us → VReps .frz E' xs us
  | [], us, hu => hu
  | c :: cs, us, ⟨u, r, h1, h0, h2, h3⟩ => ⟨u, r, h1, h0, by
      by_cases hf : c.flat0 = true
      · exact VRep.noIdR c u h0.2 hf h2
      · cases c <;> simp_all [V.flat0, okq, V.one, V.noId]
        rename_i k caps
        obtain ⟨a, e0, e1, e2⟩ := h2
        exact ⟨a, e0, e1, VReps.plainR caps _ h0 e2⟩, VReps.noIdR cs r h3⟩
theorem VReps.plainR : ∀ (xs : List V) (us : List Value), (∀ c ∈ xs, c.plain = true) → VReps .any E xs us → VReps .any E' xs us
  | [], us, _, hu => hu
  | c :: cs, us, hc, ⟨u, r, h1, h0, h2, h3⟩ => ⟨u, r, h1, trivial, VRep.noIdR c u (by have := hc c (by simp); cases c <;> simp_all [V.plain, V.noId]) (by have := hc c (by simp); cases c <;> simp_all [V.plain, V.flat0]) h2, VReps.plainR cs r (fun d hd => hc d (by simp [hd])) h3⟩
end

theorem VRep.rn0 (x : V) (v : Value) (hf : x.flat0 = true) (hv : VRep E x v) : VRep E' (rn0 f x) v := by
  cases x with
  | ptr id tot off =>
    obtain ⟨h0, h1, h2⟩ := hv
    refine ⟨h0, h.n id h1, fun T' hT' => ?_⟩
    obtain ⟨T, g1, g2, g3⟩ := h.l id h1 T' hT'
    obtain ⟨k1, k2⟩ := h2 T g1
    refine ⟨Nat.le_trans k1 g2, fun e => ?_⟩
    obtain ⟨b, hb, hv⟩ := k2 (by omega)
    exact ⟨b, (g3 (by omega)).1.trans hb, hv⟩
  | sl id tot esz off n =>
    obtain ⟨h0, h1, h2⟩ := hv
    refine ⟨h0, h.n id h1, fun T' hT' => ?_⟩
    obtain ⟨T, g1, g2, g3⟩ := h.l id h1 T' hT'
    obtain ⟨k1, k2⟩ := h2 T g1
    refine ⟨Nat.le_trans k1 g2, fun e => ?_⟩
    obtain ⟨e1, e2⟩ := g3 (by omega)
    rw [e1]
    exact (k2 (by omega)).of e2
  | mp id =>
    obtain ⟨h0, h1, h2⟩ := hv
    refine ⟨h0, h.n id h1, fun hT' => ?_⟩
    obtain ⟨T, g1, g2, g3⟩ := h.l id h1 0 hT'
    obtain rfl : T = 0 := by omega
    obtain ⟨b, hb, hv⟩ := h2 g1
    exact ⟨b, (g3 rfl).1.trans hb, hv⟩
  | yld id =>
    obtain ⟨h0, h1, h2⟩ := hv
    refine ⟨h0, h.n id h1, fun hT' => ?_⟩
    obtain ⟨T, g1, g2, g3⟩ := h.l id h1 0 hT'
    obtain rfl : T = 0 := by omega
    obtain ⟨b, hb, hv⟩ := h2 g1
    exact ⟨b, (g3 rfl).1.trans hb, hv⟩
  | fn k cs => simp [V.flat0] at hf
  | agg cs => simp [V.flat0] at hf
  | tup cs => simp [V.flat0] at hf
  | _ => exact VRep.noIdR h _ v rfl rfl hv

theorem VReps.mapR {g : V → V} {p : V → Bool} {q : Fl} (hg : ∀ x v, p x = true → VRep E x v → VRep E' (g x) v) (hq : ∀ x, okq q x → okq q (g x)) : ∀ (xs : List V) (us : List Value), xs.all p = true → VReps q E xs us → VReps q E' (xs.map g) us
  | [], us, _, hu => hu
  | c :: cs, us, ha, ⟨u, r, h1, h0, h2, h3⟩ => by
    simp only [List.all_cons, Bool.and_eq_true] at ha
    exact ⟨u, r, h1, hq c h0, hg c u ha.1 h2, VReps.mapR hg hq cs r ha.2 h3⟩

theorem VRep.rn1 (x : V) (v : Value) (hf : x.flat1 = true) (hv : VRep E x v) : VRep E' (rn1 f x) v := by
  cases x with
  | fn k cs =>
    obtain ⟨a, e0, e1, e2⟩ := hv
    exact ⟨a, all_flat0_rn0 f e0, e1, VReps.mapR (q := .any) h (fun x v hp hx => VRep.rn0 h x v hp hx) (fun _ _ => trivial) cs _ hf e2⟩
  | agg cs => simp [V.flat1] at hf
  | tup cs => simp [V.flat1] at hf
  | _ => exact VRep.rn0 h _ v rfl hv
theorem VRep.rnA (x : V) (v : Value) (hf : x.flatA = true) (hv : VRep E x v) : VRep E' (rnA f x) v := by
  cases x with
  | agg cs =>
    obtain ⟨a, e1, e2⟩ := hv
    exact ⟨a, e1, VReps.mapR h (fun x v hp hx => VRep.rn1 h x v hp hx) (fun _ ho => okq_rn1 ho) cs _ hf e2⟩
  | tup cs => simp [V.flatA, V.flat1] at hf
  | fn k cs => exact VRep.rn1 h (.fn k cs) v hf hv
  | _ => exact VRep.rn1 h _ v rfl hv
theorem VRep.rnV (x : V) (v : Value) (hf : x.flat = true) (hv : VRep E x v) : VRep E' (rnV f x) v := by
  cases x with
  | tup cs =>
    obtain ⟨a, e0, e1, e2⟩ := hv
    exact ⟨a, all_notTup_rnA f e0, e1, VReps.mapR (q := .any) h (fun x v hp hx => VRep.rnA h x v hp hx) (fun _ _ => trivial) cs _ hf e2⟩
  | agg cs => exact VRep.rnA h (.agg cs) v hf hv
  | fn k cs => exact VRep.rnA h (.fn k cs) v hf hv
  | _ => exact VRep.rnA h _ v rfl hv

end
end Go.VX

/- What is handed to a callee, and what comes back. -/
namespace Go.VX
open Go.RowKit
set_option linter.unusedVariables false
set_option linter.unusedSimpArgs false
set_option linter.unusedSectionVars false

/-! ### Back from one numbering to another -/
structure ExtI (f : Nat → Nat) (E E' : Env) : Prop where
  phi : ∀ b, E'.Φ b → E.Φ b
  w : E.w = E'.w
  n : ∀ i, f i < E'.N → i < E.N
  l : ∀ i, i < E.N → E.L i = E'.L (f i)
  hh : ∀ i, i < E.N → E.H i = E'.H (f i)

section
variable {f : Nat → Nat} {E E' : Env} (h : ExtI f E E')
include h

mutual
theorem VRep.noIdI : ∀ (x : V) (v : Value), x.noId = true → x.flat0 = true → VRep E' x v → VRep E x v
  | .junk, _, _, _, _ => by simp [VRep]
  | .bool b, v, _, _, hv => hv
  | .int k n, v, _, _, hv => hv
  | .str s, v, _, _, hv => hv
  | .nilp, v, _, _, hv => hv
  | .nils, v, _, _, hv => hv
  | .nilf, v, _, _, hv => hv
  | .nilm, v, _, _, hv => hv
  | .nili, v, _, _, hv => hv
  | .ifc t u, v, _, _, hv => hv
  | .fp cs, v, _, _, ⟨b, o, us, h1, h2, h3, h4⟩ => ⟨b, o, us, h1, h.phi _ h2, by rw [h.w]; exact h3, VReps.noIdI cs _ h4⟩
  | .fs n cs, v, _, _, ⟨ad, cap, us, h1, h2, h3, h4⟩ => ⟨ad, cap, us, h1, h2, VReps.noIdI cs _ h3, fun hu => by
      obtain ⟨b, o, e, hp, hr⟩ := h4 hu
      exact ⟨b, o, e, h.phi _ hp, by rw [h.w]; exact hr⟩⟩
  | .agg cs, v, _, hf, _ => by simp [V.flat0] at hf
  | .tup cs, v, _, hf, _ => by simp [V.flat0] at hf
  | .ptr _ _ _, v, hn, _, _ => by simp [V.noId] at hn
  | .sl _ _ _ _ _, v, hn, _, _ => by simp [V.noId] at hn
  | .mp _, v, hn, _, _ => by simp [V.noId] at hn
  | .yld _, v, hn, _, _ => by simp [V.noId] at hn
  | .fn _ _, v, _, hf, _ => by simp [V.flat0] at hf
theorem VReps.noIdI : ∀ (xs : List V) (us : List Value), VReps .frz E' xs us → VReps .frz E xs us
  | [], us, hu => hu
  | c :: cs, us, ⟨u, r, h1, h0, h2, h3⟩ => ⟨u, r, h1, h0, by
      by_cases hf : c.flat0 = true
      · exact VRep.noIdI c u h0.2 hf h2
      · cases c <;> simp_all [V.flat0, okq, V.one, V.noId]
        rename_i k caps
        obtain ⟨a, e0, e1, e2⟩ := h2
        exact ⟨a, e0, e1, VReps.plainI caps _ h0 e2⟩, VReps.noIdI cs r h3⟩
theorem VReps.plainI : ∀ (xs : List V) (us : List Value), (∀ c ∈ xs, c.plain = true) → VReps .any E' xs us → VReps .any E xs us
  | [], us, _, hu => hu
  | c :: cs, us, hc, ⟨u, r, h1, h0, h2, h3⟩ => ⟨u, r, h1, trivial, VRep.noIdI c u (by have := hc c (by simp); cases c <;> simp_all [V.plain, V.noId]) (by have := hc c (by simp); cases c <;> simp_all [V.plain, V.flat0]) h2, VReps.plainI cs r (fun d hd => hc d (by simp [hd])) h3⟩
end

theorem VRep.rn0I (x : V) (v : Value) (hf : x.flat0 = true) (hv : VRep E' (VX.rn0 f x) v) : VRep E x v := by
  cases x with
  | ptr id tot off =>
    obtain ⟨h0, h1, h2⟩ := hv
    have hid := h.n id h1
    refine ⟨h0, hid, fun T hT => ?_⟩
    rw [h.l id hid] at hT
    obtain ⟨k1, k2⟩ := h2 T hT
    refine ⟨k1, fun e => ?_⟩
    obtain ⟨b, hb, hv⟩ := k2 e
    exact ⟨b, (h.hh id hid).trans hb, hv⟩
  | sl id tot esz off n =>
    obtain ⟨h0, h1, h2⟩ := hv
    have hid := h.n id h1
    refine ⟨h0, hid, fun T hT => ?_⟩
    rw [h.l id hid] at hT
    obtain ⟨k1, k2⟩ := h2 T hT
    refine ⟨k1, fun e => ?_⟩
    rw [h.hh id hid, h.w]
    exact k2 e
  | mp id =>
    obtain ⟨h0, h1, h2⟩ := hv
    have hid := h.n id h1
    refine ⟨h0, hid, fun hT => ?_⟩
    rw [h.l id hid] at hT
    obtain ⟨b, hb, hv⟩ := h2 hT
    exact ⟨b, (h.hh id hid).trans hb, hv⟩
  | yld id =>
    obtain ⟨h0, h1, h2⟩ := hv
    have hid := h.n id h1
    refine ⟨h0, hid, fun hT => ?_⟩
    rw [h.l id hid] at hT
    obtain ⟨b, hb, hv⟩ := h2 hT
    exact ⟨b, (h.hh id hid).trans hb, hv⟩
  | fn k cs => simp [V.flat0] at hf
  | agg cs => simp [V.flat0] at hf
  | tup cs => simp [V.flat0] at hf
  | _ => exact VRep.noIdI h _ v rfl rfl hv

theorem VReps.mapI {g : V → V} {p : V → Bool} {q : Fl} (hg : ∀ x v, p x = true → VRep E' (g x) v → VRep E x v) (hq : ∀ x, okq q (g x) → okq q x) : ∀ (xs : List V) (us : List Value), xs.all p = true → VReps q E' (xs.map g) us → VReps q E xs us
  | [], us, _, hu => hu
  | c :: cs, us, ha, ⟨u, r, h1, h0, h2, h3⟩ => by
    simp only [List.all_cons, Bool.and_eq_true] at ha
    exact ⟨u, r, h1, hq c h0, hg c u ha.1 h2, VReps.mapI hg hq cs r ha.2 h3⟩
theorem VRep.rn1I (x : V) (v : Value) (hf : x.flat1 = true) (hv : VRep E' (VX.rn1 f x) v) : VRep E x v := by
  cases x with
  | fn k cs =>
    obtain ⟨a, e0, e1, e2⟩ := hv
    exact ⟨a, by simpa [Function.comp_def, flat0_rn0] using e0, e1, VReps.mapI (q := .any) h (fun x v hp hx => VRep.rn0I h x v hp hx) (fun _ _ => trivial) cs _ hf e2⟩
  | agg cs => simp [V.flat1] at hf
  | tup cs => simp [V.flat1] at hf
  | _ => exact VRep.rn0I h _ v rfl hv
theorem okq_rn1I {x : V} (hx : okq .cell (rn1 f x)) : okq .cell x := by
  cases x <;> simp_all [okq, rn1, rn0, V.one]
theorem VRep.rnAI (x : V) (v : Value) (hf : x.flatA = true) (hv : VRep E' (VX.rnA f x) v) : VRep E x v := by
  cases x with
  | agg cs =>
    obtain ⟨a, e1, e2⟩ := hv
    exact ⟨a, e1, VReps.mapI (q := .cell) h (fun x v hp hx => VRep.rn1I h x v hp hx) (fun _ ho => okq_rn1I h ho) cs _ hf e2⟩
  | tup cs => simp [V.flatA, V.flat1] at hf
  | fn k cs => exact VRep.rn1I h (.fn k cs) v hf hv
  | _ => exact VRep.rn1I h _ v rfl hv
end

theorem rnO_len (f : Nat → Nat) (o : Ob) : (rnO f o).len = o.len := by cases o <;> simp [rnO, Ob.len]
theorem rnO_mutb (f : Nat → Nat) (o : Ob) : (rnO f o).mutb = o.mutb := by cases o <;> rfl

theorem VReps.mapPI {f : Nat → Nat} {E E' : Env} (h : ExtI f E E') {g : V × V → V} : ∀ (es : List (V × V)) (us : List Value), (es.all fun e => (g e).flatA) = true → VReps .any E' (es.map fun e => rnA f (g e)) us → VReps .any E (es.map g) us
  | [], us, _, hu => hu
  | c :: cs, us, ha, ⟨u, r, h1, h0, h2, h3⟩ => by
    simp only [List.all_cons, Bool.and_eq_true] at ha
    exact ⟨u, r, h1, trivial, VRep.rnAI h _ u ha.1 h2, VReps.mapPI h cs r ha.2 h3⟩
theorem VReps.mapPR {f : Nat → Nat} {E E' : Env} (h : ExtR f E E') {g : V × V → V} : ∀ (es : List (V × V)) (us : List Value), (es.all fun e => (g e).flatA) = true → VReps .any E (es.map g) us → VReps .any E' (es.map fun e => rnA f (g e)) us
  | [], us, _, hu => hu
  | c :: cs, us, ha, ⟨u, r, h1, h0, h2, h3⟩ => by
    simp only [List.all_cons, Bool.and_eq_true] at ha
    exact ⟨u, r, h1, trivial, VRep.rnA h _ u ha.1 h2, VReps.mapPR h cs r ha.2 h3⟩

theorem VRep.rnVI {f : Nat → Nat} {E E' : Env} (h : ExtI f E E') (x : V) (v : Value) (hf : x.flat = true) (hv : VRep E' (VX.rnV f x) v) : VRep E x v := by
  cases x with
  | tup cs =>
    obtain ⟨a, e0, e1, e2⟩ := hv
    exact ⟨a, by simpa [Function.comp_def, notTup_rnA] using e0, e1, VReps.mapI (q := .any) h (fun x v hp hx => VRep.rnAI h x v hp hx) (fun _ _ => trivial) cs _ hf e2⟩
  | agg cs => exact VRep.rnAI h (.agg cs) v hf hv
  | fn k cs => exact VRep.rnAI h (.fn k cs) v hf hv
  | _ => exact VRep.rnAI h _ v rfl hv
theorem ObRep.rnI {f : Nat → Nat} {E E' : Env} (h : ExtI f E E') {o : Ob} {x : Option Nat} (hf : o.flat = true) (hp : o.mutb = true → ∀ b, x = some b → ¬ E.Φ b) (k : ObRep E' x (rnO f o)) : ObRep E x o := by
  cases o with
  | live cs =>
    cases x with
    | none =>
      have k' : cs.map (rn1 f) = [] := k
      exact List.map_eq_nil_iff.1 k'
    | some b =>
      obtain ⟨c, el, h1, h2, h3, h4⟩ := k
      simp only [List.length_map] at h3 h4
      exact ⟨c, el, by rw [h.w]; exact h1, hp rfl b rfl, h3, VReps.mapI (q := .cell) h (fun x v hp hx => VRep.rn1I h x v hp hx) (fun _ ho => okq_rn1I h ho) cs _ hf h4⟩
  | frz cs =>
    cases x with
    | none => exact k
    | some b =>
      obtain ⟨h1, us, h2, h3⟩ := k
      exact ⟨h.phi b h1, us, by rw [h.w]; exact h2, VReps.noIdI h _ _ h3⟩
  | iter m s sn l =>
    obtain ⟨h0, b, r, e, h1, h2, h3⟩ := k
    exact ⟨hf, b, r, e, by rw [h.w]; exact h1, hp rfl b e, VRep.rn0I h m _ hf h3⟩
  | loop st pd n ks vs ps as bd =>
    obtain ⟨b, r, e, h1, h2, h3, h4⟩ := k
    exact ⟨b, r, e, by rw [h.w]; exact h1, hp rfl b e, h3, VReps.mapI (q := .any) h (fun x v hp hx => VRep.rnVI h x v hp hx) (fun _ _ => trivial) vs _ hf h4⟩
  | map es bs ck =>
    obtain ⟨h0, b, arr, e, h1, h2, h3, h4, h5⟩ := k
    have hf' : (es.all fun e => e.1.flatA) = true ∧ (es.all fun e => e.2.flatA) = true := by
      have := hf
      simp only [Ob.flat, List.all_eq_true, Bool.and_eq_true] at this ⊢
      exact ⟨fun x hx => (this x hx).1, fun x hx => (this x hx).2⟩
    simp only [List.map_map, Function.comp_def] at h3 h4
    exact ⟨by simpa [Function.comp_def, notTup_rnA] using h0, b, arr, e, by rw [h.w]; exact h1, hp rfl b e, VReps.mapPI h es _ hf'.1 h3, VReps.mapPI h es _ hf'.2 h4, h5⟩
  | dead => trivial

theorem ObRep.rnR {f : Nat → Nat} {E E' : Env} (h : ExtR f E E') (hw : E'.w = E.w) {o : Ob} {x : Option Nat} (hf : o.flat = true) (hp : o.mutb = true → ∀ b, x = some b → ¬ E'.Φ b) (k : ObRep E x o) : ObRep E' x (rnO f o) := by
  cases o with
  | live cs =>
    cases x with
    | none =>
      have k' : cs = [] := k
      subst k'
      rfl
    | some b =>
      obtain ⟨c, el, h1, h2, h3, h4⟩ := k
      refine ⟨c, el, by rw [hw]; exact h1, hp rfl b rfl, by simpa using h3, ?_⟩
      simp only [List.length_map]
      exact VReps.mapR (q := .cell) h (fun x v hp hx => VRep.rn1 h x v hp hx) (fun _ ho => okq_rn1 ho) cs _ hf h4
  | frz cs =>
    cases x with
    | none => exact k
    | some b =>
      obtain ⟨h1, us, h2, h3⟩ := k
      exact ⟨h.phi b h1, us, by rw [hw]; exact h2, VReps.noIdR h _ _ h3⟩
  | iter m s sn l =>
    obtain ⟨h0, b, r, e, h1, h2, h3⟩ := k
    exact ⟨by rw [flat0_rn0]; exact h0, b, r, e, by rw [hw]; exact h1, hp rfl b e, VRep.rn0 h m _ hf h3⟩
  | loop st pd n ks vs ps as bd =>
    obtain ⟨b, r, e, h1, h2, h3, h4⟩ := k
    exact ⟨b, r, e, by rw [hw]; exact h1, hp rfl b e, h3, VReps.mapR (q := .any) h (fun x v hp hx => VRep.rnV h x v hp hx) (fun _ _ => trivial) vs _ hf h4⟩
  | map es bs ck =>
    obtain ⟨h0, b, arr, e, h1, h2, h3, h4, h5⟩ := k
    have hf' : (es.all fun e => e.1.flatA) = true ∧ (es.all fun e => e.2.flatA) = true := by
      have := hf
      simp only [Ob.flat, List.all_eq_true, Bool.and_eq_true] at this ⊢
      exact ⟨fun x hx => (this x hx).1, fun x hx => (this x hx).2⟩
    refine ⟨by simpa [Function.comp_def, notTup_rnA] using h0, b, arr, e, by rw [hw]; exact h1, hp rfl b e, ?_, ?_, h5⟩
    · simp only [List.map_map, Function.comp_def]; exact VReps.mapPR h es _ hf'.1 h3
    · simp only [List.map_map, Function.comp_def]; exact VReps.mapPR h es _ hf'.2 h4
  | dead => trivial

/-! ### A callee's view of a value -/
def vw0 (ob : List Ob) (ρ : List Nat) (bo : Bool) : V → V
  | .ptr id tot off => match ρ.idxOf? id with
    | some j => .ptr j tot off
    | none => match ob[id]? with
      | some (.frz cs) => .fp (cs.drop off)
      | some (.live cs) => if bo then .fp (cs.drop off) else .junk
      | _ => .junk
  | .sl id tot esz off n => match ρ.idxOf? id with
    | some j => .sl j tot esz off n
    | none => match ob[id]? with
      | some (.frz cs) => .fs n ((cs.drop off).take (n * esz))
      | some (.live cs) => if bo then .fs n ((cs.drop off).take (n * esz)) else .junk
      | _ => .junk
  | .mp id => match ρ.idxOf? id with
    | some j => .mp j
    | none => .junk
  | .yld id => match ρ.idxOf? id with
    | some j => .yld j
    | none => .junk
  | x => x
def vw0OK (ob : List Ob) (ρ : List Nat) (bo : Bool) : V → Prop
  | .ptr id tot off => match ρ.idxOf? id with
    | some _ => True
    | none => match ob[id]? with
      | some (.frz cs) => cs.length = tot
      | some (.live cs) => bo = true ∧ cs.length = tot ∧ ∀ c ∈ cs, c.noId = true
      | _ => False
  | .sl id tot _ _ _ => match ρ.idxOf? id with
    | some _ => True
    | none => match ob[id]? with
      | some (.frz cs) => cs.length = tot
      | some (.live cs) => bo = true ∧ cs.length = tot ∧ ∀ c ∈ cs, c.noId = true
      | _ => False
  | .mp id => match ρ.idxOf? id with
    | some _ => True
    | none => False
  | .yld id => match ρ.idxOf? id with
    | some _ => True
    | none => False
  | .fn _ _ | .agg _ | .tup _ => False
  | _ => True
def vw1 (ob : List Ob) (ρ : List Nat) (bo : Bool) : V → V
  | .fn k cs => .fn k (cs.map (vw0 ob ρ bo))
  | x => vw0 ob ρ bo x
def vw1OK (ob : List Ob) (ρ : List Nat) (bo : Bool) : V → Prop
  | .fn _ cs => ∀ c ∈ cs, vw0OK ob ρ bo c
  | x => vw0OK ob ρ bo x
def vwA (ob : List Ob) (ρ : List Nat) (bo : Bool) : V → V
  | .agg cs => .agg (cs.map (vw1 ob ρ bo))
  | x => vw1 ob ρ bo x
def vwAOK (ob : List Ob) (ρ : List Nat) (bo : Bool) : V → Prop
  | .agg cs => ∀ c ∈ cs, vw1OK ob ρ bo c
  | x => vw1OK ob ρ bo x

/-- From the callee's numbers to the caller's. -/
def fOf (ρ : List Nat) (base : Nat) (j : Nat) : Nat := if j < ρ.length then ρ.getD j 0 else base + (j - ρ.length)

/-- What the callee may take for frozen. -/
def phiC (Φ : Nat → Prop) (H : Nat → Option Nat) (ob : List Ob) (ρ : List Nat) (bo : Bool) : Nat → Prop :=
  fun x => Φ x ∨ (bo = true ∧ ∃ i o, ob[i]? = some o ∧ o.mutb = true ∧ i ∉ ρ ∧ H i = some x)
def hC (H : Nat → Option Nat) (ρ : List Nat) : Nat → Option Nat := fun j => if j < ρ.length then H (ρ.getD j 0) else none

section
variable {Φ : Nat → Prop} {H : Nat → Option Nat} {ob objs : List Ob} {w : World} {ρ : List Nat} {bo : Bool}

theorem idxOf?_some {l : List Nat} {a j : Nat} (h : l.idxOf? a = some j) : l[j]? = some a ∧ j < l.length := by
  rw [List.idxOf?, List.findIdx?_eq_some_iff_getElem] at h
  obtain ⟨h1, h2, _⟩ := h
  exact ⟨by rw [List.getElem?_eq_getElem h1]; simp at h2; rw [h2], h1⟩

/-- The callee's world: the caller's, less. -/
structure Passed (Φ : Nat → Prop) (H : Nat → Option Nat) (ob : List Ob) (w : World) (ρ : List Nat) (bo : Bool) (objs : List Ob) : Prop where
  sim : HSim Φ H ob w
  nodup : ρ.Nodup
  len : objs.length = ρ.length
  obj : ∀ (j : Nat) (i : Nat), ρ[j]? = some i → ∃ o, objs[j]? = some o ∧ o.flat = true ∧ ob[i]? = some (rnO (fOf ρ ob.length) o)

theorem Passed.extI (h : Passed Φ H ob w ρ bo objs) : ExtI (fOf ρ ob.length) (mkE (phiC Φ H ob ρ bo) (hC H ρ) objs w) (mkE Φ H ob w) := by
  have key : ∀ i, i < objs.length → ∃ k, ρ[i]? = some k ∧ fOf ρ ob.length i = k ∧ hC H ρ i = H k := by
    intro i hi
    have hi' : i < ρ.length := by rw [← h.len]; exact hi
    exact ⟨ρ[i], List.getElem?_eq_getElem hi', by simp [fOf, hi', List.getD_eq_getElem?_getD, List.getElem?_eq_getElem hi'], by simp [hC, hi', List.getD_eq_getElem?_getD, List.getElem?_eq_getElem hi']⟩
  refine ⟨fun b hb => .inl hb, rfl, fun i hi => ?_, fun i hi => ?_, fun i hi => ?_⟩
  · simp only [mkE, fOf] at hi ⊢
    rw [h.len]
    split at hi
    · assumption
    · omega
  · obtain ⟨k, h1, h2, h3⟩ := key i hi
    obtain ⟨o, g1, g2, g3⟩ := h.obj i k h1
    simp only [mkE, Lof, h2, g1, g3, Option.bind_some, rnO_len]
  · obtain ⟨k, h1, h2, h3⟩ := key i hi
    simp only [mkE, h2, h3]

theorem Passed.hsim (h : Passed Φ H ob w ρ bo objs) : HSim (phiC Φ H ob ρ bo) (hC H ρ) objs w := by
  have hE := h.extI
  refine ⟨fun b hb => ?_, fun j o hj => ?_, fun i j o o' b hi hj m1 m2 e1 e2 => ?_⟩
  · rcases hb with hb | ⟨_, i, o, h1, h2, _, h3⟩
    · exact h.sim.phi b hb
    · exact (h.sim.mutb h1 h2 h3).1
  · have hjl : j < ρ.length := by rw [← h.len]; exact (List.getElem?_eq_some_iff.1 hj).1
    obtain ⟨o', g1, g2, g3⟩ := h.obj j ρ[j] (List.getElem?_eq_getElem hjl)
    obtain rfl : o = o' := by rw [hj] at g1; exact Option.some.inj g1
    have hr := h.sim.rep _ _ g3
    have hHj : hC H ρ j = H ρ[j] := by simp [hC, hjl, List.getD_eq_getElem?_getD, List.getElem?_eq_getElem hjl]
    rw [← hHj] at hr
    refine ObRep.rnI hE g2 (fun hm b hb => ?_) hr
    rw [hHj] at hb
    have hq := h.sim.mutb g3 (by rw [rnO_mutb]; exact hm) hb
    rintro (hp | ⟨_, i, o2, h1, h2, h3, h4⟩)
    · exact hq.2 hp
    · have := h.sim.inj i ρ[j] o2 _ b h1 g3 h2 (by rw [rnO_mutb]; exact hm) h4 hb
      exact h3 (this ▸ List.getElem_mem hjl)
  · have hil : i < ρ.length := by rw [← h.len]; exact (List.getElem?_eq_some_iff.1 hi).1
    have hjl : j < ρ.length := by rw [← h.len]; exact (List.getElem?_eq_some_iff.1 hj).1
    obtain ⟨o1, g1, g2, g3⟩ := h.obj i ρ[i] (List.getElem?_eq_getElem hil)
    obtain ⟨o2, k1, k2, k3⟩ := h.obj j ρ[j] (List.getElem?_eq_getElem hjl)
    obtain rfl : o = o1 := by rw [hi] at g1; exact Option.some.inj g1
    obtain rfl : o' = o2 := by rw [hj] at k1; exact Option.some.inj k1
    simp only [hC, hil, hjl, if_true, List.getD_eq_getElem?_getD, List.getElem?_eq_getElem hil, List.getElem?_eq_getElem hjl, Option.getD_some] at e1 e2
    have := h.sim.inj _ _ _ _ b g3 k3 (by rw [rnO_mutb]; exact m1) (by rw [rnO_mutb]; exact m2) e1 e2
    exact (List.getElem_inj h.nodup).1 this

theorem vw0_sound (h : Passed Φ H ob w ρ bo objs) {x : V} {v : Value} (hx : VRep (mkE Φ H ob w) x v) (ho : vw0OK ob ρ bo x) : VRep (mkE (phiC Φ H ob ρ bo) (hC H ρ) objs w) (vw0 ob ρ bo x) v := by
  have hE := h.extI
  have hf : ∀ {id j : Nat}, ρ.idxOf? id = some j → fOf ρ ob.length j = id := by
    intro id j hj
    obtain ⟨h1, h2⟩ := idxOf?_some hj
    simp only [fOf, if_pos h2, List.getD_eq_getElem?_getD, h1]; rfl
  cases x with
  | ptr id tot off =>
    simp only [vw0, vw0OK] at ho ⊢
    cases hi : ρ.idxOf? id with
    | some j =>
      simp only [hi]
      refine VRep.rn0I hE (.ptr j tot off) v rfl ?_
      simp only [rn0, hf hi]; exact hx
    | none =>
      simp only [hi] at ho ⊢
      obtain ⟨k0, k1, k2⟩ := hx
      cases hob : ob[id]? with
      | none => simp [hob] at ho
      | some o =>
        have hr := h.sim.rep id o hob
        cases o with
        | frz cs =>
          simp only [hob] at ho ⊢
          obtain ⟨_, q⟩ := k2 cs.length (by simp [mkE, Lof, hob, Ob.len])
          obtain ⟨b, hb, rfl⟩ := q ho.symm
          have hb' : H id = some b := hb
          rw [hb'] at hr
          obtain ⟨r1, us, r2, r3⟩ := hr
          exact ⟨b, off, us.drop off, rfl, .inl r1, by have := reads_drop off r2; rwa [Nat.zero_add] at this, VReps.noIdI hE _ _ (r3.drop off)⟩
        | live cs =>
          simp only [hob] at ho ⊢
          obtain ⟨rfl, hl, hn⟩ := ho
          obtain ⟨_, q⟩ := k2 cs.length (by simp [mkE, Lof, hob, Ob.len])
          obtain ⟨b, hb, rfl⟩ := q hl.symm
          have hb' : H id = some b := hb
          rw [hb'] at hr
          obtain ⟨c, el, r1, r2, r3, r4⟩ := hr
          have hnm : id ∉ ρ := by
            intro hm
            have := List.isSome_idxOf? (l := ρ) (a := id)
            simp [hi, hm] at this
          simp only [if_true]
          exact ⟨b, off, (c.toList.take cs.length).drop off, rfl, .inr ⟨rfl, id, _, hob, rfl, hnm, hb'⟩, reads_row r1 _ _, (VReps.noIdI hE _ _ (r4.toFrz hn)).drop off⟩
        | map es bs ck => simp [hob] at ho
        | iter m s sn l => simp [hob] at ho
        | loop st pd n ks vs ps as bd => simp [hob] at ho
        | dead => simp [hob] at ho
  | sl id tot esz off n =>
    simp only [vw0, vw0OK] at ho ⊢
    cases hi : ρ.idxOf? id with
    | some j =>
      simp only [hi]
      refine VRep.rn0I hE (.sl j tot esz off n) v rfl ?_
      simp only [rn0, hf hi]; exact hx
    | none =>
      simp only [hi] at ho ⊢
      obtain ⟨k0, k1, k2⟩ := hx
      cases hob : ob[id]? with
      | none => simp [hob] at ho
      | some o =>
        have hr := h.sim.rep id o hob
        cases o with
        | frz cs =>
          simp only [hob] at ho ⊢
          obtain ⟨_, q⟩ := k2 cs.length (by simp [mkE, Lof, hob, Ob.len])
          have hsl := q ho.symm
          simp only [mkE] at hsl
          cases hH : H id with
          | none =>
            rw [hH] at hsl hr
            obtain ⟨_, rfl, rfl, rfl⟩ := hsl
            simp only [ObRep] at hr
            subst hr
            exact ⟨none, 0, [], rfl, Nat.le_refl _, by simp [VReps], by simp⟩
          | some b =>
            rw [hH] at hsl hr
            obtain ⟨cap, rfl, e2, e3, e4⟩ := hsl
            obtain ⟨r1, us, r2, r3⟩ := hr
            exact ⟨_, cap, (us.drop off).take (n * esz), rfl, e2, ((VReps.noIdI hE _ _ r3).drop off).take _, fun _ => ⟨b, off, rfl, .inl r1, reads_take _ (by have := reads_drop off r2; rwa [Nat.zero_add] at this)⟩⟩
        | live cs =>
          simp only [hob] at ho ⊢
          obtain ⟨rfl, hl, hn⟩ := ho
          obtain ⟨_, q⟩ := k2 cs.length (by simp [mkE, Lof, hob, Ob.len])
          have hsl := q hl.symm
          simp only [mkE] at hsl
          have hnm : id ∉ ρ := by
            intro hm
            have := List.isSome_idxOf? (l := ρ) (a := id)
            simp [hi, hm] at this
          simp only [if_true]
          cases hH : H id with
          | none =>
            rw [hH] at hsl hr
            obtain ⟨_, rfl, rfl, rfl⟩ := hsl
            simp only [ObRep] at hr
            subst hr
            exact ⟨none, 0, [], rfl, Nat.le_refl _, by simp [VReps], by simp⟩
          | some b =>
            rw [hH] at hsl hr
            obtain ⟨cap, rfl, e2, e3, e4⟩ := hsl
            obtain ⟨c, el, r1, r2, r3, r4⟩ := hr
            exact ⟨_, cap, ((c.toList.take cs.length).drop off).take (n * esz), rfl, e2, ((VReps.noIdI hE _ _ (r4.toFrz hn)).drop off).take _, fun _ => ⟨b, off, rfl, .inr ⟨rfl, id, _, hob, rfl, hnm, hH⟩, reads_take _ (reads_row r1 _ _)⟩⟩
        | map es bs ck => simp [hob] at ho
        | iter m s sn l => simp [hob] at ho
        | loop st pd n ks vs ps as bd => simp [hob] at ho
        | dead => simp [hob] at ho
  | mp id =>
    simp only [vw0, vw0OK] at ho ⊢
    cases hi : ρ.idxOf? id with
    | some j =>
      simp only [hi]
      refine VRep.rn0I hE (.mp j) v rfl ?_
      simp only [rn0, hf hi]; exact hx
    | none => simp [hi] at ho
  | yld id =>
    simp only [vw0, vw0OK] at ho ⊢
    cases hi : ρ.idxOf? id with
    | some j =>
      simp only [hi]
      refine VRep.rn0I hE (.yld j) v rfl ?_
      simp only [rn0, hf hi]; exact hx
    | none => simp [hi] at ho
  | fn k cs => exact ho.elim
  | agg cs => exact ho.elim
  | tup cs => exact ho.elim
  | _ => exact VRep.noIdI hE _ v rfl rfl hx

theorem VReps.mapW {E E' : Env} {g : V → V} {p : V → Prop} {q q' : Fl} : ∀ (xs : List V) (us : List Value), (∀ x ∈ xs, ∀ v, p x → VRep E x v → VRep E' (g x) v) → (∀ x ∈ xs, p x → okq q x → okq q' (g x)) → (∀ c ∈ xs, p c) → VReps q E xs us → VReps q' E' (xs.map g) us
  | [], us, _, _, _, hu => hu
  | c :: cs, us, hg, hq, ha, ⟨u, r, h1, h0, h2, h3⟩ =>
    ⟨u, r, h1, hq c (by simp) (ha c (by simp)) h0, hg c (by simp) u (ha c (by simp)) h2, VReps.mapW cs r (fun x hx => hg x (by simp [hx])) (fun x hx => hq x (by simp [hx])) (fun x hx => ha x (by simp [hx])) h3⟩

theorem okq_vw0 {x : V} (ho : vw0OK ob ρ bo x) (h : okq .cell x) : okq .cell (vw0 ob ρ bo x) := by
  cases x <;> simp_all [okq, V.one, vw0, vw0OK]
  all_goals
    (repeat' split at ho) <;> simp_all [V.one]
theorem flat0_vw0 {x : V} (ho : vw0OK ob ρ bo x) (h : x.flat0 = true) : (vw0 ob ρ bo x).flat0 = true := by
  cases x <;> simp_all [V.flat0, vw0, vw0OK]
  all_goals
    (repeat' split at ho) <;> simp_all [V.flat0]
theorem vw1_sound (h : Passed Φ H ob w ρ bo objs) {x : V} {v : Value} (hx : VRep (mkE Φ H ob w) x v) (ho : vw1OK ob ρ bo x) : VRep (mkE (phiC Φ H ob ρ bo) (hC H ρ) objs w) (vw1 ob ρ bo x) v := by
  cases x with
  | fn k cs =>
    obtain ⟨a, e0, e1, e2⟩ := hx
    exact ⟨a, by
      simp only [List.all_map, List.all_eq_true, Function.comp_apply] at e0 ⊢
      exact fun c hc => flat0_vw0 (ho c hc) (e0 c hc), e1, VReps.mapW (q := .any) (q' := .any) cs _ (fun x _ v hp hx => vw0_sound h hx hp) (fun _ _ _ _ => trivial) ho e2⟩
  | _ => exact vw0_sound h hx ho
theorem okq_vw1 {x : V} (ho : vw1OK ob ρ bo x) (h : okq .cell x) : okq .cell (vw1 ob ρ bo x) := by
  cases x with
  | fn k cs => rfl
  | _ => exact (fun q => okq_vw0 (ob := ob) (ρ := ρ) (bo := bo) q h) ho
theorem vwA_sound (h : Passed Φ H ob w ρ bo objs) {x : V} {v : Value} (hx : VRep (mkE Φ H ob w) x v) (ho : vwAOK ob ρ bo x) : VRep (mkE (phiC Φ H ob ρ bo) (hC H ρ) objs w) (vwA ob ρ bo x) v := by
  cases x with
  | agg cs =>
    obtain ⟨a, e1, e2⟩ := hx
    exact ⟨a, e1, VReps.mapW (q := .cell) (q' := .cell) cs _ (fun x _ v hp hx => vw1_sound h hx hp) (fun x _ hp hq => okq_vw1 hp hq) ho e2⟩
  | _ => exact vw1_sound h hx ho
end
end Go.VX

/- Behind a call. -/
namespace Go.VX
open Go.RowKit
set_option linter.unusedVariables false
set_option linter.unusedSimpArgs false
set_option linter.unusedSectionVars false

theorem flat0_eq_rn0 (f : Nat → Nat) (x : V) : (rn0 f x).flat0 = x.flat0 := flat0_rn0 f x
theorem flat1_rn1 (f : Nat → Nat) (x : V) : (rn1 f x).flat1 = x.flat1 := by
  cases x with
  | fn k cs => simp only [rn1, V.flat1, List.all_map, Function.comp_def, flat0_rn0]
  | _ => rfl
theorem flatA_rnA (f : Nat → Nat) (x : V) : (rnA f x).flatA = x.flatA := by
  cases x with
  | agg cs => simp [rnA, V.flatA, List.all_map, Function.comp_def, flat1_rn1]
  | fn k cs => exact flat1_rn1 f (.fn k cs)
  | _ => rfl
theorem flat_rnV (f : Nat → Nat) (x : V) : (rnV f x).flat = x.flat := by
  cases x with
  | tup cs => simp [rnV, V.flat, List.all_map, Function.comp_def, flatA_rnA]
  | agg cs => exact flatA_rnA f (.agg cs)
  | fn k cs => exact flatA_rnA f (.fn k cs)
  | _ => rfl
theorem flat_rnO (f : Nat → Nat) (o : Ob) : (rnO f o).flat = o.flat := by
  cases o <;> simp [rnO, Ob.flat, List.all_map, Function.comp_def, flat1_rn1, flatA_rnA, flat0_rn0, flat_rnV]

/-! ### Values without frozen memory -/
def V.nofz0 : V → Bool
  | .fp _ | .fs _ _ | .fn _ _ | .agg _ | .tup _ => false
  | _ => true
def V.nofz1 : V → Bool
  | .fn _ cs => cs.all V.nofz0
  | x => x.nofz0
def V.nofzA : V → Bool
  | .agg cs => cs.all V.nofz1
  | x => x.nofz1
def V.nofz : V → Bool
  | .tup cs => cs.all V.nofzA
  | x => x.nofzA
def Ob.nofz : Ob → Bool
  | .live cs => cs.all V.nofz1
  | .map es _ _ => es.all fun e => e.1.nofzA && e.2.nofzA
  | .iter m _ _ _ => m.nofz0
  | .loop _ _ _ _ vs _ _ _ => vs.all V.nofz
  | .frz _ => false
  | .dead => true

section
variable {E : Env} {Φ' : Nat → Prop}

theorem VRep.nofz0 {x : V} {v : Value} (hn : x.nofz0 = true) (h : VRep E x v) : VRep { E with Φ := Φ' } x v := by
  cases x <;> simp [V.nofz0] at hn <;> exact h
theorem VReps.mapN {p : V → Bool} {q : Fl} (hp : ∀ x v, p x = true → VRep E x v → VRep { E with Φ := Φ' } x v) : ∀ {xs : List V} {us : List Value}, xs.all p = true → VReps q E xs us → VReps q { E with Φ := Φ' } xs us
  | [], us, _, hu => hu
  | c :: cs, us, ha, ⟨u, r, h1, h0, h2, h3⟩ => by
    simp only [List.all_cons, Bool.and_eq_true] at ha
    exact ⟨u, r, h1, h0, hp c u ha.1 h2, VReps.mapN hp ha.2 h3⟩
theorem VRep.nofz1 {x : V} {v : Value} (hn : x.nofz1 = true) (h : VRep E x v) : VRep { E with Φ := Φ' } x v := by
  cases x with
  | fn k cs => obtain ⟨a, e0, e1, e2⟩ := h; exact ⟨a, e0, e1, VReps.mapN (fun x v hp hx => VRep.nofz0 hp hx) hn e2⟩
  | _ => exact VRep.nofz0 hn h
theorem VRep.nofzA {x : V} {v : Value} (hn : x.nofzA = true) (h : VRep E x v) : VRep { E with Φ := Φ' } x v := by
  cases x with
  | agg cs => obtain ⟨a, e1, e2⟩ := h; exact ⟨a, e1, VReps.mapN (fun x v hp hx => VRep.nofz1 hp hx) hn e2⟩
  | _ => exact VRep.nofz1 hn h
theorem VRep.nofz {x : V} {v : Value} (hn : x.nofz = true) (h : VRep E x v) : VRep { E with Φ := Φ' } x v := by
  cases x with
  | tup cs => obtain ⟨a, e0, e1, e2⟩ := h; exact ⟨a, e0, e1, VReps.mapN (fun x v hp hx => VRep.nofzA hp hx) hn e2⟩
  | _ => exact VRep.nofzA hn h
theorem ObRep.nofz {o : Ob} {x : Option Nat} (hn : o.nofz = true) (hf : o.mutb = true → ∀ b, x = some b → ¬ Φ' b) (h : ObRep E x o) : ObRep { E with Φ := Φ' } x o := by
  cases o with
  | live cs =>
    cases x with
    | none => exact h
    | some b => obtain ⟨c, el, h1, h2, h3, h4⟩ := h; exact ⟨c, el, h1, hf rfl b rfl, h3, VReps.mapN (fun x v hp hx => VRep.nofz1 hp hx) hn h4⟩
  | frz cs => simp [Ob.nofz] at hn
  | iter m s sn l =>
    obtain ⟨h0, b, r, e, h1, h2, h3⟩ := h
    exact ⟨h0, b, r, e, h1, hf rfl b e, VRep.nofz0 hn h3⟩
  | loop st pd n ks vs ps as bd =>
    obtain ⟨b, r, e, h1, h2, h3, h4⟩ := h
    exact ⟨b, r, e, h1, hf rfl b e, h3, VReps.mapN (fun x v hp hx => VRep.nofz hp hx) hn h4⟩
  | map es bs ck =>
    obtain ⟨h0, b, arr, e, h1, h2, h3, h4, h5⟩ := h
    have hn' : (es.map (·.1)).all V.nofzA = true ∧ (es.map (·.2)).all V.nofzA = true := by
      simp only [Ob.nofz, List.all_eq_true, Bool.and_eq_true] at hn
      simp only [List.all_map, List.all_eq_true]
      exact ⟨fun e he => (hn e he).1, fun e he => (hn e he).2⟩
    exact ⟨h0, b, arr, e, h1, hf rfl b e, VReps.mapN (fun x v hp hx => VRep.nofzA hp hx) hn'.1 h3, VReps.mapN (fun x v hp hx => VRep.nofzA hp hx) hn'.2 h4, h5⟩
  | dead => trivial
end

/-! ### The caller's objects, behind the call -/
def setAll : List Ob → List Nat → List Ob → List Ob
  | ob, i :: ρ, o :: os => setAll (ob.set i o) ρ os
  | ob, _, _ => ob
def back (ob : List Ob) (ρ : List Nat) (ob' : List Ob) : List Ob :=
  setAll ob ρ (ob'.map (rnO (fOf ρ ob.length))) ++ (ob'.drop ρ.length).map (rnO (fOf ρ ob.length))

theorem setAll_length : ∀ (ob : List Ob) (ρ : List Nat) (os : List Ob), (setAll ob ρ os).length = ob.length
  | ob, [], os => by simp [setAll]
  | ob, i :: ρ, [] => by simp [setAll]
  | ob, i :: ρ, o :: os => by simp [setAll, setAll_length]
theorem setAll_other : ∀ (ob : List Ob) (ρ : List Nat) (os : List Ob) (i : Nat), i ∉ ρ → (setAll ob ρ os)[i]? = ob[i]?
  | ob, [], os, i, _ => by simp [setAll]
  | ob, k :: ρ, [], i, _ => by simp [setAll]
  | ob, k :: ρ, o :: os, i, h => by
    simp only [List.mem_cons, not_or] at h
    simp only [setAll]
    rw [setAll_other _ ρ os i h.2, List.getElem?_set_ne (by omega)]
theorem setAll_at : ∀ (ob : List Ob) (ρ : List Nat) (os : List Ob) (j i : Nat), ρ.Nodup → ρ.length ≤ os.length → i < ob.length → ρ[j]? = some i → (setAll ob ρ os)[i]? = os[j]?
  | ob, [], os, j, i, _, _, _, h => by simp at h
  | ob, k :: ρ, [], j, i, _, hl, _, _ => by simp at hl
  | ob, k :: ρ, o :: os, j, i, hn, hl, hi, h => by
    obtain ⟨hk, hn⟩ := List.nodup_cons.1 hn
    simp only [setAll]
    cases j with
    | zero =>
      simp at h; subst h
      rw [setAll_other _ ρ os k hk]
      simp [hi]
    | succ j =>
      simp at h
      rw [setAll_at _ ρ os j i hn (by simpa using hl) (by simpa using hi) h]
      simp

/-- From the caller's numbers to the callee's. -/
def gOf (ρ : List Nat) (base i : Nat) : Option Nat := if i < base then ρ.idxOf? i else some (ρ.length + (i - base))

theorem gOf_f {ρ : List Nat} {base i j : Nat} (h : gOf ρ base i = some j) : fOf ρ base j = i := by
  unfold gOf at h
  split at h
  · obtain ⟨h1, h2⟩ := idxOf?_some h
    simp only [fOf, if_pos h2, List.getD_eq_getElem?_getD, h1]; rfl
  · simp only [Option.some.injEq] at h
    simp only [fOf]
    rw [if_neg (by omega)]
    omega
theorem idxOf?_of_nodup {ρ : List Nat} (hn : ρ.Nodup) {i j : Nat} (h : ρ[j]? = some i) : ρ.idxOf? i = some j := by
  cases q : ρ.idxOf? i with
  | none =>
    have := List.isSome_idxOf? (l := ρ) (a := i)
    simp [q] at this
    exact absurd (List.mem_of_getElem? h) this
  | some k =>
    obtain ⟨h1, h2⟩ := idxOf?_some q
    obtain ⟨h3, h4⟩ := List.getElem?_eq_some_iff.1 h
    rw [List.getElem?_eq_getElem h2] at h1
    have h5 : ρ[k] = ρ[j] := (Option.some.inj h1).trans h4.symm
    exact congrArg some ((List.getElem_inj hn).1 h5)
theorem f_gOf {ρ : List Nat} {base j : Nat} (hn : ρ.Nodup) (hb : ∀ i ∈ ρ, i < base) : gOf ρ base (fOf ρ base j) = some j := by
  unfold fOf gOf
  split
  · rename_i hj
    have h1 : ρ[j]? = some ρ[j] := List.getElem?_eq_getElem hj
    simp only [List.getD_eq_getElem?_getD, h1, Option.getD_some]
    rw [if_pos (hb _ (List.getElem_mem hj))]
    exact idxOf?_of_nodup hn h1
  · rw [if_neg (by omega)]
    congr 1
    omega

def hBack (H H' : Nat → Option Nat) (ρ : List Nat) (base : Nat) : Nat → Option Nat := fun i => match gOf ρ base i with
  | some j => H' j
  | none => H i

theorem back_get {ob ob' : List Ob} {ρ : List Nat} (hn : ρ.Nodup) (hb : ∀ i ∈ ρ, i < ob.length) (hl : ρ.length ≤ ob'.length) (i : Nat) :
    (back ob ρ ob')[i]? = match gOf ρ ob.length i with
      | some j => (ob'[j]?).map (rnO (fOf ρ ob.length))
      | none => ob[i]? := by
  unfold back gOf
  by_cases hi : i < ob.length
  · rw [if_pos hi, List.getElem?_append_left (by rw [setAll_length]; exact hi)]
    cases q : ρ.idxOf? i with
    | none =>
      have hm : i ∉ ρ := by
        intro hm
        have := List.isSome_idxOf? (l := ρ) (a := i)
        simp [q, hm] at this
      simp only [setAll_other _ _ _ _ hm]
    | some j =>
      obtain ⟨h1, h2⟩ := idxOf?_some q
      rw [setAll_at ob ρ _ j i hn (by simpa using hl) hi h1, List.getElem?_map]
  · rw [if_neg hi, List.getElem?_append_right (by rw [setAll_length]; omega), setAll_length]
    simp

theorem back_length {ob ob' : List Ob} {ρ : List Nat} : (back ob ρ ob').length = ob.length + (ob'.length - ρ.length) := by
  simp [back, setAll_length]

section
variable {Φ Φ' : Nat → Prop} {H H' : Nat → Option Nat} {ob objs ob' : List Ob} {w w' : World} {ρ : List Nat} {bo : Bool} {nt : Sh}

/-- What is behind the call, as the caller has it. -/
theorem call_step (h : Passed Φ H ob w ρ bo objs) (k : HS (ctx (phiC Φ H ob ρ bo) (hC H ρ) objs w nt) Φ' H' ob' w') (hnf : bo = true → ∀ o ∈ ob', o.nofz = true) :
    ∃ Φ2, HStep Φ H ob w Φ2 (hBack H H' ρ ob.length) (back ob ρ ob') w' ∧
      ∀ r v, (bo = true → r.nofz = true) → VRep (mkE Φ' H' ob' w') r v → VRep (mkE Φ2 (hBack H H' ρ ob.length) (back ob ρ ob') w') (rnV (fOf ρ ob.length) r) v := by
  have hρ : ∀ i ∈ ρ, i < ob.length := by
    intro i hi
    obtain ⟨j, hj, e⟩ := List.getElem_of_mem hi
    obtain ⟨o, _, _, g3⟩ := h.obj j i (by rw [List.getElem?_eq_getElem hj, e])
    exact (List.getElem?_eq_some_iff.1 g3).1
  have hl : ρ.length ≤ ob'.length := by
    have := k.ext.n
    simp only [ctx, mkE] at this
    rw [← h.len]; exact this
  have hget := back_get (ob' := ob') h.nodup hρ hl
  have hEI := h.extI
  -- frozen for the callee alone
  let bor : Nat → Prop := fun x => bo = true ∧ ∃ i o, ob[i]? = some o ∧ o.mutb = true ∧ i ∉ ρ ∧ H i = some x
  let Φ2 : Nat → Prop := fun x => Φ' x ∧ ¬ bor x
  have hΦ : ∀ x, Φ x → Φ' x ∧ ¬ bor x := by
    intro x hx
    refine ⟨k.ext.phi x (.inl hx), ?_⟩
    rintro ⟨_, i, o, h1, h2, _, h3⟩
    exact (h.sim.mutb h1 h2 h3).2 hx
  have hnew : ∀ x, w.heap.size ≤ x → ¬ bor x := by
    rintro x hx ⟨_, i, o, h1, h2, _, h3⟩
    have := (h.sim.mutb h1 h2 h3).1
    omega
  -- whose blocks the callee had
  have hown : ∀ b, ownOf objs (hC H ρ) b → ∃ (j i : Nat) (o : Ob), ρ[j]? = some i ∧ ob[i]? = some o ∧ o.mutb = true ∧ H i = some b := by
    rintro b ⟨j, o, h1, h2, h3⟩
    have hj : j < ρ.length := by rw [← h.len]; exact (List.getElem?_eq_some_iff.1 h1).1
    obtain ⟨o', g1, g2, g3⟩ := h.obj j ρ[j] (List.getElem?_eq_getElem hj)
    obtain rfl : o = o' := by rw [h1] at g1; exact Option.some.inj g1
    refine ⟨j, ρ[j], _, List.getElem?_eq_getElem hj, g3, by rw [rnO_mutb]; exact h2, ?_⟩
    simpa [hC, hj, List.getD_eq_getElem?_getD, List.getElem?_eq_getElem hj] using h3
  have hE : ∀ (i j : Nat), gOf ρ ob.length i = some j → j < ρ.length → i < ob.length ∧ ρ[j]? = some i := by
    intro i j hg hj
    have hf := gOf_f hg
    simp only [fOf, if_pos hj, List.getD_eq_getElem?_getD, List.getElem?_eq_getElem hj, Option.getD_some] at hf
    subst hf
    exact ⟨hρ _ (List.getElem_mem hj), List.getElem?_eq_getElem hj⟩
  have hkept : ∀ b, b < w.heap.size → (∀ i o, ob[i]? = some o → o.mutb = true → H i ≠ some b) → w'.heap[b]? = w.heap[b]? := by
    intro b hb hn
    refine k.kept b hb fun ho => ?_
    obtain ⟨j, i, o, _, h2, h3, h4⟩ := hown b ho
    exact hn i o h2 h3 h4
  have hkeptU : ∀ (i : Nat) (o : Ob) (b : Nat), ob[i]? = some o → o.mutb = true → i ∉ ρ → H i = some b → w'.heap[b]? = w.heap[b]? := by
    intro i o b h1 h2 h3 h4
    refine k.kept b (h.sim.mutb h1 h2 h4).1 fun ho => ?_
    obtain ⟨j, i', o', g1, g2, g3, g4⟩ := hown b ho
    have := h.sim.inj i i' o o' b h1 g2 h2 g3 h4 g4
    exact h3 (this ▸ List.mem_of_getElem? g1)
  have hkeptF : ∀ b, Φ b → w'.heap[b]? = w.heap[b]? := fun b hb => hkept b (h.sim.phi b hb) fun i o h1 h2 h3 => (h.sim.mutb h1 h2 h3).2 hb
  have hnone : ∀ i, gOf ρ ob.length i = none → i < ob.length ∧ i ∉ ρ := by
    intro i hg
    unfold gOf at hg
    split at hg
    · rename_i hi
      refine ⟨hi, fun hm => ?_⟩
      have := List.isSome_idxOf? (l := ρ) (a := i)
      simp [hg, hm] at this
    · cases hg
  -- lengths of what was handed over
  have hLof : ∀ (i j : Nat), ρ[j]? = some i → Lof objs j = Lof ob i := by
    intro i j hj
    obtain ⟨o, g1, g2, g3⟩ := h.obj j i hj
    simp [Lof, g1, g3, rnO_len]
  have hHof : ∀ (i j : Nat), ρ[j]? = some i → hC H ρ j = H i := by
    intro i j hj
    obtain ⟨h1, h2⟩ := List.getElem?_eq_some_iff.1 hj
    simp [hC, h1, List.getD_eq_getElem?_getD, h2]
  have hbsz : ∀ b, w'.heap[b]? = w.heap[b]? → bsize w' b = bsize w b := fun b e => by simp [bsize, e]
  have hExt : Ext (mkE Φ H ob w) (mkE Φ2 (hBack H H' ρ ob.length) (back ob ρ ob') w') := by
    refine ⟨hΦ, fun b hb => hkeptF b hb, by simp only [mkE, back_length]; omega, fun i hi T' hT => ?_⟩
    simp only [mkE] at hi hT ⊢
    simp only [Lof, hget] at hT
    cases hg : gOf ρ ob.length i with
    | none =>
      simp only [hg] at hT
      refine ⟨T', hT, Nat.le_refl _, fun _ => ⟨by simp [hBack, hg], fun b hb => ?_⟩⟩
      obtain ⟨_, hni⟩ := hnone i hg
      obtain ⟨o, ho⟩ : ∃ o, ob[i]? = some o := ⟨ob[i], by simp [List.getElem?_eq_getElem hi]⟩
      have hr := h.sim.rep i o ho
      refine hbsz b ?_
      cases hm : o.mutb with
      | true => exact hkeptU i o b ho hm hni hb
      | false =>
        cases o with
        | frz cs => rw [hb] at hr; exact hkeptF b hr.1
        | dead => simp [ho, Ob.len] at hT
        | live cs => simp [Ob.mutb] at hm
        | map es bs ck => simp [Ob.mutb] at hm
        | iter m s sn l => simp [Ob.mutb] at hm
        | loop st pd n ks vs ps as bd => simp [Ob.mutb] at hm
    | some j =>
      simp only [hg] at hT
      have hj : j < ρ.length := by
        unfold gOf at hg
        rw [if_pos hi] at hg
        exact (idxOf?_some hg).2
      obtain ⟨_, hji⟩ := hE i j hg hj
      have hT2 : Lof ob' j = some T' := by
        simp only [Lof]
        cases q : ob'[j]? with
        | none => simp [q] at hT
        | some o => simpa [q, rnO_len] using hT
      obtain ⟨T, g1, g2, g3⟩ := k.ext.l j (by simp only [ctx, mkE]; rw [h.len]; exact hj) T' hT2
      simp only [ctx, mkE] at g1 g3
      rw [hLof i j hji] at g1
      rw [hHof i j hji] at g3
      refine ⟨T, g1, g2, fun e => ?_⟩
      obtain ⟨q1, q2⟩ := g3 e
      exact ⟨by simp only [hBack, hg]; exact q1, q2⟩
  -- from the callee's end to the caller's
  have hR : ExtR (fOf ρ ob.length) (mkE Φ2 H' ob' w') (mkE Φ2 (hBack H H' ρ ob.length) (back ob ρ ob') w') := by
    refine ⟨fun _ hb => hb, fun _ _ => rfl, fun i hi => ?_, fun i hi T' hT => ?_⟩
    · simp only [mkE, back_length, fOf] at hi ⊢
      split
      · rename_i hlt
        have := hρ (ρ.getD i 0) (by rw [List.getD_eq_getElem?_getD, List.getElem?_eq_getElem hlt]; exact List.getElem_mem hlt)
        omega
      · omega
    · simp only [mkE] at hi hT ⊢
      have hg := f_gOf (ρ := ρ) (base := ob.length) (j := i) h.nodup hρ
      simp only [Lof, hget, hg] at hT
      have hT2 : Lof ob' i = some T' := by
        simp only [Lof]
        cases q : ob'[i]? with
        | none => simp [q] at hT
        | some o => simpa [q, rnO_len] using hT
      exact ⟨T', hT2, Nat.le_refl _, fun _ => ⟨by simp [hBack, hg], fun _ _ => by first | rfl | trivial⟩⟩
  -- no mutable object of the callee's lies in what it took for frozen
  have hmut2 : ∀ (j : Nat) (o : Ob) (b : Nat), ob'[j]? = some o → o.mutb = true → H' j = some b → ¬ Φ2 b := fun j o b h1 h2 h3 hp => (k.sim.mutb h1 h2 h3).2 hp.1
  have hsim : HSim Φ2 (hBack H H' ρ ob.length) (back ob ρ ob') w' := by
    refine ⟨fun b hb => k.sim.phi b hb.1, fun i o hi => ?_, fun i1 i2 o1 o2 b e1 e2 m1 m2 x1 x2 => ?_⟩
    · rw [hget] at hi
      cases hg : gOf ρ ob.length i with
      | none =>
        simp only [hg] at hi
        obtain ⟨_, hni⟩ := hnone i hg
        refine ObRep.ext hExt (by simp [hBack, hg]) (fun hm b hb => ⟨hkeptU i o b hi hm hni hb, ?_⟩) (h.sim.rep i o hi)
        rintro ⟨hp1, hp2⟩
        have hlt := (h.sim.mutb hi hm hb).1
        rcases k.phi b hp1 with q | q | q
        · rcases q with q | q
          · exact (h.sim.mutb hi hm hb).2 q
          · exact hp2 q
        · obtain ⟨j, i', o', g1, g2, g3, g4⟩ := hown b q
          have := h.sim.inj i i' o o' b hi g2 hm g3 hb g4
          exact hni (this ▸ List.mem_of_getElem? g1)
        · have q' : w.heap.size ≤ b := q
          omega
      | some j =>
        simp only [hg] at hi
        cases hoj : ob'[j]? with
        | none => simp [hoj] at hi
        | some o' =>
          simp only [hoj, Option.map_some, Option.some.injEq] at hi
          subst hi
          have hr := k.sim.rep j o' hoj
          have hr2 : ObRep (mkE Φ2 H' ob' w') (H' j) o' := by
            cases hbo : bo with
            | true => exact ObRep.nofz (Φ' := Φ2) (hnf hbo o' (List.mem_of_getElem? hoj)) (fun hm b hb => hmut2 j o' b hoj hm hb) hr
            | false =>
              have : Φ2 = Φ' := by
                funext x
                simp only [Φ2, bor, hbo, Bool.false_eq_true, false_and, not_false_eq_true, and_true]
              rw [this]; exact hr
          have := ObRep.rnR hR rfl (ob_flat hr) (fun hm b hb => hmut2 j o' b hoj hm hb) hr2
          simpa only [hBack, hg] using this
    · rw [hget] at e1 e2
      simp only [hBack] at x1 x2
      have cross : ∀ (i1 i2 : Nat) (o1 : Ob) (b j2 : Nat) (o2' : Ob), gOf ρ ob.length i1 = none → ob[i1]? = some o1 → o1.mutb = true → H i1 = some b → ob'[j2]? = some o2' → o2'.mutb = true → H' j2 = some b → False := by
        intro i1 i2 o1 b j2 o2' hg e1 m1 x1 e2 m2 x2
        obtain ⟨_, hni⟩ := hnone i1 hg
        have hlt := (h.sim.mutb e1 m1 x1).1
        rcases k.mine j2 o2' b e2 m2 x2 with q | q
        · obtain ⟨j, i', o', g1, g2, g3, g4⟩ := hown b q
          have := h.sim.inj i1 i' o1 o' b e1 g2 m1 g3 x1 g4
          exact hni (this ▸ List.mem_of_getElem? g1)
        · have q' : w.heap.size ≤ b := q
          omega
      cases hg1 : gOf ρ ob.length i1 with
      | none =>
        simp only [hg1] at e1 x1
        cases hg2 : gOf ρ ob.length i2 with
        | none =>
          simp only [hg2] at e2 x2
          exact h.sim.inj i1 i2 o1 o2 b e1 e2 m1 m2 x1 x2
        | some j2 =>
          simp only [hg2] at e2 x2
          cases hoj : ob'[j2]? with
          | none => simp [hoj] at e2
          | some o2' =>
            simp only [hoj, Option.map_some, Option.some.injEq] at e2
            subst e2
            rw [rnO_mutb] at m2
            exact (cross i1 i2 o1 b j2 o2' hg1 e1 m1 x1 hoj m2 x2).elim
      | some j1 =>
        simp only [hg1] at e1 x1
        cases hoj1 : ob'[j1]? with
        | none => simp [hoj1] at e1
        | some o1' =>
          simp only [hoj1, Option.map_some, Option.some.injEq] at e1
          subst e1
          rw [rnO_mutb] at m1
          cases hg2 : gOf ρ ob.length i2 with
          | none =>
            simp only [hg2] at e2 x2
            exact (cross i2 i1 o2 b j1 o1' hg2 e2 m2 x2 hoj1 m1 x1).elim
          | some j2 =>
            simp only [hg2] at e2 x2
            cases hoj : ob'[j2]? with
            | none => simp [hoj] at e2
            | some o2' =>
              simp only [hoj, Option.map_some, Option.some.injEq] at e2
              subst e2
              rw [rnO_mutb] at m2
              have := k.sim.inj j1 j2 o1' o2' b hoj1 hoj m1 m2 x1 x2
              subst this
              rw [← gOf_f hg1, ← gOf_f hg2]
  refine ⟨Φ2, ⟨k.os, k.tape, k.output, k.size, hkept, hsim, hExt, fun b hb => ?_, fun i o b e1 m1 x1 => ?_⟩, fun r v hrn hr => ?_⟩
  · rcases k.phi b hb.1 with q | q | q
    · rcases q with q | q
      · exact .inl q
      · exact absurd q hb.2
    · obtain ⟨j, i', o', g1, g2, g3, g4⟩ := hown b q
      exact .inr (.inl ⟨i', o', g2, g3, g4⟩)
    · exact .inr (.inr q)
  · rw [hget] at e1
    simp only [hBack] at x1
    cases hg : gOf ρ ob.length i with
    | none =>
      simp only [hg] at e1 x1
      exact .inl ⟨i, o, e1, m1, x1⟩
    | some j =>
      simp only [hg] at e1 x1
      cases hoj : ob'[j]? with
      | none => simp [hoj] at e1
      | some o' =>
        simp only [hoj, Option.map_some, Option.some.injEq] at e1
        subst e1
        rw [rnO_mutb] at m1
        rcases k.mine j o' b hoj m1 x1 with q | q
        · obtain ⟨j', i', o'', g1, g2, g3, g4⟩ := hown b q
          exact .inl ⟨i', o'', g2, g3, g4⟩
        · exact .inr q
  · have hfl := rep_flat hr
    have hr2 : VRep (mkE Φ2 H' ob' w') r v := by
      cases hbo : bo with
      | true => exact VRep.nofz (Φ' := Φ2) (hrn hbo) hr
      | false =>
        have : Φ2 = Φ' := by
          funext x
          simp only [Φ2, bor, hbo, Bool.false_eq_true, false_and, not_false_eq_true, and_true]
        rw [this]; exact hr
    exact VRep.rnV hR r v hfl hr2

end
end Go.VX

/- A call by its contract; steps that turn what is known alone. -/
namespace Go.VX
open Go.RowKit
set_option linter.unusedVariables false
set_option linter.unusedSimpArgs false
set_option linter.unusedSectionVars false

theorem flat_of_rn {f : Nat → Nat} {E : Env} {x : Option Nat} {o : Ob} (h : ObRep E x (rnO f o)) : o.flat = true := by
  rw [← flat_rnO f]; exact ob_flat h

/-- What must hold of objects that are handed over. -/
def handed (ob : List Ob) (ρ : List Nat) (objs : List Ob) : Prop :=
  ρ.Nodup ∧ objs.length = ρ.length ∧ ∀ (j i : Nat) (o : Ob), ρ[j]? = some i → objs[j]? = some o → ob[i]? = some (rnO (fOf ρ ob.length) o)

theorem Passed.of {Φ H ob w ρ bo objs} (hs : HSim Φ H ob w) (h : handed ob ρ objs) : Passed Φ H ob w ρ bo objs := by
  obtain ⟨h1, h2, h3⟩ := h
  refine ⟨hs, h1, h2, fun j i hj => ?_⟩
  have hlt : j < objs.length := by rw [h2]; exact (List.getElem?_eq_some_iff.1 hj).1
  have ho : objs[j]? = some objs[j] := List.getElem?_eq_getElem hlt
  have hob := h3 j i _ hj ho
  exact ⟨_, ho, flat_of_rn (hs.rep i _ hob), hob⟩

theorem vcall_of_VC {P : Program} {nt : Sh} {st : St} {k : Nat} {args : List V} {K : V → List Ob → Prop} (ρ : List Nat) (bo : Bool) {args' : List V} {objs : List Ob} {Q : V → List Ob → Prop}
    (hv : VC P k args' objs Q) (ha : args.map (vwA st.ob ρ bo) = args') (hok : ∀ c ∈ args, vwAOK st.ob ρ bo c) (hh : handed st.ob ρ objs)
    (hK : ∀ r ob', Q r ob' → (bo = true → r.nofz = true ∧ ∀ o ∈ ob', o.nofz = true) ∧ K (rnV (fOf ρ st.ob.length) r) (back st.ob ρ ob')) : vcall P nt st k args K := by
  refine ⟨hv.1, fun C hC Φ H a w s vals hvals => ?_⟩
  have hp : Passed Φ H st.ob w ρ bo objs := Passed.of s.hs.sim hh
  have hargs : VReps .any (mkE (phiC Φ H st.ob ρ bo) (VX.hC H ρ) objs w) args' vals.toList := by
    rw [← ha]
    exact VReps.mapW (q := .any) args _ (fun x _ v hq hx => vwA_sound hp hx hq) (fun _ _ _ _ => trivial) hok hvals
  refine (hv.2 _ _ w vals hp.hsim hargs).mono fun e w' q => ?_
  cases e with
  | returned v =>
    obtain ⟨r, ob', Φ', H', q1, q2, q3⟩ := q
    obtain ⟨k1, k2⟩ := hK r ob' q3
    obtain ⟨Φ2, g1, g2⟩ := call_step hp q1 (fun hb => (k1 hb).2)
    exact ⟨Φ2, _, _, _, s.step g1, g2 r v (fun hb => (k1 hb).1) q2, k2⟩
  | panicked c => exact q
  | outgrown => exact q

/-! ### Steps that turn what is known alone -/
def Gh (nt : Sh) (st st' : St) : Prop := ∀ C : Ctx, C.nt = nt → ∀ Φ H a w, SimE C Φ H st a w → ∃ Φ' H', SimE C Φ' H' st' a w

theorem Gh.refl (nt : Sh) (st : St) : Gh nt st st := fun C _ Φ H a w s => ⟨Φ, H, s⟩
theorem Gh.trans {nt : Sh} {a b c : St} (h : Gh nt a b) (k : Gh nt b c) : Gh nt a c := fun C hC Φ H x w s => by
  obtain ⟨Φ', H', s'⟩ := h C hC Φ H x w s
  exact k C hC Φ' H' x w s'

section
variable {P : Program} {nt : Sh} {Q : X → St → Prop} {st st' : St}

theorem vwp_gh {c : Code} (g : Gh nt st st') (h : vwp P nt c Q st') : vwp P nt c Q st := fun C hC Φ H a w s => by
  obtain ⟨Φ', H', s'⟩ := g C hC Φ H a w s
  exact h C hC Φ' H' a w s'
theorem vwp_post {c : Code} (h : vwp P nt c (fun x st => ∃ st', Gh nt st st' ∧ Q x st') st) : vwp P nt c Q st := by
  intro C hC Φ H a w s
  refine gw_mono (h C hC Φ H a w s) fun e a w q => ?_
  cases e <;> simp only [lft] at q ⊢
  all_goals
    obtain ⟨Φ, H, st, s, st', g, q⟩ := q
    obtain ⟨Φ', H', s'⟩ := g C hC Φ H a w s
    exact ⟨Φ', H', st', s', q⟩

/-- A loop, the round's end put into the head's form. -/
theorem vwp_loop_gh {c : Code} (I : Nat → St → Prop) (n : Nat) (h0 : I n st) (round : ∀ n st, I n st → vwp P nt c (thenQ (fun st' => ∃ st2, Gh nt st' st2 ∧ ∃ m, m < n ∧ I m st2) Q) st) : vwp P nt (.loop c) Q st := by
  refine vwp_loop I n h0 fun n st hI => vwp_post (vwp_mono (round n st hI) fun x st' q => ?_)
  cases x with
  | norm => exact q
  | ex id => exact ⟨st', Gh.refl _ _, q⟩
  | ret => exact ⟨st', Gh.refl _ _, q⟩

theorem HSim.gh_ext {C : Ctx} {Φ H ob w a sl} (s : SimE C Φ H ⟨sl, ob⟩ a w) : ob.length ≥ C.E0.N := s.hs.ext.n

/-- Less may be known. -/
theorem Gh.less {sl sl' : List (Nat × V)} {ob : List Ob} (h : ∀ i, getS sl' i = getS sl i ∨ getS sl' i = .junk) : Gh nt ⟨sl, ob⟩ ⟨sl', ob⟩ :=
  fun C hC Φ H a w s => ⟨Φ, H, s.weaken h⟩

/-- An object is never written any more. -/
theorem Gh.freeze {sl : List (Nat × V)} {ob : List Ob} (id : Nat) {cs : List V} (ho : ob[id]? = some (.live cs)) (hn : ∀ c ∈ cs, c.noId = true) : Gh nt ⟨sl, ob⟩ ⟨sl, ob.set id (.frz cs)⟩ := by
  intro C hC Φ H a w s
  have hr := s.hs.sim.rep id _ ho
  let Φ' : Nat → Prop := fun b => Φ b ∨ H id = some b
  have hst : HStep Φ H ob w Φ' (upd H id (H id)) (ob.set id (.frz cs)) w := by
    refine HStep.ofChange s.hs.sim ho rfl rfl rfl rfl (fun _ _ _ => rfl) (Nat.le_refl _) (fun b hb => .inl hb) (fun b hb => ?_) (fun b hb => .inl hb) (fun T' hT' => ?_) (fun E' hE hw hΦ => ?_)
    · rcases hb with hb | hb
      · exact .inl hb
      · exact .inr ⟨hb, rfl⟩
    · exact ⟨cs.length, rfl, by simp [Ob.len] at hT'; omega, fun _ => ⟨rfl, fun _ _ => rfl⟩⟩
    · cases hH : H id with
      | none => rw [hH] at hr; exact hr
      | some b =>
        rw [hH] at hr
        obtain ⟨c, el, g1, g2, g3, g4⟩ := hr
        refine ⟨by rw [hΦ]; exact .inr hH, c.toList.take cs.length, ?_, VReps.ext hE _ _ (g4.toFrz hn)⟩
        rw [hw]
        have hrr := reads_row g1 0 cs.length
        rwa [List.drop_zero] at hrr
  exact ⟨Φ', _, s.step hst⟩

/-- A row that isn't there yet. -/
theorem Gh.virt {sl : List (Nat × V)} {ob : List Ob} (i esz : Nat) (hi : getS sl i = .nils) : Gh nt ⟨sl, ob⟩ ⟨setS sl i (.sl ob.length 0 esz 0 0), ob ++ [.live []]⟩ := by
  intro C hC Φ H a w s
  have hst : HStep Φ H ob w Φ (upd H ob.length none) (ob ++ [.live []]) w :=
    HStep.ofPush s.hs.sim rfl rfl rfl (fun _ _ => rfl) (Nat.le_refl _) (fun b hb => by cases hb) (fun E' _ _ _ => rfl)
  have s' := s.step hst
  refine ⟨Φ, _, s'.hs, s'.defers, s'.nt, s'.k0, fun j => ?_⟩
  simp only [getS_setS]
  by_cases e : i = j
  · subst e
    rw [if_pos rfl]
    have hv := s.slots i
    rw [show getS (St.mk sl ob).sl i = .nils from hi] at hv
    simp only [VRep] at hv
    rw [hv]
    refine ⟨rfl, by simp [mkE], fun T' hT' => ⟨by simp, fun _ => ?_⟩⟩
    simp only [mkE, upd_same, SlV]
    simp
  · rw [if_neg e]; exact s'.slots j

/-- Objects that are kept, under new numbers; what slots then say. -/
theorem Gh.keep {sl sl' : List (Nat × V)} {ob objs : List Ob} (ks : List Nat) (hh : handed ob ks objs) (hk0 : nt.k0 ≤ ks.length) (hks : ∀ i, i < nt.k0 → ks[i]? = some i)
    (hsl : ∀ i, getS sl' i = .junk ∨ (getS sl' i = vwA ob ks false (getS sl i) ∧ vwAOK ob ks false (getS sl i))) : Gh nt ⟨sl, ob⟩ ⟨sl', objs⟩ := by
  intro C hC Φ H a w s
  have hp : Passed Φ H ob w ks false objs := Passed.of s.hs.sim hh
  have hEI := hp.extI
  have hphi : phiC Φ H ob ks false = Φ := by funext x; simp [phiC]
  have hsim := hp.hsim
  rw [hphi] at hsim
  have hk : C.E0.N = nt.k0 := by rw [s.k0, hC]
  have hobj : ∀ (j i : Nat), ks[j]? = some i → ∃ o, objs[j]? = some o ∧ ob[i]? = some (rnO (fOf ks ob.length) o) := fun j i hj => by
    obtain ⟨o, h1, _, h3⟩ := hp.obj j i hj; exact ⟨o, h1, h3⟩
  have hHof : ∀ (i j : Nat), ks[j]? = some i → VX.hC H ks j = H i := by
    intro i j hj
    obtain ⟨h1, h2⟩ := List.getElem?_eq_some_iff.1 hj
    simp [VX.hC, h1, List.getD_eq_getElem?_getD, h2]
  refine ⟨Φ, VX.hC H ks, ⟨s.hs.os, s.hs.tape, s.hs.output, s.hs.size, s.hs.kept, hsim, ?_, s.hs.phi, fun j o b e1 m1 x1 => ?_⟩, s.defers, s.nt, s.k0, fun i => ?_⟩
  · have q := s.hs.ext
    refine ⟨q.phi, q.heap, by simp only [mkE]; rw [hh.2.1]; omega, fun i hi T' hT' => ?_⟩
    have hi' : ks[i]? = some i := hks i (by omega)
    obtain ⟨o, g1, g2⟩ := hobj i i hi'
    have e1 : (mkE Φ H ob w).L i = some T' := by
      simp only [mkE, Lof, g1, g2, Option.bind_some, rnO_len] at hT' ⊢
      exact hT'
    obtain ⟨T, k1, k2, k3⟩ := q.l i hi T' e1
    refine ⟨T, k1, k2, fun e => ?_⟩
    obtain ⟨k4, k5⟩ := k3 e
    exact ⟨by simp only [mkE] at k4 ⊢; rw [hHof i i hi']; exact k4, k5⟩
  · have hj : j < ks.length := by rw [← hh.2.1]; exact (List.getElem?_eq_some_iff.1 e1).1
    obtain ⟨o', g1, g2⟩ := hobj j ks[j] (List.getElem?_eq_getElem hj)
    obtain rfl : o = o' := by
      have e1' : objs[j]? = some o := e1
      rw [e1'] at g1; exact Option.some.inj g1
    rw [hHof ks[j] j (List.getElem?_eq_getElem hj)] at x1
    exact s.hs.mine _ _ b g2 (by rw [rnO_mutb]; exact m1) x1
  · rcases hsl i with q | ⟨q1, q2⟩
    · show VRep _ (getS sl' i) _
      rw [q]; trivial
    · show VRep _ (getS sl' i) _
      rw [q1]
      have := vwA_sound hp (s.slots i) q2
      rw [hphi] at this
      exact this

end

/-- What a body must come to, put into the contract's form. -/
theorem VC_of_vwp' {P : Program} {k : Nat} {fn : Func} {c : Code} {args : List V} {ob : List Ob} {Q : V → List Ob → Prop} (he : Ent P k) (hf : P.funcs[k]? = some fn) (hb : fn.body = some c) (hn : args.length ≤ fn.ntmps)
    (h : vwp P ⟨fn.ntmps, ob.length, false⟩ c (fun x st => ∃ st', Gh ⟨fn.ntmps, ob.length, false⟩ st st' ∧ retQ fn Q x st') ⟨argSlots 0 args, ob⟩) : VC P k args ob Q :=
  VC_of_vwp he hf hb hn (vwp_post h)
end Go.VX

/- Regions whose order is drawn. -/
namespace Go.VX
open Go.RowKit
set_option linter.unusedVariables false
set_option linter.unusedSimpArgs false
set_option linter.unusedSectionVars false

def vstepS (T : Nat → Option TI) (nt : Sh) (o : Oper) (st : St) (K : St → Prop) : Prop :=
  match vop T st.sl st.ob o.op with
    | some (p, x, _) => quietR o.op x = true ∧ p ∧ okd nt o.dst ∧ K ⟨putD st.sl o.dst x, st.ob⟩
    | none => False

def vrunS (T : Nat → Option TI) (nt : Sh) (ops : List Oper) : Nat → List Oper → (St → Prop) → St → Prop
  | _, [], Q, st => Q st
  | k + 1, _ :: rest, Q, st => vrunS T nt ops k rest Q st
  | 0, o :: rest, Q, st => match o.guard with
    | none => vstepS T nt o st (vrunS T nt ops 0 rest Q)
    | some g => match gslot ops g with
      | some s => match getS st.sl s.1 with
        | .bool b => match vgrp T nt ops st s (o :: rest) with
          | some (p, sl, n) => p ∧ vrunS T nt ops n rest Q ⟨sl, st.ob⟩
          | none => False
        | _ => False
      | none => False

section
variable {P : Program} {T : Nat → Option TI} {nt : Sh}

theorem vstepS_sound (hT : TabOK P T) {o : Oper} {st : St} {K : St → Prop} (h : vstepS T nt o st K) {C : Ctx} (hC : C.nt = nt) {Φ H a w} (s : SimE C Φ H st a w) {next : Act → Prop}
    (hn : ∀ st' a', SimE C Φ H st' a' w → st'.ob = st.ob → K st' → next a') : o.still P a w next := by
  unfold vstepS at h
  split at h
  case h_2 => exact h.elim
  rename_i p x ob' hv
  obtain ⟨hq, hp, hd, hk⟩ := h
  obtain ⟨_, v, hr, hx⟩ := vop_quiet (P := P) (sl := st.sl) (ob := st.ob) hT s hq hv hp
  unfold Oper.still
  rw [hr]
  refine ⟨rfl, hn _ _ (s.put (d := o.dst) hx fun i e => ?_) rfl hk⟩
  rw [e] at hd
  rw [hC]; exact hd

theorem vrunS_sound (hT : TabOK P T) {ops : List Oper} : ∀ (l : List Oper) (k : Nat) (Q : St → Prop) (st : St), vrunS T nt ops k l Q st → ∀ (C : Ctx), C.nt = nt → ∀ Φ H a w, SimE C Φ H st a w → ∀ K : Act → Prop,
    (∀ st' a', SimE C Φ H st' a' w → Q st' → K a') → wpStill P ops.toArray w K (l.drop k) a
  | [], k, Q, st, h, C, hC, Φ, H, a, w, s, K, hK => by
    simp only [vrunS, List.drop_nil] at h ⊢
    exact hK st a s h
  | o :: rest, k + 1, Q, st, h, C, hC, Φ, H, a, w, s, K, hK => by
    simp only [vrunS, List.drop_succ_cons] at h ⊢
    exact vrunS_sound hT rest k Q st h C hC Φ H a w s K hK
  | o :: rest, 0, Q, st, h, C, hC, Φ, H, a, w, s, K, hK => by
    simp only [vrunS] at h
    rw [List.drop_zero]
    split at h
    · rename_i hg
      unfold wpStill
      rw [if_pos (by simp [Region.wanted, hg])]
      exact vstepS_sound hT h hC s fun st' a' s' _ k => by
        have := vrunS_sound hT rest 0 Q st' k C hC Φ H a' w s' K hK
        rwa [List.drop_zero] at this
    · rename_i g hg
      split at h
      case h_2 => exact h.elim
      rename_i sg hsg
      split at h
      case h_2 => exact h.elim
      rename_i b hb
      split at h
      case h_2 => exact h.elim
      rename_i p sl n hv
      obtain ⟨a', h1, h2⟩ := vgrp_sound (P := P) hT hv h.1 hC s
      have := vrunS_sound hT rest n Q _ h.2 C hC Φ H a' w h2 K hK
      have e : o :: rest = (o :: rest.take n) ++ rest.drop n := by simp
      rw [e]
      exact h1.still this

theorem SimE.draw {C : Ctx} {Φ H st a w} (s : SimE C Φ H st a w) : SimE C Φ H st a { w with drawn := w.drawn + 1 } :=
  s.step (HStep.same s.hs.sim rfl rfl rfl rfl)

/-- A region whose order is drawn: all its operations leave memory alone. -/
theorem vwp_still (hT : TabOK P T) (hm : P.follows .mixedOrders = true) {id : Nat} {ops : List Oper} {Q : X → St → Prop} {st : St} (hB : Region.lexB .any ops.toArray = true) (h : vrunS T nt ops 0 ops (Q .norm) st) (hr : nt.rd = false := by rfl) : vwp P nt (.region id ops.toArray true) Q st := by
  intro C hC Φ H a w s
  rw [hr]
  exact wp_region_still_lit hm hB (by simpa using vrunS_sound hT ops 0 _ st h C hC Φ H a _ s.draw _ fun st' a' s' q => ⟨Φ, H, st', s', q⟩)
/-- .. all but the last ones, that come in one order alone. -/
theorem vwp_tail (hT : TabOK P T) (hm : P.follows .mixedOrders = true) (n : Nat) {id : Nat} {ops : List Oper} {Q : X → St → Prop} {st : St} (hB : Region.lexTailB .any ops.toArray n = true)
    (h : vrunS T nt ops 0 (ops.take n) (vrun P T nt ops 0 (ops.drop n) (Q .norm)) st) (hr : nt.rd = false := by rfl) : vwp P nt (.region id ops.toArray true) Q st := by
  intro C hC Φ H a w s
  rw [hr]
  have hh := vrunS_sound hT (ops.take n) 0 _ st h C hC Φ H a _ s.draw (fun a' => wpList P ops.toArray (lft C Q) (ops.drop n) a' { w with drawn := w.drawn + 1 }) fun st' a' s' q => by
    have := vrun_sound hT (ops.drop n) 0 _ st' q C hC Φ H a' _ s' (lft C Q) (fun Φ' H' st2 a2 w2 s2 q2 => ⟨Φ', H', st2, s2, q2⟩) trivial
    rwa [List.drop_zero] at this
  rw [List.drop_zero] at hh
  exact wp_region_still_tail n hm hB hh
end
end Go.VX

/- Regions whose order is drawn, with calls: operations that leave all objects as they are, each yielding what it yields in whatever order. -/
namespace Go.VX
open Go.RowKit
set_option linter.unusedVariables false
set_option linter.unusedSimpArgs false
set_option linter.unusedSectionVars false

/-! ### What an operation reads -/
def tm : Operand → List Nat
  | .tmp t => [t]
  | _ => []
def tmo : Option Operand → List Nat
  | some x => tm x
  | none => []
def usesOp : Op → List Nat
  | .move x | .assign x => tm x
  | .pick c a b => tm c ++ (tm a ++ tm b)
  | .build _ parts => parts.toList.flatMap fun q => tm q.2
  | .load _ x => tm x
  | .nilCheck x => tm x
  | .binOp _ _ x y _ => tm x ++ tm y
  | .unOp _ _ x => tm x
  | .convert _ _ x => tm x
  | .makeFunc f first caps => caps.toList.flatMap tm
  | .slice _ x lo hi mx => tm x ++ (tmo lo ++ (tmo hi ++ tmo mx))
  | .fieldAddr _ x _ => tm x
  | .field _ x _ => tm x
  | .indexAddr _ x i => tm x ++ tm i
  | .index _ x i => tm x ++ tm i
  | .extract x _ => tm x
  | .store _ x y => tm x ++ tm y
  | .box _ x => tm x
  | .buildSlice _ _ parts => parts.toList.flatMap fun q => tm q.2
  | .makeSlice _ l c => tm l ++ tm c
  | .lookup _ x k _ => tm x ++ tm k
  | .mapUpdate _ m k y => tm m ++ (tm k ++ tm y)
  | .range _ x => tm x
  | .entry x => tm x
  | .makeInterface _ x => tm x
  | .typeAssert x _ _ _ => tm x
  | .call ⟨.value f, args, _⟩ => tm f ++ args.toList.flatMap tm
  | .call ⟨_, args, _⟩ => args.toList.flatMap tm
  | _ => []

theorem evV_congr {sl sl' : List (Nat × V)} {x : Operand} (h : ∀ t ∈ tm x, getS sl t = getS sl' t) : evV sl x = evV sl' x := by
  cases x <;> simp [evV, tm] at h ⊢
  exact h
theorem evVs_congr {sl sl' : List (Nat × V)} {xs : List Operand} (h : ∀ t ∈ xs.flatMap tm, getS sl t = getS sl' t) : xs.map (evV sl) = xs.map (evV sl') :=
  List.map_congr_left fun x hx => evV_congr fun t ht => h t (List.mem_flatMap.2 ⟨x, hx, ht⟩)

theorem vop_congr {T : Nat → Option TI} {sl sl' : List (Nat × V)} {ob : List Ob} {op : Op} (hq : quietOp op = true ∨ ∃ a b c, op = .convert a b c) (h : ∀ t ∈ usesOp op, getS sl t = getS sl' t) : vop T sl ob op = vop T sl' ob op := by
  rcases hq with hq | ⟨a, b, c, rfl⟩
  · cases op with
    | move x => simp only [vop, evV_congr (x := x) h]
    | assign x => simp only [vop, evV_congr (x := x) h]
    | pick c a b =>
      simp only [usesOp, List.mem_append] at h
      simp only [vop, evV_congr (x := c) fun t ht => h t (.inl ht), evV_congr (x := a) fun t ht => h t (.inr (.inl ht)), evV_congr (x := b) fun t ht => h t (.inr (.inr ht))]
    | build t parts =>
      have e : (parts.toList.map fun q => (q.1, evV sl q.2)) = parts.toList.map fun q => (q.1, evV sl' q.2) := List.map_congr_left fun q hq => by
        rw [evV_congr fun t ht => h t (List.mem_flatMap.2 ⟨q, hq, ht⟩)]
      simp only [vop, e]
    | load t x => simp only [vop, evV_congr (x := x) h]
    | nilCheck x => simp only [vop, evV_congr (x := x) h]
    | binOp o t x y t2 =>
      simp only [usesOp, List.mem_append] at h
      simp only [vop, evV_congr (x := x) fun t ht => h t (.inl ht), evV_congr (x := y) fun t ht => h t (.inr ht)]
    | unOp o t x => simp only [vop, evV_congr (x := x) h]
    | makeFunc f first caps =>
      have e := evVs_congr (sl := sl) (sl' := sl') (xs := caps.toList) h
      cases f <;> simp only [vop, e]
    | slice t x lo hi mx =>
      simp only [usesOp, List.mem_append] at h
      have e1 := evV_congr (sl := sl) (sl' := sl') (x := x) fun t ht => h t (.inl ht)
      have e2 : (lo.map fun o => intOfV (evV sl o)) = lo.map fun o => intOfV (evV sl' o) := by
        cases lo with
        | none => rfl
        | some o => simp only [Option.map_some, evV_congr (sl := sl) (sl' := sl') (x := o) fun t ht => h t (.inr (.inl ht))]
      have e3 : (hi.map fun o => intOfV (evV sl o)) = hi.map fun o => intOfV (evV sl' o) := by
        cases hi with
        | none => rfl
        | some o => simp only [Option.map_some, evV_congr (sl := sl) (sl' := sl') (x := o) fun t ht => h t (.inr (.inr (.inl ht)))]
      cases mx with
      | none => simp only [vop, e1, e2, e3]
      | some m =>
        cases lo with
        | none => rfl
        | some lo => cases hi with
          | none => rfl
          | some hi =>
            simp only [vop, e1, evV_congr (sl := sl) (sl' := sl') (x := lo) fun t ht => h t (.inr (.inl ht)), evV_congr (sl := sl) (sl' := sl') (x := hi) fun t ht => h t (.inr (.inr (.inl ht))), evV_congr (sl := sl) (sl' := sl') (x := m) fun t ht => h t (.inr (.inr (.inr ht)))]
    | fieldAddr t x f => simp only [vop, evV_congr (x := x) h]
    | field t x f => simp only [vop, evV_congr (x := x) h]
    | indexAddr t x i =>
      simp only [usesOp, List.mem_append] at h
      simp only [vop, evV_congr (x := x) fun t ht => h t (.inl ht), evV_congr (x := i) fun t ht => h t (.inr ht)]
    | index t x i =>
      simp only [usesOp, List.mem_append] at h
      simp only [vop, evV_congr (x := x) fun t ht => h t (.inl ht), evV_congr (x := i) fun t ht => h t (.inr ht)]
    | extract x i => simp only [vop, evV_congr (x := x) h]
    | lookup t x i ok =>
      simp only [usesOp, List.mem_append] at h
      simp only [vop, evV_congr (x := x) fun t ht => h t (.inl ht), evV_congr (x := i) fun t ht => h t (.inr ht)]
    | makeInterface t x => simp only [vop, evV_congr (x := x) h]
    | typeAssert x xt t ok => cases ok <;> simp only [vop, evV_congr (x := x) h]
    | call c =>
      obtain ⟨callee, args, ts⟩ := c
      cases callee with
      | builtin b =>
        have e := evVs_congr (sl := sl) (sl' := sl') (xs := args.toList) h
        simp only [vop]
        have key : ∀ (l : List Operand), l.map (evV sl) = l.map (evV sl') → (b = .len ∨ b = .min ∨ b = .max) → vopCall T sl ob b l ts.toList = vopCall T sl' ob b l ts.toList := by
          intro l hl hb
          rcases hb with rfl | rfl | rfl
          · match l, ts.toList with
            | [x], [t] => simp only [List.map, List.cons.injEq] at hl; simp only [vopCall, hl.1]
            | [], _ => rfl
            | [x], [] => rfl
            | [x], _ :: _ :: _ => rfl
            | _ :: _ :: _, _ => rfl
          · match l with
            | [x, y] => simp only [List.map, List.cons.injEq] at hl; simp only [vopCall, hl.1, hl.2.1]
            | [] => rfl
            | [x] => rfl
            | _ :: _ :: _ :: _ => rfl
          · match l with
            | [x, y] => simp only [List.map, List.cons.injEq] at hl; simp only [vopCall, hl.1, hl.2.1]
            | [] => rfl
            | [x] => rfl
            | _ :: _ :: _ :: _ => rfl
        exact key _ e (by cases b <;> simp_all [quietOp])
      | _ => simp [quietOp] at hq
    | _ => simp [quietOp] at hq
  · simp only [vop, evV_congr (x := c) h]

theorem quietR_or {op : Op} {x : V} (h : quietR op x = true) : quietOp op = true ∨ ∃ a b c, op = .convert a b c := by
  unfold quietR at h
  split at h
  · cases h
  · cases h
  · exact .inr ⟨_, _, _, rfl⟩
  · exact .inl h

/-! ### What each operation of a region yields -/
abbrev Ch := List (Nat × Bool)
structure CE where
  d : Nat
  x : V
  c : Ch

def tstC (m : List CE) (s : Nat × Bool) : Bool :=
  match m[s.1]? with
  | some ⟨_, .bool b, _⟩ => b == s.2
  | _ => false
def eOf (m : List CE) (c : Ch) : Bool := c.all (tstC m)
def subC (c ch : Ch) : Bool := c.all fun s => ch.contains s
def atC (m : List CE) (ch : Ch) (sl0 : List (Nat × V)) : List CE → List (Nat × V)
  | [] => sl0
  | e :: r => (e.d, if subC e.c ch = true then e.x else gt (eOf m e.c) true e.x) :: atC m ch sl0 r
def chainOf (m : List CE) (o : Oper) : Option Ch :=
  match o.guard with
  | none => some []
  | some (j, w) => match m[j]? with
    | some ⟨_, .bool _, c⟩ => some ((j, w) :: c)
    | _ => none
def finC (m : List CE) : List CE → List (Nat × V) → List (Nat × V)
  | [], sl => sl
  | e :: r, sl => finC m r (setS sl e.d (gt (eOf m e.c) true e.x))

def vis (x : V) (ob : List Ob) (r : V) (ob' : List Ob) : Prop := r = x ∧ ob' = ob
@[simp] theorem vis_app (x : V) (ob : List Ob) (r : V) (ob' : List Ob) : vis x ob r ob' = (r = x ∧ ob' = ob) := rfl

/-- Kept shut till the call's result is there. -/
def shut (G : List CE → Prop) (m : List CE) (d : Nat) (ch : Ch) (x : V) : Prop := G (m ++ [⟨d, x, ch⟩])
def vcalmB (P : Program) (T : Nat → Option TI) (nt : Sh) (ob : List Ob) (sl0 : List (Nat × V)) (o : Oper) (m : List CE) (G : List CE → Prop) : Prop :=
  match o.dst, chainOf m o with
  | some d, some ch => d < nt.nt ∧ match o.op with
    | .call ⟨.value f, args, _⟩ => match evV (atC m ch sl0 m) f with
      | .fn k caps => ∃ x, (eOf m ch = true → ∀ sl, vcall P nt ⟨sl, ob⟩ k (args.toList.map (evV (atC m ch sl0 m)) ++ caps) (vis x ob)) ∧ shut G m d ch x
      | _ => False
    | op => match vop T (atC m ch sl0 m) ob op with
      | some (p, x, _) => quietR op x = true ∧ (eOf m ch = true → p) ∧ G (m ++ [⟨d, x, ch⟩])
      | none => False
  | _, _ => False
def vcalm (P : Program) (T : Nat → Option TI) (nt : Sh) (ob : List Ob) (sl0 : List (Nat × V)) : List Oper → (List CE → Prop) → List CE → Prop
  | [], Q, m => Q m
  | o :: rest, Q, m => vcalmB P T nt ob sl0 o m (vcalm P T nt ob sl0 rest Q)

/-- What is known of one operation. -/
def Good (P : Program) (T : Nat → Option TI) (nt : Sh) (ob : List Ob) (sl0 : List (Nat × V)) (m : List CE) (o : Oper) (e : CE) : Prop :=
  o.dst = some e.d ∧ chainOf m o = some e.c ∧ e.d < nt.nt ∧
    ((∃ f args ts k caps, o.op = .call ⟨.value f, args, ts⟩ ∧ evV (atC m e.c sl0 m) f = .fn k caps ∧ (eOf m e.c = true → ∀ sl, vcall P nt ⟨sl, ob⟩ k (args.toList.map (evV (atC m e.c sl0 m)) ++ caps) (vis e.x ob))) ∨
     (∃ p ob', vop T (atC m e.c sl0 m) ob o.op = some (p, e.x, ob') ∧ quietR o.op e.x = true ∧ (eOf m e.c = true → p)))

theorem vcalm_good {P : Program} {T : Nat → Option TI} {nt : Sh} {ob : List Ob} {sl0 : List (Nat × V)} {F : List CE → Prop} : ∀ (l : List Oper) (m : List CE), vcalm P T nt ob sl0 l F m →
    ∃ es : List CE, es.length = l.length ∧ F (m ++ es) ∧ ∀ i o e, l[i]? = some o → es[i]? = some e → Good P T nt ob sl0 (m ++ es.take i) o e
  | [], m, h => ⟨[], rfl, by simpa [vcalm] using h, fun i o e h1 => by simp at h1⟩
  | o :: rest, m, h => by
    simp only [vcalm, vcalmB] at h
    split at h
    case h_2 => exact h.elim
    rename_i d ch hd hch
    obtain ⟨hlt, h⟩ := h
    have fin : ∀ x, Good P T nt ob sl0 m o ⟨d, x, ch⟩ → vcalm P T nt ob sl0 rest F (m ++ [⟨d, x, ch⟩]) →
        ∃ es : List CE, es.length = (o :: rest).length ∧ F (m ++ es) ∧ ∀ i o' e, (o :: rest)[i]? = some o' → es[i]? = some e → Good P T nt ob sl0 (m ++ es.take i) o' e := by
      intro x hg hr
      obtain ⟨es, h1, h2, h3⟩ := vcalm_good rest _ hr
      refine ⟨⟨d, x, ch⟩ :: es, by simp [h1], by simpa using h2, fun i o' e e1 e2 => ?_⟩
      cases i with
      | zero =>
        simp only [List.getElem?_cons_zero, Option.some.injEq] at e1 e2
        subst e1; subst e2
        simpa using hg
      | succ i =>
        simp only [List.getElem?_cons_succ] at e1 e2
        simpa using h3 i o' e e1 e2
    split at h
    · rename_i f args ts hop
      split at h
      case h_2 => exact h.elim
      rename_i k caps hf
      obtain ⟨x, h1, h2⟩ := h
      exact fin x ⟨hd, hch, hlt, .inl ⟨f, args, ts, k, caps, hop, hf, h1⟩⟩ h2
    · split at h
      case h_2 => exact h.elim
      rename_i p x ob' hv
      exact fin x ⟨hd, hch, hlt, .inr ⟨p, ob', hv, h.1, h.2.1⟩⟩ h.2.2

def usesG (ops : List Oper) (o : Oper) : List Nat := usesOp o.op ++ match o.guard with
  | some (j, _) => match (ops[j]?).bind (·.dst) with
    | some d => [d]
    | none => []
  | none => []
def calmAt (ops : List Oper) (i : Nat) (o : Oper) (k : Nat) : Bool :=
  match (ops[k]?).bind (·.dst) with
  | some t => (k == i || o.dst != some t) && (!(usesG ops o).contains t || if k < i then Region.waitsFor .any ops.toArray i k else if i < k then Region.waitsFor .any ops.toArray k i else true)
  | none => false
def calmOK (ops : List Oper) : Bool :=
  (List.range ops.length).all fun i => match ops[i]? with
    | some o => (o.after.all fun e => !Region.binds .any e || decide (e.on < i)) && (List.range ops.length).all (calmAt ops i o)
    | none => true

section
variable {P : Program} {T : Nat → Option TI} {nt : Sh} {ob : List Ob} {sl0 : List (Nat × V)} {ops : List Oper} {es : List CE}

theorem calm_edge (hok : calmOK ops = true) {i : Nat} {o : Oper} (ho : ops[i]? = some o) : ∀ e ∈ o.after, Region.binds .any e = true → e.on < i := by
  have hi : i < ops.length := (List.getElem?_eq_some_iff.1 ho).1
  have h := List.all_eq_true.1 hok i (List.mem_range.2 hi)
  simp only [ho, Bool.and_eq_true] at h
  intro e he hb
  have := Array.all_eq_true_iff_forall_mem.1 h.1 e he
  simpa [hb] using this
theorem calm_at (hok : calmOK ops = true) {i k : Nat} {o o' : Oper} {t : Nat} (ho : ops[i]? = some o) (hk : ops[k]? = some o') (ht : o'.dst = some t) :
    (k = i ∨ o.dst ≠ some t) ∧ (t ∈ usesG ops o → (k < i → Region.waitsFor .any ops.toArray i k = true) ∧ (i < k → Region.waitsFor .any ops.toArray k i = true)) := by
  have hi : i < ops.length := (List.getElem?_eq_some_iff.1 ho).1
  have hk' : k < ops.length := (List.getElem?_eq_some_iff.1 hk).1
  have h := List.all_eq_true.1 hok i (List.mem_range.2 hi)
  simp only [ho, Bool.and_eq_true] at h
  have h2 := List.all_eq_true.1 h.2 k (List.mem_range.2 hk')
  simp only [calmAt, hk, Option.bind_some, ht, Bool.and_eq_true, Bool.or_eq_true, beq_iff_eq, bne_iff_ne, ne_eq, Bool.not_eq_true', List.contains_eq_mem, decide_eq_false_iff_not] at h2
  refine ⟨h2.1, fun hu => ⟨fun hlt => ?_, fun hlt => ?_⟩⟩
  · rcases h2.2 with q | q
    · exact absurd hu q
    · simpa [hlt] using q
  · rcases h2.2 with q | q
    · exact absurd hu q
    · simpa [hlt, show ¬ k < i by omega] using q

structure CInv (ops : List Oper) (es : List CE) (sl0 : List (Nat × V)) (listed : Array Bool) (sl : List (Nat × V)) (a : Act) : Prop where
  size : listed.size = ops.length
  closed : ∀ j oj, ops[j]? = some oj → listed.getD j false = true → ∀ e ∈ oj.after, Region.binds .any e = true → listed.getD e.on false = true
  hit : ∀ i e, es[i]? = some e → listed.getD i false = true → getS sl e.d = gt (eOf es e.c) true e.x ∧ (eOf es e.c = false → a.tmps.getD e.d undef = undef)
  miss : ∀ t, (∀ i e, es[i]? = some e → e.d = t → listed.getD i false = false) → getS sl t = getS sl0 t

theorem getS_atC_miss {m : List CE} {ch : Ch} {t : Nat} : ∀ {l : List CE}, (∀ e ∈ l, e.d ≠ t) → getS (atC m ch sl0 l) t = getS sl0 t
  | [], _ => rfl
  | e :: r, h => by
    simp only [atC, getS]
    rw [if_neg (h e (by simp)), getS_atC_miss fun e' he' => h e' (by simp [he'])]
theorem getS_atC_hit {m : List CE} {ch : Ch} : ∀ {l : List CE} {k : Nat} {e : CE}, l[k]? = some e → (∀ j e', l[j]? = some e' → e'.d = e.d → j = k) → getS (atC m ch sl0 l) e.d = if subC e.c ch = true then e.x else gt (eOf m e.c) true e.x
  | [], k, e, h, _ => by simp at h
  | e0 :: r, 0, e, h, hu => by
    simp only [List.getElem?_cons_zero, Option.some.injEq] at h
    subst h
    simp only [atC, getS, if_true]
  | e0 :: r, k + 1, e, h, hu => by
    simp only [List.getElem?_cons_succ] at h
    simp only [atC, getS]
    rw [if_neg fun he => by have := hu 0 e0 (by simp) he; omega]
    exact getS_atC_hit h fun j e' h1 h2 => by have := hu (j + 1) e' (by simpa using h1) h2; omega
theorem getS_finC_miss {m : List CE} {t : Nat} : ∀ {l : List CE} {sl : List (Nat × V)}, (∀ e ∈ l, e.d ≠ t) → getS (finC m l sl) t = getS sl t
  | [], _, _ => rfl
  | e :: r, sl, h => by
    simp only [finC]
    rw [getS_finC_miss fun e' he' => h e' (by simp [he']), getS_setS, if_neg (h e (by simp))]
theorem getS_finC_hit {m : List CE} : ∀ {l : List CE} {sl : List (Nat × V)} {k : Nat} {e : CE}, l[k]? = some e → (∀ j e', l[j]? = some e' → e'.d = e.d → j = k) → getS (finC m l sl) e.d = gt (eOf m e.c) true e.x
  | [], _, k, e, h, _ => by simp at h
  | e0 :: r, sl, 0, e, h, hu => by
    simp only [List.getElem?_cons_zero, Option.some.injEq] at h
    subst h
    simp only [finC]
    rw [getS_finC_miss fun e' he' hd => ?_, getS_setS, if_pos rfl]
    obtain ⟨j, hj⟩ := List.getElem?_of_mem he'
    have := hu (j + 1) e' (by simpa using hj) hd
    omega
  | e0 :: r, sl, k + 1, e, h, hu => by
    simp only [List.getElem?_cons_succ] at h
    simp only [finC]
    exact getS_finC_hit h fun j e' h1 h2 => by have := hu (j + 1) e' (by simpa using h1) h2; omega

theorem eOf_take {i : Nat} {c : Ch} (h : ∀ s ∈ c, s.1 < i) : eOf (es.take i) c = eOf es c := by
  unfold eOf
  rw [Bool.eq_iff_iff, List.all_eq_true, List.all_eq_true]
  have e : ∀ s ∈ c, tstC (es.take i) s = tstC es s := fun s hs => by
    unfold tstC
    rw [List.getElem?_take, if_pos (h s hs)]
  exact ⟨fun q s hs => by rw [← e s hs]; exact q s hs, fun q s hs => by rw [e s hs]; exact q s hs⟩
theorem eOf_sub {m : List CE} {c ch : Ch} (h : subC c ch = true) (he : eOf m ch = true) : eOf m c = true := by
  unfold eOf at he ⊢
  rw [List.all_eq_true] at he ⊢
  intro s hs
  have := List.all_eq_true.1 h s hs
  exact he s (by simpa using this)

theorem chain_lt {l : List Oper} (hl : es.length = l.length) (hg : ∀ (i : Nat) (o : Oper) (e : CE), l[i]? = some o → es[i]? = some e → chainOf (es.take i) o = some e.c) : ∀ (i : Nat) (e : CE), es[i]? = some e → ∀ s ∈ e.c, s.1 < i := by
  intro i
  induction i using Nat.strongRecOn with
  | _ i ih =>
    intro e he s hs
    have hi : i < es.length := (List.getElem?_eq_some_iff.1 he).1
    have h := hg i l[i] e (List.getElem?_eq_getElem (by omega)) he
    unfold chainOf at h
    split at h
    · simp only [Option.some.injEq] at h; rw [← h] at hs; cases hs
    · rename_i j w _
      split at h
      case h_2 => cases h
      rename_i d b c hj
      simp only [Option.some.injEq] at h
      rw [List.getElem?_take] at hj
      split at hj
      case isFalse => cases hj
      rename_i hji
      rw [← h] at hs
      rcases List.mem_cons.1 hs with rfl | hs
      · exact hji
      · exact Nat.lt_trans (ih j hji _ hj s hs) hji

theorem all_listed (hok : calmOK ops = true) {listed : Array Bool} (hsz : listed.size = ops.length) (hr : Region.ready .any ops.toArray listed = []) : ∀ i, i < ops.length → listed.getD i false = true := by
  intro i
  induction i using Nat.strongRecOn with
  | _ i ih =>
    intro hi
    cases hl : listed.getD i false with
    | true => rfl
    | false =>
      exfalso
      have hmem : i ∈ Region.ready .any ops.toArray listed := by
        rw [mem_ready]
        have hi' : i < listed.size := by omega
        refine ⟨by simp [hi'] at hl ⊢; exact hl, ops[i], by simp [hi], fun e he hb => ?_⟩
        have := calm_edge hok (List.getElem?_eq_getElem hi) e he hb
        exact ih e.on this (by omega)
      rw [hr] at hmem
      cases hmem

theorem calm_any (hT : TabOK P T) (hok : calmOK ops = true) (hlen : es.length = ops.length) (hgood : ∀ (i : Nat) (o : Oper) (e : CE), ops[i]? = some o → es[i]? = some e → Good P T nt ob sl0 (es.take i) o e) {C : Ctx} (hC : C.nt = nt) {Qx : Exit → Act → World → Prop}
    (hq : ∀ Φ H a w, SimE C Φ H ⟨finC es es sl0, ob⟩ a w → Qx .normal a w) (hout : True) :
    ∀ (fuel : Nat) (todo : List Nat) (listed : Array Bool) (sl : List (Nat × V)) (a : Act) (w : World) Φ H, todo.length ≤ fuel → (∀ i, i < ops.length → listed.getD i false = false → i ∈ todo) → CInv ops es sl0 listed sl a → SimE C Φ H ⟨sl, ob⟩ a w →
      wpAny P .any ops.toArray Qx fuel listed a w := by
  have hes : ∀ i o, ops[i]? = some o → ∃ e, es[i]? = some e := fun i o h => ⟨_, List.getElem?_eq_getElem (by have := (List.getElem?_eq_some_iff.1 h).1; omega)⟩
  have hop : ∀ i e, es[i]? = some e → ∃ o, ops[i]? = some o := fun i o h => ⟨_, List.getElem?_eq_getElem (by have := (List.getElem?_eq_some_iff.1 h).1; omega)⟩
  have huniq : ∀ (i k : Nat) (e e' : CE), es[i]? = some e → es[k]? = some e' → e'.d = e.d → k = i := by
    intro i k e e' h1 h2 hd
    obtain ⟨o, ho⟩ := hop i e h1
    obtain ⟨o', ho'⟩ := hop k e' h2
    rcases (calm_at hok ho ho' (hgood k o' e' ho' h2).1).1 with q | q
    · exact q
    · exact absurd ((hgood i o e ho h1).1.trans (by rw [hd])) q
  have hchain := chain_lt hlen fun i o e h1 h2 => (hgood i o e h1 h2).2.1
  have hfinal : ∀ (listed : Array Bool) (sl : List (Nat × V)) (a : Act) (w : World) Φ H, (∀ i, i < ops.length → listed.getD i false = true) → CInv ops es sl0 listed sl a → SimE C Φ H ⟨sl, ob⟩ a w → Qx .normal a w := by
    intro listed sl a w Φ H hall inv s
    refine hq Φ H a w (s.slotsOf rfl rfl fun t => ?_)
    have e : getS (finC es es sl0) t = getS sl t := by
      by_cases ht : ∃ e ∈ es, e.d = t
      · obtain ⟨e, he, rfl⟩ := ht
        obtain ⟨k, hk⟩ := List.getElem?_of_mem he
        rw [getS_finC_hit hk fun j e' h1 h2 => huniq k j e e' hk h1 h2, (inv.hit k e hk (hall k (by rw [← hlen]; exact (List.getElem?_eq_some_iff.1 hk).1))).1]
      · rw [getS_finC_miss fun e he hd => ht ⟨e, he, hd⟩, inv.miss t fun i e he hd => absurd ⟨e, List.mem_of_getElem? he, hd⟩ ht]
    rw [e]
    exact s.slots t
  intro fuel
  induction fuel with
  | zero =>
    intro todo listed sl a w Φ H hf htodo inv s
    have hall : ∀ i, i < ops.length → listed.getD i false = true := fun i hi => by
      cases hl : listed.getD i false with
      | true => rfl
      | false =>
        have := htodo i hi hl
        have : todo = [] := List.length_eq_zero_iff.1 (by omega)
        simp_all
    refine ⟨?_, hfinal listed sl a w Φ H hall inv s⟩
    cases hr : Region.ready .any ops.toArray listed with
    | nil => rfl
    | cons i r =>
      exfalso
      have hm : i ∈ Region.ready .any ops.toArray listed := by rw [hr]; simp
      obtain ⟨h1, o, h2, _⟩ := mem_ready.1 hm
      have hi : i < ops.length := by
        have := (Array.getElem?_eq_some_iff.1 h2).1; simpa using this
      have := hall i hi
      have hi' : i < listed.size := by rw [inv.size]; exact hi
      simp [hi'] at h1 this
      rw [h1] at this; cases this
  | succ fuel ih =>
    intro todo listed sl a w Φ H hf htodo inv s
    refine ⟨fun hr => hfinal listed sl a w Φ H (all_listed hok inv.size hr) inv s, fun i hi => ?_⟩
    obtain ⟨hun, o, ho, hafter⟩ := mem_ready.1 hi
    have ho' : ops[i]? = some o := by simpa using ho
    have hilt : i < ops.length := (List.getElem?_eq_some_iff.1 ho').1
    have hisz : i < listed.size := by rw [inv.size]; exact hilt
    have hunF : listed.getD i false = false := by simp [hisz] at hun ⊢; exact hun
    obtain ⟨e, he⟩ := hes i o ho'
    obtain ⟨hd, hch, hlt, hrun⟩ := hgood i o e ho' he
    have hwaits : ∀ k, Region.waitsFor .any ops.toArray i k = true → listed.getD k false = true := by
      intro k hk
      obtain ⟨oj, h1, e', h2, h3, h4⟩ := Region.waitsFor_spec hk
      rw [ho] at h1; obtain rfl := Option.some.inj h1
      rw [← h4]; exact hafter e' h2 h3
    have hnot : ∀ k, Region.waitsFor .any ops.toArray k i = true → listed.getD k false = false := by
      intro k hk
      cases hl : listed.getD k false with
      | false => rfl
      | true =>
        obtain ⟨oj, h1, e', h2, h3, h4⟩ := Region.waitsFor_spec hk
        have := inv.closed k oj (by simpa using h1) hl e' h2 h3
        rw [h4, hunF] at this; cases this
    -- what its operands hold
    have hread : eOf es e.c = true → ∀ t ∈ usesG ops o, getS (atC (es.take i) e.c sl0 (es.take i)) t = getS sl t := by
      intro hee t ht
      by_cases hx : ∃ (k : Nat) (e' : CE), es[k]? = some e' ∧ e'.d = t
      · obtain ⟨k, e', hk, rfl⟩ := hx
        obtain ⟨ok, hok'⟩ := hop k e' hk
        have hw := (calm_at hok ho' hok' (hgood k ok e' hok' hk).1).2 ht
        rcases Nat.lt_trichotomy k i with hki | hki | hki
        · have hl := hwaits k (hw.1 hki)
          rw [(inv.hit k e' hk hl).1]
          have hk' : (es.take i)[k]? = some e' := by rw [List.getElem?_take, if_pos hki]; exact hk
          rw [getS_atC_hit hk' fun j e2 h1 h2 => huniq k j e' e2 hk (by rw [List.getElem?_take] at h1; split at h1; exact h1; cases h1) h2]
          have hst : eOf (es.take i) e'.c = eOf es e'.c := eOf_take fun s hs => Nat.lt_trans (hchain k e' hk s hs) hki
          split
          · rename_i hsub
            have := eOf_sub (m := es) hsub hee
            rw [this]; rfl
          · rw [hst]
        · subst hki
          rw [hk] at he; obtain rfl := Option.some.inj he
          rw [inv.miss _ fun j e2 h1 h2 => by rw [huniq k j e' e2 hk h1 h2]; exact hunF]
          refine getS_atC_miss fun e2 he2 hd2 => ?_
          obtain ⟨j, hj⟩ := List.getElem?_of_mem he2
          rw [List.getElem?_take] at hj
          split at hj
          case isFalse => cases hj
          rename_i hjk
          have := huniq k j e' e2 hk hj hd2
          omega
        · have hl := hnot k (hw.2 hki)
          rw [inv.miss _ fun j e2 h1 h2 => by rw [huniq k j e' e2 hk h1 h2]; exact hl]
          refine getS_atC_miss fun e2 he2 hd2 => ?_
          obtain ⟨j, hj⟩ := List.getElem?_of_mem he2
          rw [List.getElem?_take] at hj
          split at hj
          case isFalse => cases hj
          rename_i hjk
          have := huniq k j e' e2 hk hj hd2
          omega
      · rw [inv.miss t fun k e' hk hd => absurd ⟨k, e', hk, hd⟩ hx]
        refine getS_atC_miss fun e2 he2 hd2 => ?_
        obtain ⟨j, hj⟩ := List.getElem?_of_mem he2
        rw [List.getElem?_take] at hj
        split at hj
        case isFalse => cases hj
        exact hx ⟨j, e2, hj, hd2⟩
    -- is it wanted?
    have hwant : Region.wanted o (yielded ops.toArray a.tmps) = eOf es e.c := by
      unfold chainOf at hch
      split at hch
      · rename_i hg
        simp only [Option.some.injEq] at hch
        rw [← hch]
        simp [Region.wanted, hg, eOf]
      · rename_i j w' hg
        split at hch
        case h_2 => cases hch
        rename_i dj b cj hj
        simp only [Option.some.injEq] at hch
        rw [List.getElem?_take] at hj
        split at hj
        case isFalse => cases hj
        rename_i hji
        obtain ⟨oj, hoj⟩ := hop j _ hj
        have hdj := (hgood j oj _ hoj hj).1
        have huse : dj ∈ usesG ops o := by
          unfold usesG
          rw [hg]
          simp [hoj, hdj]
        have hl := hwaits j (((calm_at hok ho' hoj hdj).2 huse).1 hji)
        obtain ⟨i1, i2⟩ := inv.hit j _ hj hl
        have hde : (ops.toArray[j]?).bind (·.dst) = some dj := by simpa [hoj] using hdj
        have hts : tstC es (j, w') = (b == w') := by simp [tstC, hj]
        have hE : eOf es e.c = ((b == w') && eOf es cj) := by
          rw [← hch]; simp only [eOf, List.all_cons, hts]
        rw [hE]
        cases hcj : eOf es cj with
        | false =>
          have hu := i2 hcj
          have : yielded ops.toArray a.tmps j = none := by
            unfold yielded
            rw [hde, Option.bind_some]
            have hu' : a.tmps.getD dj undef = undef := hu
            rw [Array.getD_eq_getD_getElem?] at hu'
            cases hq3 : a.tmps[dj]? with
            | none => rfl
            | some v =>
              rw [hq3] at hu'
              simp only [Option.getD_some] at hu'
              rw [hu']
              rfl
          simp [Region.wanted, hg, this]
        | true =>
          have i1' : getS sl dj = .bool b := by rw [i1]; simp only [hcj]; rfl
          have hb := s.boolAt i1'
          have : yielded ops.toArray a.tmps j = some b := by
            unfold yielded
            rw [hde, Option.bind_some, hb]
          simp [Region.wanted, hg, this]
    have hset : ∀ j d, i ≠ j → (listed.setIfInBounds i true).getD j d = listed.getD j d := fun j d h => getD_set_ne d h
    have hsett : (listed.setIfInBounds i true).getD i false = true := by simp [hisz]
    have htd : ∀ j, j < ops.length → (listed.setIfInBounds i true).getD j false = false → j ∈ todo.erase i := by
      intro j hj hl
      have hne : i ≠ j := fun q => by subst q; rw [hsett] at hl; cases hl
      rw [hset j false hne] at hl
      exact (List.mem_erase_of_ne (Ne.symm hne)).2 (htodo j hj hl)
    have hlen2 : (todo.erase i).length ≤ fuel := by
      rw [List.length_erase_of_mem (htodo i hilt hunF)]; omega
    -- how things stand behind it
    have hnext : ∀ (a' : Act) (x : V) (v : Value), a' = a.put o.dst v → x = gt (eOf es e.c) true e.x → (eOf es e.c = false → v = undef) → CInv ops es sl0 (listed.setIfInBounds i true) (setS sl e.d x) a' := by
      intro a' x v ha hx hv
      refine ⟨by simp [inv.size], fun j oj hoj hl e' he' hb => ?_, fun j e' hj hl => ?_, fun t ht => ?_⟩
      · by_cases hij : i = j
        · subst hij
          rw [ho'] at hoj; obtain rfl := Option.some.inj hoj
          exact getD_set_true (hafter e' he' hb)
        · rw [hset j false hij] at hl
          exact getD_set_true (inv.closed j oj hoj hl e' he' hb)
      · by_cases hij : i = j
        · subst hij
          rw [he] at hj; obtain rfl := Option.some.inj hj
          refine ⟨by rw [getS_setS, if_pos rfl, hx], fun hf => ?_⟩
          rw [ha, hd, hv hf]
          simp only [Act.put, Array.getD_eq_getD_getElem?, Array.getElem?_setIfInBounds]
          simp only [if_true]
          split <;> rfl
        · rw [hset j false hij] at hl
          have hne : e.d ≠ e'.d := fun q => hij (huniq j i e' e hj he q)
          obtain ⟨k1, k2⟩ := inv.hit j e' hj hl
          refine ⟨by rw [getS_setS, if_neg hne, k1], fun hf => ?_⟩
          rw [ha, put_other (by rw [hd]; simpa using hne)]
          exact k2 hf
      · have hne : e.d ≠ t := fun q => by
          have := ht i e he q
          rw [hsett] at this; cases this
        rw [getS_setS, if_neg hne]
        refine inv.miss t fun j e' hj hd' => ?_
        have hij : i ≠ j := fun q => by subst q; rw [he] at hj; obtain rfl := Option.some.inj hj; exact hne hd'
        have := ht j e' hj hd'
        rwa [hset j false hij] at this
    have hput : ∀ {Φ' H' w'} (s' : SimE C Φ' H' ⟨sl, ob⟩ a w') {x : V} {v : Value}, VRep (mkE Φ' H' ob w') x v → SimE C Φ' H' ⟨setS sl e.d x, ob⟩ (a.put o.dst v) w' := by
      intro Φ' H' w' s' x v hx
      have := s'.put (d := o.dst) hx fun i' e1 => by rw [hd] at e1; obtain rfl := Option.some.inj e1; rw [hC]; exact hlt
      rw [hd] at this ⊢
      exact this
    unfold wpOp
    rw [ho]
    simp only
    rw [hwant]
    have hstab : eOf (es.take i) e.c = eOf es e.c := eOf_take fun s hs => hchain i e he s hs
    cases hee : eOf es e.c with
    | false =>
      simp only [Bool.false_eq_true, if_false]
      exact ih _ _ _ _ _ Φ H hlen2 htd (hnext _ .junk undef rfl (by rw [hee]; rfl) fun _ => rfl) (hput s trivial)
    | true =>
      simp only [if_true]
      refine .inl ?_
      have hreads := hread hee
      rcases hrun with ⟨f, args, ts, k, caps, hop', hf, hcall⟩ | ⟨p, ob', hv, hqr, hp⟩
      · have hr2 : ∀ t ∈ tm f ++ args.toList.flatMap tm, getS (atC (es.take i) e.c sl0 (es.take i)) t = getS sl t := fun t ht => hreads t (by unfold usesG; rw [hop']; exact List.mem_append.2 (.inl ht))
        have hfe : evV sl f = .fn k caps := by
          rw [← hf]; exact (evV_congr fun t ht => hr2 t (List.mem_append.2 (.inl ht))).symm
        have hae := evVs_congr (xs := args.toList) fun t ht => hr2 t (List.mem_append.2 (.inr ht))
        obtain ⟨hent, hc⟩ := hcall (by rw [hstab]; exact hee) sl
        rw [hae] at hc
        obtain ⟨dst, op, ty, pos, aft, gd⟩ := o
        simp only at hop' hd
        subst hop'
        have hfv := s.eval f
        rw [hfe] at hfv
        obtain ⟨cv, _, e1, e2⟩ := hfv
        have hr := callee_run (P := P) (w := w) (args := args) (ts := ts) (ty := ty) (dst := dst) (pos := pos) (aft := aft) (gd := gd) hent e1
        unfold Oper.wp
        rw [hr]
        have hargs : VReps .any (mkE Φ H ob w) (args.toList.map (evV sl) ++ caps) (args.map a.eval ++ cv).toList := by
          simp only [Array.toList_append, Array.toList_map]
          exact (evals_rep' (sl := sl) (ob := ob) s args.toList).append e2
        refine (hc C hC Φ H a w s _ hargs).mono fun en w' q => ?_
        cases en with
        | returned v =>
          obtain ⟨Φ', H', ob', r, q1, q2, rfl, rfl⟩ := q
          exact ih _ _ _ _ _ Φ' H' hlen2 htd (hnext _ e.x v rfl (by rw [hee]; rfl) fun h => by rw [hee] at h; cases h) (hput q1 q2)
        | panicked c => exact q.elim
        | outgrown => exact q.elim
      · have hve : vop T sl ob o.op = some (p, e.x, ob') := by
          rw [← hv]
          exact (vop_congr (quietR_or hqr) fun t ht => hreads t (by unfold usesG; exact List.mem_append.2 (.inl ht))).symm
        obtain ⟨_, v, hr, hx⟩ := vop_quiet (P := P) (sl := sl) (ob := ob) hT s hqr hve (hp (by rw [hstab]; exact hee))
        unfold Oper.wp
        rw [hr]
        exact ih _ _ _ _ _ Φ H hlen2 htd (hnext _ e.x v rfl (by rw [hee]; rfl) fun h => by rw [hee] at h; cases h) (hput s hx)

/-- A region whose order is drawn, all of whose operations leave the objects as they are. -/
theorem vwp_calm (hT : TabOK P T) (hm : P.follows .mixedOrders = true) {id : Nat} {Q : X → St → Prop} (hok : calmOK ops = true) (h : vcalm P T nt ob sl0 ops (fun m => Q .norm ⟨finC m m sl0, ob⟩) []) (hd : nt.rd = true → ops.all nd = true := by first | (intro h; cases h; done) | (intro _; simp [nd])) : vwp P nt (.region id ops.toArray true) Q ⟨sl0, ob⟩ := by
  intro C hC Φ H a w s
  obtain ⟨es, h1, h2, h3⟩ := vcalm_good ops [] h
  simp only [List.nil_append] at h2 h3
  refine gw_region_any hm (fun ⟨_, _, h⟩ => h) hd ?_
  refine calm_any hT hok h1 h3 hC (fun Φ' H' a' w' s' => ⟨Φ', H', _, s', h2⟩) trivial _ (List.range ops.length) _ sl0 a _ Φ H (by simp) (fun i hi _ => by simpa using hi) ⟨by simp, fun j oj _ hl => ?_, fun i e _ hl => ?_, fun t _ => rfl⟩ s.draw
  · rw [getD_replicate_false] at hl; cases hl
  · rw [getD_replicate_false] at hl; cases hl
end
end Go.VX

/- Regions whose order is drawn, with operations that change memory: these come in one order alone; whatever else there is yields the same wherever it comes. -/
namespace Go.VX
open Go.RowKit
set_option linter.unusedVariables false
set_option linter.unusedSimpArgs false
set_option linter.unusedSectionVars false

/-- What an operation is in such a region: it changes memory; it doesn't look at memory; it looks at memory, between so many changes. -/
inductive Pl where
  | mv | pure | win (lo hi : Nat) | lit | off

/-- A slice literal whose cells name no object: its row is never written, so it may come wherever it likes. -/
def vlit (T : Nat → Option TI) (sl : List (Nat × V)) : Op → Option (Prop × V)
  | .buildSlice t n parts => match T t with
    | some ⟨.slice e, _, _, _⟩ => match T e with
      | some ie => match vfill (fun i => some (i * ie.size, ie.size)) (zerosV ie.zero.cells n) (parts.toList.map fun q => (q.1, evV sl q.2)) with
        | some (p, cs) => some (p ∧ n * ie.size ≤ 16777216 ∧ cs.length = n * ie.size ∧ cs.all V.noId = true, .fs n cs)
        | none => none
      | none => none
    | _ => none
  | _ => none
def litOp : Op → Bool
  | .buildSlice _ _ _ => true
  | _ => false
section
variable {P : Program} {T : Nat → Option TI} {Φ : Nat → Prop} {H : Nat → Option Nat} {ob : List Ob} {w : World}
theorem buildSliceF_sound (hT : TabOK P T) (hs : HSim Φ H ob w) {t e : Nat} {it ie : TI} (ht : T t = some it) (hk : it.k = .slice e) (he : T e = some ie) {n : Nat} {parts : List (Nat × V)} {vals : Array (Nat × Value)}
    (h1 : parts.map (·.1) = vals.toList.map (·.1)) (h2 : VReps .any (mkE Φ H ob w) (parts.map (·.2)) (vals.toList.map (·.2))) {p : Prop} {cs : List V}
    (h : vfill (fun i => some (i * ie.size, ie.size)) (zerosV ie.zero.cells n) parts = some (p, cs)) (hp : p) (hbig : n * ie.size ≤ 16777216) (hcl : cs.length = n * ie.size) (hno : cs.all V.noId = true) :
    ∃ u w' Φ', (Instr.buildSlice t n vals).run P w = .ok u w' ∧ HStep Φ H ob w Φ' H ob w' ∧ VRep (mkE Φ' H ob w') (.fs n cs) u := by
  obtain ⟨info, d, zq, f1, f2, f3, f4, _⟩ := hT t it ht
  obtain rfl := kindOf_slice (f3.trans hk)
  obtain ⟨info2, d2, zq2, g1, g2, g3, g4, _⟩ := hT e ie he
  obtain ⟨info', z, e1, e2, e3, e4, e5⟩ := zero_rep hT he (mkE Φ H ob w)
  have hz := zeros_rep e3 n
  rw [e4] at hz
  obtain ⟨arr', k1, k2⟩ := fill_sound h1 h2 hz h hp
  have hl := k2.length
  simp only [Array.length_toList] at hl
  have hsz := run_sizeOf_tab (P := P) (w := w) g1
  rw [g4] at hsz
  have hst := HStep.frozenNew hs (w' := w.alloc (.cells arr' e)) rfl rfl rfl (fun k hk => Below.heap_alloc w _ k hk) (by simp)
  have hnew : (w.alloc (.cells arr' e)).heap[w.heap.size]? = some (.cells arr' e) := heap_alloc_new w _
  refine ⟨.slice (some ⟨w.heap.size, 0, none⟩) n n, _, _, ?_, hst, ?_⟩
  · have hn : ¬ (n * ie.size > 2 ^ 24) := by omega
    by_cases h0 : n * ie.size = 0
    · have k1' : Instr.fill (fun i => some (i * ie.size, ie.size)) #[] vals.toList = some arr' := by
        rw [h0] at k1
        have hm : madeCells z.cells 0 = #[] := by simp [madeCells, Array.range_zero']
        rwa [hm] at k1
      simp [Instr.buildSlice, run_underlying f2, hsz, hn, h0, Array.range_zero', k1', newRow]
    · have k1' : Instr.fill (fun i => some (i * ie.size, ie.size)) ((Array.range (n * ie.size)).map (z.cells[· % z.cells.size]!)) vals.toList = some arr' := k1
      simp [Instr.buildSlice, run_underlying f2, hsz, hn, h0, zeroValue, typeInfo, e1, e2, k1', newRow]
  · refine ⟨_, n, arr'.toList, rfl, Nat.le_refl _, VReps.ext hst.ext _ _ (k2.toFrz fun c hc => List.all_eq_true.1 hno c hc), fun _ => ⟨w.heap.size, 0, rfl, .inr rfl, ?_⟩⟩
    have := reads_row hnew 0 arr'.toList.length
    rwa [List.drop_zero, List.take_length] at this
theorem vlit_sound {C : Ctx} {a : Act} {sl : List (Nat × V)} (hT : TabOK P T) (s : SimE C Φ H ⟨sl, ob⟩ a w) {o : Oper} {p : Prop} {x : V} (h : vlit T sl o.op = some (p, x)) (hp : p) : OpOK P o a w Φ H ob x ob := by
  have hs : HSim Φ H ob w := s.hs.sim
  obtain ⟨dst, op, ty, pos, aft, gd⟩ := o
  dsimp only at h
  unfold vlit at h
  split at h
  case h_2 => cases h
  rename_i t n parts
  split at h
  case h_2 => cases h
  rename_i e _ _ _ ht
  split at h
  case h_2 => cases h
  rename_i ie he
  split at h
  case h_2 => cases h
  rename_i p' cs hf
  simp only [Option.some.injEq, Prod.mk.injEq] at h; obtain ⟨rfl, rfl⟩ := h
  obtain ⟨u, w', Φ', h1, h2, h3⟩ := buildSliceF_sound (P := P) hT hs ht rfl he (n := n) (vals := parts.map fun (i, x) => (i, a.eval x)) (by simp) (by simpa [Function.comp_def] using evals_rep s parts.toList) hf hp.1 hp.2.1 hp.2.2.1 hp.2.2.2
  exact ⟨u, w', Φ', H, .inl (by simp [execOp, h1]), h2, h3⟩
theorem vlit_congr {sl sl' : List (Nat × V)} {op : Op} (h : ∀ t ∈ usesOp op, getS sl t = getS sl' t) : vlit T sl op = vlit T sl' op := by
  unfold vlit
  split
  · rename_i t n parts
    have e : (parts.toList.map fun q => (q.1, evV sl q.2)) = parts.toList.map fun q => (q.1, evV sl' q.2) := List.map_congr_left fun q hq => by
      rw [evV_congr fun t ht => h t (List.mem_flatMap.2 ⟨q, hq, ht⟩)]
    rw [e]
  · rfl
end

def pureOp : Op → Bool
  | .move _ | .assign _ | .pick _ _ _ | .extract _ _ | .unOp _ _ _ | .field _ _ _ => true
  | _ => false

/-- It changes memory. -/
def mvOp : Op → Bool
  | .store _ _ _ | .alloc _ | .box _ _ | .buildSlice _ _ _ | .makeSlice _ _ _ => true
  | .call ⟨.builtin .append, _, _⟩ => true
  | .call ⟨.builtin .copy, _, _⟩ => true
  | .call ⟨.builtin .delete, _, _⟩ => true
  | .makeMap _ _ | .lookup _ _ _ _ | .mapUpdate _ _ _ _ | .range _ _ | .entry _ => true
  | .call ⟨.value _, _, _⟩ => true
  | _ => false
theorem vop_pure {T : Nat → Option TI} {sl : List (Nat × V)} {ob ob2 : List Ob} {op : Op} {p : Prop} {x : V} {ob' : List Ob} (hp : pureOp op = true) (h : vop T sl ob op = some (p, x, ob')) : vop T sl ob2 op = some (p, x, ob2) := by
  unfold pureOp at hp
  split at hp
  · simp only [vop, Option.some.injEq, Prod.mk.injEq] at h ⊢; exact ⟨h.1, h.2.1, trivial⟩
  · simp only [vop, Option.some.injEq, Prod.mk.injEq] at h ⊢; exact ⟨h.1, h.2.1, trivial⟩
  · simp only [vop] at h ⊢
    split at h
    · simp only [Option.some.injEq, Prod.mk.injEq] at h ⊢; exact ⟨h.1, h.2.1, trivial⟩
    · cases h
  · simp only [vop] at h ⊢
    split at h
    · split at h
      · simp only [Option.some.injEq, Prod.mk.injEq] at h ⊢; exact ⟨h.1, h.2.1, trivial⟩
      · cases h
    · cases h
  · simp only [vop] at h ⊢
    split at h
    · simp only [Option.some.injEq, Prod.mk.injEq] at h ⊢; exact ⟨h.1, h.2.1, trivial⟩
    · cases h
  · simp only [vop] at h ⊢
    split at h
    · split at h
      · split at h
        · simp only [Option.some.injEq, Prod.mk.injEq] at h ⊢; exact ⟨h.1, h.2.1, trivial⟩
        · cases h
      · cases h
    · cases h
  · cases hp

/-! ### What must come before what -/
def depsOK (ops : List Oper) (deps : List (List Nat)) : Bool :=
  (List.range ops.length).all fun i => (deps.getD i []).all fun k => (List.range i).any fun m => Region.waitsFor .any ops.toArray i m && (m == k || (deps.getD m []).contains k)
def rankOf (plan : List Pl) (i : Nat) : Nat := ((plan.take i).filter fun q => match q with | .mv => true | _ => false).length
def isMv : Pl → Bool
  | .mv => true
  | _ => false
/-- Operation i comes behind just `lo` changes at least, `hi` at most. -/
def between (plan : List Pl) (deps : List (List Nat)) (n i lo hi : Nat) : Bool :=
  (List.range n).all fun k => match plan[k]? with
    | some .mv => k == i || ((decide (lo ≤ rankOf plan k) || (deps.getD i []).contains k) && (decide (rankOf plan k < hi) || (deps.getD k []).contains i))
    | _ => true
def stormAt (ops : List Oper) (i : Nat) (o : Oper) (k : Nat) : Bool :=
  match ops[k]? with
  | some o' => match o'.dst with
    | some t => (k == i || o.dst != some t) && (!(usesG ops o).contains t || if k < i then Region.waitsFor .any ops.toArray i k else if i < k then Region.waitsFor .any ops.toArray k i else true)
    | none => true
  | none => false
def stormOK (nt : Sh) (ops : List Oper) (plan : List Pl) (deps : List (List Nat)) : Bool :=
  depsOK ops deps && (decide (plan.length = ops.length) && (List.range ops.length).all fun i => match ops[i]?, plan[i]? with
    | some o, some pl => (o.after.all fun e => !Region.binds .any e || decide (e.on < i)) && ((List.range ops.length).all (stormAt ops i o) && ((usesG ops o).all (fun t => decide (t < nt.nt)) && match pl with
      | .mv => mvOp o.op && between plan deps ops.length i (rankOf plan i) (rankOf plan i)
      | .pure => pureOp o.op
      | .lit => litOp o.op
      | .off => true
      | .win lo hi => decide (lo ≤ rankOf plan plan.length) && between plan deps ops.length i lo hi))
    | _, _ => false)

/-! ### What each operation yields -/
def dOf (nt : Sh) (i : Nat) (o : Oper) : Nat := o.dst.getD (nt.nt + i)
def okd' (nt : Sh) (o : Oper) : Prop := match o.dst with
  | some d => d < nt.nt
  | none => True

def xOf (o : Oper) (x : V) : V := if o.dst.isSome = true then x else .junk

/-- Kept shut till a call's result is there. -/
def shut2 (G : List CE → List (List Ob) → List Ob → Prop) (m : List CE) (obs : List (List Ob)) (d : Nat) (ch : Ch) (o : Oper) (x : V) (ob' : List Ob) : Prop := G (m ++ [⟨d, xOf o x, ch⟩]) (obs ++ [ob']) ob'
def vstormB (P : Program) (T : Nat → Option TI) (nt : Sh) (sl0 : List (Nat × V)) (o : Oper) (pl : Pl) (i : Nat) (m : List CE) (obs : List (List Ob)) (ob : List Ob) (G : List CE → List (List Ob) → List Ob → Prop) : Prop :=
  match chainOf m o with
  | some ch => okd' nt o ∧ match pl with
    | .mv => if eOf m ch = true then
        match o.op with
        | .call ⟨.value f, args, _⟩ => match evV (atC m ch sl0 m) f with
          | .fn k caps => ∃ x ob', (∀ sl, vcall P nt ⟨sl, ob⟩ k (args.toList.map (evV (atC m ch sl0 m)) ++ caps) (vis x ob')) ∧ shut2 G m obs (dOf nt i o) ch o x ob'
          | _ => False
        | op => match vop T (atC m ch sl0 m) ob op with
          | some (p, x, ob') => p ∧ G (m ++ [⟨dOf nt i o, xOf o x, ch⟩]) (obs ++ [ob']) ob'
          | none => False
      else G (m ++ [⟨dOf nt i o, .junk, ch⟩]) (obs ++ [ob]) ob
    | .off => eOf m ch = false ∧ G (m ++ [⟨dOf nt i o, xOf o (.bool false), ch⟩]) obs ob
    | .lit => match vlit T (atC m ch sl0 m) o.op with
      | some (p, x) => (eOf m ch = true → p) ∧ o.dst.isSome = true ∧ G (m ++ [⟨dOf nt i o, x, ch⟩]) obs ob
      | none => False
    | _ => match vop T (atC m ch sl0 m) ob o.op with
      | some (p, x, _) => quietR o.op x = true ∧ (eOf m ch = true → p) ∧ o.dst.isSome = true ∧ G (m ++ [⟨dOf nt i o, x, ch⟩]) obs ob
      | none => False
  | none => False
def vstorm (P : Program) (T : Nat → Option TI) (nt : Sh) (sl0 : List (Nat × V)) : List Oper → List Pl → Nat → (List CE → List (List Ob) → List Ob → Prop) → List CE → List (List Ob) → List Ob → Prop
  | o :: rest, pl :: plan, i, Q, m, obs, ob => vstormB P T nt sl0 o pl i m obs ob (vstorm P T nt sl0 rest plan (i + 1) Q)
  | [], [], _, Q, m, obs, ob => Q m obs ob
  | _, _, _, _, _, _, _ => False

/-- What looks at memory yields the same in all of its window. -/
def chk1 (T : Nat → Option TI) (sl0 : List (Nat × V)) (m : List CE) (e : CE) (o : Oper) (ob : List Ob) : Prop :=
  match vop T (atC m e.c sl0 m) ob o.op with
  | some (p, x, _) => x = e.x ∧ (eOf m e.c = true → p)
  | none => False
def chkW (T : Nat → Option TI) (sl0 : List (Nat × V)) (m : List CE) (e : CE) (o : Oper) : Nat → Nat → List (List Ob) → Prop
  | _, _, [] => True
  | 0, 0, ob :: _ => chk1 T sl0 m e o ob
  | 0, h + 1, ob :: r => chk1 T sl0 m e o ob ∧ chkW T sl0 m e o 0 h r
  | l + 1, h + 1, _ :: r => chkW T sl0 m e o l h r
  | _ + 1, 0, _ :: _ => True
def chkAll (T : Nat → Option TI) (sl0 : List (Nat × V)) (obs : List (List Ob)) : List Oper → List Pl → List CE → List CE → Prop
  | o :: rest, .win lo hi :: plan, m, e :: es => chkW T sl0 m e o lo hi obs ∧ chkAll T sl0 obs rest plan (m ++ [e]) es
  | _ :: rest, _ :: plan, m, e :: es => chkAll T sl0 obs rest plan (m ++ [e]) es
  | _, _, _, _ => True

/-- What is known of one operation. -/
structure GoodS (P : Program) (T : Nat → Option TI) (nt : Sh) (obs : List (List Ob)) (sl0 : List (Nat × V)) (m : List CE) (o : Oper) (pl : Pl) (r i : Nat) (e : CE) : Prop where
  d : e.d = dOf nt i o
  ch : chainOf m o = some e.c
  okd : okd' nt o
  run : match pl with
    | .mv => ∃ ob ob', obs[r]? = some ob ∧ obs[r + 1]? = some ob' ∧ (if eOf m e.c = true then ∃ x, e.x = xOf o x ∧
        ((∃ f args ts k caps, o.op = .call ⟨.value f, args, ts⟩ ∧ evV (atC m e.c sl0 m) f = .fn k caps ∧ ∀ sl, vcall P nt ⟨sl, ob⟩ k (args.toList.map (evV (atC m e.c sl0 m)) ++ caps) (vis x ob')) ∨
        (∃ p, (∀ f args ts, o.op ≠ .call ⟨.value f, args, ts⟩) ∧ vop T (atC m e.c sl0 m) ob o.op = some (p, x, ob') ∧ p)) else e.x = .junk ∧ ob' = ob)
    | .off => eOf m e.c = false ∧ e.x = xOf o (.bool false)
    | .lit => o.dst.isSome = true ∧ ∃ p, vlit T (atC m e.c sl0 m) o.op = some (p, e.x) ∧ (eOf m e.c = true → p)
    | .pure => o.dst.isSome = true ∧ ∃ ob p ob', vop T (atC m e.c sl0 m) ob o.op = some (p, e.x, ob') ∧ quietR o.op e.x = true ∧ (eOf m e.c = true → p)
    | .win lo hi => o.dst.isSome = true ∧ quietR o.op e.x = true ∧ ∀ j ob, lo ≤ j → j ≤ hi → obs[j]? = some ob → ∃ p ob', vop T (atC m e.c sl0 m) ob o.op = some (p, e.x, ob') ∧ (eOf m e.c = true → p)

section
variable {P : Program} {T : Nat → Option TI} {nt : Sh} {sl0 : List (Nat × V)}

theorem chkW_get {m : List CE} {e : CE} {o : Oper} : ∀ {lo hi : Nat} {obs : List (List Ob)}, chkW T sl0 m e o lo hi obs → ∀ j ob, lo ≤ j → j ≤ hi → obs[j]? = some ob → chk1 T sl0 m e o ob
  | _, _, [], _, j, ob, _, _, h => by simp at h
  | 0, 0, x :: r, h, j, ob, h1, h2, h3 => by
    obtain rfl : j = 0 := by omega
    simp at h3; subst h3; exact h
  | 0, hi + 1, x :: r, h, j, ob, h1, h2, h3 => by
    cases j with
    | zero => simp at h3; subst h3; exact h.1
    | succ j => exact chkW_get h.2 j ob (by omega) (by omega) (by simpa using h3)
  | l + 1, hi + 1, x :: r, h, j, ob, h1, h2, h3 => by
    cases j with
    | zero => omega
    | succ j => exact chkW_get (show chkW T sl0 m e o l hi r from h) j ob (by omega) (by omega) (by simpa using h3)
  | l + 1, 0, x :: r, h, j, ob, h1, h2, h3 => by omega

/-- The entries of a whole region. -/
theorem vstorm_good {F : List CE → List (List Ob) → List Ob → Prop} (plan0 : List Pl) : ∀ (l : List Oper) (plan : List Pl) (i : Nat) (m : List CE) (obs : List (List Ob)) (ob : List Ob), vstorm P T nt sl0 l plan i F m obs ob → plan0.drop i = plan → m.length = i → obs.length = rankOf plan0 i + 1 → obs[rankOf plan0 i]? = some ob →
    ∃ (es : List CE) (obs' : List (List Ob)) (ob' : List Ob), es.length = l.length ∧ plan.length = l.length ∧ obs'.length = rankOf plan0 (i + l.length) + 1 ∧ obs'[rankOf plan0 (i + l.length)]? = some ob' ∧ (∀ j, j < obs.length → obs'[j]? = obs[j]?) ∧ F (m ++ es) obs' ob' ∧
      (chkAll T sl0 obs' l plan m es → ∀ j o pl e, l[j]? = some o → plan[j]? = some pl → es[j]? = some e → GoodS P T nt obs' sl0 (m ++ es.take j) o pl (rankOf plan0 (i + j)) (i + j) e)
  | [], [], i, m, obs, ob, h, hp, hm, hl, ho => ⟨[], obs, ob, rfl, rfl, by simpa using hl, by simpa using ho, fun j _ => rfl, by simpa [vstorm] using h, fun _ j o pl e h1 => by simp at h1⟩
  | [], _ :: _, i, m, obs, ob, h, _, _, _, _ => by simp [vstorm] at h
  | _ :: _, [], i, m, obs, ob, h, _, _, _, _ => by simp [vstorm] at h
  | o :: rest, pl :: plan, i, m, obs, ob, h, hp, hm, hl, ho => by
    simp only [vstorm, vstormB] at h
    split at h
    case h_2 => exact h.elim
    rename_i ch hch
    obtain ⟨hokd, h⟩ := h
    have hpl : plan0[i]? = some pl := by
      have := congrArg (·[0]?) hp
      simpa using this
    have hdrop : plan0.drop (i + 1) = plan := by
      rw [← List.drop_drop, hp]; rfl
    have hrank : rankOf plan0 (i + 1) = rankOf plan0 i + (if isMv pl = true then 1 else 0) := by
      unfold rankOf
      rw [List.take_add_one, hpl]
      simp only [Option.toList_some, List.filter_append, List.length_append]
      cases pl <;> simp [isMv]
    have fin : ∀ (e : CE) (obs1 : List (List Ob)) (ob1 : List Ob), obs1.length = rankOf plan0 (i + 1) + 1 → obs1[rankOf plan0 (i + 1)]? = some ob1 → (∀ j, j < obs.length → obs1[j]? = obs[j]?) →
        (∀ obs' : List (List Ob), (∀ j, j < obs1.length → obs'[j]? = obs1[j]?) → (∀ lo hi, pl = .win lo hi → chkW T sl0 m e o lo hi obs') → GoodS P T nt obs' sl0 m o pl (rankOf plan0 i) i e) →
        vstorm P T nt sl0 rest plan (i + 1) F (m ++ [e]) obs1 ob1 →
        ∃ (es : List CE) (obs' : List (List Ob)) (ob' : List Ob), es.length = (o :: rest).length ∧ (pl :: plan).length = (o :: rest).length ∧ obs'.length = rankOf plan0 (i + (o :: rest).length) + 1 ∧ obs'[rankOf plan0 (i + (o :: rest).length)]? = some ob' ∧ (∀ j, j < obs.length → obs'[j]? = obs[j]?) ∧ F (m ++ es) obs' ob' ∧
          (chkAll T sl0 obs' (o :: rest) (pl :: plan) m es → ∀ j o' pl' e', (o :: rest)[j]? = some o' → (pl :: plan)[j]? = some pl' → es[j]? = some e' → GoodS P T nt obs' sl0 (m ++ es.take j) o' pl' (rankOf plan0 (i + j)) (i + j) e') := by
      intro e obs1 ob1 g1 g2 g3 g4 g5
      obtain ⟨es, obs', ob', k1, k2, k3, k4, k5, k6, k7⟩ := vstorm_good plan0 rest plan (i + 1) (m ++ [e]) obs1 ob1 g5 hdrop (by simp [hm]) g1 g2
      have hle : obs.length ≤ obs1.length := by rw [g1, hl, hrank]; omega
      refine ⟨e :: es, obs', ob', by simp [k1], by simp [k2], by rw [k3]; simp; congr 1; omega, by rw [← k4]; congr 2; simp; omega, fun j hj => (k5 j (by omega)).trans (g3 j hj), by simpa using k6, fun hc j o' pl' e' h1 h2 h3 => ?_⟩
      cases j with
      | zero =>
        simp only [List.getElem?_cons_zero, Option.some.injEq] at h1 h2 h3
        subst h1; subst h2; subst h3
        simp only [List.take_zero, List.append_nil, Nat.add_zero]
        refine g4 obs' k5 fun lo hi hpe => ?_
        subst hpe
        exact hc.1
      | succ j =>
        simp only [List.getElem?_cons_succ] at h1 h2 h3
        have hc' : chkAll T sl0 obs' rest plan (m ++ [e]) es := by
          cases pl with
          | win lo hi => exact hc.2
          | mv => exact hc
          | pure => exact hc
          | lit => exact hc
          | off => exact hc
        have := k7 hc' j o' pl' e' h1 h2 h3
        have e1 : i + 1 + j = i + (j + 1) := by omega
        rw [e1] at this
        simpa using this
    have hnr : isMv pl = false → obs.length = rankOf plan0 (i + 1) + 1 ∧ obs[rankOf plan0 (i + 1)]? = some ob := fun q => by rw [hrank, q]; exact ⟨by simpa using hl, by simpa using ho⟩
    have hmr : isMv pl = true → ∀ ob1 : List Ob, (obs ++ [ob1]).length = rankOf plan0 (i + 1) + 1 ∧ (obs ++ [ob1])[rankOf plan0 (i + 1)]? = some ob1 ∧ (∀ j, j < obs.length → (obs ++ [ob1])[j]? = obs[j]?) := fun q ob1 => by
      rw [hrank, q]
      refine ⟨by simp [hl], ?_, fun j hj => List.getElem?_append_left hj⟩
      rw [List.getElem?_append_right (by simp; omega)]
      simp [hl]
    have hat : ∀ obs' : List (List Ob), (∀ j, j < obs.length → obs'[j]? = obs[j]?) → obs'[rankOf plan0 i]? = some ob := fun obs' q => by rw [q _ (by omega), ho]
    split at h
    · -- a change
      split at h
      · rename_i hee
        have mk : ∀ (x : V) (ob1 : List Ob), ((∃ f args ts k caps, o.op = .call ⟨.value f, args, ts⟩ ∧ evV (atC m ch sl0 m) f = .fn k caps ∧ ∀ sl, vcall P nt ⟨sl, ob⟩ k (args.toList.map (evV (atC m ch sl0 m)) ++ caps) (vis x ob1)) ∨
            (∃ p, (∀ f args ts, o.op ≠ .call ⟨.value f, args, ts⟩) ∧ vop T (atC m ch sl0 m) ob o.op = some (p, x, ob1) ∧ p)) → vstorm P T nt sl0 rest plan (i + 1) F (m ++ [⟨dOf nt i o, xOf o x, ch⟩]) (obs ++ [ob1]) ob1 → _ := fun x ob1 hx hg =>
          fin ⟨dOf nt i o, xOf o x, ch⟩ (obs ++ [ob1]) ob1 (hmr rfl ob1).1 (hmr rfl ob1).2.1 (hmr rfl ob1).2.2 (fun obs' q _ => ⟨rfl, hch, hokd, ob, ob1, hat obs' fun j hj => (q j (by simp; omega)).trans ((hmr rfl ob1).2.2 j hj), by
            rw [q _ (by simp [hl]), show rankOf plan0 i + 1 = obs.length from hl.symm]; simp, by rw [if_pos hee]; exact ⟨x, rfl, hx⟩⟩) hg
        split at h
        · rename_i f args ts hop
          split at h
          case h_2 => exact h.elim
          rename_i k caps hf
          obtain ⟨x, ob1, h1, h2⟩ := h
          exact mk x ob1 (.inl ⟨f, args, ts, k, caps, hop, hf, h1⟩) h2
        · rename_i hnc
          split at h
          case h_2 => exact h.elim
          rename_i p x ob1 hv
          exact mk x ob1 (.inr ⟨p, fun f args ts e => hnc f args ts e, hv, h.1⟩) h.2
      · rename_i hee
        exact fin ⟨dOf nt i o, .junk, ch⟩ (obs ++ [ob]) ob (hmr rfl ob).1 (hmr rfl ob).2.1 (hmr rfl ob).2.2 (fun obs' q _ => ⟨rfl, hch, hokd, ob, ob, hat obs' fun j hj => (q j (by simp; omega)).trans ((hmr rfl ob).2.2 j hj), by
            rw [q _ (by simp [hl]), show rankOf plan0 i + 1 = obs.length from hl.symm]; simp, by rw [if_neg hee]; exact ⟨rfl, rfl⟩⟩) h
    · obtain ⟨h2, h4⟩ := h
      exact fin ⟨dOf nt i o, xOf o (.bool false), ch⟩ obs ob (hnr rfl).1 (hnr rfl).2 (fun _ _ => rfl) (fun obs' q hw => ⟨rfl, hch, hokd, h2, rfl⟩) h4
    · split at h
      case h_2 => exact h.elim
      rename_i p x hv
      obtain ⟨h2, h3, h4⟩ := h
      exact fin ⟨dOf nt i o, x, ch⟩ obs ob (hnr rfl).1 (hnr rfl).2 (fun _ _ => rfl) (fun obs' q hw => ⟨rfl, hch, hokd, h3, p, hv, h2⟩) h4
    · rename_i hnm hno hnl
      split at h
      case h_2 => exact h.elim
      rename_i p x ob1 hv
      obtain ⟨h1, h2, h3, h4⟩ := h
      have hf : isMv pl = false := by cases pl <;> first | rfl | exact absurd rfl hnm
      refine fin ⟨dOf nt i o, x, ch⟩ obs ob (hnr hf).1 (hnr hf).2 (fun _ _ => rfl) (fun obs' q hw => ⟨rfl, hch, hokd, ?_⟩) h4
      cases pl with
      | mv => simp [isMv] at hf
      | pure => exact ⟨h3, ob, p, ob1, hv, h1, h2⟩
      | lit => exact absurd rfl hnl
      | off => exact absurd rfl hno
      | win lo hi =>
        refine ⟨h3, h1, fun j obj hj1 hj2 hj3 => ?_⟩
        have := chkW_get (hw lo hi rfl) j obj hj1 hj2 hj3
        unfold chk1 at this
        split at this
        case h_2 => exact this.elim
        rename_i p' x' ob'' hv'
        obtain ⟨rfl, hp'⟩ := this
        exact ⟨p', ob'', hv', hp'⟩

variable {ops : List Oper} {plan : List Pl} {deps : List (List Nat)} {es : List CE} {obs : List (List Ob)}

structure SOK (nt : Sh) (ops : List Oper) (plan : List Pl) (deps : List (List Nat)) (i : Nat) (o : Oper) (pl : Pl) : Prop where
  edge : ∀ e ∈ o.after, Region.binds .any e = true → e.on < i
  slot : ∀ (k : Nat) (o' : Oper) (t : Nat), ops[k]? = some o' → o'.dst = some t → (k = i ∨ o.dst ≠ some t) ∧ (t ∈ usesG ops o → (k < i → Region.waitsFor .any ops.toArray i k = true) ∧ (i < k → Region.waitsFor .any ops.toArray k i = true))
  uses : ∀ t ∈ usesG ops o, t < nt.nt
  kind : match pl with
      | .mv => mvOp o.op = true ∧ between plan deps ops.length i (rankOf plan i) (rankOf plan i) = true
      | .pure => pureOp o.op = true
      | .lit => litOp o.op = true
      | .off => True
      | .win lo hi => lo ≤ rankOf plan plan.length ∧ between plan deps ops.length i lo hi = true

theorem storm_of (hok : stormOK nt ops plan deps = true) : depsOK ops deps = true ∧ plan.length = ops.length ∧ ∀ (i : Nat) (o : Oper) (pl : Pl), ops[i]? = some o → plan[i]? = some pl → SOK nt ops plan deps i o pl := by
  simp only [stormOK, Bool.and_eq_true, decide_eq_true_eq] at hok
  obtain ⟨h1, h2, h3⟩ := hok
  refine ⟨h1, h2, fun i o pl ho hp => ?_⟩
  have hi : i < ops.length := (List.getElem?_eq_some_iff.1 ho).1
  have h := List.all_eq_true.1 h3 i (List.mem_range.2 hi)
  simp only [ho, hp, Bool.and_eq_true] at h
  obtain ⟨g1, g2, g3, g4⟩ := h
  refine ⟨fun e he hb => ?_, fun k o' t hk ht => ?_, fun t ht => by simpa using List.all_eq_true.1 g3 t ht, ?_⟩
  · have := Array.all_eq_true_iff_forall_mem.1 g1 e he
    simpa [hb] using this
  · have hk' : k < ops.length := (List.getElem?_eq_some_iff.1 hk).1
    have q := List.all_eq_true.1 g2 k (List.mem_range.2 hk')
    simp only [stormAt, hk, ht, Bool.and_eq_true, Bool.or_eq_true, beq_iff_eq, bne_iff_ne, ne_eq, Bool.not_eq_true', List.contains_eq_mem, decide_eq_false_iff_not] at q
    refine ⟨q.1, fun hu => ⟨fun hlt => ?_, fun hlt => ?_⟩⟩
    · rcases q.2 with q | q
      · exact absurd hu q
      · simpa [hlt] using q
    · rcases q.2 with q | q
      · exact absurd hu q
      · simpa [hlt, show ¬ k < i by omega] using q
  · cases pl with
    | mv => simpa using g4
    | pure => simpa using g4
    | lit => simpa using g4
    | off => trivial
    | win lo hi => simpa using g4

theorem deps_get (h : depsOK ops deps = true) {i k : Nat} (hi : i < ops.length) (hk : k ∈ deps.getD i []) : ∃ m, m < i ∧ Region.waitsFor .any ops.toArray i m = true ∧ (m = k ∨ k ∈ deps.getD m []) := by
  have := List.all_eq_true.1 (List.all_eq_true.1 h i (List.mem_range.2 hi)) k hk
  obtain ⟨m, h1, h2⟩ := List.any_eq_true.1 this
  simp only [Bool.and_eq_true, Bool.or_eq_true, beq_iff_eq, List.contains_eq_mem, decide_eq_true_eq] at h2
  exact ⟨m, List.mem_range.1 h1, h2.1, h2.2⟩

theorem deps_listed (h : depsOK ops deps = true) {listed : Array Bool} (hc : ∀ j oj, ops[j]? = some oj → listed.getD j false = true → ∀ e ∈ oj.after, Region.binds .any e = true → listed.getD e.on false = true) :
    ∀ (i : Nat), i < ops.length → (∀ m, Region.waitsFor .any ops.toArray i m = true → listed.getD m false = true) → ∀ k, k ∈ deps.getD i [] → listed.getD k false = true := by
  intro i
  induction i using Nat.strongRecOn with
  | _ i ih =>
    intro hi hw k hk
    obtain ⟨m, h1, h2, h3⟩ := deps_get h hi hk
    have hm := hw m h2
    rcases h3 with rfl | h3
    · exact hm
    · refine ih m h1 (by omega) (fun m' hm' => ?_) k h3
      obtain ⟨oj, q1, e', q2, q3, q4⟩ := Region.waitsFor_spec hm'
      have := hc m oj (by simpa using q1) hm e' q2 q3
      rwa [q4] at this

structure CntInv (plan : List Pl) (listed : Array Bool) (j : Nat) : Prop where
  le : j ≤ rankOf plan plan.length
  iff : ∀ k, plan[k]? = some .mv → (listed.getD k false = true ↔ rankOf plan k < j)

theorem rank_succ {i : Nat} {pl : Pl} (h : plan[i]? = some pl) : rankOf plan (i + 1) = rankOf plan i + (if isMv pl = true then 1 else 0) := by
  unfold rankOf
  rw [List.take_add_one, h]
  simp only [Option.toList_some, List.filter_append, List.length_append]
  cases pl <;> simp [isMv]
theorem rank_mono {i j : Nat} (h : i ≤ j) : rankOf plan i ≤ rankOf plan j := by
  induction j with
  | zero => obtain rfl : i = 0 := by omega
            exact Nat.le_refl _
  | succ j ih =>
    rcases Nat.lt_or_ge j i with hji | hji
    · obtain rfl : i = j + 1 := by omega
      exact Nat.le_refl _
    · refine Nat.le_trans (ih hji) ?_
      cases hp : plan[j]? with
      | some pl => rw [rank_succ hp]; omega
      | none =>
        have hl : plan.length ≤ j := by simpa using hp
        unfold rankOf
        rw [List.take_of_length_le hl, List.take_of_length_le (by omega)]
        exact Nat.le_refl _
theorem rank_lt {i : Nat} (h : plan[i]? = some .mv) : rankOf plan i < rankOf plan plan.length := by
  have hi := (List.getElem?_eq_some_iff.1 h).1
  have := rank_succ h
  have := rank_mono (plan := plan) (show i + 1 ≤ plan.length from hi)
  simp [isMv] at *
  omega
theorem rank_inj {i k : Nat} (h : plan[i]? = some .mv) (h2 : plan[k]? = some .mv) (e : rankOf plan i = rankOf plan k) : i = k := by
  have h1 := rank_succ h
  have h3 := rank_succ h2
  simp only [isMv, if_true] at h1 h3
  rcases Nat.lt_trichotomy i k with q | q | q
  · have := rank_mono (plan := plan) (show i + 1 ≤ k from q); omega
  · exact q
  · have := rank_mono (plan := plan) (show k + 1 ≤ i from q); omega
/-- If all is listed, all changes are. -/
theorem rank_hit : ∀ (n : Nat) {r : Nat}, r < rankOf plan n → ∃ k, k < n ∧ plan[k]? = some .mv ∧ rankOf plan k = r
  | 0, r, h => by simp [rankOf] at h
  | n + 1, r, h => by
    rcases Nat.lt_or_ge r (rankOf plan n) with q | q
    · obtain ⟨k, h1, h2, h3⟩ := rank_hit n q
      exact ⟨k, by omega, h2, h3⟩
    · cases hp : plan[n]? with
      | none =>
        have hl : plan.length ≤ n := by simpa using hp
        unfold rankOf at h q
        rw [List.take_of_length_le (by omega)] at h
        rw [List.take_of_length_le hl] at q
        omega
      | some pl =>
        rw [rank_succ hp] at h
        cases pl with
        | mv => exact ⟨n, by omega, hp, by simp [isMv] at h; omega⟩
        | pure => simp [isMv] at h; omega
        | lit => simp [isMv] at h; omega
        | off => simp [isMv] at h; omega
        | win lo hi => simp [isMv] at h; omega
theorem CntInv.all {listed : Array Bool} {j : Nat} (c : CntInv plan listed j) (h : ∀ i, i < plan.length → listed.getD i false = true) (hj : j ≤ rankOf plan plan.length) : j = rankOf plan plan.length := by
  rcases Nat.lt_or_ge j (rankOf plan plan.length) with q | q
  · obtain ⟨k, h1, h2, h3⟩ := rank_hit plan.length q
    have := (c.iff k h2).1 (h k h1)
    omega
  · omega

theorem all_listed' (hedge : ∀ (i : Nat) (o : Oper), ops[i]? = some o → ∀ e ∈ o.after, Region.binds .any e = true → e.on < i) {listed : Array Bool} (hsz : listed.size = ops.length) (hr : Region.ready .any ops.toArray listed = []) : ∀ i, i < ops.length → listed.getD i false = true := by
  intro i
  induction i using Nat.strongRecOn with
  | _ i ih =>
    intro hi
    cases hl : listed.getD i false with
    | true => rfl
    | false =>
      exfalso
      have hmem : i ∈ Region.ready .any ops.toArray listed := by
        rw [mem_ready]
        have hi' : i < listed.size := by omega
        refine ⟨by simp [hi'] at hl ⊢; exact hl, ops[i], by simp [hi], fun e he hb => ?_⟩
        have := hedge i _ (List.getElem?_eq_getElem hi) e he hb
        exact ih e.on this (by omega)
      rw [hr] at hmem
      cases hmem

/-- How many changes there have been when an operation comes. -/
theorem between_cnt (hplen : plan.length = ops.length) (hdeps : depsOK ops deps = true) {i lo hi j : Nat} {listed : Array Bool} (hb : between plan deps ops.length i lo hi = true) (hi' : i < ops.length) (c : CntInv plan listed j)
    (hc : ∀ j oj, ops[j]? = some oj → listed.getD j false = true → ∀ e ∈ oj.after, Region.binds .any e = true → listed.getD e.on false = true)
    (hw : ∀ k, Region.waitsFor .any ops.toArray i k = true → listed.getD k false = true) (hun : listed.getD i false = false)
    (hlo : lo ≤ rankOf plan plan.length) (hmv : plan[i]? = some .mv → rankOf plan i = lo) : lo ≤ j ∧ j ≤ hi := by
  have get : ∀ k, plan[k]? = some .mv → k = i ∨ ((lo ≤ rankOf plan k ∨ k ∈ deps.getD i []) ∧ (rankOf plan k < hi ∨ i ∈ deps.getD k [])) := fun k hk => by
    have hkl : k < ops.length := by rw [← hplen]; exact (List.getElem?_eq_some_iff.1 hk).1
    have := List.all_eq_true.1 hb k (List.mem_range.2 hkl)
    simp only [hk, Bool.or_eq_true, Bool.and_eq_true, beq_iff_eq, decide_eq_true_eq, List.contains_eq_mem] at this
    exact this
  constructor
  · rcases Nat.eq_zero_or_pos lo with h0 | h0
    · omega
    · obtain ⟨k, h1, h2, h3⟩ := rank_hit (plan := plan) plan.length (r := lo - 1) (by omega)
      rcases get k h2 with rfl | ⟨q, _⟩
      · have := hmv h2; omega
      · rcases q with q | q
        · omega
        · have := (c.iff k h2).1 (deps_listed hdeps hc i (by
            rcases Nat.lt_or_ge i ops.length with q1 | q1
            · exact q1
            · exfalso
              have : deps.getD i [] ≠ [] := by intro e; rw [e] at q; cases q
              omega) hw k q)
          omega
  · rcases Nat.lt_or_ge hi (rankOf plan plan.length) with h0 | h0
    · obtain ⟨k, h1, h2, h3⟩ := rank_hit plan.length h0
      rcases Nat.lt_or_ge hi j with q | q
      · exfalso
        have hl := (c.iff k h2).2 (by omega)
        rcases get k h2 with rfl | ⟨_, q2⟩
        · rw [hun] at hl; cases hl
        · rcases q2 with q2 | q2
          · omega
          · have hkl : k < ops.length := by omega
            have := deps_listed hdeps hc k hkl (fun m hm => by
              obtain ⟨oj, q1, e', q3, q4, q5⟩ := Region.waitsFor_spec hm
              have := hc k oj (by simpa using q1) hl e' q3 q4
              rwa [q5] at this) i q2
            rw [hun] at this; cases this
      · exact q
    · have := c.le; omega

theorem put_undef {a : Act} {C : Ctx} {o : Oper} {i : Nat} {e : CE} (h : a.tmps.size = C.nt.nt) (hC : C.nt = nt) (hd : e.d = dOf nt i o) (hlt : okd' nt o) : (a.put o.dst undef).tmps.getD e.d undef = undef := by
  rw [hd]
  unfold dOf
  cases ho : o.dst with
  | some d =>
    simp only [Option.getD_some, Act.put, Array.getD_eq_getD_getElem?, Array.getElem?_setIfInBounds]
    simp only [if_true]
    split <;> rfl
  | none =>
    simp only [Option.getD_none, Act.put, Array.getD_eq_getD_getElem?]
    rw [Array.getElem?_eq_none (by rw [h, hC]; omega)]
    rfl

theorem vop_mv_congr {sl sl' : List (Nat × V)} {ob : List Ob} {op : Op} (hq : mvOp op = true) (hn : ∀ f args ts, op ≠ .call ⟨.value f, args, ts⟩) (h : ∀ t ∈ usesOp op, getS sl t = getS sl' t) : vop T sl ob op = vop T sl' ob op := by
  unfold mvOp at hq
  split at hq
  · simp only [usesOp, List.mem_append] at h
    simp only [vop, evV_congr (x := _) fun t ht => h t (.inl ht), evV_congr (x := _) fun t ht => h t (.inr ht)]
  · rfl
  · simp only [vop, evV_congr (x := _) h]
  · rename_i t n parts
    have e : (parts.toList.map fun q => (q.1, evV sl q.2)) = parts.toList.map fun q => (q.1, evV sl' q.2) := List.map_congr_left fun q hq => by
      rw [evV_congr fun t ht => h t (List.mem_flatMap.2 ⟨q, hq, ht⟩)]
    simp only [vop, e]
  · simp only [usesOp, List.mem_append] at h
    simp only [vop, evV_congr (x := _) fun t ht => h t (.inl ht), evV_congr (x := _) fun t ht => h t (.inr ht)]
  · rename_i args ts
    have e := evVs_congr (sl := sl) (sl' := sl') (xs := args.toList) h
    simp only [vop]
    match args.toList, e, ts.toList with
    | [x, y], e, [t, t2] => simp only [List.map, List.cons.injEq] at e; simp only [vopCall, e.1, e.2.1]
    | [], _, _ => simp [vopCall]
    | [_], _, _ => simp [vopCall]
    | _ :: _ :: _ :: _, _, _ => simp [vopCall]
    | [_, _], _, [] => simp [vopCall]
    | [_, _], _, [_] => simp [vopCall]
    | [_, _], _, _ :: _ :: _ :: _ => simp [vopCall]
  · rename_i args ts
    have e := evVs_congr (sl := sl) (sl' := sl') (xs := args.toList) h
    simp only [vop]
    match args.toList, e, ts.toList with
    | [x, y], e, [t, t2] => simp only [List.map, List.cons.injEq] at e; simp only [vopCall, e.1, e.2.1]
    | [], _, _ => simp [vopCall]
    | [_], _, _ => simp [vopCall]
    | _ :: _ :: _ :: _, _, _ => simp [vopCall]
    | [_, _], _, [] => simp [vopCall]
    | [_, _], _, [_] => simp [vopCall]
    | [_, _], _, _ :: _ :: _ :: _ => simp [vopCall]
  · rename_i args ts
    have e := evVs_congr (sl := sl) (sl' := sl') (xs := args.toList) h
    simp only [vop]
    match args.toList, e, ts.toList with
    | [x, y], e, [t, t2] => simp only [List.map, List.cons.injEq] at e; simp only [vopCall, e.1, e.2.1]
    | [], _, _ => simp [vopCall]
    | [_], _, _ => simp [vopCall]
    | _ :: _ :: _ :: _, _, _ => simp [vopCall]
    | [_, _], _, [] => simp [vopCall]
    | [_, _], _, [_] => simp [vopCall]
    | [_, _], _, _ :: _ :: _ :: _ => simp [vopCall]
  · rename_i t r
    cases r <;> rfl
  · simp only [usesOp, List.mem_append] at h
    simp only [vop, evV_congr (x := _) fun t ht => h t (.inl ht), evV_congr (x := _) fun t ht => h t (.inr ht)]
  · rename_i t m k y
    simp only [usesOp, List.mem_append] at h
    simp only [vop, evV_congr (x := m) fun t ht => h t (.inl ht), evV_congr (x := k) fun t ht => h t (.inr (.inl ht)), evV_congr (x := y) fun t ht => h t (.inr (.inr ht))]
  · simp only [vop, evV_congr (x := _) h]
  · simp only [vop, evV_congr (x := _) h]
  · exact absurd rfl (hn _ _ _)
  · cases hq

theorem storm_any (hT : TabOK P T) (hok : stormOK nt ops plan deps = true) (hlen : es.length = ops.length) (hobs : obs.length = rankOf plan plan.length + 1)
    (hgood : ∀ (i : Nat) (o : Oper) (pl : Pl) (e : CE), ops[i]? = some o → plan[i]? = some pl → es[i]? = some e → GoodS P T nt obs sl0 (es.take i) o pl (rankOf plan i) i e) {C : Ctx} (hC : C.nt = nt) {Qx : Exit → Act → World → Prop}
    (hq : ∀ Φ H a w ob, obs[rankOf plan plan.length]? = some ob → SimE C Φ H ⟨finC es es sl0, ob⟩ a w → Qx .normal a w) :
    ∀ (fuel : Nat) (todo : List Nat) (listed : Array Bool) (sl : List (Nat × V)) (a : Act) (w : World) Φ H (j : Nat) (ob : List Ob), todo.length ≤ fuel → (∀ i, i < ops.length → listed.getD i false = false → i ∈ todo) → CInv ops es sl0 listed sl a → CntInv plan listed j → obs[j]? = some ob → SimE C Φ H ⟨sl, ob⟩ a w →
      wpAny P .any ops.toArray Qx fuel listed a w := by
  obtain ⟨hdeps, hplen, hsok⟩ := storm_of hok
  have hpl : ∀ i o, ops[i]? = some o → ∃ pl, plan[i]? = some pl := fun i o h => ⟨_, List.getElem?_eq_getElem (by have := (List.getElem?_eq_some_iff.1 h).1; omega)⟩
  have hgd : ∀ (i : Nat) (o : Oper) (e : CE), ops[i]? = some o → es[i]? = some e → e.d = dOf nt i o ∧ chainOf (es.take i) o = some e.c ∧ okd' nt o := fun i o e h1 h2 => by
    obtain ⟨pl, h3⟩ := hpl i o h1
    have := hgood i o pl e h1 h3 h2
    exact ⟨this.d, this.ch, this.okd⟩
  have hat : ∀ {i k : Nat} {o o' : Oper} {t : Nat}, ops[i]? = some o → ops[k]? = some o' → o'.dst = some t →
      (k = i ∨ o.dst ≠ some t) ∧ (t ∈ usesG ops o → (k < i → Region.waitsFor .any ops.toArray i k = true) ∧ (i < k → Region.waitsFor .any ops.toArray k i = true)) := fun {i k o o' t} h1 h2 h3 => by
    obtain ⟨pl, h4⟩ := hpl i o h1
    exact (hsok i o pl h1 h4).slot k o' t h2 h3
  have hreal : ∀ (i : Nat) (o : Oper) (e : CE), ops[i]? = some o → es[i]? = some e → e.d < nt.nt → o.dst = some e.d := fun i o e h1 h2 h3 => by
    have := (hgd i o e h1 h2).1
    unfold dOf at this
    cases hd : o.dst with
    | some d => rw [hd] at this; rw [this]; rfl
    | none => rw [hd] at this; simp only [Option.getD_none] at this; omega
  have hdst : ∀ (j : Nat) (oj : Oper) (e : CE), ops[j]? = some oj → es[j]? = some e → ∀ b, e.x = .bool b → oj.dst = some e.d := fun j oj e h1 h2 b hb => by
    obtain ⟨pl, h3⟩ := hpl j oj h1
    obtain ⟨g1, g2, g3, g4⟩ := hgood j oj pl e h1 h3 h2
    have hs : oj.dst.isSome = true := by
      cases pl with
      | off =>
        have hx := g4.2
        rw [hb] at hx
        unfold xOf at hx
        split at hx
        · assumption
        · cases hx
      | pure => exact g4.1
      | lit => exact g4.1
      | win lo hi => exact g4.1
      | mv =>
        obtain ⟨_, _, _, _, q⟩ := g4
        split at q
        · obtain ⟨x, hx, _⟩ := q
          rw [hb] at hx
          unfold xOf at hx
          split at hx
          · assumption
          · cases hx
        · rw [q.1] at hb; cases hb
    obtain ⟨d, hd⟩ := Option.isSome_iff_exists.1 hs
    rw [g1, hd]; simp [dOf, hd]
  have hes : ∀ i o, ops[i]? = some o → ∃ e, es[i]? = some e := fun i o h => ⟨_, List.getElem?_eq_getElem (by have := (List.getElem?_eq_some_iff.1 h).1; omega)⟩
  have hop : ∀ i e, es[i]? = some e → ∃ o, ops[i]? = some o := fun i o h => ⟨_, List.getElem?_eq_getElem (by have := (List.getElem?_eq_some_iff.1 h).1; omega)⟩
  have huniq : ∀ (i k : Nat) (e e' : CE), es[i]? = some e → es[k]? = some e' → e'.d = e.d → k = i := by
    intro i k e e' h1 h2 hd
    obtain ⟨o, ho⟩ := hop i e h1
    obtain ⟨o', ho'⟩ := hop k e' h2
    have k1 := (hgd i o e ho h1).1
    have k2 := (hgd k o' e' ho' h2).1
    have k3 := (hgd k o' e' ho' h2).2.2
    have k4 := (hgd i o e ho h1).2.2
    cases hd1 : o.dst with
    | none =>
      cases hd2 : o'.dst with
      | none => simp only [dOf, hd1, hd2, Option.getD_none] at k1 k2; omega
      | some t2 =>
        simp only [dOf, hd1, hd2, Option.getD_none, Option.getD_some] at k1 k2
        have k5 : @LT.lt Nat _ t2 nt.nt := by simpa [okd', hd2] using k3
        omega
    | some t1 =>
      cases hd2 : o'.dst with
      | none =>
        simp only [dOf, hd1, hd2, Option.getD_none, Option.getD_some] at k1 k2
        have k5 : @LT.lt Nat _ t1 nt.nt := by simpa [okd', hd1] using k4
        omega
      | some t2 =>
        simp only [dOf, hd1, hd2, Option.getD_some] at k1 k2
        rcases (hat ho ho' hd2).1 with q | q
        · exact q
        · exact absurd (by rw [hd1, ← k1, ← hd, k2]) q
  have hchain := chain_lt hlen fun i o e h1 h2 => (hgd i o e h1 h2).2.1
  have hfinal : ∀ (listed : Array Bool) (sl : List (Nat × V)) (a : Act) (w : World) Φ H (j : Nat) (ob : List Ob), (∀ i, i < ops.length → listed.getD i false = true) → CInv ops es sl0 listed sl a → CntInv plan listed j → obs[j]? = some ob → SimE C Φ H ⟨sl, ob⟩ a w → Qx .normal a w := by
    intro listed sl a w Φ H j ob hall inv cnt hob s
    have hj := cnt.all (fun i hi => hall i (by omega)) (by have := (List.getElem?_eq_some_iff.1 hob).1; omega)
    subst hj
    refine hq Φ H a w ob hob (s.slotsOf rfl rfl fun t => ?_)
    have e : getS (finC es es sl0) t = getS sl t := by
      by_cases ht : ∃ e ∈ es, e.d = t
      · obtain ⟨e, he, rfl⟩ := ht
        obtain ⟨k, hk⟩ := List.getElem?_of_mem he
        rw [getS_finC_hit hk fun j e' h1 h2 => huniq k j e e' hk h1 h2, (inv.hit k e hk (hall k (by rw [← hlen]; exact (List.getElem?_eq_some_iff.1 hk).1))).1]
      · rw [getS_finC_miss fun e he hd => ht ⟨e, he, hd⟩, inv.miss t fun i e he hd => absurd ⟨e, List.mem_of_getElem? he, hd⟩ ht]
    rw [e]
    exact s.slots t
  intro fuel
  induction fuel with
  | zero =>
    intro todo listed sl a w Φ H cn ob hf htodo inv cnt hob s
    have hall : ∀ i, i < ops.length → listed.getD i false = true := fun i hi => by
      cases hl : listed.getD i false with
      | true => rfl
      | false =>
        have := htodo i hi hl
        have : todo = [] := List.length_eq_zero_iff.1 (by omega)
        simp_all
    refine ⟨?_, hfinal listed sl a w Φ H cn ob hall inv cnt hob s⟩
    cases hr : Region.ready .any ops.toArray listed with
    | nil => rfl
    | cons i r =>
      exfalso
      have hm : i ∈ Region.ready .any ops.toArray listed := by rw [hr]; simp
      obtain ⟨h1, o, h2, _⟩ := mem_ready.1 hm
      have hi : i < ops.length := by
        have := (Array.getElem?_eq_some_iff.1 h2).1; simpa using this
      have := hall i hi
      have hi' : i < listed.size := by rw [inv.size]; exact hi
      simp [hi'] at h1 this
      rw [h1] at this; cases this
  | succ fuel ih =>
    intro todo listed sl a w Φ H cn ob hf htodo inv cnt hob s
    refine ⟨fun hr => hfinal listed sl a w Φ H cn ob (all_listed' (fun i o h => let ⟨pl, h2⟩ := hpl i o h; (hsok i o pl h h2).edge) inv.size hr) inv cnt hob s, fun i hi => ?_⟩
    obtain ⟨hun, o, ho, hafter⟩ := mem_ready.1 hi
    have ho' : ops[i]? = some o := by simpa using ho
    have hilt : i < ops.length := (List.getElem?_eq_some_iff.1 ho').1
    have hisz : i < listed.size := by rw [inv.size]; exact hilt
    have hunF : listed.getD i false = false := by simp [hisz] at hun ⊢; exact hun
    obtain ⟨e, he⟩ := hes i o ho'
    obtain ⟨pl, hpli⟩ := hpl i o ho'
    obtain ⟨hd, hch, hlt, hrun⟩ := hgood i o pl e ho' hpli he
    have hS := hsok i o pl ho' hpli
    have hwaits : ∀ k, Region.waitsFor .any ops.toArray i k = true → listed.getD k false = true := by
      intro k hk
      obtain ⟨oj, h1, e', h2, h3, h4⟩ := Region.waitsFor_spec hk
      rw [ho] at h1; obtain rfl := Option.some.inj h1
      rw [← h4]; exact hafter e' h2 h3
    have hnot : ∀ k, Region.waitsFor .any ops.toArray k i = true → listed.getD k false = false := by
      intro k hk
      cases hl : listed.getD k false with
      | false => rfl
      | true =>
        obtain ⟨oj, h1, e', h2, h3, h4⟩ := Region.waitsFor_spec hk
        have := inv.closed k oj (by simpa using h1) hl e' h2 h3
        rw [h4, hunF] at this; cases this
    -- what its operands hold
    have hread : eOf es e.c = true → ∀ t ∈ usesG ops o, getS (atC (es.take i) e.c sl0 (es.take i)) t = getS sl t := by
      intro hee t ht
      by_cases hx : ∃ (k : Nat) (e' : CE), es[k]? = some e' ∧ e'.d = t
      · obtain ⟨k, e', hk, rfl⟩ := hx
        obtain ⟨ok, hok'⟩ := hop k e' hk
        have hw := (hat ho' hok' (hreal k ok e' hok' hk (hS.uses _ ht))).2 ht
        rcases Nat.lt_trichotomy k i with hki | hki | hki
        · have hl := hwaits k (hw.1 hki)
          rw [(inv.hit k e' hk hl).1]
          have hk' : (es.take i)[k]? = some e' := by rw [List.getElem?_take, if_pos hki]; exact hk
          rw [getS_atC_hit hk' fun j e2 h1 h2 => huniq k j e' e2 hk (by rw [List.getElem?_take] at h1; split at h1; exact h1; cases h1) h2]
          have hst : eOf (es.take i) e'.c = eOf es e'.c := eOf_take fun s hs => Nat.lt_trans (hchain k e' hk s hs) hki
          split
          · rename_i hsub
            have := eOf_sub (m := es) hsub hee
            rw [this]; rfl
          · rw [hst]
        · subst hki
          rw [hk] at he; obtain rfl := Option.some.inj he
          rw [inv.miss _ fun j e2 h1 h2 => by rw [huniq k j e' e2 hk h1 h2]; exact hunF]
          refine getS_atC_miss fun e2 he2 hd2 => ?_
          obtain ⟨j, hj⟩ := List.getElem?_of_mem he2
          rw [List.getElem?_take] at hj
          split at hj
          case isFalse => cases hj
          rename_i hjk
          have := huniq k j e' e2 hk hj hd2
          omega
        · have hl := hnot k (hw.2 hki)
          rw [inv.miss _ fun j e2 h1 h2 => by rw [huniq k j e' e2 hk h1 h2]; exact hl]
          refine getS_atC_miss fun e2 he2 hd2 => ?_
          obtain ⟨j, hj⟩ := List.getElem?_of_mem he2
          rw [List.getElem?_take] at hj
          split at hj
          case isFalse => cases hj
          rename_i hjk
          have := huniq k j e' e2 hk hj hd2
          omega
      · rw [inv.miss t fun k e' hk hd => absurd ⟨k, e', hk, hd⟩ hx]
        refine getS_atC_miss fun e2 he2 hd2 => ?_
        obtain ⟨j, hj⟩ := List.getElem?_of_mem he2
        rw [List.getElem?_take] at hj
        split at hj
        case isFalse => cases hj
        exact hx ⟨j, e2, hj, hd2⟩
    -- is it wanted?
    have hwant : Region.wanted o (yielded ops.toArray a.tmps) = eOf es e.c := by
      unfold chainOf at hch
      split at hch
      · rename_i hg
        simp only [Option.some.injEq] at hch
        rw [← hch]
        simp [Region.wanted, hg, eOf]
      · rename_i j w' hg
        split at hch
        case h_2 => cases hch
        rename_i dj b cj hj
        simp only [Option.some.injEq] at hch
        rw [List.getElem?_take] at hj
        split at hj
        case isFalse => cases hj
        rename_i hji
        obtain ⟨oj, hoj⟩ := hop j _ hj
        have hdj0 := (hgd j oj _ hoj hj)
        have hdj : oj.dst = some dj := hdst j oj _ hoj hj _ rfl
        have huse : dj ∈ usesG ops o := by
          unfold usesG
          rw [hg]
          simp [hoj, hdj]
        have hl := hwaits j (((hat ho' hoj hdj).2 huse).1 hji)
        obtain ⟨i1, i2⟩ := inv.hit j _ hj hl
        have hde : (ops.toArray[j]?).bind (·.dst) = some dj := by simpa [hoj] using hdj
        have hts : tstC es (j, w') = (b == w') := by simp [tstC, hj]
        have hE : eOf es e.c = ((b == w') && eOf es cj) := by
          rw [← hch]; simp only [eOf, List.all_cons, hts]
        rw [hE]
        cases hcj : eOf es cj with
        | false =>
          have hu := i2 hcj
          have : yielded ops.toArray a.tmps j = none := by
            unfold yielded
            rw [hde, Option.bind_some]
            have hu' : a.tmps.getD dj undef = undef := hu
            rw [Array.getD_eq_getD_getElem?] at hu'
            cases hq3 : a.tmps[dj]? with
            | none => rfl
            | some v =>
              rw [hq3] at hu'
              simp only [Option.getD_some] at hu'
              rw [hu']
              rfl
          simp [Region.wanted, hg, this]
        | true =>
          have i1' : getS sl dj = .bool b := by rw [i1]; simp only [hcj]; rfl
          have hb := s.boolAt i1'
          have : yielded ops.toArray a.tmps j = some b := by
            unfold yielded
            rw [hde, Option.bind_some, hb]
          simp [Region.wanted, hg, this]
    have hset : ∀ j d, i ≠ j → (listed.setIfInBounds i true).getD j d = listed.getD j d := fun j d h => getD_set_ne d h
    have hsett : (listed.setIfInBounds i true).getD i false = true := by simp [hisz]
    have htd : ∀ j, j < ops.length → (listed.setIfInBounds i true).getD j false = false → j ∈ todo.erase i := by
      intro j hj hl
      have hne : i ≠ j := fun q => by subst q; rw [hsett] at hl; cases hl
      rw [hset j false hne] at hl
      exact (List.mem_erase_of_ne (Ne.symm hne)).2 (htodo j hj hl)
    have hlen2 : (todo.erase i).length ≤ fuel := by
      rw [List.length_erase_of_mem (htodo i hilt hunF)]; omega
    -- how things stand behind it
    have hnext : ∀ (a' : Act) (x : V) (v : Value), a' = a.put o.dst v → x = gt (eOf es e.c) true e.x → (eOf es e.c = false → v = undef) → CInv ops es sl0 (listed.setIfInBounds i true) (setS sl e.d x) a' := by
      intro a' x v ha hx hv
      refine ⟨by simp [inv.size], fun j oj hoj hl e' he' hb => ?_, fun j e' hj hl => ?_, fun t ht => ?_⟩
      · by_cases hij : i = j
        · subst hij
          rw [ho'] at hoj; obtain rfl := Option.some.inj hoj
          exact getD_set_true (hafter e' he' hb)
        · rw [hset j false hij] at hl
          exact getD_set_true (inv.closed j oj hoj hl e' he' hb)
      · by_cases hij : i = j
        · subst hij
          rw [he] at hj; obtain rfl := Option.some.inj hj
          refine ⟨by rw [getS_setS, if_pos rfl, hx], fun hf => ?_⟩
          rw [ha, hv hf]
          exact put_undef s.nt hC hd hlt
        · rw [hset j false hij] at hl
          have hne : e.d ≠ e'.d := fun q => hij (huniq j i e' e hj he q)
          obtain ⟨k1, k2⟩ := inv.hit j e' hj hl
          refine ⟨by rw [getS_setS, if_neg hne, k1], fun hf => ?_⟩
          rw [ha, put_other (by rw [hd] at hne; unfold dOf at hne; intro q; rw [q] at hne; exact hne rfl)]
          exact k2 hf
      · have hne : e.d ≠ t := fun q => by
          have := ht i e he q
          rw [hsett] at this; cases this
        rw [getS_setS, if_neg hne]
        refine inv.miss t fun j e' hj hd' => ?_
        have hij : i ≠ j := fun q => by subst q; rw [he] at hj; obtain rfl := Option.some.inj hj; exact hne hd'
        have := ht j e' hj hd'
        rwa [hset j false hij] at this
    have hnm : isMv pl = false → CntInv plan (listed.setIfInBounds i true) cn := fun q => ⟨cnt.le, fun k hk => by
      have hne : i ≠ k := fun e => by subst e; rw [hpli] at hk; obtain rfl := Option.some.inj hk; simp [isMv] at q
      rw [hset k false hne]; exact cnt.iff k hk⟩
    have hym : pl = .mv → cn = rankOf plan i ∧ CntInv plan (listed.setIfInBounds i true) (cn + 1) := fun q => by
      subst q
      have hb := between_cnt hplen hdeps hS.kind.2 hilt cnt inv.closed hwaits hunF (Nat.le_of_lt (rank_lt hpli)) fun _ => rfl
      have hr : cn = rankOf plan i := by omega
      refine ⟨hr, ⟨by have := rank_lt hpli; omega, fun k hk => ?_⟩⟩
      by_cases hik : i = k
      · subst hik; rw [hsett]; simp; omega
      · rw [hset k false hik, cnt.iff k hk]
        have := rank_inj hpli hk
        constructor
        · intro h; omega
        · intro h
          rcases Nat.lt_or_ge (rankOf plan k) cn with h' | h'
          · exact h'
          · exact absurd (this (by omega)) hik
    have hlt' : ∀ dd, o.dst = some dd → dd < C.nt.nt := fun dd h => by rw [hC]; unfold okd' at hlt; rw [h] at hlt; exact hlt
    have hput : ∀ {Φ' H' w' ob'} (s' : SimE C Φ' H' ⟨sl, ob'⟩ a w') {x : V} {v : Value}, VRep (mkE Φ' H' ob' w') x v → SimE C Φ' H' ⟨setS sl e.d (xOf o x), ob'⟩ (a.put o.dst v) w' := by
      intro Φ' H' w' ob' s' x v hx
      cases hdd : o.dst with
      | some dd =>
        have := s'.put (d := some dd) hx fun i' e1 => hlt' i' (by rw [hdd]; exact e1)
        rw [hd]
        simpa [dOf, hdd, xOf, putD] using this
      | none =>
        rw [hd]
        simp only [dOf, hdd, Option.getD_none, xOf, Option.isSome_none, Bool.false_eq_true, if_false]
        exact s'.slotsOf rfl rfl fun t => by
          rw [getS_setS]
          split
          · trivial
          · exact s'.slots t
    have hjunk : ∀ {Φ' H' w' ob'} (s' : SimE C Φ' H' ⟨sl, ob'⟩ a w'), SimE C Φ' H' ⟨setS sl e.d .junk, ob'⟩ (a.put o.dst undef) w' := by
      intro Φ' H' w' ob' s'
      have := hput s' (x := .junk) (v := undef) trivial
      have e1 : xOf o .junk = .junk := by unfold xOf; split <;> rfl
      rwa [e1] at this
    unfold wpOp
    rw [ho]
    simp only
    rw [hwant]
    have hstab : eOf (es.take i) e.c = eOf es e.c := eOf_take fun s hs => hchain i e he s hs
    cases hee : eOf es e.c with
    | false =>
      simp only [Bool.false_eq_true, if_false]
      have hx0 := hnext (a.put o.dst undef) .junk undef rfl (by rw [hee]; rfl) fun _ => rfl
      cases pl with
      | mv =>
        obtain ⟨obr, obr', q1, q2, q3⟩ := hrun
        obtain ⟨hr, hcnt'⟩ := hym rfl
        rw [hstab, hee] at q3
        simp only [Bool.false_eq_true, if_false] at q3
        obtain ⟨_, rfl⟩ := q3
        rw [← hr] at q1 q2
        obtain rfl : ob = obr' := Option.some.inj (hob.symm.trans q1)
        exact ih _ _ _ _ _ Φ H (cn + 1) ob hlen2 htd hx0 hcnt' q2 (hjunk s)
      | pure => exact ih _ _ _ _ _ Φ H cn ob hlen2 htd hx0 (hnm rfl) hob (hjunk s)
      | lit => exact ih _ _ _ _ _ Φ H cn ob hlen2 htd hx0 (hnm rfl) hob (hjunk s)
      | off => exact ih _ _ _ _ _ Φ H cn ob hlen2 htd hx0 (hnm rfl) hob (hjunk s)
      | win lo hi => exact ih _ _ _ _ _ Φ H cn ob hlen2 htd hx0 (hnm rfl) hob (hjunk s)
    | true =>
      simp only [if_true]
      refine .inl ?_
      have hreads := hread hee
      have quiet : ∀ (p : Prop) (ob' : List Ob), quietR o.op e.x = true → vop T (atC (es.take i) e.c sl0 (es.take i)) ob o.op = some (p, e.x, ob') → p → o.dst.isSome = true → isMv pl = false →
          o.wp P a w (fun a' w' => wpAny P .any ops.toArray Qx fuel (listed.setIfInBounds i true) a' w') Qx := by
        intro p ob' hqr hv hp hds hmv
        have hve : vop T sl ob o.op = some (p, e.x, ob') := by
          rw [← hv]
          exact (vop_congr (quietR_or hqr) fun t ht => hreads t (by unfold usesG; exact List.mem_append.2 (.inl ht))).symm
        obtain ⟨_, v, hr, hx⟩ := vop_quiet (P := P) (sl := sl) (ob := ob) hT s hqr hve hp
        have hx1 : xOf o e.x = e.x := by unfold xOf; rw [if_pos hds]
        have := hput s hx
        rw [hx1] at this
        unfold Oper.wp
        rw [hr]
        exact ih _ _ _ _ _ Φ H cn ob hlen2 htd (hnext _ e.x v rfl (by rw [hee]; rfl) fun h => by rw [hee] at h; cases h) (hnm hmv) hob this
      cases pl with
      | pure =>
        obtain ⟨hds, ob2, p, ob', hv, hqr, hp⟩ := hrun
        exact quiet p ob hqr (vop_pure hS.kind hv) (hp (by rw [hstab]; exact hee)) hds rfl
      | off =>
        rw [hstab, hee] at hrun
        cases hrun.1
      | lit =>
        obtain ⟨hds, p, hv, hp⟩ := hrun
        have hve : vlit T sl o.op = some (p, e.x) := by
          rw [← hv]
          exact (vlit_congr fun t ht => hreads t (by unfold usesG; exact List.mem_append.2 (.inl ht))).symm
        obtain ⟨v, w', Φ', H', hr, hst, hx⟩ := vlit_sound (P := P) (sl := sl) (ob := ob) hT s (o := o) hve (hp (by rw [hstab]; exact hee))
        have hx1 : xOf o e.x = e.x := by unfold xOf; rw [if_pos hds]
        have s2 := hput (s.step hst) hx
        rw [hx1] at s2
        unfold Oper.wp
        rcases hr with hr | ⟨hr, rfl⟩
        · rw [hr]
          exact ih _ _ _ _ _ Φ' H' cn ob hlen2 htd (hnext _ e.x v rfl (by rw [hee]; rfl) fun h => by rw [hee] at h; cases h) (hnm rfl) hob s2
        · rw [hr]
          exact ih _ _ _ _ _ Φ' H' cn ob hlen2 htd (hnext _ e.x undef rfl (by rw [hee]; rfl) fun h => rfl) (hnm rfl) hob s2
      | win lo hi =>
        obtain ⟨hds, hqr, hw⟩ := hrun
        have hb := between_cnt hplen hdeps hS.kind.2 hilt cnt inv.closed hwaits hunF hS.kind.1 fun h => by rw [hpli] at h; cases h
        obtain ⟨p, ob', hv, hp⟩ := hw cn ob hb.1 hb.2 hob
        exact quiet p ob' hqr hv (hp (by rw [hstab]; exact hee)) hds rfl
      | mv =>
        obtain ⟨obr, ob1, q1, q2, q3⟩ := hrun
        obtain ⟨hr, hcnt'⟩ := hym rfl
        rw [hstab, hee] at q3
        simp only [if_true] at q3
        rw [← hr] at q1 q2
        obtain rfl : ob = obr := Option.some.inj (hob.symm.trans q1)
        obtain ⟨x, hex, hrun'⟩ := q3
        rcases hrun' with ⟨f, args, ts, k, caps, hop', hf, hcall⟩ | ⟨p, hnc, hv, hp⟩
        · have hr2 : ∀ t ∈ tm f ++ args.toList.flatMap tm, getS (atC (es.take i) e.c sl0 (es.take i)) t = getS sl t := fun t ht => hreads t (by unfold usesG; rw [hop']; exact List.mem_append.2 (.inl ht))
          have hfe : evV sl f = .fn k caps := by
            rw [← hf]; exact (evV_congr fun t ht => hr2 t (List.mem_append.2 (.inl ht))).symm
          have hae := evVs_congr (xs := args.toList) fun t ht => hr2 t (List.mem_append.2 (.inr ht))
          obtain ⟨hent, hc⟩ := hcall sl
          rw [hae] at hc
          obtain ⟨dst, op, ty, pos, aft, gd⟩ := o
          simp only at hop' hd
          subst hop'
          have hfv := s.eval f
          rw [hfe] at hfv
          obtain ⟨cv, _, e1, e2⟩ := hfv
          have hr := callee_run (P := P) (w := w) (args := args) (ts := ts) (ty := ty) (dst := dst) (pos := pos) (aft := aft) (gd := gd) hent e1
          unfold Oper.wp
          rw [hr]
          have hargs : VReps .any (mkE Φ H ob w) (args.toList.map (evV sl) ++ caps) (args.map a.eval ++ cv).toList := by
            simp only [Array.toList_append, Array.toList_map]
            exact (evals_rep' (sl := sl) (ob := ob) s args.toList).append e2
          refine (hc C hC Φ H a w s _ hargs).mono fun en w' q => ?_
          cases en with
          | returned v =>
            obtain ⟨Φ', H', ob', r, q1', q2', rfl, rfl⟩ := q
            exact ih _ _ _ _ _ Φ' H' (cn + 1) _ hlen2 htd (hnext _ e.x v rfl (by rw [hee]; rfl) fun h => by rw [hee] at h; cases h) hcnt' q2 (by rw [hex]; exact hput q1' q2')
          | panicked c => exact q.elim
          | outgrown => exact q.elim
        · obtain ⟨v, w', Φ', H', hr, hst, hx⟩ := vop_sound (P := P) (sl := sl) (ob := ob) hT s (o := o) (by rw [← vop_mv_congr hS.kind.1 hnc fun t ht => hreads t (by unfold usesG; exact List.mem_append.2 (.inl ht))]; exact hv) hp
          have s2 := hput (s.step hst) hx
          rw [← hex] at s2
          unfold Oper.wp
          rcases hr with hr | ⟨hr, rfl⟩
          · rw [hr]
            exact ih _ _ _ _ _ Φ' H' (cn + 1) _ hlen2 htd (hnext _ e.x v rfl (by rw [hee]; rfl) fun h => by rw [hee] at h; cases h) hcnt' q2 s2
          · rw [hr]
            exact ih _ _ _ _ _ Φ' H' (cn + 1) _ hlen2 htd (hnext _ e.x undef rfl (by rw [hee]; rfl) fun h => rfl) hcnt' q2 s2

/-- A region whose order is drawn. -/
theorem vwp_storm (hT : TabOK P T) (hm : P.follows .mixedOrders = true) (plan : List Pl) (deps : List (List Nat)) {id : Nat} {ob : List Ob} {Q : X → St → Prop} (hok : stormOK nt ops plan deps = true)
    (h : vstorm P T nt sl0 ops plan 0 (fun m obs ob' => chkAll T sl0 obs ops plan [] m ∧ Q .norm ⟨finC m m sl0, ob'⟩) [] [ob] ob) (hd : nt.rd = true → ops.all nd = true := by first | (intro h; cases h; done) | (intro _; simp [nd])) : vwp P nt (.region id ops.toArray true) Q ⟨sl0, ob⟩ := by
  intro C hC Φ H a w s
  obtain ⟨es, obs', ob', h1, h2, h3, h4, h5, ⟨h6, h6'⟩, h7⟩ := vstorm_good plan ops plan 0 [] [ob] ob h rfl rfl (by simp [rankOf]) (by simp [rankOf])
  simp only [List.nil_append, Nat.zero_add] at h3 h4 h6 h6' h7
  have hplen := (storm_of hok).2.1
  rw [← hplen] at h3 h4
  have h0 : obs'[0]? = some ob := by simpa using h5 0 (by simp)
  refine gw_region_any hm (fun ⟨_, _, h⟩ => h) hd ?_
  refine storm_any hT hok h1 h3 (fun i o pl e q1 q2 q3 => by simpa using h7 h6 i o pl e q1 q2 q3) hC (fun Φ' H' a' w' ob2 hob s' => ⟨Φ', H', _, s', by rw [h4] at hob; obtain rfl := Option.some.inj hob; exact h6'⟩) _ (List.range ops.length) _ sl0 a _ Φ H 0 ob (by simp) (fun i hi _ => by simpa using hi) ⟨by simp, fun j oj _ hl => ?_, fun i e _ hl => ?_, fun t _ => rfl⟩ ⟨Nat.zero_le _, fun k hk => ?_⟩ h0 s.draw
  · rw [getD_replicate_false] at hl; cases hl
  · rw [getD_replicate_false] at hl; cases hl
  · rw [getD_replicate_false]; simp
end
end Go.VX

/- The walk's own rewriting. -/
namespace Go.VX
open Go.RowKit
attribute [simp] vclear vcap vslice3 vsl3 vbinE vnilS veqV veqFs vpart vnext vlookup vput vdel vmapKey keyT vrange ventry vstormB vlit okd' dOf xOf chkAll chkW chk1 vcalmB vrunS vstepS quietOp quietR tstC eOf subC atC chainOf finC vmark V.noId byteQ vgo vgrp skips gslot dsts gateS vop evV getS setS putD vconst vconst1 okd thenQ inBlk vbin vbinI vbinS vun vopCall vlen vmin vmax vconv rdS rdV rdX vfieldAddr vindexAddr vindex vslice vadd vpartN vnil
  vbuild vfill structPlaces vappend vappendC vappendZ vcopy intOfV TK.isAgg V.known V.cells V.one V.flat0 V.notTup argSlots retV

section
variable {P : Program} {T : Nat → Option TI} {nt : Sh} {ops rest : List Oper} {Q K : St → Prop} {sl : List (Nat × V)} {ob : List Ob} {d : Option Nat} {o : Oper}
@[simp] theorem vcont_junk  : vcont K sl d .junk ob = K ⟨putD sl d .junk, ob⟩ := rfl
@[simp] theorem vcont_bool (b : Bool) : vcont K sl d (.bool b) ob = K ⟨putD sl d (.bool b), ob⟩ := rfl
@[simp] theorem vcont_int (k : IntKind) (n : Int) : vcont K sl d (.int k n) ob = K ⟨putD sl d (.int k n), ob⟩ := rfl
@[simp] theorem vcont_str (s : ByteArray) : vcont K sl d (.str s) ob = K ⟨putD sl d (.str s), ob⟩ := rfl
@[simp] theorem vcont_agg (cs : List V) : vcont K sl d (.agg cs) ob = K ⟨putD sl d (.agg cs), ob⟩ := rfl
@[simp] theorem vcont_tup (cs : List V) : vcont K sl d (.tup cs) ob = K ⟨putD sl d (.tup cs), ob⟩ := rfl
@[simp] theorem vcont_nilp  : vcont K sl d .nilp ob = K ⟨putD sl d .nilp, ob⟩ := rfl
@[simp] theorem vcont_nils  : vcont K sl d .nils ob = K ⟨putD sl d .nils, ob⟩ := rfl
@[simp] theorem vcont_nilf  : vcont K sl d .nilf ob = K ⟨putD sl d .nilf, ob⟩ := rfl
@[simp] theorem vcont_nilm  : vcont K sl d .nilm ob = K ⟨putD sl d .nilm, ob⟩ := rfl
@[simp] theorem vcont_ifc (t : Nat) (v : Value) : vcont K sl d (.ifc t v) ob = K ⟨putD sl d (.ifc t v), ob⟩ := rfl
@[simp] theorem vcont_nili  : vcont K sl d .nili ob = K ⟨putD sl d .nili, ob⟩ := rfl
@[simp] theorem vcont_fp (cs : List V) : vcont K sl d (.fp cs) ob = K ⟨putD sl d (.fp cs), ob⟩ := rfl
@[simp] theorem vcont_fs (n : Nat) (cs : List V) : vcont K sl d (.fs n cs) ob = K ⟨putD sl d (.fs n cs), ob⟩ := rfl
@[simp] theorem vcont_ptr (id tot off : Nat) : vcont K sl d (.ptr id tot off) ob = K ⟨putD sl d (.ptr id tot off), ob⟩ := rfl
@[simp] theorem vcont_sl (id tot esz off n : Nat) : vcont K sl d (.sl id tot esz off n) ob = K ⟨putD sl d (.sl id tot esz off n), ob⟩ := rfl
@[simp] theorem vcont_fn (f : FuncId) (cs : List V) : vcont K sl d (.fn f cs) ob = K ⟨putD sl d (.fn f cs), ob⟩ := rfl
@[simp] theorem vcont_mp (id : Nat) : vcont K sl d (.mp id) ob = K ⟨putD sl d (.mp id), ob⟩ := rfl
@[simp] theorem vcont_yld (id : Nat) : vcont K sl d (.yld id) ob = K ⟨putD sl d (.yld id), ob⟩ := rfl
@[simp] theorem vrun_nil {k : Nat} : vrun P T nt ops k [] Q ⟨sl, ob⟩ = Q ⟨sl, ob⟩ := by simp only [vrun]
@[simp] theorem vrun_succ {k : Nat} : vrun P T nt ops (k + 1) (o :: rest) Q ⟨sl, ob⟩ = vrun P T nt ops k rest Q ⟨sl, ob⟩ := by simp only [vrun]
@[simp] theorem vrun_cons : vrun P T nt ops 0 (o :: rest) Q ⟨sl, ob⟩ = match o.guard with
    | none => vstep P T nt o ⟨sl, ob⟩ (vrun P T nt ops 0 rest Q)
    | some g => match gslot ops g with
      | some s => match getS sl s.1 with
        | .bool b => match vgrp T nt ops ⟨sl, ob⟩ s (o :: rest) with
          | some (p, sl', n) => p ∧ vrun P T nt ops n rest Q ⟨sl', ob⟩
          | none => if b = s.2 then vstep P T nt o ⟨setS sl s.1 (.bool s.2), ob⟩ (vrun P T nt ops 0 rest Q)
              else okd nt o.dst ∧ vrun P T nt ops 0 rest Q ⟨putD (setS sl s.1 (.bool (!s.2))) o.dst .junk, ob⟩
        | _ => False
      | none => False := by first | (rw [vrun.eq_3]; done) | (rw [vrun.eq_3]; rfl)
@[simp] theorem vstep_mk : vstep P T nt o ⟨sl, ob⟩ K = match o.op with
  | .call ⟨.value f, args, _⟩ => match evV sl f with
    | .fn k caps => okd nt o.dst ∧ vcall P nt ⟨sl, ob⟩ k (args.toList.map (evV sl) ++ caps) (vcont K sl o.dst)
    | _ => False
  | .next x false => vnext nt o.dst ⟨sl, ob⟩ (evV sl x) K
  | op => match vop T sl ob op with
    | some (p, x, ob') => p ∧ okd nt o.dst ∧ K ⟨putD sl o.dst x, ob'⟩
    | none => False := rfl
end
section
variable {P : Program} {T : Nat → Option TI} {nt : Sh} {ob : List Ob} {sl0 : List (Nat × V)} {rest : List Oper} {o : Oper} {Q : List CE → Prop} {m : List CE} {e : CE}
@[simp] theorem vcalm_nil_nil : vcalm P T nt ob sl0 [] Q [] = Q [] := rfl
@[simp] theorem vcalm_nil_cons : vcalm P T nt ob sl0 [] Q (e :: m) = Q (e :: m) := rfl
@[simp] theorem vcalm_cons_nil : vcalm P T nt ob sl0 (o :: rest) Q [] = vcalmB P T nt ob sl0 o [] (vcalm P T nt ob sl0 rest Q) := rfl
@[simp] theorem vcalm_cons_cons : vcalm P T nt ob sl0 (o :: rest) Q (e :: m) = vcalmB P T nt ob sl0 o (e :: m) (vcalm P T nt ob sl0 rest Q) := rfl
end

section
variable {P : Program} {T : Nat → Option TI} {nt : Sh} {ob ob' : List Ob} {obs : List (List Ob)} {sl0 : List (Nat × V)} {rest : List Oper} {plan : List Pl} {pl : Pl} {o : Oper} {i : Nat} {Q G : List CE → List (List Ob) → List Ob → Prop} {m : List CE} {e : CE} {d : Nat} {ch : Ch}
@[simp] theorem kept2_junk  : shut2 G m obs d ch o .junk ob' = G (m ++ [⟨d, xOf o .junk, ch⟩]) (obs ++ [ob']) ob' := rfl
@[simp] theorem kept2_bool (b : Bool) : shut2 G m obs d ch o (.bool b) ob' = G (m ++ [⟨d, xOf o (.bool b), ch⟩]) (obs ++ [ob']) ob' := rfl
@[simp] theorem kept2_int (k : IntKind) (n : Int) : shut2 G m obs d ch o (.int k n) ob' = G (m ++ [⟨d, xOf o (.int k n), ch⟩]) (obs ++ [ob']) ob' := rfl
@[simp] theorem kept2_str (s : ByteArray) : shut2 G m obs d ch o (.str s) ob' = G (m ++ [⟨d, xOf o (.str s), ch⟩]) (obs ++ [ob']) ob' := rfl
@[simp] theorem kept2_agg (cs : List V) : shut2 G m obs d ch o (.agg cs) ob' = G (m ++ [⟨d, xOf o (.agg cs), ch⟩]) (obs ++ [ob']) ob' := rfl
@[simp] theorem kept2_tup (cs : List V) : shut2 G m obs d ch o (.tup cs) ob' = G (m ++ [⟨d, xOf o (.tup cs), ch⟩]) (obs ++ [ob']) ob' := rfl
@[simp] theorem kept2_nilp  : shut2 G m obs d ch o .nilp ob' = G (m ++ [⟨d, xOf o .nilp, ch⟩]) (obs ++ [ob']) ob' := rfl
@[simp] theorem kept2_nils  : shut2 G m obs d ch o .nils ob' = G (m ++ [⟨d, xOf o .nils, ch⟩]) (obs ++ [ob']) ob' := rfl
@[simp] theorem kept2_nilf  : shut2 G m obs d ch o .nilf ob' = G (m ++ [⟨d, xOf o .nilf, ch⟩]) (obs ++ [ob']) ob' := rfl
@[simp] theorem kept2_nilm  : shut2 G m obs d ch o .nilm ob' = G (m ++ [⟨d, xOf o .nilm, ch⟩]) (obs ++ [ob']) ob' := rfl
@[simp] theorem kept2_ifc (t : Nat) (v : Value) : shut2 G m obs d ch o (.ifc t v) ob' = G (m ++ [⟨d, xOf o (.ifc t v), ch⟩]) (obs ++ [ob']) ob' := rfl
@[simp] theorem kept2_nili  : shut2 G m obs d ch o .nili ob' = G (m ++ [⟨d, xOf o .nili, ch⟩]) (obs ++ [ob']) ob' := rfl
@[simp] theorem kept2_fp (cs : List V) : shut2 G m obs d ch o (.fp cs) ob' = G (m ++ [⟨d, xOf o (.fp cs), ch⟩]) (obs ++ [ob']) ob' := rfl
@[simp] theorem kept2_fs (n : Nat) (cs : List V) : shut2 G m obs d ch o (.fs n cs) ob' = G (m ++ [⟨d, xOf o (.fs n cs), ch⟩]) (obs ++ [ob']) ob' := rfl
@[simp] theorem kept2_ptr (id tot off : Nat) : shut2 G m obs d ch o (.ptr id tot off) ob' = G (m ++ [⟨d, xOf o (.ptr id tot off), ch⟩]) (obs ++ [ob']) ob' := rfl
@[simp] theorem kept2_sl (id tot esz off n : Nat) : shut2 G m obs d ch o (.sl id tot esz off n) ob' = G (m ++ [⟨d, xOf o (.sl id tot esz off n), ch⟩]) (obs ++ [ob']) ob' := rfl
@[simp] theorem kept2_fn (f : FuncId) (cs : List V) : shut2 G m obs d ch o (.fn f cs) ob' = G (m ++ [⟨d, xOf o (.fn f cs), ch⟩]) (obs ++ [ob']) ob' := rfl
@[simp] theorem kept2_yld (id : Nat) : shut2 G m obs d ch o (.yld id) ob' = G (m ++ [⟨d, xOf o (.yld id), ch⟩]) (obs ++ [ob']) ob' := rfl
@[simp] theorem kept2_mp (id : Nat) : shut2 G m obs d ch o (.mp id) ob' = G (m ++ [⟨d, xOf o (.mp id), ch⟩]) (obs ++ [ob']) ob' := rfl
@[simp] theorem vstorm_nil_nil : vstorm P T nt sl0 [] [] i Q [] obs ob = Q [] obs ob := rfl
@[simp] theorem vstorm_nil_cons : vstorm P T nt sl0 [] [] i Q (e :: m) obs ob = Q (e :: m) obs ob := rfl
@[simp] theorem vstorm_cons_nil : vstorm P T nt sl0 (o :: rest) (pl :: plan) i Q [] obs ob = vstormB P T nt sl0 o pl i [] obs ob (vstorm P T nt sl0 rest plan (i + 1) Q) := rfl
@[simp] theorem vstorm_cons_cons : vstorm P T nt sl0 (o :: rest) (pl :: plan) i Q (e :: m) obs ob = vstormB P T nt sl0 o pl i (e :: m) obs ob (vstorm P T nt sl0 rest plan (i + 1) Q) := rfl
theorem vsub_lt {l h : Int} {x : V} (q : l < h) : vsub l h x = x := if_pos q
@[simp] theorem vsub_add {l c : Int} {x : V} (q : 0 < c) : vsub l (l + c) x = x := if_pos (by omega)
theorem vsub_ge {l h : Int} {x : V} (q : ¬ l < h) : vsub l h x = .fs 0 [] := if_neg q
theorem vsub_eq {l : Int} {x : V} : vsub l l x = .fs 0 [] := if_neg (by omega)
end
/-- A slot's value, picked by a test. -/
@[simp] theorem ite_bool (c : Prop) [Decidable c] (x y : Bool) : (if c then V.bool x else V.bool y) = V.bool (if c then x else y) := by split <;> rfl

section
variable (G : List CE → Prop) (m : List CE) (d : Nat) (ch : Ch)
@[simp] theorem kept_bool (b : Bool) : shut G m d ch (.bool b) = G (m ++ [⟨d, .bool b, ch⟩]) := rfl
@[simp] theorem kept_int (k : IntKind) (b : Int) : shut G m d ch (.int k b) = G (m ++ [⟨d, .int k b, ch⟩]) := rfl
@[simp] theorem kept_str (b : ByteArray) : shut G m d ch (.str b) = G (m ++ [⟨d, .str b, ch⟩]) := rfl
@[simp] theorem kept_agg (b : List V) : shut G m d ch (.agg b) = G (m ++ [⟨d, .agg b, ch⟩]) := rfl
@[simp] theorem kept_tup (b : List V) : shut G m d ch (.tup b) = G (m ++ [⟨d, .tup b, ch⟩]) := rfl
@[simp] theorem kept_fs (n : Nat) (b : List V) : shut G m d ch (.fs n b) = G (m ++ [⟨d, .fs n b, ch⟩]) := rfl
@[simp] theorem kept_nils : shut G m d ch .nils = G (m ++ [⟨d, .nils, ch⟩]) := rfl
@[simp] theorem kept_nilp : shut G m d ch .nilp = G (m ++ [⟨d, .nilp, ch⟩]) := rfl
@[simp] theorem kept_ptr (a b c : Nat) : shut G m d ch (.ptr a b c) = G (m ++ [⟨d, .ptr a b c, ch⟩]) := rfl
@[simp] theorem kept_sl (a b c e f : Nat) : shut G m d ch (.sl a b c e f) = G (m ++ [⟨d, .sl a b c e f, ch⟩]) := rfl
end

@[simp] theorem vpick_true (x y : V) : vpick true x y = x := rfl
@[simp] theorem vpick_false (x y : V) : vpick false x y = y := rfl
@[simp] theorem vpick_bool (c a b : Bool) : vpick c (.bool a) (.bool b) = .bool (if c = true then a else b) := by unfold vpick; split <;> rfl
@[simp] theorem vpick_or (c a b : Bool) : vpick c (.bool a) (gt c false (.bool b)) = .bool (if c = true then a else b) := by cases c <;> rfl
@[simp] theorem vpick_and (c a b : Bool) : vpick c (gt c true (.bool a)) (.bool b) = .bool (if c = true then a else b) := by cases c <;> rfl
@[simp] theorem gt_same (c : Bool) (x : V) : gt c c x = x := by simp [gt]
@[simp] theorem gt_tf (x : V) : gt true false x = .junk := rfl
@[simp] theorem gt_ft (x : V) : gt false true x = .junk := rfl

@[simp] theorem zerosV_one (z : V) (n : Nat) : zerosV [z] n = List.replicate n z := rfl
@[simp] theorem zerosV_rep (z : V) (m n : Nat) : zerosV (List.replicate m z) n = List.replicate (n * m) z := by rw [zerosV_eq]; simp

theorem w64 {x : Int} (h1 : -9223372036854775808 ≤ x) (h2 : x ≤ 9223372036854775807) : IntKind.i64.wrap x = x := by
  rw [IntKind.wrap_i64]; omega
theorem wu8 {x : Int} (h1 : 0 ≤ x) (h2 : x ≤ 255) : IntKind.u8.wrap x = x := by
  simp [IntKind.wrap, IntKind.bits, IntKind.signed]; omega

@[simp] theorem getD_drop {α : Type} (l : List α) (i n : Nat) (d : α) : (l.drop i).getD n d = l.getD (i + n) d := by
  simp [List.getD_eq_getElem?_getD]
end Go.VX

/- Calls and returns, put so that rewriting settles what they ask. -/
namespace Go.VX
open Go.RowKit
set_option linter.unusedVariables false

/-- Objects as they are handed over, one by one. -/
def hand (ob : List Ob) (f : Nat → Nat) : List Nat → List Ob → Prop
  | [], [] => True
  | i :: ρ, o :: os => ob[i]? = some (rnO f o) ∧ hand ob f ρ os
  | _, _ => False
theorem hand_get {ob : List Ob} {f : Nat → Nat} : ∀ {ρ : List Nat} {objs : List Ob}, hand ob f ρ objs → objs.length = ρ.length ∧ ∀ (j i : Nat) (o : Ob), ρ[j]? = some i → objs[j]? = some o → ob[i]? = some (rnO f o)
  | [], [], _ => ⟨rfl, fun j i o h => by simp at h⟩
  | i :: ρ, o :: os, h => by
    obtain ⟨h1, h2⟩ := h
    obtain ⟨g1, g2⟩ := hand_get h2
    refine ⟨by simp [g1], fun j i' o' e1 e2 => ?_⟩
    cases j with
    | zero => simp at e1 e2; subst e1; subst e2; exact h1
    | succ j => simp at e1 e2; exact g2 j i' o' e1 e2
  | [], _ :: _, h => h.elim
  | _ :: _, [], h => h.elim
theorem handed_of {ob : List Ob} {ρ : List Nat} {objs : List Ob} (h1 : ρ.Nodup) (h : hand ob (fOf ρ ob.length) ρ objs) : handed ob ρ objs := ⟨h1, (hand_get h).1, (hand_get h).2⟩

def allOK (p : V → Prop) : List V → Prop
  | [] => True
  | c :: cs => p c ∧ allOK p cs
theorem allOK_mem {p : V → Prop} : ∀ {cs : List V}, allOK p cs → ∀ c ∈ cs, p c
  | [], _, c, h => by simp at h
  | d :: cs, ⟨h1, h2⟩, c, h => by
    rcases List.mem_cons.1 h with rfl | h
    · exact h1
    · exact allOK_mem h2 c h

/-- A call by its contract. -/
theorem vcall_by {P : Program} {nt : Sh} {st : St} {k : Nat} {args : List V} {K : V → List Ob → Prop} (ρ : List Nat) (bo : Bool) {args' : List V} {objs : List Ob} {Q : V → List Ob → Prop}
    (hv : VC P k args' objs Q) (hn : ρ.Nodup) (hh : hand st.ob (fOf ρ st.ob.length) ρ objs) (ha : args.map (vwA st.ob ρ bo) = args') (hok : allOK (vwAOK st.ob ρ bo) args)
    (hK : ∀ r ob', Q r ob' → (bo = true → r.nofz = true ∧ ∀ o ∈ ob', o.nofz = true) ∧ K (rnV (fOf ρ st.ob.length) r) (back st.ob ρ ob')) : vcall P nt st k args K :=
  vcall_of_VC ρ bo hv ha (allOK_mem hok) (handed_of hn hh) hK
/-- .. that takes nothing of the caller's for frozen. -/
theorem vcall_by0 {P : Program} {nt : Sh} {st : St} {k : Nat} {args : List V} {K : V → List Ob → Prop} (ρ : List Nat) {args' : List V} {objs : List Ob} {Q : V → List Ob → Prop}
    (hv : VC P k args' objs Q) (hn : ρ.Nodup) (hh : hand st.ob (fOf ρ st.ob.length) ρ objs) (ha : args.map (vwA st.ob ρ false) = args') (hok : allOK (vwAOK st.ob ρ false) args)
    (hK : ∀ r ob', Q r ob' → K (rnV (fOf ρ st.ob.length) r) (back st.ob ρ ob')) : vcall P nt st k args K :=
  vcall_of_VC ρ false hv ha (allOK_mem hok) (handed_of hn hh) fun r ob' q => ⟨fun e => (by cases e), hK r ob' q⟩

/-- Slots that are kept. -/
def keepS (ob : List Ob) (ks : List Nat) (sl : List (Nat × V)) (ts : List Nat) : List (Nat × V) := ts.map fun t => (t, vwA ob ks false (getS sl t))
theorem getS_keepS (ob : List Ob) (ks : List Nat) (sl : List (Nat × V)) : ∀ (ts : List Nat) (i : Nat), getS (keepS ob ks sl ts) i = .junk ∨ (i ∈ ts ∧ getS (keepS ob ks sl ts) i = vwA ob ks false (getS sl i))
  | [], i => .inl rfl
  | t :: ts, i => by
    have e : keepS ob ks sl (t :: ts) = (t, vwA ob ks false (getS sl t)) :: keepS ob ks sl ts := rfl
    rw [e]
    simp only [getS]
    by_cases h : t = i
    · subst h; rw [if_pos rfl]; exact .inr ⟨by simp, rfl⟩
    · rw [if_neg h]
      rcases getS_keepS ob ks sl ts i with q | ⟨q1, q2⟩
      · exact .inl q
      · exact .inr ⟨by simp [q1], q2⟩

def slotsOK (p : V → Prop) (sl : List (Nat × V)) : List Nat → Prop
  | [] => True
  | t :: ts => p (getS sl t) ∧ slotsOK p sl ts
theorem slotsOK_mem {p : V → Prop} {sl : List (Nat × V)} : ∀ {ts : List Nat}, slotsOK p sl ts → ∀ t ∈ ts, p (getS sl t)
  | [], _, t, h => by simp at h
  | d :: cs, ⟨h1, h2⟩, c, h => by
    rcases List.mem_cons.1 h with rfl | h
    · exact h1
    · exact slotsOK_mem h2 c h

abbrev pre (n : Nat) (ks : List Nat) : Prop := ks.take n = List.range n

/-- Only some slots and some objects, under new numbers. -/
theorem Gh.only {nt : Sh} {sl : List (Nat × V)} {ob : List Ob} (ts : List Nat) (ks : List Nat) (objs : List Ob) (hn : ks.Nodup) (hh : hand ob (fOf ks ob.length) ks objs) (hk : pre nt.k0 ks)
    (hs : slotsOK (vwAOK ob ks false) sl ts) : Gh nt ⟨sl, ob⟩ ⟨keepS ob ks sl ts, objs⟩ := by
  have hl : nt.k0 ≤ ks.length := by
    have := congrArg List.length hk
    simp at this
    omega
  refine Gh.keep ks (handed_of hn hh) hl (fun i hi => ?_) fun i => ?_
  · have h : ks.take nt.k0 = List.range nt.k0 := hk
    have : (ks.take nt.k0)[i]? = some i := by rw [h]; simp [hi]
    rw [List.getElem?_take, if_pos hi] at this
    exact this
  · rcases getS_keepS ob ks sl ts i with q | ⟨q1, q2⟩
    · exact .inl q
    · exact .inr ⟨q2, slotsOK_mem hs i q1⟩

/-- .. told how they stand. -/
theorem Gh.to {nt : Sh} {sl : List (Nat × V)} {ob : List Ob} (ts : List Nat) (ks : List Nat) (sl' : List (Nat × V)) (objs : List Ob) (hn : ks.Nodup) (hh : hand ob (fOf ks ob.length) ks objs) (hk : pre nt.k0 ks)
    (hs : slotsOK (vwAOK ob ks false) sl ts) (he : keepS ob ks sl ts = sl') : Gh nt ⟨sl, ob⟩ ⟨sl', objs⟩ := by
  subst he; exact Gh.only ts ks objs hn hh hk hs

/-- The slots that are still wanted. -/
@[simp] def inN (i : Nat) : List Nat → Bool
  | [] => false
  | j :: r => i == j || inN i r
@[simp] def pruneS (ts : List Nat) : List (Nat × V) → List (Nat × V)
  | [] => []
  | (i, x) :: r => if inN i ts = true then (i, x) :: pruneS ts r else pruneS ts r
theorem getS_pruneS (ts : List Nat) (i : Nat) : ∀ sl : List (Nat × V), getS (pruneS ts sl) i = getS sl i ∨ getS (pruneS ts sl) i = .junk
  | [] => .inl rfl
  | (j, x) :: r => by
    have ih := getS_pruneS ts i r
    simp only [pruneS]
    split
    · simp only [getS]
      split
      · exact .inl rfl
      · exact ih
    · rename_i hj
      by_cases h : j = i
      · subst h
        refine .inr ?_
        clear ih
        induction r with
        | nil => rfl
        | cons p r ihr =>
          obtain ⟨k, y⟩ := p
          simp only [pruneS]
          split
          · simp only [getS]
            split
            · rename_i h1 h2
              subst h2
              exact absurd h1 hj
            · exact ihr
          · exact ihr
      · simp only [getS, if_neg h]
        exact ih
theorem vwp_live {P : Program} {nt : Sh} {c : Code} {Q : X → St → Prop} {sl : List (Nat × V)} {ob : List Ob} (ts : List Nat) (h : vwp P nt c Q ⟨pruneS ts sl, ob⟩) : vwp P nt c Q ⟨sl, ob⟩ :=
  vwp_gh (Gh.less fun i => getS_pruneS ts i sl) h

/-- The first piece of a sequence, with those slots that are still read; what comes behind is kept out of sight. -/
theorem vwp_sq {P : Program} {nt : Sh} {Q : X → St → Prop} {sl : List (Nat × V)} {ob : List Ob} {x y : Code} (ts : List Nat) (h : ∀ K : St → Prop, (∀ st, vwp P nt y Q st → K st) → vwp P nt x (thenQ K Q) ⟨pruneS ts sl, ob⟩) : vwp P nt (.seq x y) Q ⟨sl, ob⟩ :=
  vwp_live ts (vwp_seq_k h)
/-- A sequence through a middle; what comes behind is kept out of sight. -/
theorem vwp_cut_k {P : Program} {nt : Sh} {Q : X → St → Prop} {st : St} {x y : Code} (M : St → Prop) (h : ∀ K : St → Prop, (∀ st, M st → K st) → vwp P nt x (thenQ K Q) st) (k : ∀ st, M st → vwp P nt y Q st) : vwp P nt (.seq x y) Q st :=
  vwp_cut M (h M fun _ h => h) k
theorem vwp_loop_k {P : Program} {nt : Sh} {Q : X → St → Prop} {st : St} {c : Code} (I : Nat → St → Prop) (n : Nat) (h0 : I n st)
    (round : ∀ n st, I n st → ∀ K : St → Prop, (∀ st', (∃ st2, Gh nt st' st2 ∧ ∃ m, m < n ∧ I m st2) → K st') → vwp P nt c (thenQ K Q) st) : vwp P nt (.loop c) Q st :=
  vwp_loop_gh I n h0 fun n st hI => round n st hI _ fun _ h => h
theorem VC_of_vwp_k {P : Program} {k : Nat} {fn : Func} {c : Code} {args : List V} {ob : List Ob} {Q : V → List Ob → Prop} (he : Ent P k) (hf : P.funcs[k]? = some fn) (hb : fn.body = some c) (hn : args.length ≤ fn.ntmps)
    (h : ∀ R : X → St → Prop, (∀ x st, (∃ st', Gh ⟨fn.ntmps, ob.length, false⟩ st st' ∧ retQ fn Q x st') → R x st) → vwp P ⟨fn.ntmps, ob.length, false⟩ c R ⟨argSlots 0 args, ob⟩) : VC P k args ob Q :=
  VC_of_vwp' he hf hb hn (h _ fun _ _ h => h)

/-- What is less known of what is handed over. -/
theorem VC.weak {P : Program} {k : Nat} {args args' : List V} {ob : List Ob} {Q : V → List Ob → Prop} (hv : VC P k args' ob Q) (h : ∀ (E : Env) (vals : List Value), VReps .any E args vals → VReps .any E args' vals) : VC P k args ob Q :=
  ⟨hv.1, fun Φ H w vals hs hx => hv.2 Φ H w vals hs (h _ _ hx)⟩
theorem VRep.nil_fs {E : Env} {v : Value} (h : VRep E .nils v) : VRep E (.fs 0 []) v :=
  ⟨none, 0, [], h, Nat.le_refl _, by simp [VReps], fun q => absurd q (by simp)⟩

/-- A return, behind which only what is asked for is left. -/
theorem ret_only {nt : Sh} {fn : Func} {Q : V → List Ob → Prop} {sl : List (Nat × V)} {ob : List Ob} (ts : List Nat) (ks : List Nat) (objs : List Ob) (hn : ks.Nodup) (hh : hand ob (fOf ks ob.length) ks objs) (hk : pre nt.k0 ks)
    (hs : slotsOK (vwAOK ob ks false) sl ts) {r : V} (hr : retV (keepS ob ks sl ts) fn.results.toList = some r) (hq : Q r objs) : ∃ st', Gh nt ⟨sl, ob⟩ st' ∧ retQ fn Q .ret st' :=
  ⟨_, Gh.only ts ks objs hn hh hk hs, r, hr, hq⟩
theorem norm_only {nt : Sh} {fn : Func} {Q : V → List Ob → Prop} {sl : List (Nat × V)} {ob : List Ob} (ts : List Nat) (ks : List Nat) (objs : List Ob) (hn : ks.Nodup) (hh : hand ob (fOf ks ob.length) ks objs) (hk : pre nt.k0 ks)
    (hs : slotsOK (vwAOK ob ks false) sl ts) {r : V} (hr : retV (keepS ob ks sl ts) fn.results.toList = some r) (hq : Q r objs) : ∃ st', Gh nt ⟨sl, ob⟩ st' ∧ retQ fn Q .norm st' :=
  ⟨_, Gh.only ts ks objs hn hh hk hs, r, hr, hq⟩

@[simp] theorem rnO_live (f : Nat → Nat) (cs : List V) : rnO f (.live cs) = .live (cs.map (rn1 f)) := rfl
@[simp] theorem rnO_frz (f : Nat → Nat) (cs : List V) : rnO f (.frz cs) = .frz cs := rfl
@[simp] theorem rnO_dead (f : Nat → Nat) : rnO f .dead = .dead := rfl
@[simp] theorem rnO_loop (f : Nat → Nat) (st : LoopState) (pd : Option Code) (n : Nat) (ks : List Nat) (vs : List V) (ps : Array Tmp) (as bd : Code) : rnO f (.loop st pd n ks vs ps as bd) = .loop st pd n ks (vs.map (rnV f)) ps as bd := rfl
@[simp] theorem rnO_iter (f : Nat → Nat) (m : V) (s : Nat) (sn : List Nat) (l : Nat) : rnO f (.iter m s sn l) = .iter (rn0 f m) s sn l := rfl
theorem rnO_map {α : Type} (f : Nat → Nat) (g : α → V × V) (h : ∀ a, (rnA f (g a).1, rnA f (g a).2) = g a) (l : List α) (bs : List Nat) (ck : Nat) : rnO f (.map (l.map g) bs ck) = .map (l.map g) bs ck := by
  simp only [rnO, List.map_map]
  congr 1
  exact List.map_congr_left fun a _ => h a
@[simp] theorem rnO_map_nil (f : Nat → Nat) (bs : List Nat) (ck : Nat) : rnO f (.map [] bs ck) = .map [] bs ck := rfl
attribute [simp] hand allOK slotsOK keepS fOf back setAll rnV rnA rn1 rn0 vwA vw1 vw0 vwAOK vw1OK vw0OK V.nofz V.nofzA V.nofz1 V.nofz0 Ob.nofz

@[simp] theorem spl_succ (a : V) (l : List V) (n : Nat) (ys : List V) : spl (a :: l) (n + 1) ys = a :: spl l n ys := by
  match ys with
  | [] => simp [spl]
  | [x] => simp [spl]
  | x :: y :: ys =>
    have e : n + 1 + (x :: y :: ys).length = (n + (x :: y :: ys).length) + 1 := by omega
    simp only [spl, e]
    simp
@[simp] theorem spl_one (a : V) (l : List V) (x : V) : spl (a :: l) 0 [x] = x :: l := rfl
@[simp] theorem spl_more (a b : V) (l : List V) (x y : V) (ys : List V) : spl (a :: b :: l) 0 (x :: y :: ys) = x :: spl (b :: l) 0 (y :: ys) := by
  cases ys <;> simp [spl]

/-- A part of a row of numbers, written anew. -/
def splI (l : List Int) (o : Nat) (m : List Int) : List Int := l.take o ++ m ++ l.drop (o + m.length)
theorem splI_length {l : List Int} {o : Nat} {m : List Int} (h : o + m.length ≤ l.length) : (splI l o m).length = l.length := by
  simp [splI]; omega
theorem spl_int (k : IntKind) {l : List Int} {o : Nat} {m : List Int} (h : o + m.length ≤ l.length) : spl (l.map (V.int k)) o (m.map (V.int k)) = (splI l o m).map (V.int k) := by
  rw [spl_eq (by simpa using h)]
  simp [splI, List.map_take, List.map_drop]

@[simp] theorem rn1_int (f : Nat → Nat) (k : IntKind) : rn1 f ∘ V.int k = V.int k := rfl
@[simp] theorem rn1_str (f : Nat → Nat) : rn1 f ∘ V.str = V.str := rfl
@[simp] theorem rn1_bool (f : Nat → Nat) : rn1 f ∘ V.bool = V.bool := rfl
@[simp] theorem idx_nil (a : Nat) : List.idxOf? a [] = none := rfl
@[simp] theorem idx_cons (a b : Nat) (l : List Nat) : List.idxOf? a (b :: l) = if b = a then some 0 else (List.idxOf? a l).map (· + 1) := by
  simp only [List.idxOf?, List.findIdx?_cons, beq_iff_eq]
end Go.VX
