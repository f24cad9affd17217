/- Calls and returns, put so that rewriting settles what they ask. -/
import Derived.Test.YthjpaongoflgiaaVXSimp
namespace Go.VX
open Go.RowKit
set_option linter.unusedVariables false

/-- Objects as they are handed over, one by one. -/
def hand (ob : List Ob) (f : Nat → Nat) : List Nat → List Ob → Prop
  | [], [] => True
  | i :: ρ, o :: os => ob[i]? = some (rnO f o) ∧ hand ob f ρ os
  | _, _ => False
theorem hand_get {ob : List Ob} {f : Nat → Nat} : ∀ {ρ : List Nat} {objs : List Ob}, hand ob f ρ objs → objs.length = ρ.length ∧ ∀ (j i : Nat) (o : Ob), ρ[j]? = some i → objs[j]? = some o → ob[i]? = some (rnO f o)
  | [], [], _ => ⟨rfl, fun j i o h => by simp at h⟩
  | i :: ρ, o :: os, h => by
    obtain ⟨h1, h2⟩ := h
    obtain ⟨g1, g2⟩ := hand_get h2
    refine ⟨by simp [g1], fun j i' o' e1 e2 => ?_⟩
    cases j with
    | zero => simp at e1 e2; subst e1; subst e2; exact h1
    | succ j => simp at e1 e2; exact g2 j i' o' e1 e2
  | [], _ :: _, h => h.elim
  | _ :: _, [], h => h.elim
theorem handed_of {ob : List Ob} {ρ : List Nat} {objs : List Ob} (h1 : ρ.Nodup) (h : hand ob (fOf ρ ob.length) ρ objs) : handed ob ρ objs := ⟨h1, (hand_get h).1, (hand_get h).2⟩

def allOK (p : V → Prop) : List V → Prop
  | [] => True
  | c :: cs => p c ∧ allOK p cs
theorem allOK_mem {p : V → Prop} : ∀ {cs : List V}, allOK p cs → ∀ c ∈ cs, p c
  | [], _, c, h => by simp at h
  | d :: cs, ⟨h1, h2⟩, c, h => by
    rcases List.mem_cons.1 h with rfl | h
    · exact h1
    · exact allOK_mem h2 c h

/-- A call by its contract. -/
theorem vcall_by {P : Program} {nt : Sh} {st : St} {k : Nat} {args : List V} {K : V → List Ob → Prop} (ρ : List Nat) (bo : Bool) {args' : List V} {objs : List Ob} {Q : V → List Ob → Prop}
    (hv : VC P k args' objs Q) (hn : ρ.Nodup) (hh : hand st.ob (fOf ρ st.ob.length) ρ objs) (ha : args.map (vwA st.ob ρ bo) = args') (hok : allOK (vwAOK st.ob ρ bo) args)
    (hK : ∀ r ob', Q r ob' → (bo = true → r.nofz = true ∧ ∀ o ∈ ob', o.nofz = true) ∧ K (rnV (fOf ρ st.ob.length) r) (back st.ob ρ ob')) : vcall P nt st k args K :=
  vcall_of_VC ρ bo hv ha (allOK_mem hok) (handed_of hn hh) hK
/-- .. that takes nothing of the caller's for frozen. -/
theorem vcall_by0 {P : Program} {nt : Sh} {st : St} {k : Nat} {args : List V} {K : V → List Ob → Prop} (ρ : List Nat) {args' : List V} {objs : List Ob} {Q : V → List Ob → Prop}
    (hv : VC P k args' objs Q) (hn : ρ.Nodup) (hh : hand st.ob (fOf ρ st.ob.length) ρ objs) (ha : args.map (vwA st.ob ρ false) = args') (hok : allOK (vwAOK st.ob ρ false) args)
    (hK : ∀ r ob', Q r ob' → K (rnV (fOf ρ st.ob.length) r) (back st.ob ρ ob')) : vcall P nt st k args K :=
  vcall_of_VC ρ false hv ha (allOK_mem hok) (handed_of hn hh) fun r ob' q => ⟨fun e => (by cases e), hK r ob' q⟩

/-- Slots that are kept. -/
def keepS (ob : List Ob) (ks : List Nat) (sl : List (Nat × V)) (ts : List Nat) : List (Nat × V) := ts.map fun t => (t, vwA ob ks false (getS sl t))
theorem getS_keepS (ob : List Ob) (ks : List Nat) (sl : List (Nat × V)) : ∀ (ts : List Nat) (i : Nat), getS (keepS ob ks sl ts) i = .junk ∨ (i ∈ ts ∧ getS (keepS ob ks sl ts) i = vwA ob ks false (getS sl i))
  | [], i => .inl rfl
  | t :: ts, i => by
    have e : keepS ob ks sl (t :: ts) = (t, vwA ob ks false (getS sl t)) :: keepS ob ks sl ts := rfl
    rw [e]
    simp only [getS]
    by_cases h : t = i
    · subst h; rw [if_pos rfl]; exact .inr ⟨by simp, rfl⟩
    · rw [if_neg h]
      rcases getS_keepS ob ks sl ts i with q | ⟨q1, q2⟩
      · exact .inl q
      · exact .inr ⟨by simp [q1], q2⟩

def slotsOK (p : V → Prop) (sl : List (Nat × V)) : List Nat → Prop
  | [] => True
  | t :: ts => p (getS sl t) ∧ slotsOK p sl ts
theorem slotsOK_mem {p : V → Prop} {sl : List (Nat × V)} : ∀ {ts : List Nat}, slotsOK p sl ts → ∀ t ∈ ts, p (getS sl t)
  | [], _, t, h => by simp at h
  | d :: cs, ⟨h1, h2⟩, c, h => by
    rcases List.mem_cons.1 h with rfl | h
    · exact h1
    · exact slotsOK_mem h2 c h

abbrev pre (n : Nat) (ks : List Nat) : Prop := ks.take n = List.range n

/-- Only some slots and some objects, under new numbers. -/
theorem Gh.only {nt : Sh} {sl : List (Nat × V)} {ob : List Ob} (ts : List Nat) (ks : List Nat) (objs : List Ob) (hn : ks.Nodup) (hh : hand ob (fOf ks ob.length) ks objs) (hk : pre nt.k0 ks)
    (hs : slotsOK (vwAOK ob ks false) sl ts) : Gh nt ⟨sl, ob⟩ ⟨keepS ob ks sl ts, objs⟩ := by
  have hl : nt.k0 ≤ ks.length := by
    have := congrArg List.length hk
    simp at this
    omega
  refine Gh.keep ks (handed_of hn hh) hl (fun i hi => ?_) fun i => ?_
  · have h : ks.take nt.k0 = List.range nt.k0 := hk
    have : (ks.take nt.k0)[i]? = some i := by rw [h]; simp [hi]
    rw [List.getElem?_take, if_pos hi] at this
    exact this
  · rcases getS_keepS ob ks sl ts i with q | ⟨q1, q2⟩
    · exact .inl q
    · exact .inr ⟨q2, slotsOK_mem hs i q1⟩

/-- .. told how they stand. -/
theorem Gh.to {nt : Sh} {sl : List (Nat × V)} {ob : List Ob} (ts : List Nat) (ks : List Nat) (sl' : List (Nat × V)) (objs : List Ob) (hn : ks.Nodup) (hh : hand ob (fOf ks ob.length) ks objs) (hk : pre nt.k0 ks)
    (hs : slotsOK (vwAOK ob ks false) sl ts) (he : keepS ob ks sl ts = sl') : Gh nt ⟨sl, ob⟩ ⟨sl', objs⟩ := by
  subst he; exact Gh.only ts ks objs hn hh hk hs

/-- The slots that are still wanted. -/
@[simp] def inN (i : Nat) : List Nat → Bool
  | [] => false
  | j :: r => i == j || inN i r
@[simp] def pruneS (ts : List Nat) : List (Nat × V) → List (Nat × V)
  | [] => []
  | (i, x) :: r => if inN i ts = true then (i, x) :: pruneS ts r else pruneS ts r
theorem getS_pruneS (ts : List Nat) (i : Nat) : ∀ sl : List (Nat × V), getS (pruneS ts sl) i = getS sl i ∨ getS (pruneS ts sl) i = .junk
  | [] => .inl rfl
  | (j, x) :: r => by
    have ih := getS_pruneS ts i r
    simp only [pruneS]
    split
    · simp only [getS]
      split
      · exact .inl rfl
      · exact ih
    · rename_i hj
      by_cases h : j = i
      · subst h
        refine .inr ?_
        clear ih
        induction r with
        | nil => rfl
        | cons p r ihr =>
          obtain ⟨k, y⟩ := p
          simp only [pruneS]
          split
          · simp only [getS]
            split
            · rename_i h1 h2
              subst h2
              exact absurd h1 hj
            · exact ihr
          · exact ihr
      · simp only [getS, if_neg h]
        exact ih
theorem vwp_live {P : Program} {nt : Sh} {c : Code} {Q : X → St → Prop} {sl : List (Nat × V)} {ob : List Ob} (ts : List Nat) (h : vwp P nt c Q ⟨pruneS ts sl, ob⟩) : vwp P nt c Q ⟨sl, ob⟩ :=
  vwp_gh (Gh.less fun i => getS_pruneS ts i sl) h

/-- The first piece of a sequence, with those slots that are still read; what comes behind is kept out of sight. -/
theorem vwp_sq {P : Program} {nt : Sh} {Q : X → St → Prop} {sl : List (Nat × V)} {ob : List Ob} {x y : Code} (ts : List Nat) (h : ∀ K : St → Prop, (∀ st, vwp P nt y Q st → K st) → vwp P nt x (thenQ K Q) ⟨pruneS ts sl, ob⟩) : vwp P nt (.seq x y) Q ⟨sl, ob⟩ :=
  vwp_live ts (vwp_seq_k h)
/-- A sequence through a middle; what comes behind is kept out of sight. -/
theorem vwp_cut_k {P : Program} {nt : Sh} {Q : X → St → Prop} {st : St} {x y : Code} (M : St → Prop) (h : ∀ K : St → Prop, (∀ st, M st → K st) → vwp P nt x (thenQ K Q) st) (k : ∀ st, M st → vwp P nt y Q st) : vwp P nt (.seq x y) Q st :=
  vwp_cut M (h M fun _ h => h) k
theorem vwp_loop_k {P : Program} {nt : Sh} {Q : X → St → Prop} {st : St} {c : Code} (I : Nat → St → Prop) (n : Nat) (h0 : I n st)
    (round : ∀ n st, I n st → ∀ K : St → Prop, (∀ st', (∃ st2, Gh nt st' st2 ∧ ∃ m, m < n ∧ I m st2) → K st') → vwp P nt c (thenQ K Q) st) : vwp P nt (.loop c) Q st :=
  vwp_loop_gh I n h0 fun n st hI => round n st hI _ fun _ h => h
theorem VC_of_vwp_k {P : Program} {k : Nat} {fn : Func} {c : Code} {args : List V} {ob : List Ob} {Q : V → List Ob → Prop} (he : Ent P k) (hf : P.funcs[k]? = some fn) (hb : fn.body = some c) (hn : args.length ≤ fn.ntmps)
    (h : ∀ R : X → St → Prop, (∀ x st, (∃ st', Gh ⟨fn.ntmps, ob.length⟩ st st' ∧ retQ fn Q x st') → R x st) → vwp P ⟨fn.ntmps, ob.length⟩ c R ⟨argSlots 0 args, ob⟩) : VC P k args ob Q :=
  VC_of_vwp' he hf hb hn (h _ fun _ _ h => h)

/-- What is less known of what is handed over. -/
theorem VC.weak {P : Program} {k : Nat} {args args' : List V} {ob : List Ob} {Q : V → List Ob → Prop} (hv : VC P k args' ob Q) (h : ∀ (E : Env) (vals : List Value), VReps .any E args vals → VReps .any E args' vals) : VC P k args ob Q :=
  ⟨hv.1, fun Φ H w vals hs hx => hv.2 Φ H w vals hs (h _ _ hx)⟩
theorem VRep.nil_fs {E : Env} {v : Value} (h : VRep E .nils v) : VRep E (.fs 0 []) v :=
  ⟨none, 0, [], h, Nat.le_refl _, by simp [VReps], fun q => absurd q (by simp)⟩

/-- A return, behind which only what is asked for is left. -/
theorem ret_only {nt : Sh} {fn : Func} {Q : V → List Ob → Prop} {sl : List (Nat × V)} {ob : List Ob} (ts : List Nat) (ks : List Nat) (objs : List Ob) (hn : ks.Nodup) (hh : hand ob (fOf ks ob.length) ks objs) (hk : pre nt.k0 ks)
    (hs : slotsOK (vwAOK ob ks false) sl ts) {r : V} (hr : retV (keepS ob ks sl ts) fn.results.toList = some r) (hq : Q r objs) : ∃ st', Gh nt ⟨sl, ob⟩ st' ∧ retQ fn Q .ret st' :=
  ⟨_, Gh.only ts ks objs hn hh hk hs, r, hr, hq⟩
theorem norm_only {nt : Sh} {fn : Func} {Q : V → List Ob → Prop} {sl : List (Nat × V)} {ob : List Ob} (ts : List Nat) (ks : List Nat) (objs : List Ob) (hn : ks.Nodup) (hh : hand ob (fOf ks ob.length) ks objs) (hk : pre nt.k0 ks)
    (hs : slotsOK (vwAOK ob ks false) sl ts) {r : V} (hr : retV (keepS ob ks sl ts) fn.results.toList = some r) (hq : Q r objs) : ∃ st', Gh nt ⟨sl, ob⟩ st' ∧ retQ fn Q .norm st' :=
  ⟨_, Gh.only ts ks objs hn hh hk hs, r, hr, hq⟩

@[simp] theorem rnO_live (f : Nat → Nat) (cs : List V) : rnO f (.live cs) = .live (cs.map (rn1 f)) := rfl
@[simp] theorem rnO_frz (f : Nat → Nat) (cs : List V) : rnO f (.frz cs) = .frz cs := rfl
@[simp] theorem rnO_dead (f : Nat → Nat) : rnO f .dead = .dead := rfl
@[simp] theorem rnO_iter (f : Nat → Nat) (m : V) (s : Nat) (sn : List Nat) (l : Nat) : rnO f (.iter m s sn l) = .iter (rn0 f m) s sn l := rfl
theorem rnO_map {α : Type} (f : Nat → Nat) (g : α → V × V) (h : ∀ a, (rnA f (g a).1, rnA f (g a).2) = g a) (l : List α) (bs : List Nat) (ck : Nat) : rnO f (.map (l.map g) bs ck) = .map (l.map g) bs ck := by
  simp only [rnO, List.map_map]
  congr 1
  exact List.map_congr_left fun a _ => h a
@[simp] theorem rnO_map_nil (f : Nat → Nat) (bs : List Nat) (ck : Nat) : rnO f (.map [] bs ck) = .map [] bs ck := rfl
attribute [simp] hand allOK slotsOK keepS fOf back setAll rnV rnA rn1 rn0 vwA vw1 vw0 vwAOK vw1OK vw0OK V.nofz V.nofzA V.nofz1 V.nofz0 Ob.nofz

@[simp] theorem spl_succ (a : V) (l : List V) (n : Nat) (ys : List V) : spl (a :: l) (n + 1) ys = a :: spl l n ys := by
  match ys with
  | [] => simp [spl]
  | [x] => simp [spl]
  | x :: y :: ys =>
    have e : n + 1 + (x :: y :: ys).length = (n + (x :: y :: ys).length) + 1 := by omega
    simp only [spl, e]
    simp
@[simp] theorem spl_one (a : V) (l : List V) (x : V) : spl (a :: l) 0 [x] = x :: l := rfl
@[simp] theorem spl_more (a b : V) (l : List V) (x y : V) (ys : List V) : spl (a :: b :: l) 0 (x :: y :: ys) = x :: spl (b :: l) 0 (y :: ys) := by
  cases ys <;> simp [spl]

/-- A part of a row of numbers, written anew. -/
def splI (l : List Int) (o : Nat) (m : List Int) : List Int := l.take o ++ m ++ l.drop (o + m.length)
theorem splI_length {l : List Int} {o : Nat} {m : List Int} (h : o + m.length ≤ l.length) : (splI l o m).length = l.length := by
  simp [splI]; omega
theorem spl_int (k : IntKind) {l : List Int} {o : Nat} {m : List Int} (h : o + m.length ≤ l.length) : spl (l.map (V.int k)) o (m.map (V.int k)) = (splI l o m).map (V.int k) := by
  rw [spl_eq (by simpa using h)]
  simp [splI, List.map_take, List.map_drop]

@[simp] theorem rn1_int (f : Nat → Nat) (k : IntKind) : rn1 f ∘ V.int k = V.int k := rfl
@[simp] theorem rn1_str (f : Nat → Nat) : rn1 f ∘ V.str = V.str := rfl
@[simp] theorem rn1_bool (f : Nat → Nat) : rn1 f ∘ V.bool = V.bool := rfl
@[simp] theorem idx_nil (a : Nat) : List.idxOf? a [] = none := rfl
@[simp] theorem idx_cons (a b : Nat) (l : List Nat) : List.idxOf? a (b :: l) = if b = a then some 0 else (List.idxOf? a l).map (· + 1) := by
  simp only [List.idxOf?, List.findIdx?_cons, beq_iff_eq]
end Go.VX
