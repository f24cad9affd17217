/- Regions whose order is drawn, with calls: operations that leave all objects as they are, each yielding what it yields in whatever order. -/
import Derived.Test.YthjpaongoflgiaaVXDraw
namespace Go.VX
open Go.RowKit
set_option linter.unusedVariables false
set_option linter.unusedSimpArgs false
set_option linter.unusedSectionVars false

/-! ### What an operation reads -/
def tm : Operand → List Nat
  | .tmp t => [t]
  | _ => []
def tmo : Option Operand → List Nat
  | some x => tm x
  | none => []
def usesOp : Op → List Nat
  | .move x | .assign x => tm x
  | .pick c a b => tm c ++ (tm a ++ tm b)
  | .build _ parts => parts.toList.flatMap fun q => tm q.2
  | .load _ x => tm x
  | .nilCheck x => tm x
  | .binOp _ _ x y _ => tm x ++ tm y
  | .unOp _ _ x => tm x
  | .convert _ _ x => tm x
  | .makeFunc f first caps => caps.toList.flatMap tm
  | .slice _ x lo hi _ => tm x ++ (tmo lo ++ tmo hi)
  | .fieldAddr _ x _ => tm x
  | .field _ x _ => tm x
  | .indexAddr _ x i => tm x ++ tm i
  | .index _ x i => tm x ++ tm i
  | .extract x _ => tm x
  | .store _ x y => tm x ++ tm y
  | .box _ x => tm x
  | .buildSlice _ _ parts => parts.toList.flatMap fun q => tm q.2
  | .makeSlice _ l c => tm l ++ tm c
  | .lookup _ x k _ => tm x ++ tm k
  | .mapUpdate _ m k y => tm m ++ (tm k ++ tm y)
  | .range _ x => tm x
  | .entry x => tm x
  | .call ⟨.value f, args, _⟩ => tm f ++ args.toList.flatMap tm
  | .call ⟨_, args, _⟩ => args.toList.flatMap tm
  | _ => []

theorem evV_congr {sl sl' : List (Nat × V)} {x : Operand} (h : ∀ t ∈ tm x, getS sl t = getS sl' t) : evV sl x = evV sl' x := by
  cases x <;> simp [evV, tm] at h ⊢
  exact h
theorem evVs_congr {sl sl' : List (Nat × V)} {xs : List Operand} (h : ∀ t ∈ xs.flatMap tm, getS sl t = getS sl' t) : xs.map (evV sl) = xs.map (evV sl') :=
  List.map_congr_left fun x hx => evV_congr fun t ht => h t (List.mem_flatMap.2 ⟨x, hx, ht⟩)

theorem vop_congr {T : Nat → Option TI} {sl sl' : List (Nat × V)} {ob : List Ob} {op : Op} (hq : quietOp op = true ∨ ∃ a b c, op = .convert a b c) (h : ∀ t ∈ usesOp op, getS sl t = getS sl' t) : vop T sl ob op = vop T sl' ob op := by
  rcases hq with hq | ⟨a, b, c, rfl⟩
  · cases op with
    | move x => simp only [vop, evV_congr (x := x) h]
    | assign x => simp only [vop, evV_congr (x := x) h]
    | pick c a b =>
      simp only [usesOp, List.mem_append] at h
      simp only [vop, evV_congr (x := c) fun t ht => h t (.inl ht), evV_congr (x := a) fun t ht => h t (.inr (.inl ht)), evV_congr (x := b) fun t ht => h t (.inr (.inr ht))]
    | build t parts =>
      have e : (parts.toList.map fun q => (q.1, evV sl q.2)) = parts.toList.map fun q => (q.1, evV sl' q.2) := List.map_congr_left fun q hq => by
        rw [evV_congr fun t ht => h t (List.mem_flatMap.2 ⟨q, hq, ht⟩)]
      simp only [vop, e]
    | load t x => simp only [vop, evV_congr (x := x) h]
    | nilCheck x => simp only [vop, evV_congr (x := x) h]
    | binOp o t x y t2 =>
      simp only [usesOp, List.mem_append] at h
      simp only [vop, evV_congr (x := x) fun t ht => h t (.inl ht), evV_congr (x := y) fun t ht => h t (.inr ht)]
    | unOp o t x => simp only [vop, evV_congr (x := x) h]
    | makeFunc f first caps =>
      have e := evVs_congr (sl := sl) (sl' := sl') (xs := caps.toList) h
      cases f <;> simp only [vop, e]
    | slice t x lo hi mx =>
      simp only [usesOp, List.mem_append] at h
      have e1 := evV_congr (sl := sl) (sl' := sl') (x := x) fun t ht => h t (.inl ht)
      have e2 : (lo.map fun o => intOfV (evV sl o)) = lo.map fun o => intOfV (evV sl' o) := by
        cases lo with
        | none => rfl
        | some o => simp only [Option.map_some, evV_congr (sl := sl) (sl' := sl') (x := o) fun t ht => h t (.inr (.inl ht))]
      have e3 : (hi.map fun o => intOfV (evV sl o)) = hi.map fun o => intOfV (evV sl' o) := by
        cases hi with
        | none => rfl
        | some o => simp only [Option.map_some, evV_congr (sl := sl) (sl' := sl') (x := o) fun t ht => h t (.inr (.inr ht))]
      cases mx with
      | none => simp only [vop, e1, e2, e3]
      | some m => rfl
    | fieldAddr t x f => simp only [vop, evV_congr (x := x) h]
    | field t x f => simp only [vop, evV_congr (x := x) h]
    | indexAddr t x i =>
      simp only [usesOp, List.mem_append] at h
      simp only [vop, evV_congr (x := x) fun t ht => h t (.inl ht), evV_congr (x := i) fun t ht => h t (.inr ht)]
    | index t x i =>
      simp only [usesOp, List.mem_append] at h
      simp only [vop, evV_congr (x := x) fun t ht => h t (.inl ht), evV_congr (x := i) fun t ht => h t (.inr ht)]
    | extract x i => simp only [vop, evV_congr (x := x) h]
    | call c =>
      obtain ⟨callee, args, ts⟩ := c
      cases callee with
      | builtin b =>
        have e := evVs_congr (sl := sl) (sl' := sl') (xs := args.toList) h
        simp only [vop]
        have key : ∀ (l : List Operand), l.map (evV sl) = l.map (evV sl') → (b = .len ∨ b = .min ∨ b = .max) → vopCall T sl ob b l ts.toList = vopCall T sl' ob b l ts.toList := by
          intro l hl hb
          rcases hb with rfl | rfl | rfl
          · match l, ts.toList with
            | [x], [t] => simp only [List.map, List.cons.injEq] at hl; simp only [vopCall, hl.1]
            | [], _ => rfl
            | [x], [] => rfl
            | [x], _ :: _ :: _ => rfl
            | _ :: _ :: _, _ => rfl
          · match l with
            | [x, y] => simp only [List.map, List.cons.injEq] at hl; simp only [vopCall, hl.1, hl.2.1]
            | [] => rfl
            | [x] => rfl
            | _ :: _ :: _ :: _ => rfl
          · match l with
            | [x, y] => simp only [List.map, List.cons.injEq] at hl; simp only [vopCall, hl.1, hl.2.1]
            | [] => rfl
            | [x] => rfl
            | _ :: _ :: _ :: _ => rfl
        exact key _ e (by cases b <;> simp_all [quietOp])
      | _ => simp [quietOp] at hq
    | _ => simp [quietOp] at hq
  · simp only [vop, evV_congr (x := c) h]

theorem quietR_or {op : Op} {x : V} (h : quietR op x = true) : quietOp op = true ∨ ∃ a b c, op = .convert a b c := by
  unfold quietR at h
  split at h
  · cases h
  · cases h
  · exact .inr ⟨_, _, _, rfl⟩
  · exact .inl h

/-! ### What each operation of a region yields -/
abbrev Ch := List (Nat × Bool)
structure CE where
  d : Nat
  x : V
  c : Ch

def tstC (m : List CE) (s : Nat × Bool) : Bool :=
  match m[s.1]? with
  | some ⟨_, .bool b, _⟩ => b == s.2
  | _ => false
def eOf (m : List CE) (c : Ch) : Bool := c.all (tstC m)
def subC (c ch : Ch) : Bool := c.all fun s => ch.contains s
def atC (m : List CE) (ch : Ch) (sl0 : List (Nat × V)) : List CE → List (Nat × V)
  | [] => sl0
  | e :: r => (e.d, if subC e.c ch = true then e.x else gt (eOf m e.c) true e.x) :: atC m ch sl0 r
def chainOf (m : List CE) (o : Oper) : Option Ch :=
  match o.guard with
  | none => some []
  | some (j, w) => match m[j]? with
    | some ⟨_, .bool _, c⟩ => some ((j, w) :: c)
    | _ => none
def finC (m : List CE) : List CE → List (Nat × V) → List (Nat × V)
  | [], sl => sl
  | e :: r, sl => finC m r (setS sl e.d (gt (eOf m e.c) true e.x))

def vis (x : V) (ob : List Ob) (r : V) (ob' : List Ob) : Prop := r = x ∧ ob' = ob
@[simp] theorem vis_app (x : V) (ob : List Ob) (r : V) (ob' : List Ob) : vis x ob r ob' = (r = x ∧ ob' = ob) := rfl

/-- Kept shut till the call's result is there. -/
def shut (G : List CE → Prop) (m : List CE) (d : Nat) (ch : Ch) (x : V) : Prop := G (m ++ [⟨d, x, ch⟩])
def vcalmB (P : Program) (T : Nat → Option TI) (nt : Sh) (ob : List Ob) (sl0 : List (Nat × V)) (o : Oper) (m : List CE) (G : List CE → Prop) : Prop :=
  match o.dst, chainOf m o with
  | some d, some ch => d < nt.nt ∧ match o.op with
    | .call ⟨.value f, args, _⟩ => match evV (atC m ch sl0 m) f with
      | .fn k caps => ∃ x, (eOf m ch = true → ∀ sl, vcall P nt ⟨sl, ob⟩ k (args.toList.map (evV (atC m ch sl0 m)) ++ caps) (vis x ob)) ∧ shut G m d ch x
      | _ => False
    | op => match vop T (atC m ch sl0 m) ob op with
      | some (p, x, _) => quietR op x = true ∧ (eOf m ch = true → p) ∧ G (m ++ [⟨d, x, ch⟩])
      | none => False
  | _, _ => False
def vcalm (P : Program) (T : Nat → Option TI) (nt : Sh) (ob : List Ob) (sl0 : List (Nat × V)) : List Oper → (List CE → Prop) → List CE → Prop
  | [], Q, m => Q m
  | o :: rest, Q, m => vcalmB P T nt ob sl0 o m (vcalm P T nt ob sl0 rest Q)

/-- What is known of one operation. -/
def Good (P : Program) (T : Nat → Option TI) (nt : Sh) (ob : List Ob) (sl0 : List (Nat × V)) (m : List CE) (o : Oper) (e : CE) : Prop :=
  o.dst = some e.d ∧ chainOf m o = some e.c ∧ e.d < nt.nt ∧
    ((∃ f args ts k caps, o.op = .call ⟨.value f, args, ts⟩ ∧ evV (atC m e.c sl0 m) f = .fn k caps ∧ (eOf m e.c = true → ∀ sl, vcall P nt ⟨sl, ob⟩ k (args.toList.map (evV (atC m e.c sl0 m)) ++ caps) (vis e.x ob))) ∨
     (∃ p ob', vop T (atC m e.c sl0 m) ob o.op = some (p, e.x, ob') ∧ quietR o.op e.x = true ∧ (eOf m e.c = true → p)))

theorem vcalm_good {P : Program} {T : Nat → Option TI} {nt : Sh} {ob : List Ob} {sl0 : List (Nat × V)} {F : List CE → Prop} : ∀ (l : List Oper) (m : List CE), vcalm P T nt ob sl0 l F m →
    ∃ es : List CE, es.length = l.length ∧ F (m ++ es) ∧ ∀ i o e, l[i]? = some o → es[i]? = some e → Good P T nt ob sl0 (m ++ es.take i) o e
  | [], m, h => ⟨[], rfl, by simpa [vcalm] using h, fun i o e h1 => by simp at h1⟩
  | o :: rest, m, h => by
    simp only [vcalm, vcalmB] at h
    split at h
    case h_2 => exact h.elim
    rename_i d ch hd hch
    obtain ⟨hlt, h⟩ := h
    have fin : ∀ x, Good P T nt ob sl0 m o ⟨d, x, ch⟩ → vcalm P T nt ob sl0 rest F (m ++ [⟨d, x, ch⟩]) →
        ∃ es : List CE, es.length = (o :: rest).length ∧ F (m ++ es) ∧ ∀ i o' e, (o :: rest)[i]? = some o' → es[i]? = some e → Good P T nt ob sl0 (m ++ es.take i) o' e := by
      intro x hg hr
      obtain ⟨es, h1, h2, h3⟩ := vcalm_good rest _ hr
      refine ⟨⟨d, x, ch⟩ :: es, by simp [h1], by simpa using h2, fun i o' e e1 e2 => ?_⟩
      cases i with
      | zero =>
        simp only [List.getElem?_cons_zero, Option.some.injEq] at e1 e2
        subst e1; subst e2
        simpa using hg
      | succ i =>
        simp only [List.getElem?_cons_succ] at e1 e2
        simpa using h3 i o' e e1 e2
    split at h
    · rename_i f args ts hop
      split at h
      case h_2 => exact h.elim
      rename_i k caps hf
      obtain ⟨x, h1, h2⟩ := h
      exact fin x ⟨hd, hch, hlt, .inl ⟨f, args, ts, k, caps, hop, hf, h1⟩⟩ h2
    · split at h
      case h_2 => exact h.elim
      rename_i p x ob' hv
      exact fin x ⟨hd, hch, hlt, .inr ⟨p, ob', hv, h.1, h.2.1⟩⟩ h.2.2

def usesG (ops : List Oper) (o : Oper) : List Nat := usesOp o.op ++ match o.guard with
  | some (j, _) => match (ops[j]?).bind (·.dst) with
    | some d => [d]
    | none => []
  | none => []
def calmAt (ops : List Oper) (i : Nat) (o : Oper) (k : Nat) : Bool :=
  match (ops[k]?).bind (·.dst) with
  | some t => (k == i || o.dst != some t) && (!(usesG ops o).contains t || if k < i then Region.waitsFor .any ops.toArray i k else if i < k then Region.waitsFor .any ops.toArray k i else true)
  | none => false
def calmOK (ops : List Oper) : Bool :=
  (List.range ops.length).all fun i => match ops[i]? with
    | some o => (o.after.all fun e => !Region.binds .any e || decide (e.on < i)) && (List.range ops.length).all (calmAt ops i o)
    | none => true

section
variable {P : Program} {T : Nat → Option TI} {nt : Sh} {ob : List Ob} {sl0 : List (Nat × V)} {ops : List Oper} {es : List CE}

theorem calm_edge (hok : calmOK ops = true) {i : Nat} {o : Oper} (ho : ops[i]? = some o) : ∀ e ∈ o.after, Region.binds .any e = true → e.on < i := by
  have hi : i < ops.length := (List.getElem?_eq_some_iff.1 ho).1
  have h := List.all_eq_true.1 hok i (List.mem_range.2 hi)
  simp only [ho, Bool.and_eq_true] at h
  intro e he hb
  have := Array.all_eq_true_iff_forall_mem.1 h.1 e he
  simpa [hb] using this
theorem calm_at (hok : calmOK ops = true) {i k : Nat} {o o' : Oper} {t : Nat} (ho : ops[i]? = some o) (hk : ops[k]? = some o') (ht : o'.dst = some t) :
    (k = i ∨ o.dst ≠ some t) ∧ (t ∈ usesG ops o → (k < i → Region.waitsFor .any ops.toArray i k = true) ∧ (i < k → Region.waitsFor .any ops.toArray k i = true)) := by
  have hi : i < ops.length := (List.getElem?_eq_some_iff.1 ho).1
  have hk' : k < ops.length := (List.getElem?_eq_some_iff.1 hk).1
  have h := List.all_eq_true.1 hok i (List.mem_range.2 hi)
  simp only [ho, Bool.and_eq_true] at h
  have h2 := List.all_eq_true.1 h.2 k (List.mem_range.2 hk')
  simp only [calmAt, hk, Option.bind_some, ht, Bool.and_eq_true, Bool.or_eq_true, beq_iff_eq, bne_iff_ne, ne_eq, Bool.not_eq_true', List.contains_eq_mem, decide_eq_false_iff_not] at h2
  refine ⟨h2.1, fun hu => ⟨fun hlt => ?_, fun hlt => ?_⟩⟩
  · rcases h2.2 with q | q
    · exact absurd hu q
    · simpa [hlt] using q
  · rcases h2.2 with q | q
    · exact absurd hu q
    · simpa [hlt, show ¬ k < i by omega] using q

structure CInv (ops : List Oper) (es : List CE) (sl0 : List (Nat × V)) (listed : Array Bool) (sl : List (Nat × V)) (a : Act) : Prop where
  size : listed.size = ops.length
  closed : ∀ j oj, ops[j]? = some oj → listed.getD j false = true → ∀ e ∈ oj.after, Region.binds .any e = true → listed.getD e.on false = true
  hit : ∀ i e, es[i]? = some e → listed.getD i false = true → getS sl e.d = gt (eOf es e.c) true e.x ∧ (eOf es e.c = false → a.tmps.getD e.d undef = undef)
  miss : ∀ t, (∀ i e, es[i]? = some e → e.d = t → listed.getD i false = false) → getS sl t = getS sl0 t

theorem getS_atC_miss {m : List CE} {ch : Ch} {t : Nat} : ∀ {l : List CE}, (∀ e ∈ l, e.d ≠ t) → getS (atC m ch sl0 l) t = getS sl0 t
  | [], _ => rfl
  | e :: r, h => by
    simp only [atC, getS]
    rw [if_neg (h e (by simp)), getS_atC_miss fun e' he' => h e' (by simp [he'])]
theorem getS_atC_hit {m : List CE} {ch : Ch} : ∀ {l : List CE} {k : Nat} {e : CE}, l[k]? = some e → (∀ j e', l[j]? = some e' → e'.d = e.d → j = k) → getS (atC m ch sl0 l) e.d = if subC e.c ch = true then e.x else gt (eOf m e.c) true e.x
  | [], k, e, h, _ => by simp at h
  | e0 :: r, 0, e, h, hu => by
    simp only [List.getElem?_cons_zero, Option.some.injEq] at h
    subst h
    simp only [atC, getS, if_true]
  | e0 :: r, k + 1, e, h, hu => by
    simp only [List.getElem?_cons_succ] at h
    simp only [atC, getS]
    rw [if_neg fun he => by have := hu 0 e0 (by simp) he; omega]
    exact getS_atC_hit h fun j e' h1 h2 => by have := hu (j + 1) e' (by simpa using h1) h2; omega
theorem getS_finC_miss {m : List CE} {t : Nat} : ∀ {l : List CE} {sl : List (Nat × V)}, (∀ e ∈ l, e.d ≠ t) → getS (finC m l sl) t = getS sl t
  | [], _, _ => rfl
  | e :: r, sl, h => by
    simp only [finC]
    rw [getS_finC_miss fun e' he' => h e' (by simp [he']), getS_setS, if_neg (h e (by simp))]
theorem getS_finC_hit {m : List CE} : ∀ {l : List CE} {sl : List (Nat × V)} {k : Nat} {e : CE}, l[k]? = some e → (∀ j e', l[j]? = some e' → e'.d = e.d → j = k) → getS (finC m l sl) e.d = gt (eOf m e.c) true e.x
  | [], _, k, e, h, _ => by simp at h
  | e0 :: r, sl, 0, e, h, hu => by
    simp only [List.getElem?_cons_zero, Option.some.injEq] at h
    subst h
    simp only [finC]
    rw [getS_finC_miss fun e' he' hd => ?_, getS_setS, if_pos rfl]
    obtain ⟨j, hj⟩ := List.getElem?_of_mem he'
    have := hu (j + 1) e' (by simpa using hj) hd
    omega
  | e0 :: r, sl, k + 1, e, h, hu => by
    simp only [List.getElem?_cons_succ] at h
    simp only [finC]
    exact getS_finC_hit h fun j e' h1 h2 => by have := hu (j + 1) e' (by simpa using h1) h2; omega

theorem eOf_take {i : Nat} {c : Ch} (h : ∀ s ∈ c, s.1 < i) : eOf (es.take i) c = eOf es c := by
  unfold eOf
  rw [Bool.eq_iff_iff, List.all_eq_true, List.all_eq_true]
  have e : ∀ s ∈ c, tstC (es.take i) s = tstC es s := fun s hs => by
    unfold tstC
    rw [List.getElem?_take, if_pos (h s hs)]
  exact ⟨fun q s hs => by rw [← e s hs]; exact q s hs, fun q s hs => by rw [e s hs]; exact q s hs⟩
theorem eOf_sub {m : List CE} {c ch : Ch} (h : subC c ch = true) (he : eOf m ch = true) : eOf m c = true := by
  unfold eOf at he ⊢
  rw [List.all_eq_true] at he ⊢
  intro s hs
  have := List.all_eq_true.1 h s hs
  exact he s (by simpa using this)

theorem chain_lt {l : List Oper} (hl : es.length = l.length) (hg : ∀ (i : Nat) (o : Oper) (e : CE), l[i]? = some o → es[i]? = some e → chainOf (es.take i) o = some e.c) : ∀ (i : Nat) (e : CE), es[i]? = some e → ∀ s ∈ e.c, s.1 < i := by
  intro i
  induction i using Nat.strongRecOn with
  | _ i ih =>
    intro e he s hs
    have hi : i < es.length := (List.getElem?_eq_some_iff.1 he).1
    have h := hg i l[i] e (List.getElem?_eq_getElem (by omega)) he
    unfold chainOf at h
    split at h
    · simp only [Option.some.injEq] at h; rw [← h] at hs; cases hs
    · rename_i j w _
      split at h
      case h_2 => cases h
      rename_i d b c hj
      simp only [Option.some.injEq] at h
      rw [List.getElem?_take] at hj
      split at hj
      case isFalse => cases hj
      rename_i hji
      rw [← h] at hs
      rcases List.mem_cons.1 hs with rfl | hs
      · exact hji
      · exact Nat.lt_trans (ih j hji _ hj s hs) hji

theorem all_listed (hok : calmOK ops = true) {listed : Array Bool} (hsz : listed.size = ops.length) (hr : Region.ready .any ops.toArray listed = []) : ∀ i, i < ops.length → listed.getD i false = true := by
  intro i
  induction i using Nat.strongRecOn with
  | _ i ih =>
    intro hi
    cases hl : listed.getD i false with
    | true => rfl
    | false =>
      exfalso
      have hmem : i ∈ Region.ready .any ops.toArray listed := by
        rw [mem_ready]
        have hi' : i < listed.size := by omega
        refine ⟨by simp [hi'] at hl ⊢; exact hl, ops[i], by simp [hi], fun e he hb => ?_⟩
        have := calm_edge hok (List.getElem?_eq_getElem hi) e he hb
        exact ih e.on this (by omega)
      rw [hr] at hmem
      cases hmem

theorem calm_any (hT : TabOK P T) (hok : calmOK ops = true) (hlen : es.length = ops.length) (hgood : ∀ (i : Nat) (o : Oper) (e : CE), ops[i]? = some o → es[i]? = some e → Good P T nt ob sl0 (es.take i) o e) {C : Ctx} (hC : C.nt = nt) {Qx : Exit → Act → World → Prop}
    (hq : ∀ Φ H a w, SimE C Φ H ⟨finC es es sl0, ob⟩ a w → Qx .normal a w) (hout : True) :
    ∀ (fuel : Nat) (todo : List Nat) (listed : Array Bool) (sl : List (Nat × V)) (a : Act) (w : World) Φ H, todo.length ≤ fuel → (∀ i, i < ops.length → listed.getD i false = false → i ∈ todo) → CInv ops es sl0 listed sl a → SimE C Φ H ⟨sl, ob⟩ a w →
      wpAny P .any ops.toArray Qx fuel listed a w := by
  have hes : ∀ i o, ops[i]? = some o → ∃ e, es[i]? = some e := fun i o h => ⟨_, List.getElem?_eq_getElem (by have := (List.getElem?_eq_some_iff.1 h).1; omega)⟩
  have hop : ∀ i e, es[i]? = some e → ∃ o, ops[i]? = some o := fun i o h => ⟨_, List.getElem?_eq_getElem (by have := (List.getElem?_eq_some_iff.1 h).1; omega)⟩
  have huniq : ∀ (i k : Nat) (e e' : CE), es[i]? = some e → es[k]? = some e' → e'.d = e.d → k = i := by
    intro i k e e' h1 h2 hd
    obtain ⟨o, ho⟩ := hop i e h1
    obtain ⟨o', ho'⟩ := hop k e' h2
    rcases (calm_at hok ho ho' (hgood k o' e' ho' h2).1).1 with q | q
    · exact q
    · exact absurd ((hgood i o e ho h1).1.trans (by rw [hd])) q
  have hchain := chain_lt hlen fun i o e h1 h2 => (hgood i o e h1 h2).2.1
  have hfinal : ∀ (listed : Array Bool) (sl : List (Nat × V)) (a : Act) (w : World) Φ H, (∀ i, i < ops.length → listed.getD i false = true) → CInv ops es sl0 listed sl a → SimE C Φ H ⟨sl, ob⟩ a w → Qx .normal a w := by
    intro listed sl a w Φ H hall inv s
    refine hq Φ H a w (s.slotsOf rfl rfl fun t => ?_)
    have e : getS (finC es es sl0) t = getS sl t := by
      by_cases ht : ∃ e ∈ es, e.d = t
      · obtain ⟨e, he, rfl⟩ := ht
        obtain ⟨k, hk⟩ := List.getElem?_of_mem he
        rw [getS_finC_hit hk fun j e' h1 h2 => huniq k j e e' hk h1 h2, (inv.hit k e hk (hall k (by rw [← hlen]; exact (List.getElem?_eq_some_iff.1 hk).1))).1]
      · rw [getS_finC_miss fun e he hd => ht ⟨e, he, hd⟩, inv.miss t fun i e he hd => absurd ⟨e, List.mem_of_getElem? he, hd⟩ ht]
    rw [e]
    exact s.slots t
  intro fuel
  induction fuel with
  | zero =>
    intro todo listed sl a w Φ H hf htodo inv s
    have hall : ∀ i, i < ops.length → listed.getD i false = true := fun i hi => by
      cases hl : listed.getD i false with
      | true => rfl
      | false =>
        have := htodo i hi hl
        have : todo = [] := List.length_eq_zero_iff.1 (by omega)
        simp_all
    refine ⟨?_, hfinal listed sl a w Φ H hall inv s⟩
    cases hr : Region.ready .any ops.toArray listed with
    | nil => rfl
    | cons i r =>
      exfalso
      have hm : i ∈ Region.ready .any ops.toArray listed := by rw [hr]; simp
      obtain ⟨h1, o, h2, _⟩ := mem_ready.1 hm
      have hi : i < ops.length := by
        have := (Array.getElem?_eq_some_iff.1 h2).1; simpa using this
      have := hall i hi
      have hi' : i < listed.size := by rw [inv.size]; exact hi
      simp [hi'] at h1 this
      rw [h1] at this; cases this
  | succ fuel ih =>
    intro todo listed sl a w Φ H hf htodo inv s
    refine ⟨fun hr => hfinal listed sl a w Φ H (all_listed hok inv.size hr) inv s, fun i hi => ?_⟩
    obtain ⟨hun, o, ho, hafter⟩ := mem_ready.1 hi
    have ho' : ops[i]? = some o := by simpa using ho
    have hilt : i < ops.length := (List.getElem?_eq_some_iff.1 ho').1
    have hisz : i < listed.size := by rw [inv.size]; exact hilt
    have hunF : listed.getD i false = false := by simp [hisz] at hun ⊢; exact hun
    obtain ⟨e, he⟩ := hes i o ho'
    obtain ⟨hd, hch, hlt, hrun⟩ := hgood i o e ho' he
    have hwaits : ∀ k, Region.waitsFor .any ops.toArray i k = true → listed.getD k false = true := by
      intro k hk
      obtain ⟨oj, h1, e', h2, h3, h4⟩ := Region.waitsFor_spec hk
      rw [ho] at h1; obtain rfl := Option.some.inj h1
      rw [← h4]; exact hafter e' h2 h3
    have hnot : ∀ k, Region.waitsFor .any ops.toArray k i = true → listed.getD k false = false := by
      intro k hk
      cases hl : listed.getD k false with
      | false => rfl
      | true =>
        obtain ⟨oj, h1, e', h2, h3, h4⟩ := Region.waitsFor_spec hk
        have := inv.closed k oj (by simpa using h1) hl e' h2 h3
        rw [h4, hunF] at this; cases this
    -- what its operands hold
    have hread : eOf es e.c = true → ∀ t ∈ usesG ops o, getS (atC (es.take i) e.c sl0 (es.take i)) t = getS sl t := by
      intro hee t ht
      by_cases hx : ∃ (k : Nat) (e' : CE), es[k]? = some e' ∧ e'.d = t
      · obtain ⟨k, e', hk, rfl⟩ := hx
        obtain ⟨ok, hok'⟩ := hop k e' hk
        have hw := (calm_at hok ho' hok' (hgood k ok e' hok' hk).1).2 ht
        rcases Nat.lt_trichotomy k i with hki | hki | hki
        · have hl := hwaits k (hw.1 hki)
          rw [(inv.hit k e' hk hl).1]
          have hk' : (es.take i)[k]? = some e' := by rw [List.getElem?_take, if_pos hki]; exact hk
          rw [getS_atC_hit hk' fun j e2 h1 h2 => huniq k j e' e2 hk (by rw [List.getElem?_take] at h1; split at h1; exact h1; cases h1) h2]
          have hst : eOf (es.take i) e'.c = eOf es e'.c := eOf_take fun s hs => Nat.lt_trans (hchain k e' hk s hs) hki
          split
          · rename_i hsub
            have := eOf_sub (m := es) hsub hee
            rw [this]; rfl
          · rw [hst]
        · subst hki
          rw [hk] at he; obtain rfl := Option.some.inj he
          rw [inv.miss _ fun j e2 h1 h2 => by rw [huniq k j e' e2 hk h1 h2]; exact hunF]
          refine getS_atC_miss fun e2 he2 hd2 => ?_
          obtain ⟨j, hj⟩ := List.getElem?_of_mem he2
          rw [List.getElem?_take] at hj
          split at hj
          case isFalse => cases hj
          rename_i hjk
          have := huniq k j e' e2 hk hj hd2
          omega
        · have hl := hnot k (hw.2 hki)
          rw [inv.miss _ fun j e2 h1 h2 => by rw [huniq k j e' e2 hk h1 h2]; exact hl]
          refine getS_atC_miss fun e2 he2 hd2 => ?_
          obtain ⟨j, hj⟩ := List.getElem?_of_mem he2
          rw [List.getElem?_take] at hj
          split at hj
          case isFalse => cases hj
          rename_i hjk
          have := huniq k j e' e2 hk hj hd2
          omega
      · rw [inv.miss t fun k e' hk hd => absurd ⟨k, e', hk, hd⟩ hx]
        refine getS_atC_miss fun e2 he2 hd2 => ?_
        obtain ⟨j, hj⟩ := List.getElem?_of_mem he2
        rw [List.getElem?_take] at hj
        split at hj
        case isFalse => cases hj
        exact hx ⟨j, e2, hj, hd2⟩
    -- is it wanted?
    have hwant : Region.wanted o (yielded ops.toArray a.tmps) = eOf es e.c := by
      unfold chainOf at hch
      split at hch
      · rename_i hg
        simp only [Option.some.injEq] at hch
        rw [← hch]
        simp [Region.wanted, hg, eOf]
      · rename_i j w' hg
        split at hch
        case h_2 => cases hch
        rename_i dj b cj hj
        simp only [Option.some.injEq] at hch
        rw [List.getElem?_take] at hj
        split at hj
        case isFalse => cases hj
        rename_i hji
        obtain ⟨oj, hoj⟩ := hop j _ hj
        have hdj := (hgood j oj _ hoj hj).1
        have huse : dj ∈ usesG ops o := by
          unfold usesG
          rw [hg]
          simp [hoj, hdj]
        have hl := hwaits j (((calm_at hok ho' hoj hdj).2 huse).1 hji)
        obtain ⟨i1, i2⟩ := inv.hit j _ hj hl
        have hde : (ops.toArray[j]?).bind (·.dst) = some dj := by simpa [hoj] using hdj
        have hts : tstC es (j, w') = (b == w') := by simp [tstC, hj]
        have hE : eOf es e.c = ((b == w') && eOf es cj) := by
          rw [← hch]; simp only [eOf, List.all_cons, hts]
        rw [hE]
        cases hcj : eOf es cj with
        | false =>
          have hu := i2 hcj
          have : yielded ops.toArray a.tmps j = none := by
            unfold yielded
            rw [hde, Option.bind_some]
            have hu' : a.tmps.getD dj undef = undef := hu
            rw [Array.getD_eq_getD_getElem?] at hu'
            cases hq3 : a.tmps[dj]? with
            | none => rfl
            | some v =>
              rw [hq3] at hu'
              simp only [Option.getD_some] at hu'
              rw [hu']
              rfl
          simp [Region.wanted, hg, this]
        | true =>
          have i1' : getS sl dj = .bool b := by rw [i1]; simp only [hcj]; rfl
          have hb := s.boolAt i1'
          have : yielded ops.toArray a.tmps j = some b := by
            unfold yielded
            rw [hde, Option.bind_some, hb]
          simp [Region.wanted, hg, this]
    have hset : ∀ j d, i ≠ j → (listed.setIfInBounds i true).getD j d = listed.getD j d := fun j d h => getD_set_ne d h
    have hsett : (listed.setIfInBounds i true).getD i false = true := by simp [hisz]
    have htd : ∀ j, j < ops.length → (listed.setIfInBounds i true).getD j false = false → j ∈ todo.erase i := by
      intro j hj hl
      have hne : i ≠ j := fun q => by subst q; rw [hsett] at hl; cases hl
      rw [hset j false hne] at hl
      exact (List.mem_erase_of_ne (Ne.symm hne)).2 (htodo j hj hl)
    have hlen2 : (todo.erase i).length ≤ fuel := by
      rw [List.length_erase_of_mem (htodo i hilt hunF)]; omega
    -- how things stand behind it
    have hnext : ∀ (a' : Act) (x : V) (v : Value), a' = a.put o.dst v → x = gt (eOf es e.c) true e.x → (eOf es e.c = false → v = undef) → CInv ops es sl0 (listed.setIfInBounds i true) (setS sl e.d x) a' := by
      intro a' x v ha hx hv
      refine ⟨by simp [inv.size], fun j oj hoj hl e' he' hb => ?_, fun j e' hj hl => ?_, fun t ht => ?_⟩
      · by_cases hij : i = j
        · subst hij
          rw [ho'] at hoj; obtain rfl := Option.some.inj hoj
          exact getD_set_true (hafter e' he' hb)
        · rw [hset j false hij] at hl
          exact getD_set_true (inv.closed j oj hoj hl e' he' hb)
      · by_cases hij : i = j
        · subst hij
          rw [he] at hj; obtain rfl := Option.some.inj hj
          refine ⟨by rw [getS_setS, if_pos rfl, hx], fun hf => ?_⟩
          rw [ha, hd, hv hf]
          simp only [Act.put, Array.getD_eq_getD_getElem?, Array.getElem?_setIfInBounds]
          simp only [if_true]
          split <;> rfl
        · rw [hset j false hij] at hl
          have hne : e.d ≠ e'.d := fun q => hij (huniq j i e' e hj he q)
          obtain ⟨k1, k2⟩ := inv.hit j e' hj hl
          refine ⟨by rw [getS_setS, if_neg hne, k1], fun hf => ?_⟩
          rw [ha, put_other (by rw [hd]; simpa using hne)]
          exact k2 hf
      · have hne : e.d ≠ t := fun q => by
          have := ht i e he q
          rw [hsett] at this; cases this
        rw [getS_setS, if_neg hne]
        refine inv.miss t fun j e' hj hd' => ?_
        have hij : i ≠ j := fun q => by subst q; rw [he] at hj; obtain rfl := Option.some.inj hj; exact hne hd'
        have := ht j e' hj hd'
        rwa [hset j false hij] at this
    have hput : ∀ {Φ' H' w'} (s' : SimE C Φ' H' ⟨sl, ob⟩ a w') {x : V} {v : Value}, VRep (mkE Φ' H' ob w') x v → SimE C Φ' H' ⟨setS sl e.d x, ob⟩ (a.put o.dst v) w' := by
      intro Φ' H' w' s' x v hx
      have := s'.put (d := o.dst) hx fun i' e1 => by rw [hd] at e1; obtain rfl := Option.some.inj e1; rw [hC]; exact hlt
      rw [hd] at this ⊢
      exact this
    unfold wpOp
    rw [ho]
    simp only
    rw [hwant]
    have hstab : eOf (es.take i) e.c = eOf es e.c := eOf_take fun s hs => hchain i e he s hs
    cases hee : eOf es e.c with
    | false =>
      simp only [Bool.false_eq_true, if_false]
      exact ih _ _ _ _ _ Φ H hlen2 htd (hnext _ .junk undef rfl (by rw [hee]; rfl) fun _ => rfl) (hput s trivial)
    | true =>
      simp only [if_true]
      refine .inl ?_
      have hreads := hread hee
      rcases hrun with ⟨f, args, ts, k, caps, hop', hf, hcall⟩ | ⟨p, ob', hv, hqr, hp⟩
      · have hr2 : ∀ t ∈ tm f ++ args.toList.flatMap tm, getS (atC (es.take i) e.c sl0 (es.take i)) t = getS sl t := fun t ht => hreads t (by unfold usesG; rw [hop']; exact List.mem_append.2 (.inl ht))
        have hfe : evV sl f = .fn k caps := by
          rw [← hf]; exact (evV_congr fun t ht => hr2 t (List.mem_append.2 (.inl ht))).symm
        have hae := evVs_congr (xs := args.toList) fun t ht => hr2 t (List.mem_append.2 (.inr ht))
        obtain ⟨hent, hc⟩ := hcall (by rw [hstab]; exact hee) sl
        rw [hae] at hc
        obtain ⟨dst, op, ty, pos, aft, gd⟩ := o
        simp only at hop' hd
        subst hop'
        have hfv := s.eval f
        rw [hfe] at hfv
        obtain ⟨cv, _, e1, e2⟩ := hfv
        have hr := callee_run (P := P) (w := w) (args := args) (ts := ts) (ty := ty) (dst := dst) (pos := pos) (aft := aft) (gd := gd) hent e1
        unfold Oper.wp
        rw [hr]
        have hargs : VReps .any (mkE Φ H ob w) (args.toList.map (evV sl) ++ caps) (args.map a.eval ++ cv).toList := by
          simp only [Array.toList_append, Array.toList_map]
          exact (evals_rep' (sl := sl) (ob := ob) s args.toList).append e2
        refine (hc C hC Φ H a w s _ hargs).mono fun en w' q => ?_
        cases en with
        | returned v =>
          obtain ⟨Φ', H', ob', r, q1, q2, rfl, rfl⟩ := q
          exact ih _ _ _ _ _ Φ' H' hlen2 htd (hnext _ e.x v rfl (by rw [hee]; rfl) fun h => by rw [hee] at h; cases h) (hput q1 q2)
        | panicked c => exact q.elim
        | outgrown => exact q.elim
      · have hve : vop T sl ob o.op = some (p, e.x, ob') := by
          rw [← hv]
          exact (vop_congr (quietR_or hqr) fun t ht => hreads t (by unfold usesG; exact List.mem_append.2 (.inl ht))).symm
        obtain ⟨_, v, hr, hx⟩ := vop_quiet (P := P) (sl := sl) (ob := ob) hT s hqr hve (hp (by rw [hstab]; exact hee))
        unfold Oper.wp
        rw [hr]
        exact ih _ _ _ _ _ Φ H hlen2 htd (hnext _ e.x v rfl (by rw [hee]; rfl) fun h => by rw [hee] at h; cases h) (hput s hx)

/-- A region whose order is drawn, all of whose operations leave the objects as they are. -/
theorem vwp_calm (hT : TabOK P T) (hm : P.follows .mixedOrders = true) {id : Nat} {Q : X → St → Prop} (hok : calmOK ops = true) (h : vcalm P T nt ob sl0 ops (fun m => Q .norm ⟨finC m m sl0, ob⟩) []) : vwp P nt (.region id ops.toArray true) Q ⟨sl0, ob⟩ := by
  intro C hC Φ H a w s
  obtain ⟨es, h1, h2, h3⟩ := vcalm_good ops [] h
  simp only [List.nil_append] at h2 h3
  refine wp_region_any hm ?_
  refine calm_any hT hok h1 h3 hC (fun Φ' H' a' w' s' => ⟨Φ', H', _, s', h2⟩) trivial _ (List.range ops.length) _ sl0 a _ Φ H (by simp) (fun i hi _ => by simpa using hi) ⟨by simp, fun j oj _ hl => ?_, fun i e _ hl => ?_, fun t _ => rfl⟩ s.draw
  · rw [getD_replicate_false] at hl; cases hl
  · rw [getD_replicate_false] at hl; cases hl
end
end Go.VX
