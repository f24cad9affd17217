/- Regions whose order is drawn, with operations that change memory: these come in one order alone; whatever else there is yields the same wherever it comes. -/
import Derived.Test.YthjpaongoflgiaaVXCalm
namespace Go.VX
open Go.RowKit
set_option linter.unusedVariables false
set_option linter.unusedSimpArgs false
set_option linter.unusedSectionVars false

/-- What an operation is in such a region: it changes memory; it doesn't look at memory; it looks at memory, between so many changes. -/
inductive Pl where
  | mv | pure | win (lo hi : Nat)

def pureOp : Op → Bool
  | .move _ | .assign _ | .pick _ _ _ | .extract _ _ | .unOp _ _ _ | .field _ _ _ => true
  | _ => false

/-- It changes memory. -/
def mvOp : Op → Bool
  | .store _ _ _ | .alloc _ | .box _ _ | .buildSlice _ _ _ | .makeSlice _ _ _ => true
  | .call ⟨.builtin .append, _, _⟩ => true
  | .call ⟨.builtin .copy, _, _⟩ => true
  | .call ⟨.builtin .delete, _, _⟩ => true
  | .makeMap _ _ | .lookup _ _ _ _ | .mapUpdate _ _ _ _ | .range _ _ | .entry _ => true
  | .call ⟨.value _, _, _⟩ => true
  | _ => false
theorem vop_pure {T : Nat → Option TI} {sl : List (Nat × V)} {ob ob2 : List Ob} {op : Op} {p : Prop} {x : V} {ob' : List Ob} (hp : pureOp op = true) (h : vop T sl ob op = some (p, x, ob')) : vop T sl ob2 op = some (p, x, ob2) := by
  unfold pureOp at hp
  split at hp
  · simp only [vop, Option.some.injEq, Prod.mk.injEq] at h ⊢; exact ⟨h.1, h.2.1, trivial⟩
  · simp only [vop, Option.some.injEq, Prod.mk.injEq] at h ⊢; exact ⟨h.1, h.2.1, trivial⟩
  · simp only [vop] at h ⊢
    split at h
    · simp only [Option.some.injEq, Prod.mk.injEq] at h ⊢; exact ⟨h.1, h.2.1, trivial⟩
    · cases h
  · simp only [vop] at h ⊢
    split at h
    · split at h
      · simp only [Option.some.injEq, Prod.mk.injEq] at h ⊢; exact ⟨h.1, h.2.1, trivial⟩
      · cases h
    · cases h
  · simp only [vop] at h ⊢
    split at h
    · simp only [Option.some.injEq, Prod.mk.injEq] at h ⊢; exact ⟨h.1, h.2.1, trivial⟩
    · cases h
  · simp only [vop] at h ⊢
    split at h
    · split at h
      · split at h
        · simp only [Option.some.injEq, Prod.mk.injEq] at h ⊢; exact ⟨h.1, h.2.1, trivial⟩
        · cases h
      · cases h
    · cases h
  · cases hp

/-! ### What must come before what -/
def depsOK (ops : List Oper) (deps : List (List Nat)) : Bool :=
  (List.range ops.length).all fun i => (deps.getD i []).all fun k => (List.range i).any fun m => Region.waitsFor .any ops.toArray i m && (m == k || (deps.getD m []).contains k)
def rankOf (plan : List Pl) (i : Nat) : Nat := ((plan.take i).filter fun q => match q with | .mv => true | _ => false).length
def isMv : Pl → Bool
  | .mv => true
  | _ => false
/-- Operation i comes behind just `lo` changes at least, `hi` at most. -/
def between (plan : List Pl) (deps : List (List Nat)) (n i lo hi : Nat) : Bool :=
  (List.range n).all fun k => match plan[k]? with
    | some .mv => k == i || ((decide (lo ≤ rankOf plan k) || (deps.getD i []).contains k) && (decide (rankOf plan k < hi) || (deps.getD k []).contains i))
    | _ => true
def stormAt (ops : List Oper) (i : Nat) (o : Oper) (k : Nat) : Bool :=
  match ops[k]? with
  | some o' => match o'.dst with
    | some t => (k == i || o.dst != some t) && (!(usesG ops o).contains t || if k < i then Region.waitsFor .any ops.toArray i k else if i < k then Region.waitsFor .any ops.toArray k i else true)
    | none => true
  | none => false
def stormOK (nt : Sh) (ops : List Oper) (plan : List Pl) (deps : List (List Nat)) : Bool :=
  depsOK ops deps && (decide (plan.length = ops.length) && (List.range ops.length).all fun i => match ops[i]?, plan[i]? with
    | some o, some pl => (o.after.all fun e => !Region.binds .any e || decide (e.on < i)) && ((List.range ops.length).all (stormAt ops i o) && ((usesG ops o).all (fun t => decide (t < nt.nt)) && match pl with
      | .mv => mvOp o.op && between plan deps ops.length i (rankOf plan i) (rankOf plan i)
      | .pure => pureOp o.op
      | .win lo hi => decide (lo ≤ rankOf plan plan.length) && between plan deps ops.length i lo hi))
    | _, _ => false)

/-! ### What each operation yields -/
def dOf (nt : Sh) (i : Nat) (o : Oper) : Nat := o.dst.getD (nt.nt + i)
def okd' (nt : Sh) (o : Oper) : Prop := match o.dst with
  | some d => d < nt.nt
  | none => True

def xOf (o : Oper) (x : V) : V := if o.dst.isSome = true then x else .junk

/-- Kept shut till a call's result is there. -/
def shut2 (G : List CE → List (List Ob) → List Ob → Prop) (m : List CE) (obs : List (List Ob)) (d : Nat) (ch : Ch) (o : Oper) (x : V) (ob' : List Ob) : Prop := G (m ++ [⟨d, xOf o x, ch⟩]) (obs ++ [ob']) ob'
def vstormB (P : Program) (T : Nat → Option TI) (nt : Sh) (sl0 : List (Nat × V)) (o : Oper) (pl : Pl) (i : Nat) (m : List CE) (obs : List (List Ob)) (ob : List Ob) (G : List CE → List (List Ob) → List Ob → Prop) : Prop :=
  match chainOf m o with
  | some ch => okd' nt o ∧ match pl with
    | .mv => if eOf m ch = true then
        match o.op with
        | .call ⟨.value f, args, _⟩ => match evV (atC m ch sl0 m) f with
          | .fn k caps => ∃ x ob', (∀ sl, vcall P nt ⟨sl, ob⟩ k (args.toList.map (evV (atC m ch sl0 m)) ++ caps) (vis x ob')) ∧ shut2 G m obs (dOf nt i o) ch o x ob'
          | _ => False
        | op => match vop T (atC m ch sl0 m) ob op with
          | some (p, x, ob') => p ∧ G (m ++ [⟨dOf nt i o, xOf o x, ch⟩]) (obs ++ [ob']) ob'
          | none => False
      else G (m ++ [⟨dOf nt i o, .junk, ch⟩]) (obs ++ [ob]) ob
    | _ => match vop T (atC m ch sl0 m) ob o.op with
      | some (p, x, _) => quietR o.op x = true ∧ (eOf m ch = true → p) ∧ o.dst.isSome = true ∧ G (m ++ [⟨dOf nt i o, x, ch⟩]) obs ob
      | none => False
  | none => False
def vstorm (P : Program) (T : Nat → Option TI) (nt : Sh) (sl0 : List (Nat × V)) : List Oper → List Pl → Nat → (List CE → List (List Ob) → List Ob → Prop) → List CE → List (List Ob) → List Ob → Prop
  | o :: rest, pl :: plan, i, Q, m, obs, ob => vstormB P T nt sl0 o pl i m obs ob (vstorm P T nt sl0 rest plan (i + 1) Q)
  | [], [], _, Q, m, obs, ob => Q m obs ob
  | _, _, _, _, _, _, _ => False

/-- What looks at memory yields the same in all of its window. -/
def chk1 (T : Nat → Option TI) (sl0 : List (Nat × V)) (m : List CE) (e : CE) (o : Oper) (ob : List Ob) : Prop :=
  match vop T (atC m e.c sl0 m) ob o.op with
  | some (p, x, _) => x = e.x ∧ (eOf m e.c = true → p)
  | none => False
def chkW (T : Nat → Option TI) (sl0 : List (Nat × V)) (m : List CE) (e : CE) (o : Oper) : Nat → Nat → List (List Ob) → Prop
  | _, _, [] => True
  | 0, 0, ob :: _ => chk1 T sl0 m e o ob
  | 0, h + 1, ob :: r => chk1 T sl0 m e o ob ∧ chkW T sl0 m e o 0 h r
  | l + 1, h + 1, _ :: r => chkW T sl0 m e o l h r
  | _ + 1, 0, _ :: _ => True
def chkAll (T : Nat → Option TI) (sl0 : List (Nat × V)) (obs : List (List Ob)) : List Oper → List Pl → List CE → List CE → Prop
  | o :: rest, .win lo hi :: plan, m, e :: es => chkW T sl0 m e o lo hi obs ∧ chkAll T sl0 obs rest plan (m ++ [e]) es
  | _ :: rest, _ :: plan, m, e :: es => chkAll T sl0 obs rest plan (m ++ [e]) es
  | _, _, _, _ => True

/-- What is known of one operation. -/
structure GoodS (P : Program) (T : Nat → Option TI) (nt : Sh) (obs : List (List Ob)) (sl0 : List (Nat × V)) (m : List CE) (o : Oper) (pl : Pl) (r i : Nat) (e : CE) : Prop where
  d : e.d = dOf nt i o
  ch : chainOf m o = some e.c
  okd : okd' nt o
  run : match pl with
    | .mv => ∃ ob ob', obs[r]? = some ob ∧ obs[r + 1]? = some ob' ∧ (if eOf m e.c = true then ∃ x, e.x = xOf o x ∧
        ((∃ f args ts k caps, o.op = .call ⟨.value f, args, ts⟩ ∧ evV (atC m e.c sl0 m) f = .fn k caps ∧ ∀ sl, vcall P nt ⟨sl, ob⟩ k (args.toList.map (evV (atC m e.c sl0 m)) ++ caps) (vis x ob')) ∨
        (∃ p, (∀ f args ts, o.op ≠ .call ⟨.value f, args, ts⟩) ∧ vop T (atC m e.c sl0 m) ob o.op = some (p, x, ob') ∧ p)) else e.x = .junk ∧ ob' = ob)
    | .pure => o.dst.isSome = true ∧ ∃ ob p ob', vop T (atC m e.c sl0 m) ob o.op = some (p, e.x, ob') ∧ quietR o.op e.x = true ∧ (eOf m e.c = true → p)
    | .win lo hi => o.dst.isSome = true ∧ quietR o.op e.x = true ∧ ∀ j ob, lo ≤ j → j ≤ hi → obs[j]? = some ob → ∃ p ob', vop T (atC m e.c sl0 m) ob o.op = some (p, e.x, ob') ∧ (eOf m e.c = true → p)

section
variable {P : Program} {T : Nat → Option TI} {nt : Sh} {sl0 : List (Nat × V)}

theorem chkW_get {m : List CE} {e : CE} {o : Oper} : ∀ {lo hi : Nat} {obs : List (List Ob)}, chkW T sl0 m e o lo hi obs → ∀ j ob, lo ≤ j → j ≤ hi → obs[j]? = some ob → chk1 T sl0 m e o ob
  | _, _, [], _, j, ob, _, _, h => by simp at h
  | 0, 0, x :: r, h, j, ob, h1, h2, h3 => by
    obtain rfl : j = 0 := by omega
    simp at h3; subst h3; exact h
  | 0, hi + 1, x :: r, h, j, ob, h1, h2, h3 => by
    cases j with
    | zero => simp at h3; subst h3; exact h.1
    | succ j => exact chkW_get h.2 j ob (by omega) (by omega) (by simpa using h3)
  | l + 1, hi + 1, x :: r, h, j, ob, h1, h2, h3 => by
    cases j with
    | zero => omega
    | succ j => exact chkW_get (show chkW T sl0 m e o l hi r from h) j ob (by omega) (by omega) (by simpa using h3)
  | l + 1, 0, x :: r, h, j, ob, h1, h2, h3 => by omega

/-- The entries of a whole region. -/
theorem vstorm_good {F : List CE → List (List Ob) → List Ob → Prop} (plan0 : List Pl) : ∀ (l : List Oper) (plan : List Pl) (i : Nat) (m : List CE) (obs : List (List Ob)) (ob : List Ob), vstorm P T nt sl0 l plan i F m obs ob → plan0.drop i = plan → m.length = i → obs.length = rankOf plan0 i + 1 → obs[rankOf plan0 i]? = some ob →
    ∃ (es : List CE) (obs' : List (List Ob)) (ob' : List Ob), es.length = l.length ∧ plan.length = l.length ∧ obs'.length = rankOf plan0 (i + l.length) + 1 ∧ obs'[rankOf plan0 (i + l.length)]? = some ob' ∧ (∀ j, j < obs.length → obs'[j]? = obs[j]?) ∧ F (m ++ es) obs' ob' ∧
      (chkAll T sl0 obs' l plan m es → ∀ j o pl e, l[j]? = some o → plan[j]? = some pl → es[j]? = some e → GoodS P T nt obs' sl0 (m ++ es.take j) o pl (rankOf plan0 (i + j)) (i + j) e)
  | [], [], i, m, obs, ob, h, hp, hm, hl, ho => ⟨[], obs, ob, rfl, rfl, by simpa using hl, by simpa using ho, fun j _ => rfl, by simpa [vstorm] using h, fun _ j o pl e h1 => by simp at h1⟩
  | [], _ :: _, i, m, obs, ob, h, _, _, _, _ => by simp [vstorm] at h
  | _ :: _, [], i, m, obs, ob, h, _, _, _, _ => by simp [vstorm] at h
  | o :: rest, pl :: plan, i, m, obs, ob, h, hp, hm, hl, ho => by
    simp only [vstorm, vstormB] at h
    split at h
    case h_2 => exact h.elim
    rename_i ch hch
    obtain ⟨hokd, h⟩ := h
    have hpl : plan0[i]? = some pl := by
      have := congrArg (·[0]?) hp
      simpa using this
    have hdrop : plan0.drop (i + 1) = plan := by
      rw [← List.drop_drop, hp]; rfl
    have hrank : rankOf plan0 (i + 1) = rankOf plan0 i + (if isMv pl = true then 1 else 0) := by
      unfold rankOf
      rw [List.take_add_one, hpl]
      simp only [Option.toList_some, List.filter_append, List.length_append]
      cases pl <;> simp [isMv]
    have fin : ∀ (e : CE) (obs1 : List (List Ob)) (ob1 : List Ob), obs1.length = rankOf plan0 (i + 1) + 1 → obs1[rankOf plan0 (i + 1)]? = some ob1 → (∀ j, j < obs.length → obs1[j]? = obs[j]?) →
        (∀ obs' : List (List Ob), (∀ j, j < obs1.length → obs'[j]? = obs1[j]?) → (∀ lo hi, pl = .win lo hi → chkW T sl0 m e o lo hi obs') → GoodS P T nt obs' sl0 m o pl (rankOf plan0 i) i e) →
        vstorm P T nt sl0 rest plan (i + 1) F (m ++ [e]) obs1 ob1 →
        ∃ (es : List CE) (obs' : List (List Ob)) (ob' : List Ob), es.length = (o :: rest).length ∧ (pl :: plan).length = (o :: rest).length ∧ obs'.length = rankOf plan0 (i + (o :: rest).length) + 1 ∧ obs'[rankOf plan0 (i + (o :: rest).length)]? = some ob' ∧ (∀ j, j < obs.length → obs'[j]? = obs[j]?) ∧ F (m ++ es) obs' ob' ∧
          (chkAll T sl0 obs' (o :: rest) (pl :: plan) m es → ∀ j o' pl' e', (o :: rest)[j]? = some o' → (pl :: plan)[j]? = some pl' → es[j]? = some e' → GoodS P T nt obs' sl0 (m ++ es.take j) o' pl' (rankOf plan0 (i + j)) (i + j) e') := by
      intro e obs1 ob1 g1 g2 g3 g4 g5
      obtain ⟨es, obs', ob', k1, k2, k3, k4, k5, k6, k7⟩ := vstorm_good plan0 rest plan (i + 1) (m ++ [e]) obs1 ob1 g5 hdrop (by simp [hm]) g1 g2
      have hle : obs.length ≤ obs1.length := by rw [g1, hl, hrank]; omega
      refine ⟨e :: es, obs', ob', by simp [k1], by simp [k2], by rw [k3]; simp; congr 1; omega, by rw [← k4]; congr 2; simp; omega, fun j hj => (k5 j (by omega)).trans (g3 j hj), by simpa using k6, fun hc j o' pl' e' h1 h2 h3 => ?_⟩
      cases j with
      | zero =>
        simp only [List.getElem?_cons_zero, Option.some.injEq] at h1 h2 h3
        subst h1; subst h2; subst h3
        simp only [List.take_zero, List.append_nil, Nat.add_zero]
        refine g4 obs' k5 fun lo hi hpe => ?_
        subst hpe
        exact hc.1
      | succ j =>
        simp only [List.getElem?_cons_succ] at h1 h2 h3
        have hc' : chkAll T sl0 obs' rest plan (m ++ [e]) es := by
          cases pl with
          | win lo hi => exact hc.2
          | mv => exact hc
          | pure => exact hc
        have := k7 hc' j o' pl' e' h1 h2 h3
        have e1 : i + 1 + j = i + (j + 1) := by omega
        rw [e1] at this
        simpa using this
    have hnr : isMv pl = false → obs.length = rankOf plan0 (i + 1) + 1 ∧ obs[rankOf plan0 (i + 1)]? = some ob := fun q => by rw [hrank, q]; exact ⟨by simpa using hl, by simpa using ho⟩
    have hmr : isMv pl = true → ∀ ob1 : List Ob, (obs ++ [ob1]).length = rankOf plan0 (i + 1) + 1 ∧ (obs ++ [ob1])[rankOf plan0 (i + 1)]? = some ob1 ∧ (∀ j, j < obs.length → (obs ++ [ob1])[j]? = obs[j]?) := fun q ob1 => by
      rw [hrank, q]
      refine ⟨by simp [hl], ?_, fun j hj => List.getElem?_append_left hj⟩
      rw [List.getElem?_append_right (by simp; omega)]
      simp [hl]
    have hat : ∀ obs' : List (List Ob), (∀ j, j < obs.length → obs'[j]? = obs[j]?) → obs'[rankOf plan0 i]? = some ob := fun obs' q => by rw [q _ (by omega), ho]
    split at h
    · -- a change
      split at h
      · rename_i hee
        have mk : ∀ (x : V) (ob1 : List Ob), ((∃ f args ts k caps, o.op = .call ⟨.value f, args, ts⟩ ∧ evV (atC m ch sl0 m) f = .fn k caps ∧ ∀ sl, vcall P nt ⟨sl, ob⟩ k (args.toList.map (evV (atC m ch sl0 m)) ++ caps) (vis x ob1)) ∨
            (∃ p, (∀ f args ts, o.op ≠ .call ⟨.value f, args, ts⟩) ∧ vop T (atC m ch sl0 m) ob o.op = some (p, x, ob1) ∧ p)) → vstorm P T nt sl0 rest plan (i + 1) F (m ++ [⟨dOf nt i o, xOf o x, ch⟩]) (obs ++ [ob1]) ob1 → _ := fun x ob1 hx hg =>
          fin ⟨dOf nt i o, xOf o x, ch⟩ (obs ++ [ob1]) ob1 (hmr rfl ob1).1 (hmr rfl ob1).2.1 (hmr rfl ob1).2.2 (fun obs' q _ => ⟨rfl, hch, hokd, ob, ob1, hat obs' fun j hj => (q j (by simp; omega)).trans ((hmr rfl ob1).2.2 j hj), by
            rw [q _ (by simp [hl]), show rankOf plan0 i + 1 = obs.length from hl.symm]; simp, by rw [if_pos hee]; exact ⟨x, rfl, hx⟩⟩) hg
        split at h
        · rename_i f args ts hop
          split at h
          case h_2 => exact h.elim
          rename_i k caps hf
          obtain ⟨x, ob1, h1, h2⟩ := h
          exact mk x ob1 (.inl ⟨f, args, ts, k, caps, hop, hf, h1⟩) h2
        · rename_i hnc
          split at h
          case h_2 => exact h.elim
          rename_i p x ob1 hv
          exact mk x ob1 (.inr ⟨p, fun f args ts e => hnc f args ts e, hv, h.1⟩) h.2
      · rename_i hee
        exact fin ⟨dOf nt i o, .junk, ch⟩ (obs ++ [ob]) ob (hmr rfl ob).1 (hmr rfl ob).2.1 (hmr rfl ob).2.2 (fun obs' q _ => ⟨rfl, hch, hokd, ob, ob, hat obs' fun j hj => (q j (by simp; omega)).trans ((hmr rfl ob).2.2 j hj), by
            rw [q _ (by simp [hl]), show rankOf plan0 i + 1 = obs.length from hl.symm]; simp, by rw [if_neg hee]; exact ⟨rfl, rfl⟩⟩) h
    · rename_i hnm
      split at h
      case h_2 => exact h.elim
      rename_i p x ob1 hv
      obtain ⟨h1, h2, h3, h4⟩ := h
      have hf : isMv pl = false := by cases pl <;> first | rfl | exact absurd rfl hnm
      refine fin ⟨dOf nt i o, x, ch⟩ obs ob (hnr hf).1 (hnr hf).2 (fun _ _ => rfl) (fun obs' q hw => ⟨rfl, hch, hokd, ?_⟩) h4
      cases pl with
      | mv => simp [isMv] at hf
      | pure => exact ⟨h3, ob, p, ob1, hv, h1, h2⟩
      | win lo hi =>
        refine ⟨h3, h1, fun j obj hj1 hj2 hj3 => ?_⟩
        have := chkW_get (hw lo hi rfl) j obj hj1 hj2 hj3
        unfold chk1 at this
        split at this
        case h_2 => exact this.elim
        rename_i p' x' ob'' hv'
        obtain ⟨rfl, hp'⟩ := this
        exact ⟨p', ob'', hv', hp'⟩

variable {ops : List Oper} {plan : List Pl} {deps : List (List Nat)} {es : List CE} {obs : List (List Ob)}

structure SOK (nt : Sh) (ops : List Oper) (plan : List Pl) (deps : List (List Nat)) (i : Nat) (o : Oper) (pl : Pl) : Prop where
  edge : ∀ e ∈ o.after, Region.binds .any e = true → e.on < i
  slot : ∀ (k : Nat) (o' : Oper) (t : Nat), ops[k]? = some o' → o'.dst = some t → (k = i ∨ o.dst ≠ some t) ∧ (t ∈ usesG ops o → (k < i → Region.waitsFor .any ops.toArray i k = true) ∧ (i < k → Region.waitsFor .any ops.toArray k i = true))
  uses : ∀ t ∈ usesG ops o, t < nt.nt
  kind : match pl with
      | .mv => mvOp o.op = true ∧ between plan deps ops.length i (rankOf plan i) (rankOf plan i) = true
      | .pure => pureOp o.op = true
      | .win lo hi => lo ≤ rankOf plan plan.length ∧ between plan deps ops.length i lo hi = true

theorem storm_of (hok : stormOK nt ops plan deps = true) : depsOK ops deps = true ∧ plan.length = ops.length ∧ ∀ (i : Nat) (o : Oper) (pl : Pl), ops[i]? = some o → plan[i]? = some pl → SOK nt ops plan deps i o pl := by
  simp only [stormOK, Bool.and_eq_true, decide_eq_true_eq] at hok
  obtain ⟨h1, h2, h3⟩ := hok
  refine ⟨h1, h2, fun i o pl ho hp => ?_⟩
  have hi : i < ops.length := (List.getElem?_eq_some_iff.1 ho).1
  have h := List.all_eq_true.1 h3 i (List.mem_range.2 hi)
  simp only [ho, hp, Bool.and_eq_true] at h
  obtain ⟨g1, g2, g3, g4⟩ := h
  refine ⟨fun e he hb => ?_, fun k o' t hk ht => ?_, fun t ht => by simpa using List.all_eq_true.1 g3 t ht, ?_⟩
  · have := Array.all_eq_true_iff_forall_mem.1 g1 e he
    simpa [hb] using this
  · have hk' : k < ops.length := (List.getElem?_eq_some_iff.1 hk).1
    have q := List.all_eq_true.1 g2 k (List.mem_range.2 hk')
    simp only [stormAt, hk, ht, Bool.and_eq_true, Bool.or_eq_true, beq_iff_eq, bne_iff_ne, ne_eq, Bool.not_eq_true', List.contains_eq_mem, decide_eq_false_iff_not] at q
    refine ⟨q.1, fun hu => ⟨fun hlt => ?_, fun hlt => ?_⟩⟩
    · rcases q.2 with q | q
      · exact absurd hu q
      · simpa [hlt] using q
    · rcases q.2 with q | q
      · exact absurd hu q
      · simpa [hlt, show ¬ k < i by omega] using q
  · cases pl with
    | mv => simpa using g4
    | pure => simpa using g4
    | win lo hi => simpa using g4

theorem deps_get (h : depsOK ops deps = true) {i k : Nat} (hi : i < ops.length) (hk : k ∈ deps.getD i []) : ∃ m, m < i ∧ Region.waitsFor .any ops.toArray i m = true ∧ (m = k ∨ k ∈ deps.getD m []) := by
  have := List.all_eq_true.1 (List.all_eq_true.1 h i (List.mem_range.2 hi)) k hk
  obtain ⟨m, h1, h2⟩ := List.any_eq_true.1 this
  simp only [Bool.and_eq_true, Bool.or_eq_true, beq_iff_eq, List.contains_eq_mem, decide_eq_true_eq] at h2
  exact ⟨m, List.mem_range.1 h1, h2.1, h2.2⟩

theorem deps_listed (h : depsOK ops deps = true) {listed : Array Bool} (hc : ∀ j oj, ops[j]? = some oj → listed.getD j false = true → ∀ e ∈ oj.after, Region.binds .any e = true → listed.getD e.on false = true) :
    ∀ (i : Nat), i < ops.length → (∀ m, Region.waitsFor .any ops.toArray i m = true → listed.getD m false = true) → ∀ k, k ∈ deps.getD i [] → listed.getD k false = true := by
  intro i
  induction i using Nat.strongRecOn with
  | _ i ih =>
    intro hi hw k hk
    obtain ⟨m, h1, h2, h3⟩ := deps_get h hi hk
    have hm := hw m h2
    rcases h3 with rfl | h3
    · exact hm
    · refine ih m h1 (by omega) (fun m' hm' => ?_) k h3
      obtain ⟨oj, q1, e', q2, q3, q4⟩ := Region.waitsFor_spec hm'
      have := hc m oj (by simpa using q1) hm e' q2 q3
      rwa [q4] at this

structure CntInv (plan : List Pl) (listed : Array Bool) (j : Nat) : Prop where
  le : j ≤ rankOf plan plan.length
  iff : ∀ k, plan[k]? = some .mv → (listed.getD k false = true ↔ rankOf plan k < j)

theorem rank_succ {i : Nat} {pl : Pl} (h : plan[i]? = some pl) : rankOf plan (i + 1) = rankOf plan i + (if isMv pl = true then 1 else 0) := by
  unfold rankOf
  rw [List.take_add_one, h]
  simp only [Option.toList_some, List.filter_append, List.length_append]
  cases pl <;> simp [isMv]
theorem rank_mono {i j : Nat} (h : i ≤ j) : rankOf plan i ≤ rankOf plan j := by
  induction j with
  | zero => obtain rfl : i = 0 := by omega
            exact Nat.le_refl _
  | succ j ih =>
    rcases Nat.lt_or_ge j i with hji | hji
    · obtain rfl : i = j + 1 := by omega
      exact Nat.le_refl _
    · refine Nat.le_trans (ih hji) ?_
      cases hp : plan[j]? with
      | some pl => rw [rank_succ hp]; omega
      | none =>
        have hl : plan.length ≤ j := by simpa using hp
        unfold rankOf
        rw [List.take_of_length_le hl, List.take_of_length_le (by omega)]
        exact Nat.le_refl _
theorem rank_lt {i : Nat} (h : plan[i]? = some .mv) : rankOf plan i < rankOf plan plan.length := by
  have hi := (List.getElem?_eq_some_iff.1 h).1
  have := rank_succ h
  have := rank_mono (plan := plan) (show i + 1 ≤ plan.length from hi)
  simp [isMv] at *
  omega
theorem rank_inj {i k : Nat} (h : plan[i]? = some .mv) (h2 : plan[k]? = some .mv) (e : rankOf plan i = rankOf plan k) : i = k := by
  have h1 := rank_succ h
  have h3 := rank_succ h2
  simp only [isMv, if_true] at h1 h3
  rcases Nat.lt_trichotomy i k with q | q | q
  · have := rank_mono (plan := plan) (show i + 1 ≤ k from q); omega
  · exact q
  · have := rank_mono (plan := plan) (show k + 1 ≤ i from q); omega
/-- If all is listed, all changes are. -/
theorem rank_hit : ∀ (n : Nat) {r : Nat}, r < rankOf plan n → ∃ k, k < n ∧ plan[k]? = some .mv ∧ rankOf plan k = r
  | 0, r, h => by simp [rankOf] at h
  | n + 1, r, h => by
    rcases Nat.lt_or_ge r (rankOf plan n) with q | q
    · obtain ⟨k, h1, h2, h3⟩ := rank_hit n q
      exact ⟨k, by omega, h2, h3⟩
    · cases hp : plan[n]? with
      | none =>
        have hl : plan.length ≤ n := by simpa using hp
        unfold rankOf at h q
        rw [List.take_of_length_le (by omega)] at h
        rw [List.take_of_length_le hl] at q
        omega
      | some pl =>
        rw [rank_succ hp] at h
        cases pl with
        | mv => exact ⟨n, by omega, hp, by simp [isMv] at h; omega⟩
        | pure => simp [isMv] at h; omega
        | win lo hi => simp [isMv] at h; omega
theorem CntInv.all {listed : Array Bool} {j : Nat} (c : CntInv plan listed j) (h : ∀ i, i < plan.length → listed.getD i false = true) (hj : j ≤ rankOf plan plan.length) : j = rankOf plan plan.length := by
  rcases Nat.lt_or_ge j (rankOf plan plan.length) with q | q
  · obtain ⟨k, h1, h2, h3⟩ := rank_hit plan.length q
    have := (c.iff k h2).1 (h k h1)
    omega
  · omega

theorem all_listed' (hedge : ∀ (i : Nat) (o : Oper), ops[i]? = some o → ∀ e ∈ o.after, Region.binds .any e = true → e.on < i) {listed : Array Bool} (hsz : listed.size = ops.length) (hr : Region.ready .any ops.toArray listed = []) : ∀ i, i < ops.length → listed.getD i false = true := by
  intro i
  induction i using Nat.strongRecOn with
  | _ i ih =>
    intro hi
    cases hl : listed.getD i false with
    | true => rfl
    | false =>
      exfalso
      have hmem : i ∈ Region.ready .any ops.toArray listed := by
        rw [mem_ready]
        have hi' : i < listed.size := by omega
        refine ⟨by simp [hi'] at hl ⊢; exact hl, ops[i], by simp [hi], fun e he hb => ?_⟩
        have := hedge i _ (List.getElem?_eq_getElem hi) e he hb
        exact ih e.on this (by omega)
      rw [hr] at hmem
      cases hmem

/-- How many changes there have been when an operation comes. -/
theorem between_cnt (hplen : plan.length = ops.length) (hdeps : depsOK ops deps = true) {i lo hi j : Nat} {listed : Array Bool} (hb : between plan deps ops.length i lo hi = true) (hi' : i < ops.length) (c : CntInv plan listed j)
    (hc : ∀ j oj, ops[j]? = some oj → listed.getD j false = true → ∀ e ∈ oj.after, Region.binds .any e = true → listed.getD e.on false = true)
    (hw : ∀ k, Region.waitsFor .any ops.toArray i k = true → listed.getD k false = true) (hun : listed.getD i false = false)
    (hlo : lo ≤ rankOf plan plan.length) (hmv : plan[i]? = some .mv → rankOf plan i = lo) : lo ≤ j ∧ j ≤ hi := by
  have get : ∀ k, plan[k]? = some .mv → k = i ∨ ((lo ≤ rankOf plan k ∨ k ∈ deps.getD i []) ∧ (rankOf plan k < hi ∨ i ∈ deps.getD k [])) := fun k hk => by
    have hkl : k < ops.length := by rw [← hplen]; exact (List.getElem?_eq_some_iff.1 hk).1
    have := List.all_eq_true.1 hb k (List.mem_range.2 hkl)
    simp only [hk, Bool.or_eq_true, Bool.and_eq_true, beq_iff_eq, decide_eq_true_eq, List.contains_eq_mem] at this
    exact this
  constructor
  · rcases Nat.eq_zero_or_pos lo with h0 | h0
    · omega
    · obtain ⟨k, h1, h2, h3⟩ := rank_hit (plan := plan) plan.length (r := lo - 1) (by omega)
      rcases get k h2 with rfl | ⟨q, _⟩
      · have := hmv h2; omega
      · rcases q with q | q
        · omega
        · have := (c.iff k h2).1 (deps_listed hdeps hc i (by
            rcases Nat.lt_or_ge i ops.length with q1 | q1
            · exact q1
            · exfalso
              have : deps.getD i [] ≠ [] := by intro e; rw [e] at q; cases q
              omega) hw k q)
          omega
  · rcases Nat.lt_or_ge hi (rankOf plan plan.length) with h0 | h0
    · obtain ⟨k, h1, h2, h3⟩ := rank_hit plan.length h0
      rcases Nat.lt_or_ge hi j with q | q
      · exfalso
        have hl := (c.iff k h2).2 (by omega)
        rcases get k h2 with rfl | ⟨_, q2⟩
        · rw [hun] at hl; cases hl
        · rcases q2 with q2 | q2
          · omega
          · have hkl : k < ops.length := by omega
            have := deps_listed hdeps hc k hkl (fun m hm => by
              obtain ⟨oj, q1, e', q3, q4, q5⟩ := Region.waitsFor_spec hm
              have := hc k oj (by simpa using q1) hl e' q3 q4
              rwa [q5] at this) i q2
            rw [hun] at this; cases this
      · exact q
    · have := c.le; omega

theorem put_undef {a : Act} {C : Ctx} {o : Oper} {i : Nat} {e : CE} (h : a.tmps.size = C.nt.nt) (hC : C.nt = nt) (hd : e.d = dOf nt i o) (hlt : okd' nt o) : (a.put o.dst undef).tmps.getD e.d undef = undef := by
  rw [hd]
  unfold dOf
  cases ho : o.dst with
  | some d =>
    simp only [Option.getD_some, Act.put, Array.getD_eq_getD_getElem?, Array.getElem?_setIfInBounds]
    simp only [if_true]
    split <;> rfl
  | none =>
    simp only [Option.getD_none, Act.put, Array.getD_eq_getD_getElem?]
    rw [Array.getElem?_eq_none (by rw [h, hC]; omega)]
    rfl

theorem vop_mv_congr {sl sl' : List (Nat × V)} {ob : List Ob} {op : Op} (hq : mvOp op = true) (hn : ∀ f args ts, op ≠ .call ⟨.value f, args, ts⟩) (h : ∀ t ∈ usesOp op, getS sl t = getS sl' t) : vop T sl ob op = vop T sl' ob op := by
  unfold mvOp at hq
  split at hq
  · simp only [usesOp, List.mem_append] at h
    simp only [vop, evV_congr (x := _) fun t ht => h t (.inl ht), evV_congr (x := _) fun t ht => h t (.inr ht)]
  · rfl
  · simp only [vop, evV_congr (x := _) h]
  · rename_i t n parts
    have e : (parts.toList.map fun q => (q.1, evV sl q.2)) = parts.toList.map fun q => (q.1, evV sl' q.2) := List.map_congr_left fun q hq => by
      rw [evV_congr fun t ht => h t (List.mem_flatMap.2 ⟨q, hq, ht⟩)]
    simp only [vop, e]
  · simp only [usesOp, List.mem_append] at h
    simp only [vop, evV_congr (x := _) fun t ht => h t (.inl ht), evV_congr (x := _) fun t ht => h t (.inr ht)]
  · rename_i args ts
    have e := evVs_congr (sl := sl) (sl' := sl') (xs := args.toList) h
    simp only [vop]
    match args.toList, e, ts.toList with
    | [x, y], e, [t, t2] => simp only [List.map, List.cons.injEq] at e; simp only [vopCall, e.1, e.2.1]
    | [], _, _ => simp [vopCall]
    | [_], _, _ => simp [vopCall]
    | _ :: _ :: _ :: _, _, _ => simp [vopCall]
    | [_, _], _, [] => simp [vopCall]
    | [_, _], _, [_] => simp [vopCall]
    | [_, _], _, _ :: _ :: _ :: _ => simp [vopCall]
  · rename_i args ts
    have e := evVs_congr (sl := sl) (sl' := sl') (xs := args.toList) h
    simp only [vop]
    match args.toList, e, ts.toList with
    | [x, y], e, [t, t2] => simp only [List.map, List.cons.injEq] at e; simp only [vopCall, e.1, e.2.1]
    | [], _, _ => simp [vopCall]
    | [_], _, _ => simp [vopCall]
    | _ :: _ :: _ :: _, _, _ => simp [vopCall]
    | [_, _], _, [] => simp [vopCall]
    | [_, _], _, [_] => simp [vopCall]
    | [_, _], _, _ :: _ :: _ :: _ => simp [vopCall]
  · rename_i args ts
    have e := evVs_congr (sl := sl) (sl' := sl') (xs := args.toList) h
    simp only [vop]
    match args.toList, e, ts.toList with
    | [x, y], e, [t, t2] => simp only [List.map, List.cons.injEq] at e; simp only [vopCall, e.1, e.2.1]
    | [], _, _ => simp [vopCall]
    | [_], _, _ => simp [vopCall]
    | _ :: _ :: _ :: _, _, _ => simp [vopCall]
    | [_, _], _, [] => simp [vopCall]
    | [_, _], _, [_] => simp [vopCall]
    | [_, _], _, _ :: _ :: _ :: _ => simp [vopCall]
  · rename_i t r
    cases r <;> rfl
  · simp only [usesOp, List.mem_append] at h
    simp only [vop, evV_congr (x := _) fun t ht => h t (.inl ht), evV_congr (x := _) fun t ht => h t (.inr ht)]
  · rename_i t m k y
    simp only [usesOp, List.mem_append] at h
    simp only [vop, evV_congr (x := m) fun t ht => h t (.inl ht), evV_congr (x := k) fun t ht => h t (.inr (.inl ht)), evV_congr (x := y) fun t ht => h t (.inr (.inr ht))]
  · simp only [vop, evV_congr (x := _) h]
  · simp only [vop, evV_congr (x := _) h]
  · exact absurd rfl (hn _ _ _)
  · cases hq

theorem storm_any (hT : TabOK P T) (hok : stormOK nt ops plan deps = true) (hlen : es.length = ops.length) (hobs : obs.length = rankOf plan plan.length + 1)
    (hgood : ∀ (i : Nat) (o : Oper) (pl : Pl) (e : CE), ops[i]? = some o → plan[i]? = some pl → es[i]? = some e → GoodS P T nt obs sl0 (es.take i) o pl (rankOf plan i) i e) {C : Ctx} (hC : C.nt = nt) {Qx : Exit → Act → World → Prop}
    (hq : ∀ Φ H a w ob, obs[rankOf plan plan.length]? = some ob → SimE C Φ H ⟨finC es es sl0, ob⟩ a w → Qx .normal a w) :
    ∀ (fuel : Nat) (todo : List Nat) (listed : Array Bool) (sl : List (Nat × V)) (a : Act) (w : World) Φ H (j : Nat) (ob : List Ob), todo.length ≤ fuel → (∀ i, i < ops.length → listed.getD i false = false → i ∈ todo) → CInv ops es sl0 listed sl a → CntInv plan listed j → obs[j]? = some ob → SimE C Φ H ⟨sl, ob⟩ a w →
      wpAny P .any ops.toArray Qx fuel listed a w := by
  obtain ⟨hdeps, hplen, hsok⟩ := storm_of hok
  have hpl : ∀ i o, ops[i]? = some o → ∃ pl, plan[i]? = some pl := fun i o h => ⟨_, List.getElem?_eq_getElem (by have := (List.getElem?_eq_some_iff.1 h).1; omega)⟩
  have hgd : ∀ (i : Nat) (o : Oper) (e : CE), ops[i]? = some o → es[i]? = some e → e.d = dOf nt i o ∧ chainOf (es.take i) o = some e.c ∧ okd' nt o := fun i o e h1 h2 => by
    obtain ⟨pl, h3⟩ := hpl i o h1
    have := hgood i o pl e h1 h3 h2
    exact ⟨this.d, this.ch, this.okd⟩
  have hat : ∀ {i k : Nat} {o o' : Oper} {t : Nat}, ops[i]? = some o → ops[k]? = some o' → o'.dst = some t →
      (k = i ∨ o.dst ≠ some t) ∧ (t ∈ usesG ops o → (k < i → Region.waitsFor .any ops.toArray i k = true) ∧ (i < k → Region.waitsFor .any ops.toArray k i = true)) := fun {i k o o' t} h1 h2 h3 => by
    obtain ⟨pl, h4⟩ := hpl i o h1
    exact (hsok i o pl h1 h4).slot k o' t h2 h3
  have hreal : ∀ (i : Nat) (o : Oper) (e : CE), ops[i]? = some o → es[i]? = some e → e.d < nt.nt → o.dst = some e.d := fun i o e h1 h2 h3 => by
    have := (hgd i o e h1 h2).1
    unfold dOf at this
    cases hd : o.dst with
    | some d => rw [hd] at this; rw [this]; rfl
    | none => rw [hd] at this; simp only [Option.getD_none] at this; omega
  have hdst : ∀ (j : Nat) (oj : Oper) (e : CE), ops[j]? = some oj → es[j]? = some e → ∀ b, e.x = .bool b → oj.dst = some e.d := fun j oj e h1 h2 b hb => by
    obtain ⟨pl, h3⟩ := hpl j oj h1
    obtain ⟨g1, g2, g3, g4⟩ := hgood j oj pl e h1 h3 h2
    have hs : oj.dst.isSome = true := by
      cases pl with
      | pure => exact g4.1
      | win lo hi => exact g4.1
      | mv =>
        obtain ⟨_, _, _, _, q⟩ := g4
        split at q
        · obtain ⟨x, hx, _⟩ := q
          rw [hb] at hx
          unfold xOf at hx
          split at hx
          · assumption
          · cases hx
        · rw [q.1] at hb; cases hb
    obtain ⟨d, hd⟩ := Option.isSome_iff_exists.1 hs
    rw [g1, hd]; simp [dOf, hd]
  have hes : ∀ i o, ops[i]? = some o → ∃ e, es[i]? = some e := fun i o h => ⟨_, List.getElem?_eq_getElem (by have := (List.getElem?_eq_some_iff.1 h).1; omega)⟩
  have hop : ∀ i e, es[i]? = some e → ∃ o, ops[i]? = some o := fun i o h => ⟨_, List.getElem?_eq_getElem (by have := (List.getElem?_eq_some_iff.1 h).1; omega)⟩
  have huniq : ∀ (i k : Nat) (e e' : CE), es[i]? = some e → es[k]? = some e' → e'.d = e.d → k = i := by
    intro i k e e' h1 h2 hd
    obtain ⟨o, ho⟩ := hop i e h1
    obtain ⟨o', ho'⟩ := hop k e' h2
    have k1 := (hgd i o e ho h1).1
    have k2 := (hgd k o' e' ho' h2).1
    have k3 := (hgd k o' e' ho' h2).2.2
    have k4 := (hgd i o e ho h1).2.2
    cases hd1 : o.dst with
    | none =>
      cases hd2 : o'.dst with
      | none => simp only [dOf, hd1, hd2, Option.getD_none] at k1 k2; omega
      | some t2 =>
        simp only [dOf, hd1, hd2, Option.getD_none, Option.getD_some] at k1 k2
        have k5 : @LT.lt Nat _ t2 nt.nt := by simpa [okd', hd2] using k3
        omega
    | some t1 =>
      cases hd2 : o'.dst with
      | none =>
        simp only [dOf, hd1, hd2, Option.getD_none, Option.getD_some] at k1 k2
        have k5 : @LT.lt Nat _ t1 nt.nt := by simpa [okd', hd1] using k4
        omega
      | some t2 =>
        simp only [dOf, hd1, hd2, Option.getD_some] at k1 k2
        rcases (hat ho ho' hd2).1 with q | q
        · exact q
        · exact absurd (by rw [hd1, ← k1, ← hd, k2]) q
  have hchain := chain_lt hlen fun i o e h1 h2 => (hgd i o e h1 h2).2.1
  have hfinal : ∀ (listed : Array Bool) (sl : List (Nat × V)) (a : Act) (w : World) Φ H (j : Nat) (ob : List Ob), (∀ i, i < ops.length → listed.getD i false = true) → CInv ops es sl0 listed sl a → CntInv plan listed j → obs[j]? = some ob → SimE C Φ H ⟨sl, ob⟩ a w → Qx .normal a w := by
    intro listed sl a w Φ H j ob hall inv cnt hob s
    have hj := cnt.all (fun i hi => hall i (by omega)) (by have := (List.getElem?_eq_some_iff.1 hob).1; omega)
    subst hj
    refine hq Φ H a w ob hob (s.slotsOf rfl rfl fun t => ?_)
    have e : getS (finC es es sl0) t = getS sl t := by
      by_cases ht : ∃ e ∈ es, e.d = t
      · obtain ⟨e, he, rfl⟩ := ht
        obtain ⟨k, hk⟩ := List.getElem?_of_mem he
        rw [getS_finC_hit hk fun j e' h1 h2 => huniq k j e e' hk h1 h2, (inv.hit k e hk (hall k (by rw [← hlen]; exact (List.getElem?_eq_some_iff.1 hk).1))).1]
      · rw [getS_finC_miss fun e he hd => ht ⟨e, he, hd⟩, inv.miss t fun i e he hd => absurd ⟨e, List.mem_of_getElem? he, hd⟩ ht]
    rw [e]
    exact s.slots t
  intro fuel
  induction fuel with
  | zero =>
    intro todo listed sl a w Φ H cn ob hf htodo inv cnt hob s
    have hall : ∀ i, i < ops.length → listed.getD i false = true := fun i hi => by
      cases hl : listed.getD i false with
      | true => rfl
      | false =>
        have := htodo i hi hl
        have : todo = [] := List.length_eq_zero_iff.1 (by omega)
        simp_all
    refine ⟨?_, hfinal listed sl a w Φ H cn ob hall inv cnt hob s⟩
    cases hr : Region.ready .any ops.toArray listed with
    | nil => rfl
    | cons i r =>
      exfalso
      have hm : i ∈ Region.ready .any ops.toArray listed := by rw [hr]; simp
      obtain ⟨h1, o, h2, _⟩ := mem_ready.1 hm
      have hi : i < ops.length := by
        have := (Array.getElem?_eq_some_iff.1 h2).1; simpa using this
      have := hall i hi
      have hi' : i < listed.size := by rw [inv.size]; exact hi
      simp [hi'] at h1 this
      rw [h1] at this; cases this
  | succ fuel ih =>
    intro todo listed sl a w Φ H cn ob hf htodo inv cnt hob s
    refine ⟨fun hr => hfinal listed sl a w Φ H cn ob (all_listed' (fun i o h => let ⟨pl, h2⟩ := hpl i o h; (hsok i o pl h h2).edge) inv.size hr) inv cnt hob s, fun i hi => ?_⟩
    obtain ⟨hun, o, ho, hafter⟩ := mem_ready.1 hi
    have ho' : ops[i]? = some o := by simpa using ho
    have hilt : i < ops.length := (List.getElem?_eq_some_iff.1 ho').1
    have hisz : i < listed.size := by rw [inv.size]; exact hilt
    have hunF : listed.getD i false = false := by simp [hisz] at hun ⊢; exact hun
    obtain ⟨e, he⟩ := hes i o ho'
    obtain ⟨pl, hpli⟩ := hpl i o ho'
    obtain ⟨hd, hch, hlt, hrun⟩ := hgood i o pl e ho' hpli he
    have hS := hsok i o pl ho' hpli
    have hwaits : ∀ k, Region.waitsFor .any ops.toArray i k = true → listed.getD k false = true := by
      intro k hk
      obtain ⟨oj, h1, e', h2, h3, h4⟩ := Region.waitsFor_spec hk
      rw [ho] at h1; obtain rfl := Option.some.inj h1
      rw [← h4]; exact hafter e' h2 h3
    have hnot : ∀ k, Region.waitsFor .any ops.toArray k i = true → listed.getD k false = false := by
      intro k hk
      cases hl : listed.getD k false with
      | false => rfl
      | true =>
        obtain ⟨oj, h1, e', h2, h3, h4⟩ := Region.waitsFor_spec hk
        have := inv.closed k oj (by simpa using h1) hl e' h2 h3
        rw [h4, hunF] at this; cases this
    -- what its operands hold
    have hread : eOf es e.c = true → ∀ t ∈ usesG ops o, getS (atC (es.take i) e.c sl0 (es.take i)) t = getS sl t := by
      intro hee t ht
      by_cases hx : ∃ (k : Nat) (e' : CE), es[k]? = some e' ∧ e'.d = t
      · obtain ⟨k, e', hk, rfl⟩ := hx
        obtain ⟨ok, hok'⟩ := hop k e' hk
        have hw := (hat ho' hok' (hreal k ok e' hok' hk (hS.uses _ ht))).2 ht
        rcases Nat.lt_trichotomy k i with hki | hki | hki
        · have hl := hwaits k (hw.1 hki)
          rw [(inv.hit k e' hk hl).1]
          have hk' : (es.take i)[k]? = some e' := by rw [List.getElem?_take, if_pos hki]; exact hk
          rw [getS_atC_hit hk' fun j e2 h1 h2 => huniq k j e' e2 hk (by rw [List.getElem?_take] at h1; split at h1; exact h1; cases h1) h2]
          have hst : eOf (es.take i) e'.c = eOf es e'.c := eOf_take fun s hs => Nat.lt_trans (hchain k e' hk s hs) hki
          split
          · rename_i hsub
            have := eOf_sub (m := es) hsub hee
            rw [this]; rfl
          · rw [hst]
        · subst hki
          rw [hk] at he; obtain rfl := Option.some.inj he
          rw [inv.miss _ fun j e2 h1 h2 => by rw [huniq k j e' e2 hk h1 h2]; exact hunF]
          refine getS_atC_miss fun e2 he2 hd2 => ?_
          obtain ⟨j, hj⟩ := List.getElem?_of_mem he2
          rw [List.getElem?_take] at hj
          split at hj
          case isFalse => cases hj
          rename_i hjk
          have := huniq k j e' e2 hk hj hd2
          omega
        · have hl := hnot k (hw.2 hki)
          rw [inv.miss _ fun j e2 h1 h2 => by rw [huniq k j e' e2 hk h1 h2]; exact hl]
          refine getS_atC_miss fun e2 he2 hd2 => ?_
          obtain ⟨j, hj⟩ := List.getElem?_of_mem he2
          rw [List.getElem?_take] at hj
          split at hj
          case isFalse => cases hj
          rename_i hjk
          have := huniq k j e' e2 hk hj hd2
          omega
      · rw [inv.miss t fun k e' hk hd => absurd ⟨k, e', hk, hd⟩ hx]
        refine getS_atC_miss fun e2 he2 hd2 => ?_
        obtain ⟨j, hj⟩ := List.getElem?_of_mem he2
        rw [List.getElem?_take] at hj
        split at hj
        case isFalse => cases hj
        exact hx ⟨j, e2, hj, hd2⟩
    -- is it wanted?
    have hwant : Region.wanted o (yielded ops.toArray a.tmps) = eOf es e.c := by
      unfold chainOf at hch
      split at hch
      · rename_i hg
        simp only [Option.some.injEq] at hch
        rw [← hch]
        simp [Region.wanted, hg, eOf]
      · rename_i j w' hg
        split at hch
        case h_2 => cases hch
        rename_i dj b cj hj
        simp only [Option.some.injEq] at hch
        rw [List.getElem?_take] at hj
        split at hj
        case isFalse => cases hj
        rename_i hji
        obtain ⟨oj, hoj⟩ := hop j _ hj
        have hdj0 := (hgd j oj _ hoj hj)
        have hdj : oj.dst = some dj := hdst j oj _ hoj hj _ rfl
        have huse : dj ∈ usesG ops o := by
          unfold usesG
          rw [hg]
          simp [hoj, hdj]
        have hl := hwaits j (((hat ho' hoj hdj).2 huse).1 hji)
        obtain ⟨i1, i2⟩ := inv.hit j _ hj hl
        have hde : (ops.toArray[j]?).bind (·.dst) = some dj := by simpa [hoj] using hdj
        have hts : tstC es (j, w') = (b == w') := by simp [tstC, hj]
        have hE : eOf es e.c = ((b == w') && eOf es cj) := by
          rw [← hch]; simp only [eOf, List.all_cons, hts]
        rw [hE]
        cases hcj : eOf es cj with
        | false =>
          have hu := i2 hcj
          have : yielded ops.toArray a.tmps j = none := by
            unfold yielded
            rw [hde, Option.bind_some]
            have hu' : a.tmps.getD dj undef = undef := hu
            rw [Array.getD_eq_getD_getElem?] at hu'
            cases hq3 : a.tmps[dj]? with
            | none => rfl
            | some v =>
              rw [hq3] at hu'
              simp only [Option.getD_some] at hu'
              rw [hu']
              rfl
          simp [Region.wanted, hg, this]
        | true =>
          have i1' : getS sl dj = .bool b := by rw [i1]; simp only [hcj]; rfl
          have hb := s.boolAt i1'
          have : yielded ops.toArray a.tmps j = some b := by
            unfold yielded
            rw [hde, Option.bind_some, hb]
          simp [Region.wanted, hg, this]
    have hset : ∀ j d, i ≠ j → (listed.setIfInBounds i true).getD j d = listed.getD j d := fun j d h => getD_set_ne d h
    have hsett : (listed.setIfInBounds i true).getD i false = true := by simp [hisz]
    have htd : ∀ j, j < ops.length → (listed.setIfInBounds i true).getD j false = false → j ∈ todo.erase i := by
      intro j hj hl
      have hne : i ≠ j := fun q => by subst q; rw [hsett] at hl; cases hl
      rw [hset j false hne] at hl
      exact (List.mem_erase_of_ne (Ne.symm hne)).2 (htodo j hj hl)
    have hlen2 : (todo.erase i).length ≤ fuel := by
      rw [List.length_erase_of_mem (htodo i hilt hunF)]; omega
    -- how things stand behind it
    have hnext : ∀ (a' : Act) (x : V) (v : Value), a' = a.put o.dst v → x = gt (eOf es e.c) true e.x → (eOf es e.c = false → v = undef) → CInv ops es sl0 (listed.setIfInBounds i true) (setS sl e.d x) a' := by
      intro a' x v ha hx hv
      refine ⟨by simp [inv.size], fun j oj hoj hl e' he' hb => ?_, fun j e' hj hl => ?_, fun t ht => ?_⟩
      · by_cases hij : i = j
        · subst hij
          rw [ho'] at hoj; obtain rfl := Option.some.inj hoj
          exact getD_set_true (hafter e' he' hb)
        · rw [hset j false hij] at hl
          exact getD_set_true (inv.closed j oj hoj hl e' he' hb)
      · by_cases hij : i = j
        · subst hij
          rw [he] at hj; obtain rfl := Option.some.inj hj
          refine ⟨by rw [getS_setS, if_pos rfl, hx], fun hf => ?_⟩
          rw [ha, hv hf]
          exact put_undef s.nt hC hd hlt
        · rw [hset j false hij] at hl
          have hne : e.d ≠ e'.d := fun q => hij (huniq j i e' e hj he q)
          obtain ⟨k1, k2⟩ := inv.hit j e' hj hl
          refine ⟨by rw [getS_setS, if_neg hne, k1], fun hf => ?_⟩
          rw [ha, put_other (by rw [hd] at hne; unfold dOf at hne; intro q; rw [q] at hne; exact hne rfl)]
          exact k2 hf
      · have hne : e.d ≠ t := fun q => by
          have := ht i e he q
          rw [hsett] at this; cases this
        rw [getS_setS, if_neg hne]
        refine inv.miss t fun j e' hj hd' => ?_
        have hij : i ≠ j := fun q => by subst q; rw [he] at hj; obtain rfl := Option.some.inj hj; exact hne hd'
        have := ht j e' hj hd'
        rwa [hset j false hij] at this
    have hnm : isMv pl = false → CntInv plan (listed.setIfInBounds i true) cn := fun q => ⟨cnt.le, fun k hk => by
      have hne : i ≠ k := fun e => by subst e; rw [hpli] at hk; obtain rfl := Option.some.inj hk; simp [isMv] at q
      rw [hset k false hne]; exact cnt.iff k hk⟩
    have hym : pl = .mv → cn = rankOf plan i ∧ CntInv plan (listed.setIfInBounds i true) (cn + 1) := fun q => by
      subst q
      have hb := between_cnt hplen hdeps hS.kind.2 hilt cnt inv.closed hwaits hunF (Nat.le_of_lt (rank_lt hpli)) fun _ => rfl
      have hr : cn = rankOf plan i := by omega
      refine ⟨hr, ⟨by have := rank_lt hpli; omega, fun k hk => ?_⟩⟩
      by_cases hik : i = k
      · subst hik; rw [hsett]; simp; omega
      · rw [hset k false hik, cnt.iff k hk]
        have := rank_inj hpli hk
        constructor
        · intro h; omega
        · intro h
          rcases Nat.lt_or_ge (rankOf plan k) cn with h' | h'
          · exact h'
          · exact absurd (this (by omega)) hik
    have hlt' : ∀ dd, o.dst = some dd → dd < C.nt.nt := fun dd h => by rw [hC]; unfold okd' at hlt; rw [h] at hlt; exact hlt
    have hput : ∀ {Φ' H' w' ob'} (s' : SimE C Φ' H' ⟨sl, ob'⟩ a w') {x : V} {v : Value}, VRep (mkE Φ' H' ob' w') x v → SimE C Φ' H' ⟨setS sl e.d (xOf o x), ob'⟩ (a.put o.dst v) w' := by
      intro Φ' H' w' ob' s' x v hx
      cases hdd : o.dst with
      | some dd =>
        have := s'.put (d := some dd) hx fun i' e1 => hlt' i' (by rw [hdd]; exact e1)
        rw [hd]
        simpa [dOf, hdd, xOf, putD] using this
      | none =>
        rw [hd]
        simp only [dOf, hdd, Option.getD_none, xOf, Option.isSome_none, Bool.false_eq_true, if_false]
        exact s'.slotsOf rfl rfl fun t => by
          rw [getS_setS]
          split
          · trivial
          · exact s'.slots t
    have hjunk : ∀ {Φ' H' w' ob'} (s' : SimE C Φ' H' ⟨sl, ob'⟩ a w'), SimE C Φ' H' ⟨setS sl e.d .junk, ob'⟩ (a.put o.dst undef) w' := by
      intro Φ' H' w' ob' s'
      have := hput s' (x := .junk) (v := undef) trivial
      have e1 : xOf o .junk = .junk := by unfold xOf; split <;> rfl
      rwa [e1] at this
    unfold wpOp
    rw [ho]
    simp only
    rw [hwant]
    have hstab : eOf (es.take i) e.c = eOf es e.c := eOf_take fun s hs => hchain i e he s hs
    cases hee : eOf es e.c with
    | false =>
      simp only [Bool.false_eq_true, if_false]
      have hx0 := hnext (a.put o.dst undef) .junk undef rfl (by rw [hee]; rfl) fun _ => rfl
      cases pl with
      | mv =>
        obtain ⟨obr, obr', q1, q2, q3⟩ := hrun
        obtain ⟨hr, hcnt'⟩ := hym rfl
        rw [hstab, hee] at q3
        simp only [Bool.false_eq_true, if_false] at q3
        obtain ⟨_, rfl⟩ := q3
        rw [← hr] at q1 q2
        obtain rfl : ob = obr' := Option.some.inj (hob.symm.trans q1)
        exact ih _ _ _ _ _ Φ H (cn + 1) ob hlen2 htd hx0 hcnt' q2 (hjunk s)
      | pure => exact ih _ _ _ _ _ Φ H cn ob hlen2 htd hx0 (hnm rfl) hob (hjunk s)
      | win lo hi => exact ih _ _ _ _ _ Φ H cn ob hlen2 htd hx0 (hnm rfl) hob (hjunk s)
    | true =>
      simp only [if_true]
      refine .inl ?_
      have hreads := hread hee
      have quiet : ∀ (p : Prop) (ob' : List Ob), quietR o.op e.x = true → vop T (atC (es.take i) e.c sl0 (es.take i)) ob o.op = some (p, e.x, ob') → p → o.dst.isSome = true → isMv pl = false →
          o.wp P a w (fun a' w' => wpAny P .any ops.toArray Qx fuel (listed.setIfInBounds i true) a' w') Qx := by
        intro p ob' hqr hv hp hds hmv
        have hve : vop T sl ob o.op = some (p, e.x, ob') := by
          rw [← hv]
          exact (vop_congr (quietR_or hqr) fun t ht => hreads t (by unfold usesG; exact List.mem_append.2 (.inl ht))).symm
        obtain ⟨_, v, hr, hx⟩ := vop_quiet (P := P) (sl := sl) (ob := ob) hT s hqr hve hp
        have hx1 : xOf o e.x = e.x := by unfold xOf; rw [if_pos hds]
        have := hput s hx
        rw [hx1] at this
        unfold Oper.wp
        rw [hr]
        exact ih _ _ _ _ _ Φ H cn ob hlen2 htd (hnext _ e.x v rfl (by rw [hee]; rfl) fun h => by rw [hee] at h; cases h) (hnm hmv) hob this
      cases pl with
      | pure =>
        obtain ⟨hds, ob2, p, ob', hv, hqr, hp⟩ := hrun
        exact quiet p ob hqr (vop_pure hS.kind hv) (hp (by rw [hstab]; exact hee)) hds rfl
      | win lo hi =>
        obtain ⟨hds, hqr, hw⟩ := hrun
        have hb := between_cnt hplen hdeps hS.kind.2 hilt cnt inv.closed hwaits hunF hS.kind.1 fun h => by rw [hpli] at h; cases h
        obtain ⟨p, ob', hv, hp⟩ := hw cn ob hb.1 hb.2 hob
        exact quiet p ob' hqr hv (hp (by rw [hstab]; exact hee)) hds rfl
      | mv =>
        obtain ⟨obr, ob1, q1, q2, q3⟩ := hrun
        obtain ⟨hr, hcnt'⟩ := hym rfl
        rw [hstab, hee] at q3
        simp only [if_true] at q3
        rw [← hr] at q1 q2
        obtain rfl : ob = obr := Option.some.inj (hob.symm.trans q1)
        obtain ⟨x, hex, hrun'⟩ := q3
        rcases hrun' with ⟨f, args, ts, k, caps, hop', hf, hcall⟩ | ⟨p, hnc, hv, hp⟩
        · have hr2 : ∀ t ∈ tm f ++ args.toList.flatMap tm, getS (atC (es.take i) e.c sl0 (es.take i)) t = getS sl t := fun t ht => hreads t (by unfold usesG; rw [hop']; exact List.mem_append.2 (.inl ht))
          have hfe : evV sl f = .fn k caps := by
            rw [← hf]; exact (evV_congr fun t ht => hr2 t (List.mem_append.2 (.inl ht))).symm
          have hae := evVs_congr (xs := args.toList) fun t ht => hr2 t (List.mem_append.2 (.inr ht))
          obtain ⟨hent, hc⟩ := hcall sl
          rw [hae] at hc
          obtain ⟨dst, op, ty, pos, aft, gd⟩ := o
          simp only at hop' hd
          subst hop'
          have hfv := s.eval f
          rw [hfe] at hfv
          obtain ⟨cv, _, e1, e2⟩ := hfv
          have hr := callee_run (P := P) (w := w) (args := args) (ts := ts) (ty := ty) (dst := dst) (pos := pos) (aft := aft) (gd := gd) hent e1
          unfold Oper.wp
          rw [hr]
          have hargs : VReps .any (mkE Φ H ob w) (args.toList.map (evV sl) ++ caps) (args.map a.eval ++ cv).toList := by
            simp only [Array.toList_append, Array.toList_map]
            exact (evals_rep' (sl := sl) (ob := ob) s args.toList).append e2
          refine (hc C hC Φ H a w s _ hargs).mono fun en w' q => ?_
          cases en with
          | returned v =>
            obtain ⟨Φ', H', ob', r, q1', q2', rfl, rfl⟩ := q
            exact ih _ _ _ _ _ Φ' H' (cn + 1) _ hlen2 htd (hnext _ e.x v rfl (by rw [hee]; rfl) fun h => by rw [hee] at h; cases h) hcnt' q2 (by rw [hex]; exact hput q1' q2')
          | panicked c => exact q.elim
          | outgrown => exact q.elim
        · obtain ⟨v, w', Φ', H', hr, hst, hx⟩ := vop_sound (P := P) (sl := sl) (ob := ob) hT s (o := o) (by rw [← vop_mv_congr hS.kind.1 hnc fun t ht => hreads t (by unfold usesG; exact List.mem_append.2 (.inl ht))]; exact hv) hp
          have s2 := hput (s.step hst) hx
          rw [← hex] at s2
          unfold Oper.wp
          rcases hr with hr | ⟨hr, rfl⟩
          · rw [hr]
            exact ih _ _ _ _ _ Φ' H' (cn + 1) _ hlen2 htd (hnext _ e.x v rfl (by rw [hee]; rfl) fun h => by rw [hee] at h; cases h) hcnt' q2 s2
          · rw [hr]
            exact ih _ _ _ _ _ Φ' H' (cn + 1) _ hlen2 htd (hnext _ e.x undef rfl (by rw [hee]; rfl) fun h => rfl) hcnt' q2 s2

/-- A region whose order is drawn. -/
theorem vwp_storm (hT : TabOK P T) (hm : P.follows .mixedOrders = true) (plan : List Pl) (deps : List (List Nat)) {id : Nat} {ob : List Ob} {Q : X → St → Prop} (hok : stormOK nt ops plan deps = true)
    (h : vstorm P T nt sl0 ops plan 0 (fun m obs ob' => chkAll T sl0 obs ops plan [] m ∧ Q .norm ⟨finC m m sl0, ob'⟩) [] [ob] ob) : vwp P nt (.region id ops.toArray true) Q ⟨sl0, ob⟩ := by
  intro C hC Φ H a w s
  obtain ⟨es, obs', ob', h1, h2, h3, h4, h5, ⟨h6, h6'⟩, h7⟩ := vstorm_good plan ops plan 0 [] [ob] ob h rfl rfl (by simp [rankOf]) (by simp [rankOf])
  simp only [List.nil_append, Nat.zero_add] at h3 h4 h6 h6' h7
  have hplen := (storm_of hok).2.1
  rw [← hplen] at h3 h4
  have h0 : obs'[0]? = some ob := by simpa using h5 0 (by simp)
  refine wp_region_any hm ?_
  refine storm_any hT hok h1 h3 (fun i o pl e q1 q2 q3 => by simpa using h7 h6 i o pl e q1 q2 q3) hC (fun Φ' H' a' w' ob2 hob s' => ⟨Φ', H', _, s', by rw [h4] at hob; obtain rfl := Option.some.inj hob; exact h6'⟩) _ (List.range ops.length) _ sl0 a _ Φ H 0 ob (by simp) (fun i hi _ => by simpa using hi) ⟨by simp, fun j oj _ hl => ?_, fun i e _ hl => ?_, fun t _ => rfl⟩ ⟨Nat.zero_le _, fun k hk => ?_⟩ h0 s.draw
  · rw [getD_replicate_false] at hl; cases hl
  · rw [getD_replicate_false] at hl; cases hl
  · rw [getD_replicate_false]; simp
end
end Go.VX
