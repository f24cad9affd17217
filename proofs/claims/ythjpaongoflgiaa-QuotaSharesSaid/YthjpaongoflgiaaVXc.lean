/- A calculus over abstract values. -/
import Derived.Test.YthjpaongoflgiaaVXb
/- Rows of structs, as cells one behind the other. -/
namespace Go.VX
open Go.RowKit
set_option linter.unusedVariables false
set_option linter.unusedSimpArgs false

/-- A struct as cells, and how many they are. -/
class Row (α : Type) where
  cells : α → List V
  sz : Nat
  len : ∀ a, (cells a).length = sz
  rn : ∀ (f : Nat → Nat) a, (cells a).map (rn1 f) = cells a
def rowsV {α : Type} [Row α] (l : List α) : List V := l.flatMap Row.cells
section
variable {α : Type} [Row α]
@[simp] theorem rowsV_nil : rowsV ([] : List α) = [] := rfl
theorem rowsV_cons (a : α) (l : List α) : rowsV (a :: l) = Row.cells a ++ rowsV l := rfl
theorem rowsV_one (a : α) : rowsV [a] = Row.cells a := by simp [rowsV]
theorem rowsV_append (l m : List α) : rowsV (l ++ m) = rowsV l ++ rowsV m := by simp [rowsV]
theorem rowsV_snoc (l : List α) (a : α) : rowsV (l ++ [a]) = rowsV l ++ Row.cells a := by simp [rowsV]
theorem rowsV_length (l : List α) : (rowsV l).length = l.length * Row.sz α := by
  induction l with
  | nil => simp [rowsV]
  | cons x l ih => rw [rowsV_cons, List.length_append, ih, Row.len, List.length_cons, Nat.add_mul, Nat.one_mul, Nat.add_comm]
@[simp] theorem rowsV_rn (f : Nat → Nat) (l : List α) : (rowsV l).map (rn1 f) = rowsV l := by
  induction l with
  | nil => rfl
  | cons x l ih => rw [rowsV_cons, List.map_append, ih, Row.rn]
@[simp] theorem rowsV_rnL (f : Nat → Nat) (l : List α) : rnO f (.live (rowsV l)) = .live (rowsV l) := by
  simp
@[simp] theorem rowsV_rnF (f : Nat → Nat) (l : List α) : rnO f (.frz (rowsV l)) = .frz (rowsV l) := by
  simp
theorem rowsV_drop : ∀ {l : List α} {i : Nat} {x : α}, l[i]? = some x → List.drop (i * Row.sz α) (rowsV l) = Row.cells x ++ rowsV (l.drop (i + 1))
  | [], i, x, h => by simp at h
  | y :: l, 0, x, h => by simp at h; subst h; simp [rowsV]
  | y :: l, i + 1, x, h => by
    have e : (i + 1) * Row.sz α = Row.sz α + i * Row.sz α := by rw [Nat.add_mul]; omega
    rw [e, rowsV_cons, ← List.drop_drop]
    have e3 : List.drop (Row.sz α) (Row.cells y ++ rowsV l) = rowsV l := by
      rw [← Row.len y, List.drop_left]
    rw [e3, rowsV_drop (by simpa using h)]
    simp
theorem rowsV_take {l : List α} (i : Nat) (h : i ≤ l.length) : List.take (i * Row.sz α) (rowsV l) = rowsV (l.take i) := by
  have e : l = l.take i ++ l.drop i := (List.take_append_drop i l).symm
  have hl : (rowsV (l.take i)).length = i * Row.sz α := by rw [rowsV_length, List.length_take, Nat.min_eq_left h]
  calc List.take (i * Row.sz α) (rowsV l) = List.take (i * Row.sz α) (rowsV (l.take i ++ l.drop i)) := by rw [← e]
    _ = rowsV (l.take i) := by rw [rowsV_append, ← hl, List.take_left]
theorem rowsV_dropAll {l : List α} (i : Nat) (h : i ≤ l.length) : List.drop (i * Row.sz α) (rowsV l) = rowsV (l.drop i) := by
  have e : l = l.take i ++ l.drop i := (List.take_append_drop i l).symm
  have hl : (rowsV (l.take i)).length = i * Row.sz α := by rw [rowsV_length, List.length_take, Nat.min_eq_left h]
  calc List.drop (i * Row.sz α) (rowsV l) = List.drop (i * Row.sz α) (rowsV (l.take i ++ l.drop i)) := by rw [← e]
    _ = rowsV (l.drop i) := by rw [rowsV_append, ← hl, List.drop_left]
theorem rowsV_get {l : List α} {i j : Nat} {x : α} (h : l[i]? = some x) (hj : j < Row.sz α) : (rowsV l)[i * Row.sz α + j]? = (Row.cells x)[j]? := by
  rw [← List.getElem?_drop, rowsV_drop h, List.getElem?_append_left (by rw [Row.len]; exact hj)]
theorem rowsV_row {l : List α} {i : Nat} {x : α} (h : l[i]? = some x) : List.take (Row.sz α) (List.drop (i * Row.sz α) (rowsV l)) = Row.cells x := by
  rw [rowsV_drop h, ← Row.len x, List.take_left]
/-- A row put in the place of one. -/
theorem rowsV_put {l : List α} {i : Nat} (h : i < l.length) (y : α) : List.take (i * Row.sz α) (rowsV l) ++ (Row.cells y ++ List.drop (i * Row.sz α + Row.sz α) (rowsV l)) = rowsV (l.set i y) := by
  have e : i * Row.sz α + Row.sz α = (i + 1) * Row.sz α := by rw [Nat.add_mul]; omega
  rw [rowsV_take i (by omega), e, rowsV_dropAll (i + 1) (by omega), ← rowsV_cons, ← rowsV_append, List.set_eq_take_append_cons_drop, if_pos h]
/-- One cell put. -/
theorem rowsV_set {l : List α} {i j : Nat} {x y : α} {v : V} (h : l[i]? = some x) (hj : j < Row.sz α) (e : (Row.cells x).set j v = Row.cells y) : (rowsV l).set (i * Row.sz α + j) v = rowsV (l.set i y) := by
  have hi : i < l.length := (List.getElem?_eq_some_iff.1 h).1
  have hl : (rowsV (l.take i)).length = i * Row.sz α := by rw [rowsV_length, List.length_take, Nat.min_eq_left (by omega)]
  have e1 : l = l.take i ++ x :: l.drop (i + 1) := by
    have := List.take_append_drop i l
    rw [List.drop_eq_getElem_cons hi] at this
    rw [(List.getElem?_eq_some_iff.1 h).2] at this
    exact this.symm
  have e2 : l.set i y = l.take i ++ y :: l.drop (i + 1) := by rw [List.set_eq_take_append_cons_drop, if_pos hi]
  have e3 : rowsV l = rowsV (l.take i) ++ (Row.cells x ++ rowsV (l.drop (i + 1))) := by
    rw [← rowsV_cons, ← rowsV_append, ← e1]
  rw [e2, rowsV_append, rowsV_cons, e3, List.set_append, if_neg (by omega), hl, Nat.add_sub_cancel_left, List.set_append, if_pos (by rw [Row.len]; exact hj), e]
end

/-- Where the first one is that is so; -1: nowhere. -/
theorem findIdx_some {α : Type} {p : α → Bool} {l : List α} {i : Nat} {x : α} (hx : l[i]? = some x) (hp : p x = true) (hno : ∀ j y, j < i → l[j]? = some y → p y = false) : l.findIdx? p = some i := by
  obtain ⟨hi, e⟩ := List.getElem?_eq_some_iff.1 hx
  rw [List.findIdx?_eq_some_iff_getElem]
  refine ⟨hi, by rw [e]; exact hp, fun j hj => ?_⟩
  have := hno j _ hj (List.getElem?_eq_getElem (by omega))
  simp [this]
theorem findIdx_none {α : Type} {p : α → Bool} {l : List α} (hno : ∀ (j : Nat) y, j < l.length → l[j]? = some y → p y = false) : l.findIdx? p = none := by
  rw [List.findIdx?_eq_none_iff]
  intro x hx
  obtain ⟨j, hj, e⟩ := List.getElem_of_mem hx
  exact hno j x hj (by rw [List.getElem?_eq_getElem hj, e])
def oI (o : Option Nat) : Int := match o with
  | some i => i
  | none => -1
/-- The first rows and one more. -/
theorem take_snoc {α : Type} {l : List α} {i : Nat} {x : α} (h : l[i]? = some x) : l.take (i + 1) = l.take i ++ [x] := by
  rw [List.take_add_one, h]; rfl
end Go.VX

/- Operations one by one, each guard's way by itself: for groups that can be looked at only where the guard is met. -/
namespace Go.VX
open Go.RowKit
set_option linter.unusedVariables false

def vrunI (P : Program) (T : Nat → Option TI) (nt : Sh) (ops : List Oper) : List Oper → (St → Prop) → St → Prop
  | [], Q, st => Q st
  | o :: rest, Q, st => match o.guard with
    | none => vstep P T nt o st (vrunI P T nt ops rest Q)
    | some g => match gslot ops g with
      | some s => match getS st.sl s.1 with
        | .bool b => if b = s.2 then vstep P T nt o ⟨setS st.sl s.1 (.bool s.2), st.ob⟩ (vrunI P T nt ops rest Q)
              else okd nt o.dst ∧ vrunI P T nt ops rest Q ⟨putD (setS st.sl s.1 (.bool (!s.2))) o.dst .junk, st.ob⟩
        | _ => False
      | none => False
section
variable {P : Program} {T : Nat → Option TI} {nt : Sh}
theorem vrunI_sound (hT : TabOK P T) {ops : List Oper} : ∀ (l : List Oper) (Q : St → Prop) (st : St), vrunI P T nt ops l Q st → ∀ (C : Ctx), C.nt = nt → ∀ Φ H a w, SimE C Φ H st a w → ∀ Qx : Exit → Act → World → Prop,
    (∀ Φ' H' st' a' w', SimE C Φ' H' st' a' w' → Q st' → Qx .normal a' w') → wpList P ops.toArray Qx l a w
  | [], Q, st, h, C, hC, Φ, H, a, w, s, Qx, hq => by
    simp only [vrunI] at h
    exact hq _ _ _ _ _ s h
  | o :: rest, Q, st, h, C, hC, Φ, H, a, w, s, Qx, hq => by
    simp only [vrunI] at h
    have go : ∀ st' a' w' Φ' H', SimE C Φ' H' st' a' w' → vrunI P T nt ops rest Q st' → wpList P ops.toArray Qx rest a' w' := fun st' a' w' Φ' H' s' k =>
      vrunI_sound hT rest Q st' k C hC Φ' H' a' w' s' Qx hq
    split at h
    · rename_i hg
      unfold wpList
      rw [if_pos (by simp [Region.wanted, hg])]
      exact .inl (vstep_sound hT h hC s (fun Φ' H' st' a' w' s' k => go _ _ _ _ _ s' k) trivial)
    · rename_i g hg
      split at h
      case h_2 => exact h.elim
      rename_i sg hsg
      split at h
      case h_2 => exact h.elim
      rename_i b hb
      unfold wpList
      by_cases hbw : b = sg.2
      · rw [if_pos hbw] at h
        rw [if_pos (wanted_of hg hsg (by rw [s.boolAt hb, hbw]))]
        exact .inl (vstep_sound hT h hC (s.known hb hbw) (fun Φ' H' st' a' w' s' k => go _ _ _ _ _ s' k) trivial)
      · have hnw := not_wanted (ops := ops) (a := a) hg hsg (by rw [s.boolAt hb]; intro e; exact hbw (by simpa using e))
        rw [hnw]
        rw [if_neg hbw] at h
        obtain ⟨h1, h2⟩ := h
        simp only [Bool.false_eq_true, if_false]
        refine go _ _ _ _ _ ((s.known hb (b' := !sg.2) (by cases b <;> cases hq2 : sg.2 <;> simp_all)).put (x := .junk) trivial ?_) h2
        intro i e
        rw [e] at h1
        rw [hC]; exact h1
theorem vwp_regionI (hT : TabOK P T) {id : Nat} {ops : List Oper} {Q : X → St → Prop} {st : St} (h : vrunI P T nt ops ops (Q .norm) st) : vwp P nt (.region id ops.toArray false) Q st := by
  intro C hC Φ H a w s
  exact wp_region_lit (vrunI_sound hT ops _ st h C hC Φ H a w s _ (fun Φ' H' st' a' w' s' q => ⟨Φ', H', st', s', q⟩))
end
section
variable {P : Program} {T : Nat → Option TI} {nt : Sh} {ops rest : List Oper} {Q K : St → Prop} {sl : List (Nat × V)} {ob : List Ob} {d : Option Nat} {o : Oper}
@[simp] theorem vrunI_nil : vrunI P T nt ops [] Q ⟨sl, ob⟩ = Q ⟨sl, ob⟩ := by simp only [vrunI]
@[simp] theorem vrunI_cons : vrunI P T nt ops (o :: rest) Q ⟨sl, ob⟩ = match o.guard with
    | none => vstep P T nt o ⟨sl, ob⟩ (vrunI P T nt ops rest Q)
    | some g => match gslot ops g with
      | some s => match getS sl s.1 with
        | .bool b => if b = s.2 then vstep P T nt o ⟨setS sl s.1 (.bool s.2), ob⟩ (vrunI P T nt ops rest Q)
              else okd nt o.dst ∧ vrunI P T nt ops rest Q ⟨putD (setS sl s.1 (.bool (!s.2))) o.dst .junk, ob⟩
        | _ => False
      | none => False := by rw [vrunI.eq_2]
end
end Go.VX

/- Short forms for walks: what is asked is settled by default. -/
namespace Go.VX
open Go.RowKit
set_option linter.unusedVariables false
set_option linter.unusedSimpArgs false

@[simp] theorem toNat_cc (a b : Nat) : ((a : Int) + (b : Int)).toNat = a + b := by omega
@[simp] theorem toNat_c1 (a : Nat) : ((a : Int) + 1).toNat = a + 1 := by omega
@[simp] theorem toNat_ccc (a b c : Nat) : ((a : Int) + (b : Int) + (c : Int)).toNat = a + b + c := by omega
@[simp] theorem toNat_cc1 (a b : Nat) : ((a : Int) + (b : Int) + 1).toNat = a + b + 1 := by omega
@[simp] theorem bits_i64 : IntKind.i64.bits = 64 := rfl
@[simp] theorem bits_u64 : IntKind.u64.bits = 64 := rfl
@[simp] theorem bits_u32 : IntKind.u32.bits = 32 := rfl
@[simp] theorem bits_u8 : IntKind.u8.bits = 8 := rfl
@[simp] theorem take_map_len {α β : Type} (f : α → β) (l : List α) : List.take l.length (List.map f l) = List.map f l := List.take_of_length_le (by simp)
@[simp] theorem rn1_int_comp {α : Type} (f : Nat → Nat) (k : IntKind) (g : α → Int) : rn1 f ∘ V.int k ∘ g = V.int k ∘ g := rfl
section
variable {P : Program} {nt : Sh} {Q : X → St → Prop} {st : St}
/-- A loop: the states at its head, by what they hang on; what falls. -/
theorem vwp_loop_s {α : Type} {c : Code} (S : α → St) (I : α → Prop) (μ : α → Nat) (a : α) (g : Gh nt st (S a)) (h0 : I a)
    (round : ∀ a, I a → ∀ K : St → Prop, (∀ a' st', Gh nt st' (S a') → I a' → μ a' < μ a → K st') → vwp P nt c (thenQ K Q) (S a)) : vwp P nt (.loop c) Q st :=
  vwp_gh g (vwp_loop_k (fun m st => ∃ a, I a ∧ m = μ a ∧ st = S a) (μ a) ⟨a, h0, rfl, rfl⟩ fun n st hI K hK => by
    obtain ⟨a, h1, rfl, rfl⟩ := hI
    exact round a h1 K fun a' st' g' h2 h3 => hK st' ⟨S a', g', μ a', h3, a', h2, rfl, rfl⟩)
/-- A sequence through a middle: the states there, by what they hang on. -/
theorem vwp_cut_s {α : Type} {x y : Code} (S : α → St) (I : α → Prop) (h : ∀ K : St → Prop, (∀ a st', Gh nt st' (S a) → I a → K st') → vwp P nt x (thenQ K Q) st)
    (k : ∀ a, I a → vwp P nt y Q (S a)) : vwp P nt (.seq x y) Q st :=
  vwp_cut_k (fun st' => ∃ a, Gh nt st' (S a) ∧ I a) (fun K hK => h K fun a st' g hI => hK st' ⟨a, g, hI⟩) fun st' ⟨a, g, hI⟩ => vwp_gh g (k a hI)

theorem Gh.to_k {nt : Sh} {sl : List (Nat × V)} {ob : List Ob} (ts : List Nat) (ks : List Nat) {sl' : List (Nat × V)} {objs : List Ob}
    (he : keepS ob ks sl ts = sl' := by simp) (hh : hand ob (fOf ks ob.length) ks objs := by simp) (hs : slotsOK (vwAOK ob ks false) sl ts := by simp) (hn : ks.Nodup := by simp) (hk : pre nt.k0 ks := by rfl) : Gh nt ⟨sl, ob⟩ ⟨sl', objs⟩ :=
  Gh.to ts ks sl' objs hn hh hk hs he
theorem ret_k {nt : Sh} {fn : Func} {Q : V → List Ob → Prop} {sl : List (Nat × V)} {ob : List Ob} (ts : List Nat) (ks : List Nat) (objs : List Ob) (r : V) (hq : Q r objs)
    (hh : hand ob (fOf ks ob.length) ks objs := by simp) (hs : slotsOK (vwAOK ob ks false) sl ts := by simp) (hr : retV (keepS ob ks sl ts) fn.results.toList = some r := by simp) (hn : ks.Nodup := by simp) (hk : pre nt.k0 ks := by rfl) : ∃ st', Gh nt ⟨sl, ob⟩ st' ∧ retQ fn Q .ret st' :=
  ret_only ts ks objs hn hh hk hs hr hq
theorem norm_k {nt : Sh} {fn : Func} {Q : V → List Ob → Prop} {sl : List (Nat × V)} {ob : List Ob} (ts : List Nat) (ks : List Nat) (objs : List Ob) (r : V) (hq : Q r objs)
    (hh : hand ob (fOf ks ob.length) ks objs := by simp) (hs : slotsOK (vwAOK ob ks false) sl ts := by simp) (hr : retV (keepS ob ks sl ts) fn.results.toList = some r := by simp) (hn : ks.Nodup := by simp) (hk : pre nt.k0 ks := by rfl) : ∃ st', Gh nt ⟨sl, ob⟩ st' ∧ retQ fn Q .norm st' :=
  norm_only ts ks objs hn hh hk hs hr hq
/-- A call. -/
theorem vcall_k {P : Program} {nt : Sh} {st : St} {k : Nat} {args : List V} {K : V → List Ob → Prop} (ρ : List Nat) {args' : List V} {objs : List Ob} {Q : V → List Ob → Prop}
    (hv : VC P k args' objs Q) (hK : ∀ r ob', Q r ob' → K (rnV (fOf ρ st.ob.length) r) (back st.ob ρ ob')) (hh : hand st.ob (fOf ρ st.ob.length) ρ objs := by simp) (ha : args.map (vwA st.ob ρ false) = args' := by simp) (hok : allOK (vwAOK st.ob ρ false) args := by simp) (hn : ρ.Nodup := by simp) : vcall P nt st k args K :=
  vcall_by0 ρ hv hn hh ha hok hK
/-- .. whose callee takes what isn't handed over for frozen, and keeps nothing of it. -/
theorem vcall_z {P : Program} {nt : Sh} {st : St} {k : Nat} {args : List V} {K : V → List Ob → Prop} (ρ : List Nat) {args' : List V} {objs : List Ob} {Q : V → List Ob → Prop}
    (hv : VC P k args' objs Q) (hz : ∀ r ob', Q r ob' → r.nofz = true ∧ ∀ o ∈ ob', o.nofz = true) (hK : ∀ r ob', Q r ob' → K (rnV (fOf ρ st.ob.length) r) (back st.ob ρ ob')) (hh : hand st.ob (fOf ρ st.ob.length) ρ objs := by simp) (ha : args.map (vwA st.ob ρ true) = args' := by simp) (hok : allOK (vwAOK st.ob ρ true) args := by simp) (hn : ρ.Nodup := by simp) : vcall P nt st k args K :=
  vcall_by ρ true hv hn hh ha hok fun r ob' q => ⟨fun _ => hz r ob' q, hK r ob' q⟩
theorem getI {α : Type} {l : List α} {i : Nat} (h : i < l.length) : ∃ v, l[i]? = some v := ⟨_, List.getElem?_eq_getElem h⟩
end
end Go.VX

/- Bits of numbers. -/
namespace Go.VX
set_option linter.unusedVariables false
set_option linter.unusedSimpArgs false

theorem ofInt_toNat {x : Int} (h : 0 ≤ x) (h2 : x < 18446744073709551616) : (BitVec.ofInt 64 x).toNat = x.toNat := by
  rw [BitVec.toNat_ofInt]; simp only [Nat.reducePow]; rw [Int.emod_eq_of_lt h (by omega)]
theorem and64 {x y : Int} (hx : 0 ≤ x) (hx2 : x ≤ 9223372036854775807) (hy : 0 ≤ y) (hy2 : y ≤ 9223372036854775807) : ibits .and .i64 x y = ((x.toNat &&& y.toNat : Nat) : Int) := by
  unfold ibits
  show IntKind.i64.wrap _ = _
  simp only [BitVec.toNat_and]
  have e1 : IntKind.i64.bits = 64 := rfl
  rw [e1, ofInt_toNat hx (by omega), ofInt_toNat hy (by omega)]
  have := Nat.and_le_left (n := x.toNat) (m := y.toNat)
  exact w64 (by omega) (by omega)
theorem or64 {x y : Int} (hx : 0 ≤ x) (hx2 : x ≤ 9223372036854775807) (hy : 0 ≤ y) (hy2 : y ≤ 9223372036854775807) : ibits .or .i64 x y = ((x.toNat ||| y.toNat : Nat) : Int) := by
  unfold ibits
  show IntKind.i64.wrap _ = _
  simp only [BitVec.toNat_or]
  have e1 : IntKind.i64.bits = 64 := rfl
  rw [e1, ofInt_toNat hx (by omega), ofInt_toNat hy (by omega)]
  have : x.toNat ||| y.toNat < 2 ^ 63 := Nat.or_lt_two_pow (by omega) (by omega)
  exact w64 (by omega) (by omega)
theorem and1 {x : Int} (hx : 0 ≤ x) (hx2 : x ≤ 9223372036854775807) : ibits .and .i64 x 1 = x % 2 := by
  rw [and64 hx hx2 (by omega) (by omega)]
  have : (1 : Int).toNat = 1 := rfl
  rw [this, Nat.and_one_is_mod]
  omega
end Go.VX

/- Ranks: how many come ahead; what is rounded up. -/
namespace Go.VX.Rk
set_option linter.unusedVariables false
set_option linter.unusedSimpArgs false

/-- A nodup list of numbers below its length has them all. -/
theorem nodup_all {R : List Nat} {n : Nat} (h1 : R.Nodup) (h2 : ∀ k ∈ R, k < n) (h3 : R.length = n) : R.Perm (List.range n) := by
  have hp : R.Perm ((List.range n).filter fun k => decide (k ∈ R)) := by
    rw [List.perm_ext_iff_of_nodup h1 (List.nodup_range.filter _)]
    intro k
    simp only [List.mem_filter, List.mem_range, decide_eq_true_eq]
    exact ⟨fun q => ⟨h2 k q, q⟩, fun q => q.2⟩
  have hl := hp.length_eq
  rw [h3] at hl
  have : (List.range n).filter (fun k => decide (k ∈ R)) = List.range n := by
    refine List.filter_eq_self.2 fun k hk => ?_
    have h := List.length_filter_eq_length_iff (p := fun k => decide (k ∈ R)) (l := List.range n) |>.1 (by rw [← hl]; simp)
    exact h k hk
  rw [this] at hp
  exact hp

/-- j comes ahead of i: more is left; of alike the first one. -/
def ahead (L : List Int) (j i : Nat) : Bool := decide (L.getD i 0 < L.getD j 0) || (decide (L.getD j 0 = L.getD i 0) && decide (j < i))
theorem ahead_irrefl (L : List Int) (i : Nat) : ahead L i i = false := by simp [ahead]
theorem ahead_trans {L : List Int} {a b c : Nat} (h : ahead L a b = true) (k : ahead L b c = true) : ahead L a c = true := by
  simp [ahead] at *
  omega
theorem ahead_total {L : List Int} {a b : Nat} (h : a ≠ b) : ahead L a b = true ∨ ahead L b a = true := by
  simp [ahead] at *
  omega
theorem ahead_asymm {L : List Int} {a b : Nat} (h : ahead L a b = true) : ahead L b a = false := by
  simp [ahead] at *
  omega
def rank (L : List Int) (i : Nat) : Nat := (List.range L.length).countP fun j => ahead L j i
theorem rank_lt_of {L : List Int} {a b : Nat} (ha : a < L.length) (h : ahead L a b = true) : rank L a < rank L b := by
  unfold rank
  have h1 : ∀ j ∈ List.range L.length, ahead L j a = true → ahead L j b = true := fun j _ q => ahead_trans q h
  have h2 := List.countP_mono_left h1
  refine Nat.lt_of_le_of_ne h2 fun e => ?_
  have : (List.range L.length).countP (fun j => ahead L j a || decide (j = a)) ≤ (List.range L.length).countP fun j => ahead L j b := by
    refine List.countP_mono_left fun j hj q => ?_
    simp only [Bool.or_eq_true, decide_eq_true_eq] at q
    rcases q with q | rfl
    · exact ahead_trans q h
    · exact h
  have h3 : (List.range L.length).countP (fun j => ahead L j a || decide (j = a)) = (List.range L.length).countP (fun j => ahead L j a) + 1 := by
    have : ∀ l : List Nat, l.Nodup → a ∈ l → l.countP (fun j => ahead L j a || decide (j = a)) = l.countP (fun j => ahead L j a) + 1 := by
      intro l
      induction l with
      | nil => intro _ h; cases h
      | cons x l ih =>
        intro hn hm
        rw [List.nodup_cons] at hn
        simp only [List.countP_cons]
        by_cases e : x = a
        · subst e
          have hno : l.countP (fun j => ahead L j x || decide (j = x)) = l.countP (fun j => ahead L j x) := by
            refine List.countP_congr fun j hj => ?_
            have : j ≠ x := fun e => hn.1 (e ▸ hj)
            simp [this]
          simp [hno, ahead_irrefl]
        · have := ih hn.2 (by simpa [Ne.symm e] using hm)
          simp only [this, e, decide_false, Bool.or_false]
          omega
    exact this _ List.nodup_range (by simpa using ha)
  omega
theorem rank_lt_iff {L : List Int} {a b : Nat} (ha : a < L.length) (hb : b < L.length) : rank L a < rank L b ↔ ahead L a b = true := by
  refine ⟨fun h => ?_, rank_lt_of ha⟩
  by_cases e : a = b
  · subst e; omega
  rcases ahead_total (L := L) e with q | q
  · exact q
  · have := rank_lt_of hb q; omega
theorem rank_inj {L : List Int} {a b : Nat} (ha : a < L.length) (hb : b < L.length) (h : rank L a = rank L b) : a = b := by
  refine Decidable.byContradiction fun e => ?_
  rcases ahead_total (L := L) e with q | q
  · have := rank_lt_of ha q; omega
  · have := rank_lt_of hb q; omega
theorem rank_lt {L : List Int} {a : Nat} (ha : a < L.length) : rank L a < L.length := by
  unfold rank
  have h1 := List.countP_le_length (p := fun j => ahead L j a) (l := List.range L.length)
  rw [List.length_range] at h1
  refine Nat.lt_of_le_of_ne h1 fun e => ?_
  have := (List.countP_eq_length (l := List.range L.length)).1 (e.trans List.length_range.symm) a (by simpa using ha)
  rw [ahead_irrefl] at this
  cases this
theorem ranks_perm (L : List Int) : ((List.range L.length).map (rank L)).Perm (List.range L.length) := by
  refine nodup_all ?_ (fun k hk => ?_) (by simp)
  · rw [List.nodup_iff_pairwise_ne, List.pairwise_map]
    refine List.Pairwise.imp_of_mem ?_ List.nodup_range
    intro a b ha hb hne e
    exact hne (rank_inj (by simpa using ha) (by simpa using hb) e)
  · obtain ⟨i, hi, rfl⟩ := List.mem_map.1 hk
    exact rank_lt (by simpa using hi)
theorem rank_surj {L : List Int} {k : Nat} (h : k < L.length) : ∃ i, i < L.length ∧ rank L i = k := by
  have := (ranks_perm L).mem_iff.2 (List.mem_range.2 h)
  obtain ⟨i, hi, e⟩ := List.mem_map.1 this
  exact ⟨i, by simpa using hi, e⟩
/-- What is sorted lies by its rank. -/
theorem rank_sorted {L : List Int} {S : List Nat} (hp : S.Perm (List.range L.length)) (hs : S.Pairwise fun a b => ahead L a b = true) {j i : Nat} (h : S[j]? = some i) : rank L i = j := by
  unfold rank
  rw [← hp.countP_eq]
  obtain ⟨hj, e⟩ := List.getElem?_eq_some_iff.1 h
  have e1 : S = S.take j ++ i :: S.drop (j + 1) := by
    have := List.take_append_drop j S
    rw [List.drop_eq_getElem_cons hj, e] at this
    exact this.symm
  rw [e1] at hs
  rw [e1, List.countP_append, List.countP_cons]
  rw [List.pairwise_append] at hs
  obtain ⟨_, h2, h3⟩ := hs
  rw [List.pairwise_cons] at h2
  have c1 : (S.take j).countP (fun x => ahead L x i) = (S.take j).length := List.countP_eq_length.2 fun x hx => h3 x hx i (by simp)
  have c2 : (S.drop (j + 1)).countP (fun x => ahead L x i) = 0 := List.countP_eq_zero.2 fun x hx => by rw [ahead_asymm (h2.1 x hx)]; simp
  rw [c1, c2, ahead_irrefl, List.length_take_of_le (by omega)]
  simp

/-- What is rounded: the first ones in rank are one more. -/
def upped (D L : List Int) (lack : Int) : List Int := (List.range D.length).map fun i => D.getD i 0 + if (rank L i : Int) < lack then 1 else 0
theorem upped_length (D L : List Int) (lack : Int) : (upped D L lack).length = D.length := by simp [upped]
theorem upped_get {D L : List Int} {lack : Int} {i : Nat} (h : i < D.length) : (upped D L lack)[i]? = some (D.getD i 0 + if (rank L i : Int) < lack then 1 else 0) := by
  simp [upped, h]
theorem countP_lt_range (n : Nat) : ∀ m, m ≤ n → (List.range n).countP (fun k => decide (k < m)) = m := by
  induction n with
  | zero => intro m h; have : m = 0 := by omega
            subst this; rfl
  | succ n ih =>
    intro m h
    rw [List.range_succ, List.countP_append, List.countP_singleton]
    by_cases e : m ≤ n
    · rw [ih m e]; simp; omega
    · have : m = n + 1 := by omega
      subst this
      have : (List.range n).countP (fun k => decide (k < n + 1)) = (List.range n).countP (fun k => decide (k < n)) := List.countP_congr fun k hk => by
        have := List.mem_range.1 hk
        simp; omega
      rw [this, ih n (Nat.le_refl _)]
      simp
theorem sum_map_add {l : List Nat} (f g : Nat → Int) : (l.map fun i => f i + g i).sum = (l.map f).sum + (l.map g).sum := by
  induction l with
  | nil => rfl
  | cons x l ih => simp only [List.map_cons, List.sum_cons, ih]; omega
theorem sum_ite_countP {l : List Nat} (p : Nat → Prop) [DecidablePred p] : (l.map fun i => if p i then (1 : Int) else 0).sum = l.countP fun i => decide (p i) := by
  induction l with
  | nil => rfl
  | cons x l ih =>
    simp only [List.map_cons, List.sum_cons, ih, List.countP_cons]
    by_cases h : p x <;> simp [h]
    omega
theorem getD_map_range (D : List Int) : (List.range D.length).map (fun i => D.getD i 0) = D := by
  apply List.ext_getElem?
  intro i
  by_cases h : i < D.length
  · simp [h, List.getD_eq_getElem?_getD]
  · simp only [Nat.not_lt] at h
    rw [List.getElem?_eq_none (by simpa using h), List.getElem?_eq_none h]
/-- All of it. -/
theorem upped_sum {D L : List Int} {lack : Int} (hl : L.length = D.length) (h0 : 0 ≤ lack) (h1 : lack ≤ D.length) : (upped D L lack).sum = D.sum + lack := by
  unfold upped
  rw [sum_map_add, getD_map_range, sum_ite_countP]
  have hc : (List.range D.length).countP (fun i => decide ((rank L i : Int) < lack)) = ((List.range D.length).map (rank L)).countP fun k => decide (k < lack.toNat) := by
    rw [List.countP_map]
    refine List.countP_congr fun i _ => ?_
    simp
  rw [hc, ← hl, (ranks_perm L).countP_eq, countP_lt_range _ _ (by omega)]
  omega
end Go.VX.Rk

/- Sorting that keeps the order of what is alike: plain facts. Each element bears a tag, its first place. -/
namespace Go.VX.Srt
set_option linter.unusedVariables false
set_option linter.unusedSimpArgs false

structure Weak {α : Type} (lt : α → α → Bool) : Prop where
  asymm : ∀ a b, lt a b = true → lt b a = false
  ntrans : ∀ a b c, lt a b = false → lt b c = false → lt a c = false
section
variable {α : Type} {lt : α → α → Bool}
/-- Ahead: less, or alike and tagged earlier. -/
def T (lt : α → α → Bool) (p q : α × Nat) : Prop := lt p.1 q.1 = true ∨ (lt q.1 p.1 = false ∧ p.2 < q.2)
theorem Weak.trans (h : Weak lt) {a b c : α} (h1 : lt a b = true) (h2 : lt b c = true) : lt a c = true := by
  rcases e : lt a c with _ | _
  · have := h.ntrans a c b e (h.asymm b c h2)
    rw [this] at h1; cases h1
  · rfl
theorem T.trans (h : Weak lt) {p q r : α × Nat} (h1 : T lt p q) (h2 : T lt q r) : T lt p r := by
  unfold T at *
  rcases h1 with a | ⟨a1, a2⟩
  · rcases h2 with b | ⟨b1, b2⟩
    · exact .inl (h.trans a b)
    · left
      rcases e : lt p.1 r.1 with _ | _
      · have := h.ntrans _ _ _ e b1
        rw [this] at a; cases a
      · rfl
  · rcases h2 with b | ⟨b1, b2⟩
    · left
      rcases e : lt p.1 r.1 with _ | _
      · have := h.ntrans _ _ _ a1 e
        rw [this] at b; cases b
      · rfl
    · exact .inr ⟨h.ntrans _ _ _ b1 a1, by omega⟩
theorem T.asymm (h : Weak lt) {p q : α × Nat} (h1 : T lt p q) (h2 : T lt q p) : False := by
  unfold T at *
  rcases h1 with a | ⟨a1, a2⟩
  · rcases h2 with b | ⟨b1, b2⟩
    · rw [h.asymm _ _ a] at b; cases b
    · rw [b1] at a; cases a
  · rcases h2 with b | ⟨b1, b2⟩
    · rw [a1] at b; cases b
    · omega
/-- Not less, and tagged earlier. -/
theorem T.of_not {p q : α × Nat} (h : lt q.1 p.1 = false) (ht : p.2 < q.2) : T lt p q := .inr ⟨h, ht⟩
abbrev Sorted (lt : α → α → Bool) (Z : List (α × Nat)) : Prop := Z.Pairwise (T lt)
/-- All tags of the one are below those of the other. -/
def Below (U V : List (α × Nat)) : Prop := ∀ x ∈ U, ∀ y ∈ V, x.2 < y.2
structure Merged (lt : α → α → Bool) (U V W : List (α × Nat)) : Prop where
  perm : W.Perm (U ++ V)
  sorted : Sorted lt W
abbrev fsts (Z : List (α × Nat)) : List α := Z.map Prod.fst

theorem before_last (h : Weak lt) {Z : List (α × Nat)} {z : α × Nat} (hs : Sorted lt (Z ++ [z])) {y : α × Nat} (hy : T lt z y) : ∀ x ∈ Z ++ [z], T lt x y := by
  intro x hx
  rcases List.mem_append.1 hx with q | q
  · exact ((List.pairwise_append.1 hs).2.2 x q z (by simp)).trans h hy
  · simp at q; subst q; exact hy
theorem behind_head (h : Weak lt) {Z : List (α × Nat)} {z : α × Nat} (hs : Sorted lt (z :: Z)) {x : α × Nat} (hx : T lt x z) : ∀ y ∈ z :: Z, T lt x y := by
  intro y hy
  rcases List.mem_cons.1 hy with rfl | q
  · exact hx
  · exact hx.trans h ((List.pairwise_cons.1 hs).1 y q)
/-- All ahead of all: told by the last and the first one. -/
theorem cross (h : Weak lt) {U V : List (α × Nat)} (hU : Sorted lt U) (hV : Sorted lt V) (i j : Nat) (hc : i = 0 ∨ V.length ≤ j ∨ ∃ x y, U[i - 1]? = some x ∧ V[j]? = some y ∧ T lt x y) : ∀ x ∈ U.take i, ∀ y ∈ V.drop j, T lt x y := by
  rcases hc with rfl | hj | ⟨x, y, h1, h2, h3⟩
  · simp
  · rw [List.drop_eq_nil_of_le hj]; simp
  · cases i with
    | zero => simp
    | succ i =>
      simp only [Nat.add_sub_cancel] at h1
      obtain ⟨hi, e1⟩ := List.getElem?_eq_some_iff.1 h1
      obtain ⟨hj, e2⟩ := List.getElem?_eq_some_iff.1 h2
      rw [take_snoc h1, List.drop_eq_getElem_cons hj, e2]
      have s1 : Sorted lt (U.take i ++ [x]) := by
        rw [← take_snoc h1]; exact hU.sublist (List.take_sublist _ _)
      have s2 : Sorted lt (y :: V.drop (j + 1)) := by
        rw [← e2, ← List.drop_eq_getElem_cons hj]; exact hV.sublist (List.drop_sublist _ _)
      intro a ha b hb
      exact before_last h s1 (behind_head h s2 h3 b hb) a ha
/-- Two halves, each merged, are all merged. -/
theorem Merged.join (h : Weak lt) {U V W1 W2 : List (α × Nat)} {i j : Nat} (hU : Sorted lt U) (hV : Sorted lt V)
    (h1 : Merged lt (U.take i) (V.take j) W1) (h2 : Merged lt (U.drop i) (V.drop j) W2)
    (c1 : i = 0 ∨ V.length ≤ j ∨ ∃ x y, U[i - 1]? = some x ∧ V[j]? = some y ∧ T lt x y)
    (c2 : j = 0 ∨ U.length ≤ i ∨ ∃ x y, V[j - 1]? = some x ∧ U[i]? = some y ∧ T lt x y) : Merged lt U V (W1 ++ W2) := by
  refine ⟨?_, ?_⟩
  · refine (h1.perm.append h2.perm).trans ?_
    have e1 := List.take_append_drop i U
    have e2 := List.take_append_drop j V
    have : (U.take i ++ V.take j ++ (U.drop i ++ V.drop j)).Perm (U.take i ++ U.drop i ++ (V.take j ++ V.drop j)) := by
      simp only [List.append_assoc]
      refine List.Perm.append_left _ ?_
      rw [← List.append_assoc, ← List.append_assoc]
      exact List.Perm.append_right _ List.perm_append_comm
    rwa [e1, e2] at this
  · rw [Sorted, List.pairwise_append]
    refine ⟨h1.sorted, h2.sorted, fun x hx y hy => ?_⟩
    have hx' := h1.perm.mem_iff.1 hx
    have hy' := h2.perm.mem_iff.1 hy
    rcases List.mem_append.1 hx' with a | a
    · rcases List.mem_append.1 hy' with b | b
      · have := List.pairwise_append.1 ((List.take_append_drop i U).symm ▸ hU)
        exact this.2.2 x a y b
      · exact cross h hU hV i j c1 x a y b
    · rcases List.mem_append.1 hy' with b | b
      · exact cross h hV hU j i c2 x a y b
      · have := List.pairwise_append.1 ((List.take_append_drop j V).symm ▸ hV)
        exact this.2.2 x a y b
theorem Merged.nil_left {V : List (α × Nat)} (h : Sorted lt V) : Merged lt [] V V := ⟨by simp, h⟩
theorem Merged.nil_right {U : List (α × Nat)} (h : Sorted lt U) : Merged lt U [] U := ⟨by simp, h⟩
theorem Merged.pair {U V : List (α × Nat)} (hU : Sorted lt U) (hV : Sorted lt V) (hc : ∀ x ∈ U, ∀ y ∈ V, T lt x y) : Merged lt U V (U ++ V) := ⟨List.Perm.refl _, List.pairwise_append.2 ⟨hU, hV, hc⟩⟩
/-- One, put between. -/
theorem Merged.one_left (h : Weak lt) {u : α × Nat} {V : List (α × Nat)} (hV : Sorted lt V) {j : Nat} (hj : j ≤ V.length) (ht : Below [u] V)
    (c1 : j = 0 ∨ ∃ x, V[j - 1]? = some x ∧ lt x.1 u.1 = true) (c2 : j = V.length ∨ ∃ x, V[j]? = some x ∧ lt x.1 u.1 = false) : Merged lt [u] V (V.take j ++ u :: V.drop j) := by
  have hs : Merged lt [u] V (V.take j ++ (u :: V.drop j)) := by
    refine Merged.join (i := 0) (j := j) (U := [u]) h (by simp) hV ?_ ?_ (.inl rfl) ?_
    · exact Merged.nil_left (hV.sublist (List.take_sublist _ _))
    · refine Merged.pair (U := [u]) (by simp) (hV.sublist (List.drop_sublist _ _)) ?_
      have := cross (U := [u]) h (by simp) hV 1 j (by
        rcases c2 with c | ⟨x, h1, h2⟩
        · exact .inr (.inl (by omega))
        · exact .inr (.inr ⟨u, x, rfl, h1, T.of_not h2 (ht u (by simp) x (List.mem_of_getElem? h1))⟩))
      simpa using this
    · rcases c1 with c | ⟨x, h1, h2⟩
      · exact .inl c
      · exact .inr (.inr ⟨x, u, h1, rfl, .inl h2⟩)
  exact hs
theorem Merged.one_right (h : Weak lt) {v : α × Nat} {U : List (α × Nat)} (hU : Sorted lt U) {i : Nat} (hi : i ≤ U.length) (ht : Below U [v])
    (c1 : i = 0 ∨ ∃ x, U[i - 1]? = some x ∧ lt v.1 x.1 = false) (c2 : i = U.length ∨ ∃ x, U[i]? = some x ∧ lt v.1 x.1 = true) : Merged lt U [v] (U.take i ++ v :: U.drop i) := by
  have hs : Merged lt U [v] ((U.take i ++ [v]) ++ U.drop i) := by
    refine Merged.join (i := i) (j := 1) (V := [v]) h hU (by simp) ?_ ?_ (.inr (.inl (by simp))) ?_
    · refine Merged.pair (V := [v]) (hU.sublist (List.take_sublist _ _)) (by simp) ?_
      have := cross (V := [v]) h hU (by simp) i 0 (by
        rcases c1 with c | ⟨x, h1, h2⟩
        · exact .inl c
        · exact .inr (.inr ⟨x, v, h1, rfl, T.of_not h2 (ht x (List.mem_of_getElem? h1) v (by simp))⟩))
      simpa using this
    · exact Merged.nil_right (hU.sublist (List.drop_sublist _ _))
    · rcases c2 with c | ⟨x, h1, h2⟩
      · exact .inr (.inl (by omega))
      · exact .inr (.inr ⟨v, x, rfl, h1, .inl h2⟩)
  simpa using hs
end

/-- Two places changed about. -/
def swp {α : Type} (l : List α) (i j : Nat) : List α := match l[i]?, l[j]? with
  | some x, some y => (l.set i y).set j x
  | _, _ => l
theorem swp_mid {α : Type} (P M Q : List α) (x y : α) : swp (P ++ x :: M ++ y :: Q) P.length (P.length + 1 + M.length) = P ++ y :: M ++ x :: Q := by
  have h1 : (P ++ x :: M ++ y :: Q)[P.length]? = some x := by simp
  have h2 : (P ++ x :: M ++ y :: Q)[P.length + 1 + M.length]? = some y := by
    rw [List.getElem?_append_right (by simp; omega)]
    have e0 : P.length + 1 + M.length - (P ++ x :: M).length = 0 := by simp; omega
    rw [e0]
    rfl
  unfold swp
  rw [h1, h2]
  simp only
  have e1 : (P ++ x :: M ++ y :: Q).set P.length y = P ++ y :: M ++ y :: Q := by
    rw [List.append_assoc, List.set_append_right _ _ (Nat.le_refl _)]
    simp
  rw [e1, List.set_append_right _ _ (by simp; omega)]
  have e2 : P.length + 1 + M.length - (P ++ y :: M).length = 0 := by simp; omega
  rw [e2]
  rfl
theorem swp_length {α : Type} (l : List α) (i j : Nat) : (swp l i j).length = l.length := by
  unfold swp
  split <;> simp
theorem swp_eq {α : Type} {l : List α} {i j : Nat} {x y : α} (h1 : l[i]? = some x) (h2 : l[j]? = some y) : (l.set i y).set j x = swp l i j := by
  unfold swp; rw [h1, h2]
theorem swp_comm {α : Type} (l : List α) (i j : Nat) : swp l i j = swp l j i := by
  unfold swp
  rcases h1 : l[i]? with _ | x <;> rcases h2 : l[j]? with _ | y <;> simp only
  by_cases e : i = j
  · subst e
    rw [h1] at h2; cases h2
    simp
  · rw [List.set_comm _ _ e]
/-- One step of changing two stretches about. -/
theorem swp_range {α : Type} {P X M Y Q : List α} (hl : X.length = Y.length) {i : Nat} (hi : i < X.length) :
    swp (P ++ (Y.take i ++ X.drop i) ++ M ++ (X.take i ++ Y.drop i) ++ Q) (P.length + i) (P.length + X.length + M.length + i) = P ++ (Y.take (i + 1) ++ X.drop (i + 1)) ++ M ++ (X.take (i + 1) ++ Y.drop (i + 1)) ++ Q := by
  have hj : i < Y.length := by omega
  have eX := List.drop_eq_getElem_cons hi
  have eY := List.drop_eq_getElem_cons hj
  have h := swp_mid (P ++ Y.take i) (X.drop (i + 1) ++ M ++ X.take i) (Y.drop (i + 1) ++ Q) X[i] Y[i]
  have l1 : (P ++ Y.take i).length = P.length + i := by simp; omega
  have l2 : (P ++ Y.take i).length + 1 + (X.drop (i + 1) ++ M ++ X.take i).length = P.length + X.length + M.length + i := by simp; omega
  rw [l1] at h
  rw [l1] at l2
  rw [l2] at h
  have e1 : P ++ (Y.take i ++ X.drop i) ++ M ++ (X.take i ++ Y.drop i) ++ Q = P ++ Y.take i ++ X[i] :: (X.drop (i + 1) ++ M ++ X.take i) ++ Y[i] :: (Y.drop (i + 1) ++ Q) := by
    rw [eX, eY]; simp only [List.append_assoc, List.cons_append, List.nil_append]
  have tX : X.take (i + 1) = X.take i ++ [X[i]] := take_snoc (List.getElem?_eq_getElem hi)
  have tY : Y.take (i + 1) = Y.take i ++ [Y[i]] := take_snoc (List.getElem?_eq_getElem hj)
  rw [e1, h, tX, tY]
  simp only [List.append_assoc, List.cons_append, List.nil_append]
/-- One carried one place on. -/
theorem swp_on {α : Type} {A V B : List α} {u : α} {k : Nat} (hk : k < V.length) : swp (A ++ (V.take k ++ u :: V.drop k) ++ B) (A.length + k) (A.length + k + 1) = A ++ (V.take (k + 1) ++ u :: V.drop (k + 1)) ++ B := by
  have eV := List.drop_eq_getElem_cons hk
  have h := swp_mid (A ++ V.take k) [] (V.drop (k + 1) ++ B) u V[k]
  have l1 : (A ++ V.take k).length = A.length + k := by simp; omega
  rw [l1] at h
  have tV : V.take (k + 1) = V.take k ++ [V[k]] := take_snoc (List.getElem?_eq_getElem hk)
  have e1 : A ++ (V.take k ++ u :: V.drop k) ++ B = A ++ V.take k ++ [u] ++ V[k] :: (V.drop (k + 1) ++ B) := by rw [eV]; simp only [List.append_assoc, List.cons_append, List.nil_append]
  rw [e1]
  have h' : swp (A ++ V.take k ++ [u] ++ V[k] :: (V.drop (k + 1) ++ B)) (A.length + k) (A.length + k + 1) = _ := h
  rw [h', tV]
  simp only [List.append_assoc, List.cons_append, List.nil_append]
/-- .. one place back. -/
theorem swp_back {α : Type} {A U B : List α} {v : α} {k : Nat} (hk : k < U.length) : swp (A ++ (U.take (k + 1) ++ v :: U.drop (k + 1)) ++ B) (A.length + k) (A.length + k + 1) = A ++ (U.take k ++ v :: U.drop k) ++ B := by
  have eU := List.drop_eq_getElem_cons hk
  have h := swp_mid (A ++ U.take k) [] (U.drop (k + 1) ++ B) U[k] v
  have l1 : (A ++ U.take k).length = A.length + k := by simp; omega
  rw [l1] at h
  have tU : U.take (k + 1) = U.take k ++ [U[k]] := take_snoc (List.getElem?_eq_getElem hk)
  have e1 : A ++ (U.take (k + 1) ++ v :: U.drop (k + 1)) ++ B = A ++ U.take k ++ [U[k]] ++ v :: (U.drop (k + 1) ++ B) := by rw [tU]; simp only [List.append_assoc, List.cons_append, List.nil_append]
  rw [e1]
  have h' : swp (A ++ U.take k ++ [U[k]] ++ v :: (U.drop (k + 1) ++ B)) (A.length + k) (A.length + k + 1) = _ := h
  rw [h', eU]
  simp only [List.append_assoc, List.cons_append, List.nil_append]

/-- A stretch. -/
def seg {α : Type} (Z : List α) (a b : Nat) : List α := (Z.take b).drop a
theorem seg_split {α : Type} {Z : List α} {a b : Nat} (h : a ≤ b) : Z = Z.take a ++ seg Z a b ++ Z.drop b := by
  have h1 : Z.take b = (Z.take b).take a ++ seg Z a b := (List.take_append_drop a _).symm
  rw [List.take_take, Nat.min_eq_left h] at h1
  rw [← h1, List.take_append_drop]
theorem seg_length {α : Type} {Z : List α} {a b : Nat} (h : b ≤ Z.length) : (seg Z a b).length = b - a := by
  simp [seg]; omega
theorem drop3 {α : Type} {A S B : List α} {a : Nat} (h : A.length + S.length ≤ a) : (A ++ S ++ B).drop a = B.drop (a - A.length - S.length) := by
  rw [List.drop_append, List.drop_eq_nil_of_le (by simp; omega)]
  simp
  congr 1
  omega
section
variable {α : Type} {lt : α → α → Bool}
/-- Sorted by stretches of so many, each with its own tags. -/
def Blk (lt : α → α → Bool) (bs : Nat) (Z : List (α × Nat)) (k : Nat) : Prop := Sorted lt (seg Z (k * bs) (k * bs + bs)) ∧ ∀ x ∈ seg Z (k * bs) (k * bs + bs), k * bs ≤ x.2 ∧ x.2 < k * bs + bs
theorem seg_of {A S B : List α} {a b : Nat} (ha : A.length = a) (hb : a + S.length = b) : seg (A ++ S ++ B) a b = S := by
  subst ha; subst hb
  unfold seg
  have : (A ++ S ++ B).take (A.length + S.length) = A ++ S := by
    rw [← List.length_append, List.take_left]
  rw [this, List.drop_left]
theorem seg_before {A S S' B : List α} {a b : Nat} (h : b ≤ A.length) : seg (A ++ S ++ B) a b = seg (A ++ S' ++ B) a b := by
  unfold seg
  rw [List.append_assoc, List.append_assoc, List.take_append_of_le_length h, List.take_append_of_le_length h]
theorem seg_behind {A S S' B : List α} {a b : Nat} (hl : S.length = S'.length) (h : A.length + S.length ≤ a) : seg (A ++ S ++ B) a b = seg (A ++ S' ++ B) a b := by
  unfold seg
  rw [List.drop_take, List.drop_take]
  congr 1
  rw [drop3 h, drop3 (by omega : A.length + S'.length ≤ a), hl]
end
end Go.VX.Srt

/- Sorting that keeps the order of what is alike: steps of the program's own way. -/
namespace Go.VX.Srt
set_option linter.unusedVariables false
set_option linter.unusedSimpArgs false
set_option maxHeartbeats 2000000
section
variable {α β : Type} {lt : α → α → Bool}
theorem fst_get {L : List (α × Nat)} {i : Nat} {x : α × Nat} (h : L[i]? = some x) : (L.map Prod.fst)[i]? = some x.1 := by simp [h]
theorem get_mid {A B C : List β} {a j : Nat} (ha : A.length = a) (h : a ≤ j) (h2 : j < a + B.length) : (A ++ B ++ C)[j]? = B[j - a]? := by
  subst ha
  rw [List.append_assoc, List.getElem?_append_right h, List.getElem?_append_left (by omega)]
theorem get_back {A B C : List β} {a j : Nat} (ha : A.length + B.length = a) (h : a ≤ j) : (A ++ B ++ C)[j]? = C[j - a]? := by
  subst ha
  rw [List.getElem?_append_right (by rw [List.length_append]; exact h), List.length_append]
theorem swp_map (f : α → β) (L : List α) (i j : Nat) : (swp L i j).map f = swp (L.map f) i j := by
  unfold swp
  simp only [List.getElem?_map]
  rcases L[i]? with _ | x <;> rcases L[j]? with _ | y <;> simp [List.map_set]
theorem seg_one {Z : List β} {i : Nat} {x : β} (h : Z[i]? = some x) (a : Nat) (ha : a ≤ i) : seg Z a (i + 1) = seg Z a i ++ [x] := by
  have hl := (List.getElem?_eq_some_iff.1 h).1
  unfold seg
  rw [List.take_add_one, h, List.drop_append_of_le_length (by simp; omega)]
  rfl
theorem drop_one {Z : List β} {i : Nat} {x : β} (h : Z[i]? = some x) : Z.drop i = x :: Z.drop (i + 1) := by
  obtain ⟨hl, e⟩ := List.getElem?_eq_some_iff.1 h
  rw [List.drop_eq_getElem_cons hl, e]
theorem sorted_short {S : List (α × Nat)} (h : S.length ≤ 1) : Sorted lt S := by
  match S, h with
  | [], _ => exact List.Pairwise.nil
  | [x], _ => exact List.pairwise_singleton _ _
/-- A new one put where it belongs. -/
theorem ins_one (hw : Weak lt) {S : List (α × Nat)} {x : α × Nat} (hS : Sorted lt S) (hb : ∀ y ∈ S, y.2 < x.2) {k : Nat} (hk : k ≤ S.length)
    (c1 : k = 0 ∨ ∃ y, S[k - 1]? = some y ∧ lt x.1 y.1 = false) (c2 : k = S.length ∨ ∃ y, S[k]? = some y ∧ lt x.1 y.1 = true) :
    Sorted lt (S.take k ++ x :: S.drop k) ∧ (S.take k ++ x :: S.drop k).Perm (S ++ [x]) := by
  have h := Merged.one_right hw hS hk (v := x) (fun y hy z hz => by simp at hz; subst hz; exact hb y hy) c1 c2
  exact ⟨h.sorted, h.perm⟩
/-- Where two rows part, so that the halves are merged each by itself. -/
theorem merge_facts (hw : Weak lt) {A U V B L : List (α × Nat)} {a m b mid q p s0 r0 r : Nat} (hL : L = A ++ U ++ V ++ B) (ha : a = A.length) (hm1 : m = A.length + U.length) (hb : b = A.length + U.length + V.length)
    (sU : Sorted lt U) (sV : Sorted lt V) (hBel : Below U V) (hu : 0 < U.length) (hv : 0 < V.length) (hmid : mid = (a + b) / 2) (hq : q = mid + m) (hp : p = q - 1)
    (hsr : (mid < m ∧ s0 = q - b ∧ r0 = mid) ∨ (m ≤ mid ∧ s0 = a ∧ r0 = m)) (h1 : s0 ≤ r) (h2 : r ≤ r0)
    (c1 : r = s0 ∨ ∃ w z, L[q - r]? = some w ∧ L[r - 1]? = some z ∧ lt w.1 z.1 = false) (c2 : r = r0 ∨ ∃ w z, L[p - r]? = some w ∧ L[r]? = some z ∧ lt w.1 z.1 = true) :
    ∃ e U1 U2 V1 V2, e = q - r ∧ (m ≤ e ∧ e ≤ b ∧ a ≤ r ∧ r ≤ m ∧ mid = a + (r - a) + (e - m)) ∧ (U1.length = r - a ∧ U2.length = m - r ∧ V1.length = e - m ∧ V2.length = b - e) ∧ U1 ++ U2 = U ∧ V1 ++ V2 = V ∧
      (Sorted lt U1 ∧ Sorted lt U2 ∧ Sorted lt V1 ∧ Sorted lt V2) ∧ Below U1 V1 ∧ Below U2 V2 ∧ ∀ W1 W2, Merged lt U1 V1 W1 → Merged lt U2 V2 W2 → Merged lt U V (W1 ++ W2) := by
  have hrange : m ≤ q - r ∧ q - r ≤ b ∧ a ≤ r ∧ r ≤ m ∧ mid = a + (r - a) + (q - r - m) := by
    rcases hsr with ⟨x1, rfl, rfl⟩ | ⟨x1, rfl, rfl⟩ <;> omega
  have hs0 : r = s0 → r - a = 0 ∨ V.length ≤ q - r - m := by
    rcases hsr with ⟨x1, rfl, rfl⟩ | ⟨x1, rfl, rfl⟩ <;> omega
  have hr0 : r = r0 → q - r - m = 0 ∨ U.length ≤ r - a := by
    rcases hsr with ⟨x1, rfl, rfl⟩ | ⟨x1, rfl, rfl⟩ <;> omega
  have hlo : r ≠ s0 → q - r < b ∧ a ≤ r - 1 ∧ 0 < r := by
    rcases hsr with ⟨x1, rfl, rfl⟩ | ⟨x1, rfl, rfl⟩ <;> omega
  have hhi : r ≠ r0 → m ≤ p - r ∧ p - r < b ∧ r < m := by
    rcases hsr with ⟨x1, rfl, rfl⟩ | ⟨x1, rfl, rfl⟩ <;> omega
  clear hsr h1 h2
  obtain ⟨e, he⟩ : ∃ e, e = q - r := ⟨_, rfl⟩
  rw [← he] at hrange hs0 hr0 hlo c1
  have getU : ∀ i, a ≤ i → i < m → L[i]? = U[i - a]? := fun i h1 h2 => by rw [hL, List.append_assoc (A ++ U), get_mid (a := a) ha.symm h1 (by omega)]
  have getV : ∀ i, m ≤ i → i < b → L[i]? = V[i - m]? := fun i h1 h2 => by rw [hL, get_mid (a := m) (by simp; omega) h1 (by omega)]
  have k1 : r - a = 0 ∨ V.length ≤ e - m ∨ ∃ x y, U[r - a - 1]? = some x ∧ V[e - m]? = some y ∧ T lt x y := by
    rcases c1 with c | ⟨w, z, q1, q2, q3⟩
    · rcases hs0 c with g | g
      · exact .inl g
      · exact .inr (.inl g)
    · by_cases h0 : r = s0
      · rcases hs0 h0 with g | g
        · exact .inl g
        · exact .inr (.inl g)
      · obtain ⟨g1, g2, g3⟩ := hlo h0
        rw [getV e (by omega) g1] at q1
        rw [getU (r - 1) g2 (by omega)] at q2
        exact .inr (.inr ⟨z, w, by rw [← q2]; congr 1; omega, q1, T.of_not q3 (hBel z (List.mem_of_getElem? q2) w (List.mem_of_getElem? q1))⟩)
  have k2 : e - m = 0 ∨ U.length ≤ r - a ∨ ∃ x y, V[e - m - 1]? = some x ∧ U[r - a]? = some y ∧ T lt x y := by
    rcases c2 with c | ⟨w, z, q1, q2, q3⟩
    · rcases hr0 c with g | g
      · exact .inl g
      · exact .inr (.inl g)
    · by_cases h0 : r = r0
      · rcases hr0 h0 with g | g
        · exact .inl g
        · exact .inr (.inl g)
      · obtain ⟨g1, g2, g3⟩ := hhi h0
        rw [getV _ g1 g2] at q1
        rw [getU r (by omega) g3] at q2
        exact .inr (.inr ⟨w, z, by rw [← q1]; congr 1; omega, q2, .inl q3⟩)
  refine ⟨e, U.take (r - a), U.drop (r - a), V.take (e - m), V.drop (e - m), he, hrange, ⟨?_, ?_, ?_, ?_⟩, List.take_append_drop _ _, List.take_append_drop _ _, ⟨sU.sublist (List.take_sublist _ _), sU.sublist (List.drop_sublist _ _), sV.sublist (List.take_sublist _ _), sV.sublist (List.drop_sublist _ _)⟩, ?_, ?_, fun W1 W2 j1 j2 => Merged.join hw sU sV j1 j2 k1 k2⟩
  · rw [List.length_take]; omega
  · rw [List.length_drop]; omega
  · rw [List.length_take]; omega
  · rw [List.length_drop]; omega
  · exact fun x hx y hy => hBel x (List.mem_of_mem_take hx) y (List.mem_of_mem_take hy)
  · exact fun x hx y hy => hBel x (List.mem_of_mem_drop hx) y (List.mem_of_mem_drop hy)
end
end Go.VX.Srt

/- Sorting that keeps the order of what is alike: by stretches. -/
namespace Go.VX.Srt
set_option linter.unusedVariables false
set_option linter.unusedSimpArgs false
section
variable {α : Type} {lt : α → α → Bool}
/-- A stretch is sorted, and has its own tags. -/
def SB (lt : α → α → Bool) (Z : List (α × Nat)) (lo hi : Nat) : Prop := Sorted lt (seg Z lo hi) ∧ ∀ x ∈ seg Z lo hi, lo ≤ x.2 ∧ x.2 < hi
theorem seg_parts {β : Type} (L : List β) {a m b : Nat} (h1 : a ≤ m) (h2 : m ≤ b) : L = L.take a ++ seg L a m ++ seg L m b ++ L.drop b := by
  have e1 := seg_split (Z := L) h2
  have e2 : L.take m = L.take a ++ seg L a m := by
    have := List.take_append_drop a (L.take m)
    rw [List.take_take, Nat.min_eq_left h1] at this
    exact this.symm
  rw [← e2]; exact e1
theorem seg_all {β : Type} {L : List β} {a b : Nat} (h : L.length ≤ b) : seg L a b = L.drop a := by
  unfold seg; rw [List.take_of_length_le h]
theorem SB.below {Z : List (α × Nat)} {a m b : Nat} (h1 : SB lt Z a m) (h2 : SB lt Z m b) : Below (seg Z a m) (seg Z m b) := fun x hx y hy => by
  have := (h1.2 x hx).2; have := (h2.2 y hy).1; omega
theorem SB.wide {Z : List (α × Nat)} {a b c : Nat} (h : SB lt Z a b) (hl : Z.length ≤ b) (hc : b ≤ c) : SB lt Z a c := by
  unfold SB at *
  rw [seg_all hl] at h
  rw [seg_all (by omega)]
  exact ⟨h.1, fun x hx => ⟨(h.2 x hx).1, by have := (h.2 x hx).2; omega⟩⟩
theorem SB.out {Z : List (α × Nat)} {a b : Nat} (h : Z.length ≤ a) : SB lt Z a b := by
  have e : seg Z a b = [] := by
    unfold seg
    rw [List.drop_eq_nil_of_le]
    exact Nat.le_trans (List.length_take_le' _ _) h
  unfold SB
  rw [e]
  exact ⟨List.Pairwise.nil, by simp⟩
/-- A stretch put anew: the others are as they were. -/
theorem SB.other {L : List (α × Nat)} {a b : Nat} {W : List (α × Nat)} (hab : a ≤ b) (hb : b ≤ L.length) (hW : W.length = b - a) {c d : Nat} (h : d ≤ a ∨ b ≤ c) (k : SB lt L c d) : SB lt (L.take a ++ W ++ L.drop b) c d := by
  have e1 := seg_split (Z := L) hab
  have lA : (L.take a).length = a := by rw [List.length_take]; omega
  have lS := seg_length (Z := L) (a := a) hb
  have e : seg (L.take a ++ W ++ L.drop b) c d = seg L c d := by
    rcases h with h | h
    · rw [seg_before (S' := seg L a b) (by omega), ← e1]
    · rw [seg_behind (S' := seg L a b) (by omega) (by omega), ← e1]
  unfold SB at *
  rw [e]; exact k
theorem SB.here {L : List (α × Nat)} {a b : Nat} {W : List (α × Nat)} (hab : a ≤ b) (hb : b ≤ L.length) (hW : W.length = b - a) (hs : Sorted lt W) (ht : ∀ x ∈ W, a ≤ x.2 ∧ x.2 < b) : SB lt (L.take a ++ W ++ L.drop b) a b := by
  have lA : (L.take a).length = a := by rw [List.length_take]; omega
  have e : seg (L.take a ++ W ++ L.drop b) a b = W := seg_of lA (by omega)
  unfold SB
  rw [e]; exact ⟨hs, ht⟩
theorem put_perm {β : Type} {L W : List β} {a b : Nat} (hab : a ≤ b) (h : W.Perm (seg L a b)) : (L.take a ++ W ++ L.drop b).Perm L := by
  conv => rhs; rw [seg_split (Z := L) hab]
  exact (List.Perm.append_left _ h).append_right _
/-- Two stretches merged. -/
theorem SB.merge {L : List (α × Nat)} {a m b : Nat} {W : List (α × Nat)} (h1 : a ≤ m) (h2 : m ≤ b) (hb : b ≤ L.length) (s1 : SB lt L a m) (s2 : SB lt L m b) (hM : Merged lt (seg L a m) (seg L m b) W) :
    (L.take a ++ W ++ L.drop b).Perm L ∧ SB lt (L.take a ++ W ++ L.drop b) a b ∧ ∀ c d, (d ≤ a ∨ b ≤ c) → SB lt L c d → SB lt (L.take a ++ W ++ L.drop b) c d := by
  have lW := hM.perm.length_eq
  rw [List.length_append, seg_length (by omega), seg_length hb] at lW
  have hp : W.Perm (seg L a b) := by
    refine hM.perm.trans ?_
    have : seg L a b = seg L a m ++ seg L m b := by
      have e1 := seg_parts L h1 h2
      have e2 := seg_split (Z := L) (Nat.le_trans h1 h2)
      rw [List.append_assoc (L.take a)] at e1
      have := e2.symm.trans e1
      exact List.append_cancel_left (List.append_cancel_right this)
    rw [this]
  refine ⟨put_perm (by omega) hp, SB.here (by omega) hb (by omega) hM.sorted fun x hx => ?_, fun c d h k => SB.other (by omega) hb (by omega) h k⟩
  rcases List.mem_append.1 (hM.perm.mem_iff.1 hx) with q | q
  · have := s1.2 x q; omega
  · have := s2.2 x q; omega
theorem zip_seg (l : List α) (a b : Nat) : (seg l.zipIdx a b).Pairwise (fun x y => x.2 < y.2) ∧ ∀ x ∈ seg l.zipIdx a b, a ≤ x.2 ∧ x.2 < b := by
  refine ⟨?_, fun x hx => ?_⟩
  · have h2 : (l.zipIdx.map Prod.snd).Pairwise (· < ·) := by
      rw [List.zipIdx_map_snd]; exact List.pairwise_lt_range'
    rw [List.pairwise_map] at h2
    unfold seg
    exact h2.sublist ((List.drop_sublist _ _).trans (List.take_sublist _ _))
  · obtain ⟨i, hi, e⟩ := List.getElem_of_mem hx
    have e2 : (seg l.zipIdx a b)[i]? = some x := by rw [List.getElem?_eq_getElem hi, e]
    unfold seg at e2
    rw [List.getElem?_drop, List.getElem?_take] at e2
    split at e2
    · rw [List.getElem?_zipIdx] at e2
      rcases h : l[a + i]? with _ | y
      · rw [h] at e2; simp at e2
      · rw [h] at e2
        simp only [Option.map_some, Option.some.injEq] at e2
        subst e2
        simp only
        omega
    · cases e2
theorem seg_drop {β : Type} {L M : List β} {a b : Nat} (h : L.drop a = M.drop a) : seg L a b = seg M a b := by
  unfold seg
  rw [List.drop_take, List.drop_take, h]
/-- A stretch of what came, sorted by putting in. -/
theorem SB.ins {l : List α} {L : List (α × Nat)} {a b : Nat} {S : List (α × Nat)} (hab : a ≤ b) (hb : b ≤ L.length) (hd : L.drop a = l.zipIdx.drop a) (hp : S.Perm (seg L a b)) (hs : Sorted lt S) :
    (L.take a ++ S ++ L.drop b).Perm L ∧ SB lt (L.take a ++ S ++ L.drop b) a b ∧ (∀ c d, (d ≤ a ∨ b ≤ c) → SB lt L c d → SB lt (L.take a ++ S ++ L.drop b) c d) ∧ (L.take a ++ S ++ L.drop b).drop b = l.zipIdx.drop b := by
  have lS := hp.length_eq
  rw [seg_length hb] at lS
  refine ⟨put_perm hab hp, SB.here hab hb lS hs fun x hx => ?_, fun c d h k => SB.other hab hb lS h k, ?_⟩
  · have := hp.mem_iff.1 hx
    rw [seg_drop hd] at this
    exact (zip_seg l a b).2 x this
  · rw [drop3 (by rw [List.length_take]; omega)]
    have : b - (L.take a).length - S.length = 0 := by rw [List.length_take]; omega
    rw [this, List.drop_zero]
    have h2 := congrArg (List.drop (b - a)) hd
    rw [List.drop_drop, List.drop_drop] at h2
    rwa [show a + (b - a) = b by omega] at h2
end
end Go.VX.Srt
