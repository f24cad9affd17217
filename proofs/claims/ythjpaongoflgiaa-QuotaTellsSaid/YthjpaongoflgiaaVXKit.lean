/- Short forms for walks: what is asked is settled by default. -/
import Derived.Test.YthjpaongoflgiaaVXSplit
import Derived.Test.YthjpaongoflgiaaVXCell
namespace Go.VX
open Go.RowKit
set_option linter.unusedVariables false

@[simp] theorem toNat_cc (a b : Nat) : ((a : Int) + (b : Int)).toNat = a + b := by omega
@[simp] theorem toNat_c1 (a : Nat) : ((a : Int) + 1).toNat = a + 1 := by omega
@[simp] theorem toNat_ccc (a b c : Nat) : ((a : Int) + (b : Int) + (c : Int)).toNat = a + b + c := by omega
@[simp] theorem toNat_cc1 (a b : Nat) : ((a : Int) + (b : Int) + 1).toNat = a + b + 1 := by omega
@[simp] theorem bits_i64 : IntKind.i64.bits = 64 := rfl
@[simp] theorem bits_u64 : IntKind.u64.bits = 64 := rfl
@[simp] theorem bits_u32 : IntKind.u32.bits = 32 := rfl
@[simp] theorem bits_u8 : IntKind.u8.bits = 8 := rfl
@[simp] theorem take_map_len {α β : Type} (f : α → β) (l : List α) : List.take l.length (List.map f l) = List.map f l := List.take_of_length_le (by simp)
@[simp] theorem rn1_int_comp {α : Type} (f : Nat → Nat) (k : IntKind) (g : α → Int) : rn1 f ∘ V.int k ∘ g = V.int k ∘ g := rfl
section
variable {P : Program} {nt : Sh} {Q : X → St → Prop} {st : St}
/-- A loop: the states at its head, by what they hang on; what falls. -/
theorem vwp_loop_s {α : Type} {c : Code} (S : α → St) (I : α → Prop) (μ : α → Nat) (a : α) (g : Gh nt st (S a)) (h0 : I a)
    (round : ∀ a, I a → ∀ K : St → Prop, (∀ a' st', Gh nt st' (S a') → I a' → μ a' < μ a → K st') → vwp P nt c (thenQ K Q) (S a)) : vwp P nt (.loop c) Q st :=
  vwp_gh g (vwp_loop_k (fun m st => ∃ a, I a ∧ m = μ a ∧ st = S a) (μ a) ⟨a, h0, rfl, rfl⟩ fun n st hI K hK => by
    obtain ⟨a, h1, rfl, rfl⟩ := hI
    exact round a h1 K fun a' st' g' h2 h3 => hK st' ⟨S a', g', μ a', h3, a', h2, rfl, rfl⟩)
/-- A sequence through a middle: the states there, by what they hang on. -/
theorem vwp_cut_s {α : Type} {x y : Code} (S : α → St) (I : α → Prop) (h : ∀ K : St → Prop, (∀ a st', Gh nt st' (S a) → I a → K st') → vwp P nt x (thenQ K Q) st)
    (k : ∀ a, I a → vwp P nt y Q (S a)) : vwp P nt (.seq x y) Q st :=
  vwp_cut_k (fun st' => ∃ a, Gh nt st' (S a) ∧ I a) (fun K hK => h K fun a st' g hI => hK st' ⟨a, g, hI⟩) fun st' ⟨a, g, hI⟩ => vwp_gh g (k a hI)

theorem Gh.to_k {nt : Sh} {sl : List (Nat × V)} {ob : List Ob} (ts : List Nat) (ks : List Nat) {sl' : List (Nat × V)} {objs : List Ob}
    (he : keepS ob ks sl ts = sl' := by simp) (hh : hand ob (fOf ks ob.length) ks objs := by simp) (hs : slotsOK (vwAOK ob ks false) sl ts := by simp) (hn : ks.Nodup := by simp) (hk : pre nt.k0 ks := by rfl) : Gh nt ⟨sl, ob⟩ ⟨sl', objs⟩ :=
  Gh.to ts ks sl' objs hn hh hk hs he
theorem ret_k {nt : Sh} {fn : Func} {Q : V → List Ob → Prop} {sl : List (Nat × V)} {ob : List Ob} (ts : List Nat) (ks : List Nat) (objs : List Ob) (r : V) (hq : Q r objs)
    (hh : hand ob (fOf ks ob.length) ks objs := by simp) (hs : slotsOK (vwAOK ob ks false) sl ts := by simp) (hr : retV (keepS ob ks sl ts) fn.results.toList = some r := by simp) (hn : ks.Nodup := by simp) (hk : pre nt.k0 ks := by rfl) : ∃ st', Gh nt ⟨sl, ob⟩ st' ∧ retQ fn Q .ret st' :=
  ret_only ts ks objs hn hh hk hs hr hq
theorem norm_k {nt : Sh} {fn : Func} {Q : V → List Ob → Prop} {sl : List (Nat × V)} {ob : List Ob} (ts : List Nat) (ks : List Nat) (objs : List Ob) (r : V) (hq : Q r objs)
    (hh : hand ob (fOf ks ob.length) ks objs := by simp) (hs : slotsOK (vwAOK ob ks false) sl ts := by simp) (hr : retV (keepS ob ks sl ts) fn.results.toList = some r := by simp) (hn : ks.Nodup := by simp) (hk : pre nt.k0 ks := by rfl) : ∃ st', Gh nt ⟨sl, ob⟩ st' ∧ retQ fn Q .norm st' :=
  norm_only ts ks objs hn hh hk hs hr hq
/-- A call. -/
theorem vcall_k {P : Program} {nt : Sh} {st : St} {k : Nat} {args : List V} {K : V → List Ob → Prop} (ρ : List Nat) {args' : List V} {objs : List Ob} {Q : V → List Ob → Prop}
    (hv : VC P k args' objs Q) (hK : ∀ r ob', Q r ob' → K (rnV (fOf ρ st.ob.length) r) (back st.ob ρ ob')) (hh : hand st.ob (fOf ρ st.ob.length) ρ objs := by simp) (ha : args.map (vwA st.ob ρ false) = args' := by simp) (hok : allOK (vwAOK st.ob ρ false) args := by simp) (hn : ρ.Nodup := by simp) : vcall P nt st k args K :=
  vcall_by0 ρ hv hn hh ha hok hK
/-- .. whose callee takes what isn't handed over for frozen, and keeps nothing of it. -/
theorem vcall_z {P : Program} {nt : Sh} {st : St} {k : Nat} {args : List V} {K : V → List Ob → Prop} (ρ : List Nat) {args' : List V} {objs : List Ob} {Q : V → List Ob → Prop}
    (hv : VC P k args' objs Q) (hz : ∀ r ob', Q r ob' → r.nofz = true ∧ ∀ o ∈ ob', o.nofz = true) (hK : ∀ r ob', Q r ob' → K (rnV (fOf ρ st.ob.length) r) (back st.ob ρ ob')) (hh : hand st.ob (fOf ρ st.ob.length) ρ objs := by simp) (ha : args.map (vwA st.ob ρ true) = args' := by simp) (hok : allOK (vwAOK st.ob ρ true) args := by simp) (hn : ρ.Nodup := by simp) : vcall P nt st k args K :=
  vcall_by ρ true hv hn hh ha hok fun r ob' q => ⟨fun _ => hz r ob' q, hK r ob' q⟩
theorem getI {α : Type} {l : List α} {i : Nat} (h : i < l.length) : ∃ v, l[i]? = some v := ⟨_, List.getElem?_eq_getElem h⟩
end
end Go.VX
