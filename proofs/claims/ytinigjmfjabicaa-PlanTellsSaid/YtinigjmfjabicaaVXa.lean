/- A calculus over abstract values. -/
import Derived.WalkKit
import Derived.Laws.CopyRow
import Derived.Laws.MakeOwn
import Derived.MapKept
import Derived.Maps.RangeRun
import Derived.Laws.StructEq
import Derived.Laws.Cover3
/- Abstract values, what they say of the machine's values and memory, and how that is kept. Nothing here speaks of one program. -/
namespace Go.VX
set_option linter.unusedVariables false

inductive V where
  | junk
  | bool (b : Bool)
  | int (k : IntKind) (n : Int)
  | str (s : ByteArray)
  | agg (cs : List V)
  | tup (vs : List V)
  | nilp
  | nils
  | nilf
  | nilm
  | nili
  | fp (cs : List V)
  | fs (n : Nat) (cs : List V)
  | ptr (id tot off : Nat)
  | sl (id tot esz off n : Nat)
  | fn (f : FuncId) (caps : List V)
  | mp (id : Nat)
  | yld (id : Nat)
  | ifc (t : Nat) (v : Value)
  deriving Inhabited

/-- One cell holds it. -/
def V.one : V → Bool
  | .agg _ | .tup _ | .junk => false
  | _ => true

def V.plain : V → Bool
  | .ptr _ _ _ | .sl _ _ _ _ _ | .mp _ | .yld _ | .fn _ _ | .agg _ | .tup _ | .junk => false
  | _ => true
def V.flat0 : V → Bool
  | .fn _ _ | .agg _ | .tup _ => false
  | _ => true
def V.notTup : V → Bool
  | .tup _ => false
  | _ => true
/-- No object is named in it. -/
def V.noId : V → Bool
  | .ptr _ _ _ | .sl _ _ _ _ _ | .mp _ | .yld _ => false
  | .fn _ cs => cs.all V.plain
  | _ => true

inductive Fl where
  | any | cell | frz
def okq : Fl → V → Prop
  | .any, _ => True
  | .cell, c => c.one = true
  | .frz, c => c.one = true ∧ c.noId = true

structure Env where
  Φ : Nat → Prop
  H : Nat → Option Nat
  L : Nat → Option Nat
  N : Nat
  w : World

/-- The cells from an address on. -/
def reads (w : World) (b o : Nat) (us : List Value) : Prop :=
  ∀ i, i < us.length → w.cell? ⟨b, o + i, none⟩ = us[i]?

def bsize (w : World) (b : Nat) : Nat :=
  match w.heap[b]? with
  | some (.cells c _ _) => c.size
  | _ => 0

/-- A slice's header over an object's block. -/
def SlV (w : World) (h : Option Nat) (tot esz off n : Nat) (v : Value) : Prop :=
  match h with
  | none => tot = 0 ∧ off = 0 ∧ n = 0 ∧ v = .slice none 0 0
  | some b => ∃ cap, v = .slice (some ⟨b, off, none⟩) n cap ∧ n ≤ cap ∧ off + n * esz ≤ tot ∧ off + cap * esz ≤ bsize w b ∧ (esz ≠ 0 → tot ≤ off + cap * esz)

mutual
def VRep (E : Env) : V → Value → Prop
  | .junk, _ => True
  | .bool b, v => v = .bool b
  | .int k n, v => v = .int k n
  | .str s, v => v = .string s
  | .agg cs, v => ∃ a : Array Value, v = .agg a ∧ VReps .cell E cs a.toList
  | .tup cs, v => ∃ a : Array Value, cs.all V.notTup = true ∧ v = .tuple a ∧ VReps .any E cs a.toList
  | .nilp, v => v = .pointer none
  | .nils, v => v = .slice none 0 0
  | .nilf, v => v = .nilFunc
  | .nilm, v => v = .map none
  | .nili, v => v = .nilIface
  | .ifc t u, v => v = .iface t u
  | .fp cs, v => ∃ b o us, v = .pointer (some ⟨b, o, none⟩) ∧ E.Φ b ∧ reads E.w b o us ∧ VReps .frz E cs us
  | .fs n cs, v => ∃ ad cap us, v = .slice ad n cap ∧ n ≤ cap ∧ VReps .frz E cs us ∧ (0 < us.length → ∃ b o, ad = some ⟨b, o, none⟩ ∧ E.Φ b ∧ reads E.w b o us)
  | .ptr id tot off, v => v.oneCell' = true ∧ id < E.N ∧ ∀ T, E.L id = some T → tot ≤ T ∧ (tot = T → ∃ b, E.H id = some b ∧ v = .pointer (some ⟨b, off, none⟩))
  | .sl id tot esz off n, v => v.oneCell' = true ∧ id < E.N ∧ ∀ T, E.L id = some T → tot ≤ T ∧ (tot = T → SlV E.w (E.H id) tot esz off n v)
  | .fn f cs, v => ∃ a : Array Value, cs.all V.flat0 = true ∧ v = .func (.func f) #[] a ∧ VReps .any E cs a.toList
  | .mp id, v => v.oneCell' = true ∧ id < E.N ∧ (E.L id = some 0 → ∃ b, E.H id = some b ∧ v = .map (some b))
  | .yld id, v => v.oneCell' = true ∧ id < E.N ∧ (E.L id = some 0 → ∃ b, E.H id = some b ∧ v = .func (.yield b) #[] #[])
def VReps (q : Fl) (E : Env) : List V → List Value → Prop
  | [], us => us = []
  | c :: cs, us => ∃ u r, us = u :: r ∧ okq q c ∧ VRep E c u ∧ VReps q E cs r
end

/-- What may happen between two moments, so that what is said of values stays true. -/
structure Ext (E E' : Env) : Prop where
  phi : ∀ b, E.Φ b → E'.Φ b
  heap : ∀ b, E.Φ b → E'.w.heap[b]? = E.w.heap[b]?
  n : E.N ≤ E'.N
  l : ∀ i, i < E.N → ∀ T', E'.L i = some T' → ∃ T, E.L i = some T ∧ T ≤ T' ∧ (T = T' → E'.H i = E.H i ∧ ∀ b, E.H i = some b → bsize E'.w b = bsize E.w b)

theorem Ext.refl (E : Env) : Ext E E :=
  ⟨fun _ h => h, fun _ _ => rfl, Nat.le_refl _, fun _ _ T' h => ⟨T', h, Nat.le_refl _, fun _ => ⟨rfl, fun _ _ => rfl⟩⟩⟩
theorem Ext.trans {a b c : Env} (h : Ext a b) (k : Ext b c) : Ext a c := by
  refine ⟨fun x hx => k.phi x (h.phi x hx), fun x hx => (k.heap x (h.phi x hx)).trans (h.heap x hx), Nat.le_trans h.n k.n, fun i hi T'' hT => ?_⟩
  obtain ⟨T', h1, h2, h3⟩ := k.l i (Nat.lt_of_lt_of_le hi h.n) T'' hT
  obtain ⟨T, h4, h5, h6⟩ := h.l i hi T' h1
  refine ⟨T, h4, Nat.le_trans h5 h2, fun e => ?_⟩
  have e1 : T' = T'' := by omega
  have e2 : T = T' := by omega
  obtain ⟨g1, g2⟩ := h6 e2
  obtain ⟨g3, g4⟩ := h3 e1
  exact ⟨g3.trans g1, fun b hb => (g4 b (g1.trans hb)).trans (g2 b hb)⟩

theorem cell?_of_heap {w w' : World} {a : Addr} (h : w'.heap[a.block]? = w.heap[a.block]?) : w'.cell? a = w.cell? a := by
  unfold World.cell?; rw [h]
theorem reads_of_heap {w w' : World} {b o : Nat} {us : List Value} (h : w'.heap[b]? = w.heap[b]?) (hr : reads w b o us) : reads w' b o us := by
  intro i hi
  rw [cell?_of_heap (w := w) (w' := w') (by exact h)]
  exact hr i hi

theorem SlV.of {w w' : World} {h : Option Nat} {tot esz off n : Nat} {v : Value} (hb : ∀ b, h = some b → bsize w' b = bsize w b) (k : SlV w h tot esz off n v) : SlV w' h tot esz off n v := by
  cases h with
  | none => exact k
  | some b =>
    obtain ⟨cap, h1, h2, h3, h4, h5⟩ := k
    exact ⟨cap, h1, h2, h3, by rw [hb b rfl]; exact h4, h5⟩

mutual
theorem VRep.ext {E E' : Env} (h : Ext E E') : ∀ (x : V) (v : Value), VRep E x v → VRep E' x v
  | .junk, _, _ => by simp [VRep]
  | .bool b, v, hv => hv
  | .int k n, v, hv => hv
  | .str s, v, hv => hv
  | .agg cs, v, ⟨a, h1, h2⟩ => ⟨a, h1, VReps.ext h cs _ h2⟩
  | .tup cs, v, ⟨a, h0, h1, h2⟩ => ⟨a, h0, h1, VReps.ext h cs _ h2⟩
  | .nilp, v, hv => hv
  | .nils, v, hv => hv
  | .nilf, v, hv => hv
  | .nilm, v, hv => hv
  | .nili, v, hv => hv
  | .ifc t u, v, hv => hv
  | .fp cs, v, ⟨b, o, us, h1, h2, h3, h4⟩ => ⟨b, o, us, h1, h.phi _ h2, reads_of_heap (h.heap b h2) h3, VReps.ext h cs _ h4⟩
  | .fs n cs, v, ⟨ad, cap, us, h1, h2, h3, h4⟩ => ⟨ad, cap, us, h1, h2, VReps.ext h cs _ h3, fun hu => by
      obtain ⟨b, o, e, hp, hr⟩ := h4 hu
      exact ⟨b, o, e, h.phi _ hp, reads_of_heap (h.heap b hp) hr⟩⟩
  | .ptr id tot off, v, ⟨h0, h1, h2⟩ => ⟨h0, Nat.lt_of_lt_of_le h1 h.n, fun T' hT' => by
      obtain ⟨T, g1, g2, g3⟩ := h.l id h1 T' hT'
      obtain ⟨k1, k2⟩ := h2 T g1
      refine ⟨Nat.le_trans k1 g2, fun e => ?_⟩
      obtain ⟨b, hb, hv⟩ := k2 (by omega)
      exact ⟨b, (g3 (by omega)).1.trans hb, hv⟩⟩
  | .sl id tot esz off n, v, ⟨h0, h1, h2⟩ => ⟨h0, Nat.lt_of_lt_of_le h1 h.n, fun T' hT' => by
      obtain ⟨T, g1, g2, g3⟩ := h.l id h1 T' hT'
      obtain ⟨k1, k2⟩ := h2 T g1
      refine ⟨Nat.le_trans k1 g2, fun e => ?_⟩
      obtain ⟨e1, e2⟩ := g3 (by omega)
      rw [e1]
      exact (k2 (by omega)).of e2⟩
  | .fn f cs, v, ⟨a, h0, h1, h2⟩ => ⟨a, h0, h1, VReps.ext h cs _ h2⟩
  | .mp id, v, ⟨h0, h1, h2⟩ => ⟨h0, Nat.lt_of_lt_of_le h1 h.n, fun hT' => by
      obtain ⟨T, g1, g2, g3⟩ := h.l id h1 0 hT'
      obtain rfl : T = 0 := by omega
      obtain ⟨b, hb, hv⟩ := h2 g1
      exact ⟨b, (g3 rfl).1.trans hb, hv⟩⟩
  | .yld id, v, ⟨h0, h1, h2⟩ => ⟨h0, Nat.lt_of_lt_of_le h1 h.n, fun hT' => by
      obtain ⟨T, g1, g2, g3⟩ := h.l id h1 0 hT'
      obtain rfl : T = 0 := by omega
      obtain ⟨b, hb, hv⟩ := h2 g1
      exact ⟨b, (g3 rfl).1.trans hb, hv⟩⟩
theorem VReps.ext {q : Fl} {E E' : Env} (h : Ext E E') : ∀ (xs : List V) (us : List Value), VReps q E xs us → VReps q E' xs us
  | [], us, hu => hu
  | c :: cs, us, ⟨u, r, h1, h0, h2, h3⟩ => ⟨u, r, h1, h0, VRep.ext h c u h2, VReps.ext h cs r h3⟩
end

section
variable {q : Fl} {E : Env}
theorem VReps.length : ∀ {xs : List V} {us : List Value}, VReps q E xs us → xs.length = us.length
  | [], us, hu => by simp [VReps] at hu; simp [hu]
  | c :: cs, us, ⟨u, r, h1, h0, h2, h3⟩ => by subst h1; simp [VReps.length h3]
theorem VReps.get : ∀ {xs : List V} {us : List Value}, VReps q E xs us → ∀ (i : Nat) (x : V), xs[i]? = some x → ∃ u, us[i]? = some u ∧ okq q x ∧ VRep E x u
  | [], us, hu, i, x, hx => by simp at hx
  | c :: cs, us, ⟨u, r, h1, h0, h2, h3⟩, i, x, hx => by
    subst h1
    cases i with
    | zero => simp at hx; subst hx; exact ⟨u, by simp, h0, h2⟩
    | succ i => simp at hx; simpa using VReps.get h3 i x hx
theorem VReps.append : ∀ {xs : List V} {us : List Value} {ys : List V} {vs : List Value}, VReps q E xs us → VReps q E ys vs → VReps q E (xs ++ ys) (us ++ vs)
  | [], us, ys, vs, hu, hv => by simp [VReps] at hu; subst hu; simpa using hv
  | c :: cs, us, ys, vs, ⟨u, r, h1, h0, h2, h3⟩, hv => by subst h1; exact ⟨u, r ++ vs, rfl, h0, h2, VReps.append h3 hv⟩
theorem VReps.take : ∀ (n : Nat) {xs : List V} {us : List Value}, VReps q E xs us → VReps q E (xs.take n) (us.take n)
  | 0, xs, us, h => by simp [VReps]
  | n + 1, [], us, h => by simp [VReps] at h; subst h; simp [VReps]
  | n + 1, c :: cs, us, ⟨u, r, h1, h0, h2, h3⟩ => by subst h1; exact ⟨u, r.take n, rfl, h0, h2, VReps.take n h3⟩
theorem VReps.drop : ∀ (n : Nat) {xs : List V} {us : List Value}, VReps q E xs us → VReps q E (xs.drop n) (us.drop n)
  | 0, xs, us, h => by simpa using h
  | n + 1, [], us, h => by simp [VReps] at h; subst h; simp [VReps]
  | n + 1, c :: cs, us, ⟨u, r, h1, h0, h2, h3⟩ => by subst h1; simpa using VReps.drop n h3
theorem VReps.set : ∀ (n : Nat) {xs : List V} {us : List Value} {x : V} {v : Value}, VReps q E xs us → okq q x → VRep E x v → VReps q E (xs.set n x) (us.set n v)
  | n, [], us, x, v, h, ho, hx => by simp [VReps] at h; subst h; simp [VReps]
  | 0, c :: cs, us, x, v, ⟨u, r, h1, h0, h2, h3⟩, ho, hx => by subst h1; exact ⟨v, r, rfl, ho, hx, h3⟩
  | n + 1, c :: cs, us, x, v, ⟨u, r, h1, h0, h2, h3⟩, ho, hx => by subst h1; exact ⟨u, r.set n v, rfl, h0, h2, VReps.set n h3 ho hx⟩
theorem VReps.weak : ∀ {xs : List V} {us : List Value}, VReps .frz E xs us → VReps .cell E xs us
  | [], us, h => h
  | c :: cs, us, ⟨u, r, h1, h0, h2, h3⟩ => ⟨u, r, h1, h0.1, h2, VReps.weak h3⟩
theorem VReps.toAny : ∀ {xs : List V} {us : List Value}, VReps q E xs us → VReps .any E xs us
  | [], us, h => h
  | c :: cs, us, ⟨u, r, h1, h0, h2, h3⟩ => ⟨u, r, h1, trivial, h2, VReps.toAny h3⟩
theorem VReps.toFrz : ∀ {xs : List V} {us : List Value}, (∀ c ∈ xs, c.noId = true) → VReps .cell E xs us → VReps .frz E xs us
  | [], us, hc, h => h
  | c :: cs, us, hc, ⟨u, r, h1, h0, h2, h3⟩ => ⟨u, r, h1, ⟨h0, hc c (by simp)⟩, h2, VReps.toFrz (fun d hd => hc d (by simp [hd])) h3⟩
theorem VRep.oneCell : ∀ {x : V} {v : Value}, x.one = true → VRep E x v → v.oneCell' = true := by
  intro x v h1 h2
  cases x <;> simp [V.one] at h1 <;> simp only [VRep] at h2 <;> (try (subst h2; rfl))
  · obtain ⟨b, o, us, rfl, _⟩ := h2; rfl
  · obtain ⟨ad, cap, us, rfl, _⟩ := h2; rfl
  · exact h2.1
  · exact h2.1
  · obtain ⟨a, _, rfl, _⟩ := h2; rfl
  · exact h2.1
  · exact h2.1
end

/-! ### Objects -/
inductive Ob where
  | live (cs : List V)
  | frz (cs : List V)
  | map (es : List (V × V)) (bs : List Nat) (ck : Nat)
  | iter (m : V) (since : Nat) (seen : List Nat) (last : Nat)
  | loop (st : LoopState) (pd : Option Code) (n : Nat) (ks : List Nat) (vs : List V) (ps : Array Tmp) (as bd : Code)
  | dead
  deriving Inhabited

def Ob.len : Ob → Option Nat
  | .live cs => some cs.length
  | .frz cs => some cs.length
  | .map _ _ _ => some 0
  | .iter _ _ _ _ => some 0
  | .loop _ _ _ _ _ _ _ _ => some 0
  | .dead => none
def Ob.mutb : Ob → Bool
  | .live _ | .map _ _ _ | .iter _ _ _ _ | .loop _ _ _ _ _ _ _ _ => true
  | _ => false
def Lof (ob : List Ob) (i : Nat) : Option Nat := (ob[i]?).bind Ob.len

def mkE (Φ : Nat → Prop) (H : Nat → Option Nat) (ob : List Ob) (w : World) : Env := ⟨Φ, H, Lof ob, ob.length, w⟩

def ObRep (E : Env) (h : Option Nat) : Ob → Prop
  | .live cs => match h with
    | none => cs = []
    | some b => ∃ c el, E.w.heap[b]? = some (.cells c el (0, 0)) ∧ ¬ E.Φ b ∧ cs.length ≤ c.size ∧ VReps .cell E cs (c.toList.take cs.length)
  | .frz cs => match h with
    | none => cs = []
    | some b => E.Φ b ∧ ∃ us, reads E.w b 0 us ∧ VReps .frz E cs us
  | .map es bs ck => (es.all fun e => e.1.notTup && e.2.notTup) = true ∧ ∃ b arr, h = some b ∧ E.w.heap[b]? = some (.map arr ck) ∧ ¬ E.Φ b ∧
      VReps .any E (es.map (·.1)) (arr.toList.map (·.key)) ∧ VReps .any E (es.map (·.2)) (arr.toList.map (·.val)) ∧
      arr.toList.map (·.born) = bs ∧ bs.Nodup ∧ ∀ n ∈ bs, n < ck
  | .iter m since seen last => m.flat0 = true ∧ ∃ b r, h = some b ∧ E.w.heap[b]? = some (.mapIter r since seen.toArray last) ∧ ¬ E.Φ b ∧ VRep E m (.map r)
  | .loop st pd n ks vs ps as bd => ∃ b r, h = some b ∧ E.w.heap[b]? = some (.loop r) ∧ ¬ E.Φ b ∧ (r.state = st ∧ r.pending = pd ∧ r.tmps.size = n ∧ r.params = ps ∧ r.assign = as ∧ r.body = bd) ∧ VReps .any E vs (ks.map fun k => r.tmps.getD k undef)
  | .dead => True

structure HSim (Φ : Nat → Prop) (H : Nat → Option Nat) (ob : List Ob) (w : World) : Prop where
  phi : ∀ b, Φ b → b < w.heap.size
  rep : ∀ i o, ob[i]? = some o → ObRep (mkE Φ H ob w) (H i) o
  inj : ∀ i j o o' b, ob[i]? = some o → ob[j]? = some o' → o.mutb = true → o'.mutb = true → H i = some b → H j = some b → i = j

theorem lt_of_heap {w : World} {b : Nat} {o : Obj} (h : w.heap[b]? = some o) : b < w.heap.size := by
  rcases Nat.lt_or_ge b w.heap.size with h' | h'
  · exact h'
  · simp [Array.getElem?_eq_none h'] at h

theorem HSim.mutb {Φ H ob w} (h : HSim Φ H ob w) {i : Nat} {o : Ob} {b : Nat} (ho : ob[i]? = some o) (hm : o.mutb = true) (hb : H i = some b) : b < w.heap.size ∧ ¬ Φ b := by
  have := h.rep i o ho
  cases o with
  | live cs =>
    simp only [ObRep, hb] at this
    obtain ⟨c, el, h1, h2, _⟩ := this
    exact ⟨lt_of_heap h1, h2⟩
  | map es bs ck =>
    simp only [ObRep, hb] at this
    obtain ⟨_, b', arr, e, h1, h2, _⟩ := this
    obtain rfl : b = b' := by simpa using e
    exact ⟨lt_of_heap h1, h2⟩
  | iter m s sn l =>
    simp only [ObRep, hb] at this
    obtain ⟨_, b', r, e, h1, h2, _⟩ := this
    obtain rfl : b = b' := by simpa using e
    exact ⟨lt_of_heap h1, h2⟩
  | loop st pd n ks vs ps as bd =>
    simp only [ObRep, hb] at this
    obtain ⟨b', r, e, h1, h2, _⟩ := this
    obtain rfl : b = b' := by simpa using e
    exact ⟨lt_of_heap h1, h2⟩
  | frz cs => simp [Ob.mutb] at hm
  | dead => simp [Ob.mutb] at hm

/-- An object that is not touched, from one moment to another. -/
theorem ObRep.ext {E E' : Env} (h : Ext E E') {o : Ob} {x x' : Option Nat} (hx : x' = x) (hh : o.mutb = true → ∀ b, x = some b → E'.w.heap[b]? = E.w.heap[b]? ∧ ¬ E'.Φ b) (k : ObRep E x o) : ObRep E' x' o := by
  subst hx
  cases o with
  | live cs =>
    cases x' with
    | none => exact k
    | some b =>
      obtain ⟨c, el, h1, h2, h4, h5⟩ := k
      obtain ⟨g1, g2⟩ := hh rfl b rfl
      exact ⟨c, el, g1.trans h1, g2, h4, VReps.ext h _ _ h5⟩
  | frz cs =>
    cases x' with
    | none => exact k
    | some b =>
      obtain ⟨h1, us, h2, h3⟩ := k
      exact ⟨h.phi _ h1, us, reads_of_heap (h.heap b h1) h2, VReps.ext h _ _ h3⟩
  | map es bs ck =>
    obtain ⟨h0, b, arr, e, h1, h2, h3, h4, h5⟩ := k
    obtain ⟨g1, g2⟩ := hh rfl b e
    exact ⟨h0, b, arr, e, g1.trans h1, g2, VReps.ext h _ _ h3, VReps.ext h _ _ h4, h5⟩
  | iter m s sn l =>
    obtain ⟨h0, b, r, e, h1, h2, h3⟩ := k
    obtain ⟨g1, g2⟩ := hh rfl b e
    exact ⟨h0, b, r, e, g1.trans h1, g2, VRep.ext h _ _ h3⟩
  | loop st pd n ks vs ps as bd =>
    obtain ⟨b, r, e, h1, h2, h3, h4⟩ := k
    obtain ⟨g1, g2⟩ := hh rfl b e
    exact ⟨b, r, e, g1.trans h1, g2, h3, VReps.ext h _ _ h4⟩
  | dead => trivial

/-! ### What may happen to memory -/
def upd {α : Type} (f : Nat → α) (i : Nat) (x : α) : Nat → α := fun j => if j = i then x else f j
@[simp] theorem upd_same {α : Type} (f : Nat → α) (i : Nat) (x : α) : upd f i x i = x := by simp [upd]
theorem upd_other {α : Type} (f : Nat → α) {i j : Nat} (x : α) (h : j ≠ i) : upd f i x j = f j := by simp [upd, h]

/-- A new object. -/
theorem HSim.push {Φ H ob w} (h : HSim Φ H ob w) {w' : World} {o : Ob} {x : Option Nat}
    (hkeep : ∀ k, k < w.heap.size → w'.heap[k]? = w.heap[k]?) (hsz : w.heap.size ≤ w'.heap.size)
    (hx : ∀ b, x = some b → w.heap.size ≤ b)
    (ho : ∀ E', Ext (mkE Φ H ob w) E' → E'.w = w' → E'.Φ = Φ → ObRep E' x o) :
    HSim Φ (upd H ob.length x) (ob ++ [o]) w' ∧ Ext (mkE Φ H ob w) (mkE Φ (upd H ob.length x) (ob ++ [o]) w') := by
  have hE : Ext (mkE Φ H ob w) (mkE Φ (upd H ob.length x) (ob ++ [o]) w') := by
    refine ⟨fun _ k => k, fun b hb => hkeep b (h.phi b hb), by simp [mkE], fun i hi T' hT => ?_⟩
    simp only [mkE] at hi hT ⊢
    have e : Lof (ob ++ [o]) i = Lof ob i := by simp [Lof, List.getElem?_append_left hi]
    rw [e] at hT
    refine ⟨T', hT, Nat.le_refl _, fun _ => ⟨upd_other _ _ (by omega), fun b hb => ?_⟩⟩
    simp only [bsize]
    rcases Nat.lt_or_ge b w.heap.size with hlt | hge
    · rw [hkeep b hlt]
    · exfalso
      have hi' : ∃ o', ob[i]? = some o' := ⟨ob[i], by simp [List.getElem?_eq_getElem hi]⟩
      obtain ⟨o', ho'⟩ := hi'
      have hr := h.rep i o' ho'
      cases o' with
      | live cs => rw [hb] at hr; obtain ⟨c, el, h1, _⟩ := hr; exact absurd (lt_of_heap h1) (Nat.not_lt.2 hge)
      | frz cs => rw [hb] at hr; exact absurd (h.phi b hr.1) (by omega)
      | map es bs ck => obtain ⟨_, b', arr, e1, h1, _⟩ := hr; obtain rfl : b = b' := by simpa [hb] using e1
                        exact absurd (lt_of_heap h1) (Nat.not_lt.2 hge)
      | iter m s sn l => obtain ⟨_, b', r, e1, h1, _⟩ := hr; obtain rfl : b = b' := by simpa [hb] using e1
                         exact absurd (lt_of_heap h1) (Nat.not_lt.2 hge)
      | loop st pd n ks vs ps as bd =>
        obtain ⟨b', r, e1, h1, _⟩ := hr; obtain rfl : b = b' := by simpa [hb] using e1
        exact absurd (lt_of_heap h1) (Nat.not_lt.2 hge)
      | dead => simp [Lof, ho', Ob.len] at hT
  refine ⟨⟨fun b hb => Nat.lt_of_lt_of_le (h.phi b hb) hsz, fun i o' hi => ?_, fun i j o1 o2 b hi hj m1 m2 e1 e2 => ?_⟩, hE⟩
  · rcases Nat.lt_or_ge i ob.length with hlt | hge
    · rw [List.getElem?_append_left hlt] at hi
      refine ObRep.ext hE (upd_other _ _ (by omega)) (fun hm b hb => ?_) (h.rep i o' hi)
      obtain ⟨g1, g2⟩ := h.mutb hi hm hb
      exact ⟨hkeep b g1, g2⟩
    · have hlt2 : i < (ob ++ [o]).length := by
        rcases Nat.lt_or_ge i (ob ++ [o]).length with q | q
        · exact q
        · simp [List.getElem?_eq_none q] at hi
      obtain rfl : i = ob.length := by simp at hlt2; omega
      obtain rfl : o = o' := by simpa using hi
      rw [upd_same]
      exact ho _ hE rfl rfl
  · rcases Nat.lt_or_ge i ob.length with hlt | hge
    · rw [List.getElem?_append_left hlt] at hi
      rw [upd_other _ _ (by omega)] at e1
      rcases Nat.lt_or_ge j ob.length with hlt' | hge'
      · rw [List.getElem?_append_left hlt'] at hj
        rw [upd_other _ _ (by omega)] at e2
        exact h.inj i j o1 o2 b hi hj m1 m2 e1 e2
      · have hlt2 : j < (ob ++ [o]).length := by
          rcases Nat.lt_or_ge j (ob ++ [o]).length with q | q
          · exact q
          · simp [List.getElem?_eq_none q] at hj
        obtain rfl : j = ob.length := by simp at hlt2; omega
        rw [upd_same] at e2
        exact absurd (h.mutb hi m1 e1).1 (by have := hx b e2; omega)
    · have hlt2 : i < (ob ++ [o]).length := by
        rcases Nat.lt_or_ge i (ob ++ [o]).length with q | q
        · exact q
        · simp [List.getElem?_eq_none q] at hi
      obtain rfl : i = ob.length := by simp at hlt2; omega
      rw [upd_same] at e1
      rcases Nat.lt_or_ge j ob.length with hlt' | hge'
      · rw [List.getElem?_append_left hlt'] at hj
        rw [upd_other _ _ (by omega)] at e2
        exact absurd (h.mutb hj m2 e2).1 (by have := hx b e1; omega)
      · have hlt3 : j < (ob ++ [o]).length := by
          rcases Nat.lt_or_ge j (ob ++ [o]).length with q | q
          · exact q
          · simp [List.getElem?_eq_none q] at hj
        simp at hlt3; omega

/-- An object that is changed: written, grown into a new block, or frozen. -/
theorem HSim.change {Φ H ob w} (h : HSim Φ H ob w) {i : Nat} {o o' : Ob} (hi : ob[i]? = some o) (hm : o.mutb = true)
    {Φ' : Nat → Prop} {w' : World} {x : Option Nat}
    (hkeep : ∀ k, k < w.heap.size → H i ≠ some k → w'.heap[k]? = w.heap[k]?) (hsz : w.heap.size ≤ w'.heap.size)
    (hp1 : ∀ b, Φ b → Φ' b) (hp2 : ∀ b, Φ' b → Φ b ∨ (H i = some b ∧ o'.mutb = false))
    (hx : ∀ b, x = some b → H i = some b ∨ w.heap.size ≤ b)
    (hl : ∀ T', o'.len = some T' → ∃ T, o.len = some T ∧ T ≤ T' ∧ (T = T' → x = H i ∧ ∀ b, H i = some b → bsize w' b = bsize w b))
    (ho : ∀ E', Ext (mkE Φ H ob w) E' → E'.w = w' → E'.Φ = Φ' → ObRep E' x o') :
    HSim Φ' (upd H i x) (ob.set i o') w' ∧ Ext (mkE Φ H ob w) (mkE Φ' (upd H i x) (ob.set i o') w') := by
  have hilt : i < ob.length := by
    rcases Nat.lt_or_ge i ob.length with q | q
    · exact q
    · simp [List.getElem?_eq_none q] at hi
  have hHlt : ∀ j o1 b, ob[j]? = some o1 → o1.mutb = true → H j = some b → j ≠ i → H i ≠ some b := fun j o1 b hj mj e ne e' => ne (h.inj j i o1 o b hj hi mj hm e e')
  have hphi : ∀ b, Φ b → H i ≠ some b := fun b hb e => (h.mutb hi hm e).2 hb
  have hE : Ext (mkE Φ H ob w) (mkE Φ' (upd H i x) (ob.set i o') w') := by
    refine ⟨hp1, fun b hb => hkeep b (h.phi b hb) (hphi b hb), by simp [mkE], fun j hj T' hT => ?_⟩
    simp only [mkE] at hj hT ⊢
    by_cases hji : j = i
    · subst hji
      have e : Lof (ob.set j o') j = o'.len := by simp [Lof, hilt]
      rw [e] at hT
      obtain ⟨T, h1, h2, h3⟩ := hl T' hT
      exact ⟨T, by simpa [Lof, hi] using h1, h2, fun e => by rw [upd_same]; exact h3 e⟩
    · have e : Lof (ob.set i o') j = Lof ob j := by simp [Lof, List.getElem?_set_ne (by omega : i ≠ j)]
      rw [e] at hT
      refine ⟨T', hT, Nat.le_refl _, fun _ => ⟨upd_other _ _ hji, fun b hb => ?_⟩⟩
      have hi' : ∃ o1, ob[j]? = some o1 := ⟨ob[j], by simp [List.getElem?_eq_getElem hj]⟩
      obtain ⟨o1, ho1⟩ := hi'
      have hr := h.rep j o1 ho1
      cases o1 with
      | live cs =>
        have q := h.mutb ho1 rfl hb
        simp only [bsize]; rw [hkeep b q.1 (hHlt j _ b ho1 rfl hb hji)]
      | frz cs => rw [hb] at hr; simp only [bsize]; rw [hkeep b (h.phi b hr.1) (hphi b hr.1)]
      | map es bs ck =>
        have q := h.mutb ho1 rfl hb
        simp only [bsize]; rw [hkeep b q.1 (hHlt j _ b ho1 rfl hb hji)]
      | iter m s sn l =>
        have q := h.mutb ho1 rfl hb
        simp only [bsize]; rw [hkeep b q.1 (hHlt j _ b ho1 rfl hb hji)]
      | loop st pd n ks vs ps as bd =>
        have q := h.mutb ho1 rfl hb
        simp only [bsize]; rw [hkeep b q.1 (hHlt j _ b ho1 rfl hb hji)]
      | dead => simp [Lof, ho1, Ob.len] at hT
  refine ⟨⟨fun b hb => ?_, fun j o1 hj => ?_, fun j k o1 o2 b hj hk m1 m2 e1 e2 => ?_⟩, hE⟩
  · rcases hp2 b hb with q | ⟨q, _⟩
    · exact Nat.lt_of_lt_of_le (h.phi b q) hsz
    · exact Nat.lt_of_lt_of_le (h.mutb hi hm q).1 hsz
  · by_cases hji : j = i
    · subst hji
      obtain rfl : o' = o1 := by simpa [hilt] using hj
      rw [upd_same]
      exact ho _ hE rfl rfl
    · rw [List.getElem?_set_ne (by omega : i ≠ j)] at hj
      refine ObRep.ext hE (upd_other _ _ hji) (fun hm1 b hb => ?_) (h.rep j o1 hj)
      have q := h.mutb hj hm1 hb
      have nb := hHlt j _ b hj hm1 hb hji
      refine ⟨hkeep b q.1 nb, fun hp => ?_⟩
      rcases hp2 b hp with r | ⟨r, _⟩
      · exact q.2 r
      · exact nb r
  · by_cases hji : j = i
    · by_cases hki : k = i
      · omega
      · subst hji
        rw [List.getElem?_set_ne (by omega : j ≠ k)] at hk
        rw [upd_same] at e1
        rw [upd_other _ _ hki] at e2
        rcases hx b e1 with q | q
        · exact absurd q (hHlt k o2 b hk m2 e2 hki)
        · exact absurd (h.mutb hk m2 e2).1 (by omega)
    · rw [List.getElem?_set_ne (by omega : i ≠ j)] at hj
      rw [upd_other _ _ hji] at e1
      by_cases hki : k = i
      · subst hki
        rw [upd_same] at e2
        rcases hx b e2 with q | q
        · exact absurd q (hHlt j o1 b hj m1 e1 hji)
        · exact absurd (h.mutb hj m1 e1).1 (by omega)
      · rw [List.getElem?_set_ne (by omega : i ≠ k)] at hk
        rw [upd_other _ _ hki] at e2
        exact h.inj j k o1 o2 b hj hk m1 m2 e1 e2

/-- A world in which only a count has moved on. -/
theorem HSim.same {Φ H ob w} (h : HSim Φ H ob w) {w' : World} (hw : w'.heap = w.heap) : HSim Φ H ob w' ∧ Ext (mkE Φ H ob w) (mkE Φ H ob w') := by
  have hE : Ext (mkE Φ H ob w) (mkE Φ H ob w') :=
    ⟨fun _ k => k, fun b hb => by simp [mkE, hw], Nat.le_refl _, fun i hi T' hT => ⟨T', hT, Nat.le_refl _, fun _ => ⟨rfl, fun b _ => by simp [mkE, bsize, hw]⟩⟩⟩
  refine ⟨⟨fun b hb => by rw [hw]; exact h.phi b hb, fun i o hi => ObRep.ext hE rfl (fun hm b hb => ⟨by simp [mkE, hw], (h.mutb hi hm hb).2⟩) (h.rep i o hi), h.inj⟩, hE⟩

end Go.VX

/- The state of a call in abstract values; what each operation makes of it. -/
namespace Go.VX
set_option linter.unusedVariables false

/-! ### Slots -/
def getS : List (Nat × V) → Nat → V
  | [], _ => .junk
  | (t, x) :: r, s => if t = s then x else getS r s
def setS : List (Nat × V) → Nat → V → List (Nat × V)
  | [], s, v => [(s, v)]
  | (t, x) :: r, s, v => if t = s then (t, v) :: r else (t, x) :: setS r s v
theorem getS_setS (l : List (Nat × V)) (s : Nat) (v : V) (t : Nat) : getS (setS l s v) t = if s = t then v else getS l t := by
  induction l with
  | nil => simp [setS, getS]
  | cons p r ih =>
    obtain ⟨q, x⟩ := p
    simp only [setS]
    split
    · subst_vars
      simp only [getS]
      split <;> simp_all
    · simp only [getS, ih]
      split <;> split <;> simp_all

structure St where
  sl : List (Nat × V)
  ob : List Ob

/-- How many slots there are, how many objects were handed over, and whether it is a round. -/
structure Sh where
  nt : Nat
  k0 : Nat
  rd : Bool

structure Ctx where
  E0 : Env
  own : Nat → Prop
  nt : Sh
  df : List Deferred

/-- What was printed stays; draws are made, none is taken back. -/
def Out (w w' : World) : Prop := w'.output = w.output ∧ w.drawn ≤ w'.drawn
theorem Out.refl (w : World) : Out w w := ⟨rfl, Nat.le_refl _⟩
theorem Out.trans {a b c : World} (h : Out a b) (k : Out b c) : Out a c := ⟨k.1.trans h.1, Nat.le_trans h.2 k.2⟩
/-- Memory, within a call. -/
structure HS (C : Ctx) (Φ : Nat → Prop) (H : Nat → Option Nat) (ob : List Ob) (w : World) : Prop where
  os : w.os = C.E0.w.os
  tape : w.tape = C.E0.w.tape
  output : Out C.E0.w w
  size : C.E0.w.heap.size ≤ w.heap.size
  kept : ∀ b, b < C.E0.w.heap.size → ¬ C.own b → w.heap[b]? = C.E0.w.heap[b]?
  sim : HSim Φ H ob w
  ext : Ext C.E0 (mkE Φ H ob w)
  phi : ∀ b, Φ b → C.E0.Φ b ∨ C.own b ∨ C.E0.w.heap.size ≤ b
  mine : ∀ i o b, ob[i]? = some o → o.mutb = true → H i = some b → C.own b ∨ C.E0.w.heap.size ≤ b

/-- Blocks for the deferred calls of rounds, empty. -/
def Marks (B : Nat) (Φ : Nat → Prop) (w : World) (ds : List Deferred) : Prop :=
  ∃ Ds : List Nat, ds = Ds.map (fun D => { target := .collected D, args := #[] }) ∧ Ds.Nodup ∧ ∀ D ∈ Ds, B ≤ D ∧ ¬ Φ D ∧ w.heap[D]? = some (.deferred (some []))
theorem Marks.nil {B : Nat} {Φ : Nat → Prop} {w : World} : Marks B Φ w [] := ⟨[], rfl, by simp, by simp⟩

structure SimE (C : Ctx) (Φ : Nat → Prop) (H : Nat → Option Nat) (st : St) (a : Act) (w : World) : Prop where
  hs : HS C Φ H st.ob w
  defers : ∃ ds, a.defers = ds ++ C.df ∧ Marks C.E0.w.heap.size Φ w ds
  nt : a.tmps.size = C.nt.nt
  k0 : C.E0.N = C.nt.k0
  slots : ∀ s, VRep (mkE Φ H st.ob w) (getS st.sl s) (a.tmps.getD s undef)

/-- One step of memory. -/
structure HStep (Φ : Nat → Prop) (H : Nat → Option Nat) (ob : List Ob) (w : World) (Φ' : Nat → Prop) (H' : Nat → Option Nat) (ob' : List Ob) (w' : World) : Prop where
  os : w'.os = w.os
  tape : w'.tape = w.tape
  output : Out w w'
  size : w.heap.size ≤ w'.heap.size
  kept : ∀ b, b < w.heap.size → (∀ i o, ob[i]? = some o → o.mutb = true → H i ≠ some b) → w'.heap[b]? = w.heap[b]?
  sim : HSim Φ' H' ob' w'
  ext : Ext (mkE Φ H ob w) (mkE Φ' H' ob' w')
  phi : ∀ b, Φ' b → Φ b ∨ (∃ i o, ob[i]? = some o ∧ o.mutb = true ∧ H i = some b) ∨ w.heap.size ≤ b
  mine : ∀ i o b, ob'[i]? = some o → o.mutb = true → H' i = some b → (∃ j o, ob[j]? = some o ∧ o.mutb = true ∧ H j = some b) ∨ w.heap.size ≤ b

theorem HStep.refl {Φ H ob w} (h : HSim Φ H ob w) : HStep Φ H ob w Φ H ob w :=
  ⟨rfl, rfl, Out.refl _, Nat.le_refl _, fun _ _ _ => rfl, h, Ext.refl _, fun _ h => .inl h, fun i o b h1 h2 h3 => .inl ⟨i, o, h1, h2, h3⟩⟩
theorem HStep.trans {Φ H ob w Φ' H' ob' w' Φ2 H2 ob2 w2} (h : HStep Φ H ob w Φ' H' ob' w') (k : HStep Φ' H' ob' w' Φ2 H2 ob2 w2) : HStep Φ H ob w Φ2 H2 ob2 w2 := by
  refine ⟨k.os.trans h.os, k.tape.trans h.tape, h.output.trans k.output, Nat.le_trans h.size k.size, fun b hb hn => ?_, k.sim, h.ext.trans k.ext, fun b hb => ?_, fun i o b h1 h2 h3 => ?_⟩
  · rw [k.kept b (Nat.lt_of_lt_of_le hb h.size) fun i o h1 h2 h3 => ?_, h.kept b hb hn]
    rcases h.mine i o b h1 h2 h3 with ⟨j, o', g1, g2, g3⟩ | g
    · exact hn j o' g1 g2 g3
    · omega
  · rcases k.phi b hb with q | ⟨i, o, h1, h2, h3⟩ | q
    · exact h.phi b q
    · exact .inr (h.mine i o b h1 h2 h3)
    · exact .inr (.inr (Nat.le_trans h.size q))
  · rcases k.mine i o b h1 h2 h3 with ⟨j, o', g1, g2, g3⟩ | q
    · exact h.mine j o' b g1 g2 g3
    · exact .inr (Nat.le_trans h.size q)

theorem HS.step {C Φ H ob w Φ' H' ob' w'} (h : HS C Φ H ob w) (k : HStep Φ H ob w Φ' H' ob' w') : HS C Φ' H' ob' w' := by
  refine ⟨k.os.trans h.os, k.tape.trans h.tape, h.output.trans k.output, Nat.le_trans h.size k.size, fun b hb hn => ?_, k.sim, h.ext.trans k.ext, fun b hb => ?_, fun i o b h1 h2 h3 => ?_⟩
  · rw [k.kept b (Nat.lt_of_lt_of_le hb h.size) fun i o h1 h2 h3 => ?_, h.kept b hb hn]
    rcases h.mine i o b h1 h2 h3 with g | g
    · exact hn g
    · omega
  · rcases k.phi b hb with q | ⟨i, o, h1, h2, h3⟩ | q
    · exact h.phi b q
    · exact .inr (h.mine i o b h1 h2 h3)
    · exact .inr (.inr (Nat.le_trans h.size q))
  · rcases k.mine i o b h1 h2 h3 with ⟨j, o', g1, g2, g3⟩ | q
    · exact h.mine j o' b g1 g2 g3
    · exact .inr (Nat.le_trans h.size q)

theorem HSim.notDef {Φ H ob w} (h : HSim Φ H ob w) {i : Nat} {o : Ob} {b : Nat} (ho : ob[i]? = some o) (hm : o.mutb = true) (hb : H i = some b) (x : Option (List Deferred)) : w.heap[b]? ≠ some (.deferred x) := by
  intro hx
  have := h.rep i o ho
  cases o with
  | live cs =>
    simp only [ObRep, hb] at this
    obtain ⟨c, el, h1, _⟩ := this
    have h1' : w.heap[b]? = _ := h1
    rw [hx] at h1'; cases h1'
  | map es bs ck =>
    simp only [ObRep, hb] at this
    obtain ⟨_, b', arr, e, h1, _⟩ := this
    obtain rfl : b = b' := by simpa using e
    have h1' : w.heap[b]? = _ := h1
    rw [hx] at h1'; cases h1'
  | iter m s sn l =>
    simp only [ObRep, hb] at this
    obtain ⟨_, b', r, e, h1, _⟩ := this
    obtain rfl : b = b' := by simpa using e
    have h1' : w.heap[b]? = _ := h1
    rw [hx] at h1'; cases h1'
  | loop st pd n ks vs ps as bd =>
    simp only [ObRep, hb] at this
    obtain ⟨b', r, e, h1, _⟩ := this
    obtain rfl : b = b' := by simpa using e
    have h1' : w.heap[b]? = _ := h1
    rw [hx] at h1'; cases h1'
  | frz cs => simp [Ob.mutb] at hm
  | dead => simp [Ob.mutb] at hm
theorem Marks.step {B : Nat} {ds : List Deferred} {Φ H ob w Φ' H' ob' w'} (h : Marks B Φ w ds) (hs : HSim Φ H ob w) (k : HStep Φ H ob w Φ' H' ob' w') : Marks B Φ' w' ds := by
  obtain ⟨Ds, e, hn, hD⟩ := h
  refine ⟨Ds, e, hn, fun D hm => ?_⟩
  obtain ⟨h1, h2, h3⟩ := hD D hm
  have hlt := lt_of_heap h3
  have hno : ∀ i o, ob[i]? = some o → o.mutb = true → H i ≠ some D := fun i o g1 g2 g3 => hs.notDef g1 g2 g3 _ h3
  refine ⟨h1, fun hp => ?_, (k.kept D hlt hno).trans h3⟩
  rcases k.phi D hp with q | ⟨i, o, g1, g2, g3⟩ | q
  · exact h2 q
  · exact hno i o g1 g2 g3
  · omega
/-- A block that is nobody's is turned. -/
theorem HSim.off {Φ H ob w} (h : HSim Φ H ob w) {w' : World} {D : Nat} {x y : Option (List Deferred)} (hD : w.heap[D]? = some (.deferred x)) (hp : ¬ Φ D) (hD' : w'.heap[D]? = some (.deferred y)) (hk : ∀ k, k ≠ D → w'.heap[k]? = w.heap[k]?) (hsz : w'.heap.size = w.heap.size) :
    HSim Φ H ob w' ∧ Ext (mkE Φ H ob w) (mkE Φ H ob w') := by
  have hE : Ext (mkE Φ H ob w) (mkE Φ H ob w') := by
    refine ⟨fun _ k => k, fun b hb => hk b fun e => hp (e ▸ hb), Nat.le_refl _, fun i hi T' hT => ⟨T', hT, Nat.le_refl _, fun _ => ⟨rfl, fun b _ => ?_⟩⟩⟩
    simp only [mkE, bsize]
    by_cases e : b = D
    · subst e; rw [hD, hD']
    · rw [hk b e]
  refine ⟨⟨fun b hb => by rw [hsz]; exact h.phi b hb, fun i o hi => ObRep.ext hE rfl (fun hm b hb => ⟨hk b fun e => h.notDef hi hm (e ▸ hb) _ hD, (h.mutb hi hm hb).2⟩) (h.rep i o hi), h.inj⟩, hE⟩

theorem SimE.step {C Φ H st a w Φ' H' ob' w'} (h : SimE C Φ H st a w) (k : HStep Φ H st.ob w Φ' H' ob' w') : SimE C Φ' H' ⟨st.sl, ob'⟩ a w' :=
  ⟨h.hs.step k, (let ⟨ds, e, m⟩ := h.defers; ⟨ds, e, m.step h.hs.sim k⟩), h.nt, h.k0, fun s => VRep.ext k.ext _ _ (h.slots s)⟩

def putD (sl : List (Nat × V)) (d : Option Nat) (x : V) : List (Nat × V) :=
  match d with
  | some d => setS sl d x
  | none => sl

theorem SimE.put {C Φ H st a w} (h : SimE C Φ H st a w) {d : Option Nat} {x : V} {v : Value} (hx : VRep (mkE Φ H st.ob w) x v) (hd : ∀ i, d = some i → i < C.nt.nt) :
    SimE C Φ H ⟨putD st.sl d x, st.ob⟩ (a.put d v) w := by
  cases d with
  | none => exact h
  | some d =>
    have hlt := hd d rfl
    refine ⟨h.hs, by simpa [Act.put] using h.defers, by simpa [Act.put] using h.nt, h.k0, fun s => ?_⟩
    simp only [putD, getS_setS, Act.put]
    have hs := h.nt
    by_cases e : d = s
    · subst e
      simp only [if_true]
      have : (a.tmps.setIfInBounds d v).getD d undef = v := by
        simp [Array.getD, hs, hlt]
      rw [this]; exact hx
    · rw [if_neg e]
      have : (a.tmps.setIfInBounds d v).getD s undef = a.tmps.getD s undef := by
        simp only [Array.getD_eq_getD_getElem?, Array.getElem?_setIfInBounds_ne e]
      rw [this]; exact h.slots s

/-! ### Types -/
inductive TK where
  | bool | int (k : IntKind) | string | slice (e : Nat) | array (n e : Nat) | struct (fs : List (Nat × Nat)) | ptr (e : Nat) | map (k e : Nat) | func | tuple | other
  deriving Inhabited

def kindOf : TypeDesc → TK
  | .bool => .bool
  | .int k => .int k
  | .string => .string
  | .slice e => .slice e
  | .array n e => .array n e
  | .struct fs => .struct (fs.toList.map fun f => (f.offset, f.type))
  | .pointer e => .ptr e
  | .map k e => .map k e
  | .func _ _ _ => .func
  | .tuple _ => .tuple
  | _ => .other

def vconst1 : Value → V
  | .bool b => .bool b
  | .int k n => .int k n
  | .string s => .str s
  | .pointer none => .nilp
  | .slice none 0 0 => .nils
  | .nilFunc => .nilf
  | .map none => .nilm
  | .nilIface => .nili
  | _ => .junk
def vconst : Value → V
  | .agg a => if (a.toList.map vconst1).all V.one then .agg (a.toList.map vconst1) else .junk
  | v => vconst1 v

theorem vconst1_rep (E : Env) (v : Value) : VRep E (vconst1 v) v := by
  unfold vconst1
  split <;> simp [VRep]
theorem vconst_rep (E : Env) (v : Value) : VRep E (vconst v) v := by
  unfold vconst
  split
  · rename_i a
    split
    · rename_i h
      refine ⟨a, rfl, ?_⟩
      generalize a.toList = l at h ⊢
      induction l with
      | nil => simp [VReps]
      | cons u r ih =>
        simp only [List.map_cons, List.all_cons, Bool.and_eq_true] at h
        exact ⟨u, r, rfl, h.1, vconst1_rep E u, ih h.2⟩
    · trivial
  · exact vconst1_rep E v

def V.known : V → Bool
  | .junk | .tup _ => false
  | _ => true
def V.cells : V → List V
  | .agg cs => cs
  | x => [x]

structure TI where
  k : TK
  size : Nat
  bytes : Nat
  zero : V
  deriving Inhabited

/-- Values of a struct may be compared, field by field. -/
def eqOK (P : Program) (t : Nat) : Bool :=
  !P.stoodInHeld t && (!P.eqGuardType P.depth t && match P.underlying t with
    | some (.struct F) => F.toList.all fun f => decide (f.name ≠ "_")
    | _ => false)
structure TabOK (P : Program) (T : Nat → Option TI) : Prop where
  tab : ∀ t i, T t = some i → ∃ info d z, P.info? t = some info ∧ P.underlying t = some d ∧ kindOf d = i.k ∧ info.size = i.size ∧ info.bytes = i.bytes ∧ info.zero = some z ∧ vconst z = i.zero ∧ i.zero.known = true ∧ i.zero.cells.length = i.size
  eqs : ∀ t fs s b z, T t = some ⟨.struct fs, s, b, z⟩ → eqOK P t = true
instance (P : Program) (T : Nat → Option TI) : CoeFun (TabOK P T) (fun _ => ∀ t i, T t = some i → ∃ info d z, P.info? t = some info ∧ P.underlying t = some d ∧ kindOf d = i.k ∧ info.size = i.size ∧ info.bytes = i.bytes ∧ info.zero = some z ∧ vconst z = i.zero ∧ i.zero.known = true ∧ i.zero.cells.length = i.size) := ⟨TabOK.tab⟩

/-! ### Operands -/
def evV (sl : List (Nat × V)) : Operand → V
  | .tmp t => getS sl t
  | .const v => vconst v
  | .func f => .fn f []
  | .global _ => .junk

theorem SimE.eval {C Φ H st a w} (h : SimE C Φ H st a w) (x : Operand) : VRep (mkE Φ H st.ob w) (evV st.sl x) (a.eval x) := by
  cases x with
  | tmp t => exact h.slots t
  | const v => exact vconst_rep _ v
  | func f => exact ⟨#[], rfl, rfl, rfl⟩
  | global g => trivial
end Go.VX

/- What the operations make of abstract values: numbers, tests, memory that is read. -/
namespace Go.VX
set_option linter.unusedVariables false
set_option linter.unusedSimpArgs false

def TK.isAgg : TK → Bool
  | .struct _ | .array _ _ => true
  | _ => false

section
variable {P : Program} {T : Nat → Option TI} {w : World}

theorem run_isAgg_tab {t : Nat} {d : TypeDesc} {k : TK} (hd : P.underlying t = some d) (hk : kindOf d = k) : (isAgg t).run P w = .ok k.isAgg w := by
  subst hk
  cases d <;> simp [isAgg, run_underlying hd, kindOf, TK.isAgg]

theorem run_sizeOf_tab {t : Nat} {i : TypeInfo} (hi : P.info? t = some i) : (sizeOf t).run P w = .ok i.size w := by
  simp [sizeOf, typeInfo, hi]

theorem addr_add (b o j : Nat) : (⟨b, o, none⟩ : Addr).add j = ⟨b, o + j, none⟩ := by
  unfold Addr.add
  split <;> simp_all
end

/-- Cells from a pointer on. -/
def rdV (ob : List Ob) : V → Option (Prop × List V × Nat)
  | .fp cs => some (True, cs, 0)
  | .ptr id tot off => match ob[id]? with
    | some (.live cs) | some (.frz cs) => some (cs.length = tot, cs, off)
    | _ => none
  | _ => none

/-- A slice's cells. -/
def rdS (ob : List Ob) : V → Option (Prop × Nat × List V)
  | .fs n cs => some (True, n, cs)
  | .nils => some (True, 0, [])
  | .sl id tot esz off n => match ob[id]? with
    | some (.live cs) | some (.frz cs) => some (cs.length = tot, n, (cs.drop off).take (n * esz))
    | _ => none
  | _ => none

theorem reads_take {w b o us} (n : Nat) (h : reads w b o us) : reads w b o (us.take n) := by
  intro i hi
  have : i < n ∧ i < us.length := by simp at hi; omega
  rw [h i this.2, List.getElem?_take, if_pos this.1]
theorem reads_drop {w b o us} (n : Nat) (h : reads w b o us) : reads w b (o + n) (us.drop n) := by
  intro i hi
  have : n + i < us.length := by simp at hi; omega
  have := h (n + i) this
  rw [Nat.add_assoc, this, List.getElem?_drop]

theorem reads_row {w : World} {b : Nat} {c : Array Value} {el : TypeId} {fz : Nat × Nat} (h : w.heap[b]? = some (.cells c el fz)) (off n : Nat) : reads w b off ((c.toList.take n).drop off) := by
  intro i hi
  have hi' : off + i < n ∧ off + i < c.size := by simp at hi; omega
  simp only [World.cell?, h, Option.isSome_none, Bool.false_eq_true, if_false]
  rw [List.getElem?_drop, List.getElem?_take, if_pos hi'.1]
  simp

theorem rdV_sound {Φ H ob w} (hs : HSim Φ H ob w) {x : V} {v : Value} (hx : VRep (mkE Φ H ob w) x v) {p : Prop} {cs : List V} {off : Nat} (h : rdV ob x = some (p, cs, off)) (hp : p) :
    ∃ b o us, v = .pointer (some ⟨b, o, none⟩) ∧ reads w b o us ∧ VReps .cell (mkE Φ H ob w) (cs.drop off) us := by
  cases x <;> simp only [rdV] at h <;> (try (simp at h; done))
  · rename_i cs'
    simp only [Option.some.injEq, Prod.mk.injEq] at h
    obtain ⟨_, rfl, rfl⟩ := h
    obtain ⟨b, o, us, h1, h2, h3, h4⟩ := hx
    exact ⟨b, o, us, h1, h3, by simpa using h4.weak⟩
  · rename_i id tot o
    obtain ⟨h0, h1, h2⟩ := hx
    cases ho : ob[id]? with
    | none => simp [ho] at h
    | some o' =>
      have hr := hs.rep id o' ho
      cases o' with
      | live cs' =>
        simp only [ho, Option.some.injEq, Prod.mk.injEq] at h
        obtain ⟨rfl, rfl, rfl⟩ := h
        obtain ⟨_, hh⟩ := h2 cs'.length (by simp [mkE, Lof, ho, Ob.len])
        obtain ⟨b, hb, hv⟩ := hh hp.symm
        simp only [mkE] at hb
        rw [hb] at hr
        obtain ⟨c, el, g1, g2, g3, g4⟩ := hr
        exact ⟨b, _, _, hv, reads_row g1 _ cs'.length, g4.drop _⟩
      | frz cs' =>
        simp only [ho, Option.some.injEq, Prod.mk.injEq] at h
        obtain ⟨rfl, rfl, rfl⟩ := h
        obtain ⟨_, hh⟩ := h2 cs'.length (by simp [mkE, Lof, ho, Ob.len])
        obtain ⟨b, hb, hv⟩ := hh hp.symm
        simp only [mkE] at hb
        rw [hb] at hr
        obtain ⟨g1, us, g2, g3⟩ := hr
        exact ⟨b, _, us.drop _, hv, by have := reads_drop o g2; rwa [Nat.zero_add] at this, g3.weak.drop _⟩
      | map es bs ck => simp [ho] at h
      | iter m s sn l => simp [ho] at h
      | loop st pd n ks vs ps as bd => simp [ho] at h
      | dead => simp [ho] at h

theorem rdS_sound {Φ H ob w} (hs : HSim Φ H ob w) {x : V} {v : Value} (hx : VRep (mkE Φ H ob w) x v) {p : Prop} {n : Nat} {cs : List V} (h : rdS ob x = some (p, n, cs)) (hp : p) :
    ∃ ad cap us, v = .slice ad n cap ∧ n ≤ cap ∧ VReps .cell (mkE Φ H ob w) cs us ∧ (0 < us.length → ∃ b o, ad = some ⟨b, o, none⟩ ∧ reads w b o us) := by
  cases x <;> simp only [rdS] at h <;> (try (simp at h; done))
  · simp only [Option.some.injEq, Prod.mk.injEq] at h
    obtain ⟨_, rfl, rfl⟩ := h
    simp only [VRep] at hx
    exact ⟨none, 0, [], hx, Nat.le_refl _, by simp [VReps], by simp⟩
  · simp only [Option.some.injEq, Prod.mk.injEq] at h
    obtain ⟨_, rfl, rfl⟩ := h
    obtain ⟨ad, cap, us, h1, h2, h3, h4⟩ := hx
    exact ⟨ad, cap, us, h1, h2, h3.weak, fun hu => by obtain ⟨b, o, e, _, hr⟩ := h4 hu; exact ⟨b, o, e, hr⟩⟩
  · rename_i id tot esz o m
    obtain ⟨h0, h1, h2⟩ := hx
    cases ho : ob[id]? with
    | none => simp [ho] at h
    | some o' =>
      have hr := hs.rep id o' ho
      cases o' with
      | live cs' =>
        simp only [ho, Option.some.injEq, Prod.mk.injEq] at h
        obtain ⟨rfl, rfl, rfl⟩ := h
        obtain ⟨_, hh⟩ := h2 cs'.length (by simp [mkE, Lof, ho, Ob.len])
        have hv := hh hp.symm
        simp only [mkE] at hv hr
        cases hH : H id with
        | none =>
          rw [hH] at hv hr
          obtain ⟨e1, rfl, rfl, rfl⟩ := hv
          simp only [ObRep] at hr
          subst hr
          exact ⟨none, 0, [], rfl, Nat.le_refl _, by simp [VReps], by simp⟩
        | some b =>
          rw [hH] at hv hr
          obtain ⟨cap, k1, k2, k3, k4⟩ := hv
          obtain ⟨c, el, g1, g2, g3, g4⟩ := hr
          exact ⟨_, cap, _, k1, k2, (g4.drop o).take (m * esz), fun _ => ⟨b, o, rfl, reads_take _ (reads_row g1 _ _)⟩⟩
      | frz cs' =>
        simp only [ho, Option.some.injEq, Prod.mk.injEq] at h
        obtain ⟨rfl, rfl, rfl⟩ := h
        obtain ⟨_, hh⟩ := h2 cs'.length (by simp [mkE, Lof, ho, Ob.len])
        have hv := hh hp.symm
        simp only [mkE] at hv hr
        cases hH : H id with
        | none =>
          rw [hH] at hv hr
          obtain ⟨e1, rfl, rfl, rfl⟩ := hv
          simp only [ObRep] at hr
          subst hr
          exact ⟨none, 0, [], rfl, Nat.le_refl _, by simp [VReps], by simp⟩
        | some b =>
          rw [hH] at hv hr
          obtain ⟨cap, k1, k2, k3, k4⟩ := hv
          obtain ⟨g1, us, g2, g3⟩ := hr
          exact ⟨_, cap, _, k1, k2, (g3.weak.drop o).take (m * esz), fun _ => ⟨b, o, rfl, reads_take _ (by have := reads_drop o g2; rwa [Nat.zero_add] at this)⟩⟩
      | map es bs ck => simp [ho] at h
      | iter m s sn l => simp [ho] at h
      | loop st pd n ks vs ps as bd => simp [ho] at h
      | dead => simp [ho] at h

/-! ### What an operation must be shown to do -/
def OpOK (P : Program) (o : Oper) (a : Act) (w : World) (Φ : Nat → Prop) (H : Nat → Option Nat) (ob : List Ob) (x : V) (ob' : List Ob) : Prop :=
  ∃ v w' Φ' H', ((execOp a.eval o).run P w = .ok (.value v) w' ∨ ((execOp a.eval o).run P w = .ok .skip w' ∧ v = undef)) ∧
    HStep Φ H ob w Φ' H' ob' w' ∧ VRep (mkE Φ' H' ob' w') x v

theorem OpOK.pure {P o a w Φ H ob x} (hs : HSim Φ H ob w) {v : Value} (hr : (execOp a.eval o).run P w = .ok (.value v) w) (hx : VRep (mkE Φ H ob w) x v) : OpOK P o a w Φ H ob x ob :=
  ⟨v, w, Φ, H, .inl hr, HStep.refl hs, hx⟩

/-- A load. -/
theorem load_sound {P : Program} {T : Nat → Option TI} (hT : TabOK P T) {w Φ H ob} (hs : HSim Φ H ob w) {t : Nat} {i : TI} (ht : T t = some i) {x : V} {v : Value} (hx : VRep (mkE Φ H ob w) x v)
    {p : Prop} {cs : List V} {off : Nat} (h : rdV ob x = some (p, cs, off)) (hp : p) :
    (i.k.isAgg = true → off + i.size ≤ cs.length → ∃ u, (Instr.loadAt t v).run P w = .ok u w ∧ VRep (mkE Φ H ob w) (.agg ((cs.drop off).take i.size)) u) ∧
    (i.k.isAgg = false → ∀ y, cs[off]? = some y → ∃ u, (Instr.loadAt t v).run P w = .ok u w ∧ VRep (mkE Φ H ob w) y u ∧ y.one = true) := by
  obtain ⟨info, d, z, e1, e2, e3, e4, e5, e6, e7⟩ := hT t i ht
  obtain ⟨b, o, us, rfl, hr, hv⟩ := rdV_sound hs hx h hp
  have hag := fun w => run_isAgg_tab (P := P) (w := w) e2 e3
  have hsz := fun w => run_sizeOf_tab (P := P) (w := w) e1
  refine ⟨fun ha hle => ?_, fun ha y hy => ?_⟩
  · have hlen := hv.length
    have hul : i.size ≤ us.length := by rw [← hlen]; simp; omega
    refine ⟨.agg (us.take i.size).toArray, ?_, ⟨_, rfl, by simpa using hv.take i.size⟩⟩
    have := run_loadCells_list (P := P) w ⟨b, o, none⟩ (us.take i.size) fun j u hj => by
      rw [addr_add]
      have hj' : j < i.size ∧ us[j]? = some u := by
        rw [List.getElem?_take] at hj
        split at hj
        · exact ⟨by assumption, hj⟩
        · simp at hj
      have hlt : j < us.length := by
        rcases Nat.lt_or_ge j us.length with q | q
        · exact q
        · simp [List.getElem?_eq_none q] at hj'
      rw [hr j hlt]; exact hj'.2
    have hl2 : (us.take i.size).length = i.size := by simp; omega
    rw [hl2] at this
    simp [Instr.loadAt, Instr.sureAddr, loadVar, hag, hsz, ha, e4, this]
  · have hy' : (cs.drop off)[0]? = some y := by simpa using hy
    obtain ⟨u, hu, ho, hyu⟩ := hv.get 0 y hy'
    have hlt : 0 < us.length := by
      rcases Nat.lt_or_ge 0 us.length with q | q
      · exact q
      · simp [List.getElem?_eq_none q] at hu
    have hc : w.cell? ⟨b, o, none⟩ = some u := by have := hr 0 hlt; simpa [hu] using this
    exact ⟨u, by simp [Instr.loadAt, Instr.sureAddr, loadVar, hag, ha, hc], hyu, ho⟩

end Go.VX

/- What the operations make of abstract values: those that leave memory alone. -/
namespace Go.VX
set_option linter.unusedVariables false
set_option linter.unusedSimpArgs false

def ibits (op : BinOp) (k : IntKind) (x y : Int) : Int :=
  let a := BitVec.ofInt k.bits x
  let b := BitVec.ofInt k.bits y
  match op with
  | .and => k.wrap (a &&& b).toNat
  | .or => k.wrap (a ||| b).toNat
  | .xor => k.wrap (a ^^^ b).toNat
  | _ => k.wrap (a &&& ~~~b).toNat

def vbinI (op : BinOp) (k : IntKind) (a b : Int) : Option (Prop × V) :=
  match op with
  | .add => some (True, .int k (k.wrap (a + b)))
  | .sub => some (True, .int k (k.wrap (a - b)))
  | .mul => some (True, .int k (k.wrap (a * b)))
  | .quo => some (b ≠ 0, .int k (k.wrap (a.tdiv b)))
  | .rem => some (b ≠ 0, .int k (a.tmod b))
  | .and => some (True, .int k (ibits .and k a b))
  | .or => some (True, .int k (ibits .or k a b))
  | .xor => some (True, .int k (ibits .xor k a b))
  | .andNot => some (True, .int k (ibits .andNot k a b))
  | .eql => some (True, .bool (a == b))
  | .neq => some (True, .bool (a != b))
  | .lss => some (True, .bool (decide (a < b)))
  | .leq => some (True, .bool (decide (a ≤ b)))
  | .gtr => some (True, .bool (decide (a > b)))
  | .geq => some (True, .bool (decide (a ≥ b)))
  | _ => none

def vbinS (op : BinOp) (a b : ByteArray) : Option (Prop × V) :=
  match op with
  | .add => some (a.size + b.size ≤ 9223372036854775807, .str (a ++ b))
  | .eql => some (True, .bool (a.toList == b.toList))
  | .neq => some (True, .bool (!(a.toList == b.toList)))
  | .lss => some (True, .bool (Op.bytesLess a.toList b.toList))
  | .leq => some (True, .bool (Op.bytesLess a.toList b.toList || a.toList == b.toList))
  | .gtr => some (True, .bool (!(Op.bytesLess a.toList b.toList || a.toList == b.toList)))
  | .geq => some (True, .bool (!Op.bytesLess a.toList b.toList))
  | _ => none

/-- Is a pointer surely none, or surely one? What must hold for that. -/
def vnil (ob : List Ob) : V → Option (Prop × Bool)
  | .nilp => some (True, true)
  | .fp _ => some (True, false)
  | .ptr id tot _ => match ob[id]? with
    | some (.live cs) | some (.frz cs) => some (cs.length = tot, false)
    | _ => none
  | _ => none

def vbin (T : Nat → Option TI) (ob : List Ob) (op : BinOp) (t : Nat) (x y : V) : Option (Prop × V) :=
  match op, x, y with
  | .shl, .int k a, .int _ b => some (0 ≤ b, .int k (k.wrap (a * 2 ^ (min b.toNat k.bits))))
  | .shr, .int k a, .int _ b => some (0 ≤ b, .int k (a.fdiv (2 ^ (min b.toNat k.bits))))
  | op, .int k a, .int k' b => if k = k' then vbinI op k a b else none
  | op, .str a, .str b => vbinS op a b
  | .eql, .bool a, .bool b => match T t with
    | some ⟨.bool, _, _, _⟩ => some (True, .bool (a == b))
    | _ => none
  | .neq, .bool a, .bool b => match T t with
    | some ⟨.bool, _, _, _⟩ => some (True, .bool (!(a == b)))
    | _ => none
  | .eql, x, .nilp => match T t, vnil ob x with
    | some ⟨.ptr _, _, _, _⟩, some (p, b) => some (p, .bool b)
    | _, _ => none
  | .neq, x, .nilp => match T t, vnil ob x with
    | some ⟨.ptr _, _, _, _⟩, some (p, b) => some (p, .bool (!b))
    | _, _ => none
  | _, _, _ => none

section
variable {P : Program} {w : World}

theorem vbinI_run {op : BinOp} {k : IntKind} {a b : Int} {p : Prop} {y : V} (h : vbinI op k a b = some (p, y)) (hp : p) (t : Nat) :
    ∃ v, (binOp op t (.int k a) (.int k b)).run P w = .ok v w ∧ ∀ E, VRep E y v := by
  cases op <;> simp only [vbinI, Option.some.injEq, Prod.mk.injEq, reduceCtorEq] at h <;> obtain ⟨rfl, rfl⟩ := h <;>
    simp [binOp, Op.intArith, Op.intDiv, Op.intBits, Op.intCmp, VRep, ibits, hp]

theorem vbinS_run {op : BinOp} {a b : ByteArray} {p : Prop} {y : V} (h : vbinS op a b = some (p, y)) (hp : p) (t : Nat) :
    ∃ v, (binOp op t (.string a) (.string b)).run P w = .ok v w ∧ ∀ E, VRep E y v := by
  have hmx : IntKind.i64.max = 9223372036854775807 := by decide
  cases op <;> simp only [vbinS, Option.some.injEq, Prod.mk.injEq, reduceCtorEq] at h <;> obtain ⟨rfl, rfl⟩ := h <;>
    first
    | (have hn : ¬ (((a.size + b.size : Nat) : Int) > IntKind.i64.max) := by (rw [hmx]; omega)
       simp only [binOp, Op.stringOp, if_neg hn]
       simp [VRep])
    | simp [binOp, Op.stringOp, VRep]

theorem vnil_sound {Φ H ob} {x : V} {v : Value} (hx : VRep (mkE Φ H ob w) x v) {p : Prop} {b : Bool} (h : vnil ob x = some (p, b)) (hp : p) :
    (b = true ∧ v = .pointer none) ∨ (b = false ∧ ∃ ad, v = .pointer (some ad)) := by
  cases x <;> simp only [vnil] at h <;> (try (simp at h; done))
  · simp only [Option.some.injEq, Prod.mk.injEq] at h
    simp only [VRep] at hx
    exact .inl ⟨h.2.symm, hx⟩
  · simp only [Option.some.injEq, Prod.mk.injEq] at h
    obtain ⟨b, o, us, h1, _⟩ := hx
    exact .inr ⟨h.2.symm, _, h1⟩
  · rename_i id tot off
    obtain ⟨h0, h1, h2⟩ := hx
    split at h
    all_goals simp only [Option.some.injEq, Prod.mk.injEq, reduceCtorEq] at h
    all_goals
      rename_i cs ho
      obtain ⟨rfl, rfl⟩ := h
      obtain ⟨_, hh⟩ := h2 cs.length (by simp [mkE, Lof, ho, Ob.len])
      obtain ⟨b, hb, hv⟩ := hh hp.symm
      exact .inr ⟨rfl, _, hv⟩

theorem run_equalIn_ptr_nil (d : Nat) (t el : TypeId) (a : Option Addr) (h : P.underlying t = some (.pointer el)) : (Op.equalIn (d + 1) t (.pointer a) (.pointer none)).run P w = .ok a.isNone w := by
  cases a <;> simp [Op.equalIn, run_underlying h]
theorem run_eql_ptr_nil (t el : TypeId) (a : Option Addr) (h : P.underlying t = some (.pointer el)) : (binOp .eql t (.pointer a) (.pointer none)).run P w = .ok (.bool a.isNone) w := by
  have : (Op.equal t (.pointer a) (.pointer none)).run P w = .ok a.isNone w := run_equalIn_ptr_nil 9999 t el a h
  simp only [binOp]
  simp [this]
theorem run_neq_ptr_nil (t el : TypeId) (a : Option Addr) (h : P.underlying t = some (.pointer el)) : (binOp .neq t (.pointer a) (.pointer none)).run P w = .ok (.bool (!a.isNone)) w := by
  have : (Op.equal t (.pointer a) (.pointer none)).run P w = .ok a.isNone w := run_equalIn_ptr_nil 9999 t el a h
  simp only [binOp]
  simp [this]

theorem vbin_run {T : Nat → Option TI} (hT : TabOK P T) {Φ H ob} {op : BinOp} {t : Nat} {x y z : V} {u v : Value} {p : Prop} (h : vbin T ob op t x y = some (p, z)) (hp : p)
    (hx : VRep (mkE Φ H ob w) x u) (hy : VRep (mkE Φ H ob w) y v) (ox oy : Operand) :
    ∃ r, (do eqGuard op t ox oy u v; binOp op t u v : Sem Value).run P w = .ok r w ∧ VRep (mkE Φ H ob w) z r := by
  have key : ∀ (p : Prop) (z : V) (q : (eqGuard op t ox oy u v).run P w = .ok () w), (∃ r, (binOp op t u v).run P w = .ok r w ∧ VRep (mkE Φ H ob w) z r) →
      ∃ r, (do eqGuard op t ox oy u v; binOp op t u v : Sem Value).run P w = .ok r w ∧ VRep (mkE Φ H ob w) z r := by
    rintro p z q ⟨r, h1, h2⟩
    exact ⟨r, by simp [q, h1], h2⟩
  unfold vbin at h
  split at h
  · simp only [VRep] at hx hy; subst hx hy
    simp only [Option.some.injEq, Prod.mk.injEq] at h; obtain ⟨rfl, rfl⟩ := h
    refine key True _ (by simp [eqGuard]) ⟨_, ?_, rfl⟩
    simp [binOp, Op.shift, Int.not_lt.2 hp]
  · simp only [VRep] at hx hy; subst hx hy
    simp only [Option.some.injEq, Prod.mk.injEq] at h; obtain ⟨rfl, rfl⟩ := h
    refine key True _ (by simp [eqGuard]) ⟨_, ?_, rfl⟩
    simp [binOp, Op.shift, Int.not_lt.2 hp]
  · simp only [VRep] at hx hy; subst hx hy
    split at h
    · rename_i hk; subst hk
      obtain ⟨r, h1, h2⟩ := vbinI_run (P := P) (w := w) h hp t
      exact key True _ (by unfold eqGuard; split <;> simp) ⟨r, h1, h2 _⟩
    · cases h
  · simp only [VRep] at hx hy; subst hx hy
    obtain ⟨r, h1, h2⟩ := vbinS_run (P := P) (w := w) h hp t
    exact key True _ (by unfold eqGuard; split <;> simp) ⟨r, h1, h2 _⟩
  · simp only [VRep] at hx hy; subst hx hy
    split at h
    · rename_i e
      simp only [Option.some.injEq, Prod.mk.injEq] at h; obtain ⟨rfl, rfl⟩ := h
      obtain ⟨info, d, zz, e1, e2, e3, _⟩ := hT t _ e
      have hd : d = .bool := by cases d <;> simp_all [kindOf]
      subst hd
      exact key True _ (by simp [eqGuard]) ⟨_, run_eql_bool w t _ _ e2, rfl⟩
    · cases h
  · simp only [VRep] at hx hy; subst hx hy
    split at h
    · rename_i e
      simp only [Option.some.injEq, Prod.mk.injEq] at h; obtain ⟨rfl, rfl⟩ := h
      obtain ⟨info, d, zz, e1, e2, e3, _⟩ := hT t _ e
      have hd : d = .bool := by cases d <;> simp_all [kindOf]
      subst hd
      exact key True _ (by simp [eqGuard]) ⟨_, run_neq_bool w t _ _ e2, rfl⟩
    · cases h
  · simp only [VRep] at hy; subst hy
    split at h
    · rename_i e1' e2'
      simp only [Option.some.injEq, Prod.mk.injEq] at h; obtain ⟨rfl, rfl⟩ := h
      obtain ⟨info, d, zz, e1, e2, e3, _⟩ := hT t _ e1'
      obtain ⟨el, hd⟩ : ∃ el, d = .pointer el := by cases d <;> simp_all [kindOf]
      subst hd
      rcases vnil_sound hx e2' hp with ⟨rfl, rfl⟩ | ⟨rfl, ad, rfl⟩
      · exact key True _ (by simp [eqGuard]) ⟨_, run_eql_ptr_nil t _ _ e2, rfl⟩
      · exact key True _ (by simp [eqGuard]) ⟨_, run_eql_ptr_nil t _ _ e2, rfl⟩
    · cases h
  · simp only [VRep] at hy; subst hy
    split at h
    · rename_i e1' e2'
      simp only [Option.some.injEq, Prod.mk.injEq] at h; obtain ⟨rfl, rfl⟩ := h
      obtain ⟨info, d, zz, e1, e2, e3, _⟩ := hT t _ e1'
      obtain ⟨el, hd⟩ : ∃ el, d = .pointer el := by cases d <;> simp_all [kindOf]
      subst hd
      rcases vnil_sound hx e2' hp with ⟨rfl, rfl⟩ | ⟨rfl, ad, rfl⟩
      · exact key True _ (by simp [eqGuard]) ⟨_, run_neq_ptr_nil t _ _ e2, rfl⟩
      · exact key True _ (by simp [eqGuard]) ⟨_, run_neq_ptr_nil t _ _ e2, rfl⟩
    · cases h
  · cases h
end
end Go.VX

/- What the operations make of abstract values: addresses, parts, slices of slices. -/
namespace Go.VX
set_option linter.unusedVariables false
set_option linter.unusedSimpArgs false

def vun (op : UnOp) : V → Option V
  | .int k n => match op with
    | .neg => some (.int k (k.wrap (0 - n)))
    | .xor => some (.int k (ibits .xor k (if k.signed then -1 else k.max) n))
    | _ => none
  | .bool b => match op with
    | .not => some (.bool !b)
    | _ => none
  | _ => none

/-- A field or an element of a struct or array value. -/
def vpart (T : Nat → Option TI) (t : Nat) (cs : List V) (off : Nat) : Option (Prop × V) :=
  match T t with
  | some i => if i.k.isAgg then some (off + i.size ≤ cs.length, .agg ((cs.drop off).take i.size)) else
    match cs[off]? with
    | some y => some (True, y)
    | none => none
  | none => none

/-- The same where the place is a number that isn't known. -/
def vpartN (T : Nat → Option TI) (t : Nat) (cs : List V) (off : Nat) : Option (Prop × V) :=
  match T t with
  | some i => if i.k.isAgg then some (off + i.size ≤ cs.length, .agg ((cs.drop off).take i.size)) else some (off < cs.length, cs.getD off .junk)
  | none => none

def strAt (s : ByteArray) (j : Nat) : Int := ((s.data[j]?.getD 0).toNat : Int)

def vindex (T : Nat → Option TI) (t : Nat) (x : V) (i : Int) : Option (Prop × V) :=
  match T t, x with
  | some ⟨.array n e, _, _, _⟩, .agg cs => match T e with
    | some ie => match vpartN T e cs (i.toNat * ie.size) with
      | some (p, y) => some ((0 ≤ i ∧ i < n) ∧ p, y)
      | none => none
    | none => none
  | some ⟨.string, _, _, _⟩, .str s => some (0 ≤ i ∧ i < s.size, .int .u8 (strAt s i.toNat))
  | _, _ => none

/-- The address so many cells on. -/
def vadd (x : V) (n : Nat) : Option V :=
  match x with
  | .fp cs => some (.fp (cs.drop n))
  | .ptr id tot off => some (.ptr id tot (off + n))
  | _ => none

def vfieldAddr (T : Nat → Option TI) (ob : List Ob) (t : Nat) (x : V) (f : Nat) : Option (Prop × V) :=
  match T t, rdV ob x with
  | some ⟨.struct fs, _, _, _⟩, some (p, _, _) => match fs[f]? with
    | some (o, ft) => match T ft with
      | some i => if i.size = 0 then none else match vadd x o with
        | some y => some (p, y)
        | none => none
      | none => none
    | none => none
  | _, _ => none

def vindexAddr (T : Nat → Option TI) (ob : List Ob) (t : Nat) (x : V) (i : Int) : Option (Prop × V) :=
  match T t with
  | some ⟨.array n e, _, _, _⟩ => match T e, rdV ob x with
    | some ie, some (p, _, _) => match vadd x (i.toNat * ie.size) with
      | some y => some ((0 ≤ i ∧ i < n) ∧ p, y)
      | none => none
    | _, _ => none
  | some ⟨.slice e, _, _, _⟩ => match T e, x with
    | some ie, .fs n cs => some (0 ≤ i ∧ i < n ∧ i.toNat * ie.size < cs.length, .fp (cs.drop (i.toNat * ie.size)))
    | some ie, .sl id tot esz off n => match rdS ob x with
      | some (p, _, _) => if esz = ie.size then some (0 ≤ i ∧ i < n ∧ 0 < ie.size ∧ p, .ptr id tot (off + i.toNat * ie.size)) else none
      | none => none
    | _, _ => none
  | _ => none

/-- A part that may be empty. -/
def vsub (l h : Int) (x : V) : V := if l < h then x else .fs 0 []
/-- A slice of a slice, of an array behind a pointer, of a string. -/
def vslice (T : Nat → Option TI) (ob : List Ob) (t : Nat) (x : V) (lo hi : Option Int) : Option (Prop × V) :=
  match T t with
  | some ⟨.string, _, _, _⟩ => match x with
    | .str s => let h := hi.getD s.size; let l := lo.getD 0
      some (0 ≤ l ∧ l ≤ h ∧ h ≤ s.size, .str (s.extract l.toNat h.toNat))
    | _ => none
  | some ⟨.slice e, _, _, _⟩ => match T e, rdS ob x with
    | some ie, some (p, n, cs) => let h := hi.getD n; let l := lo.getD 0
      match x with
      | .sl id tot esz off _ => if esz = ie.size then
          match lo with
          | none => some (p ∧ 0 ≤ h ∧ (h ≤ n ∨ (0 < ie.size ∧ off + h.toNat * ie.size ≤ tot)), .sl id tot esz off h.toNat)
          | some _ => some (p ∧ 0 ≤ l ∧ l ≤ h ∧ (h ≤ n ∨ (0 < ie.size ∧ off + h.toNat * ie.size ≤ tot)), vsub l h (.sl id tot esz (off + l.toNat * ie.size) (h.toNat - l.toNat)))
        else none
      | .nils => some (0 ≤ l ∧ l ≤ h ∧ h ≤ (n : Int) ∧ n = 0, .nils)
      | _ => some (p ∧ 0 ≤ l ∧ l ≤ h ∧ h ≤ n ∧ cs.length = n * ie.size, .fs (h.toNat - l.toNat) ((cs.drop (l.toNat * ie.size)).take ((h.toNat - l.toNat) * ie.size)))
    | _, _ => none
  | some ⟨.array n e, _, _, _⟩ => match T e, rdV ob x with
    | some ie, some (p, cs, off) => let h := hi.getD n; let l := lo.getD 0
      match x with
      | .ptr id tot o => some (p ∧ 0 ≤ l ∧ l ≤ h ∧ h ≤ n ∧ o + n * ie.size ≤ tot ∧ (l < n ∨ l = 0), .sl id tot (if n * ie.size = tot then ie.size else 0) (o + l.toNat * ie.size) (h.toNat - l.toNat))
      | .fp cs => some (0 ≤ l ∧ l ≤ h ∧ h ≤ n ∧ n * ie.size ≤ cs.length, .fs (h.toNat - l.toNat) ((cs.drop (l.toNat * ie.size)).take ((h.toNat - l.toNat) * ie.size)))
      | _ => none
    | _, _ => none
  | _ => none

section
variable {P : Program} {T : Nat → Option TI} {w : World} {Φ : Nat → Prop} {H : Nat → Option Nat} {ob : List Ob}

theorem vun_run {op : UnOp} {x y : V} {v : Value} (h : vun op x = some y) (hx : VRep (mkE Φ H ob w) x v) : ∃ u, (Op.unary op v).run P w = .ok u w ∧ VRep (mkE Φ H ob w) y u := by
  cases x <;> simp only [vun] at h <;> (try (simp at h; done)) <;> simp only [VRep] at hx <;> subst hx <;> cases op <;> simp at h <;> subst h <;>
    simp [Op.unary, Op.intArith, Op.intBits, VRep, ibits]

theorem part_sound (hT : TabOK P T) {t : Nat} {i : TI} (ht : T t = some i) {cs : List V} {a : Array Value} (hv : VReps .cell (mkE Φ H ob w) cs a.toList) (off : Nat) :
    (i.k.isAgg = true → off + i.size ≤ cs.length → ∃ u, (part t a off).run P w = .ok u w ∧ VRep (mkE Φ H ob w) (.agg ((cs.drop off).take i.size)) u) ∧
    (i.k.isAgg = false → ∀ y, cs[off]? = some y → ∃ u, (part t a off).run P w = .ok u w ∧ VRep (mkE Φ H ob w) y u) := by
  obtain ⟨info, d, z, e1, e2, e3, e4, e5, e6, e7⟩ := hT t i ht
  have hag := run_isAgg_tab (P := P) (w := w) e2 e3
  have hsz := run_sizeOf_tab (P := P) (w := w) e1
  refine ⟨fun ha hle => ⟨.agg (a.extract off (off + i.size)), by simp [part, hag, hsz, ha, e4], ?_⟩, fun ha y hy => ?_⟩
  · refine ⟨_, rfl, ?_⟩
    have := (hv.drop off).take i.size
    simpa [Array.toList_extract, List.extract_eq_take_drop] using this
  · obtain ⟨u, hu, _, hr⟩ := hv.get off y hy
    refine ⟨u, ?_, hr⟩
    have hu' : a[off]? = some u := by simpa using hu
    simp [part, hag, ha, hu']

theorem vpart_sound (hT : TabOK P T) {t : Nat} {cs : List V} {a : Array Value} (hv : VReps .cell (mkE Φ H ob w) cs a.toList) {off : Nat} {p : Prop} {y : V} (h : vpart T t cs off = some (p, y)) (hp : p) :
    ∃ u, (part t a off).run P w = .ok u w ∧ VRep (mkE Φ H ob w) y u := by
  unfold vpart at h
  cases ht : T t with
  | none => simp [ht] at h
  | some i =>
    simp only [ht] at h
    obtain ⟨k1, k2⟩ := part_sound hT ht hv off
    split at h
    · rename_i ha
      simp only [Option.some.injEq, Prod.mk.injEq] at h; obtain ⟨rfl, rfl⟩ := h
      exact k1 ha hp
    · rename_i ha
      split at h
      · rename_i y' hy
        simp only [Option.some.injEq, Prod.mk.injEq] at h; obtain ⟨rfl, rfl⟩ := h
        exact k2 (by simpa using ha) _ hy
      · cases h
theorem vpartN_sound (hT : TabOK P T) {t : Nat} {cs : List V} {a : Array Value} (hv : VReps .cell (mkE Φ H ob w) cs a.toList) {off : Nat} {p : Prop} {y : V} (h : vpartN T t cs off = some (p, y)) (hp : p) :
    ∃ u, (part t a off).run P w = .ok u w ∧ VRep (mkE Φ H ob w) y u := by
  unfold vpartN at h
  cases ht : T t with
  | none => simp [ht] at h
  | some i =>
    simp only [ht] at h
    obtain ⟨k1, k2⟩ := part_sound hT ht hv off
    split at h
    · rename_i ha
      simp only [Option.some.injEq, Prod.mk.injEq] at h; obtain ⟨rfl, rfl⟩ := h
      exact k1 ha hp
    · rename_i ha
      simp only [Option.some.injEq, Prod.mk.injEq] at h; obtain ⟨rfl, rfl⟩ := h
      exact k2 (by simpa using ha) _ (by rw [List.getD_eq_getElem?_getD, List.getElem?_eq_getElem hp]; rfl)

theorem kindOf_struct {d : TypeDesc} {fs : List (Nat × Nat)} (h : kindOf d = .struct fs) : ∃ a, d = .struct a ∧ fs = a.toList.map fun f => (f.offset, f.type) := by
  cases d <;> simp_all [kindOf]
theorem kindOf_slice {d : TypeDesc} {e : Nat} (h : kindOf d = .slice e) : d = .slice e := by
  cases d <;> simp_all [kindOf]
theorem kindOf_array {d : TypeDesc} {n e : Nat} (h : kindOf d = .array n e) : d = .array n e := by
  cases d <;> simp_all [kindOf]
theorem kindOf_string {d : TypeDesc} (h : kindOf d = .string) : d = .string := by
  cases d <;> simp_all [kindOf]
theorem kindOf_int {d : TypeDesc} {k : IntKind} (h : kindOf d = .int k) : d = .int k := by
  cases d <;> simp_all [kindOf]

theorem vfield_sound (hT : TabOK P T) {t f : Nat} {i : TI} {fs : List (Nat × Nat)} {o ft : Nat} (ht : T t = some i) (hk : i.k = .struct fs) (hf : fs[f]? = some (o, ft)) {cs : List V} {v : Value} (hx : VRep (mkE Φ H ob w) (.agg cs) v)
    {p : Prop} {y : V} (h : vpart T ft cs o = some (p, y)) (hp : p) : ∃ u, (Instr.field t v f).run P w = .ok u w ∧ VRep (mkE Φ H ob w) y u := by
  obtain ⟨info, d, z, e1, e2, e3, e4, e5, e6, e7⟩ := hT t i ht
  obtain ⟨a, rfl, rfl⟩ := kindOf_struct (e3.trans hk)
  obtain ⟨arr, rfl, hv⟩ := hx
  obtain ⟨u, h1, h2⟩ := vpart_sound (P := P) hT hv h hp
  simp only [List.getElem?_map, Option.map_eq_some_iff, Prod.mk.injEq] at hf
  obtain ⟨fld, hfl, rfl, rfl⟩ := hf
  have hfl' : a[f]? = some fld := by simpa using hfl
  exact ⟨u, by simp [Instr.field, run_underlying e2, hfl', asAgg, h1], h2⟩

theorem vindex_sound (hT : TabOK P T) {t : Nat} {x : V} {v : Value} (hx : VRep (mkE Φ H ob w) x v) {k : IntKind} {i : Int} {p : Prop} {y : V} (h : vindex T t x i = some (p, y)) (hp : p) :
    ∃ u, (Instr.index t v (.int k i)).run P w = .ok u w ∧ VRep (mkE Φ H ob w) y u := by
  unfold vindex at h
  split at h
  · rename_i n e _ _ _ cs ht
    obtain ⟨info, d, z, e1, e2, e3, e4, e5, e6, e7⟩ := hT t _ ht
    obtain rfl := kindOf_array e3
    cases he : T e with
    | none => simp [he] at h
    | some ie =>
      simp only [he] at h
      cases hq : vpartN T e cs (i.toNat * ie.size) with
      | none => simp [hq] at h
      | some q =>
        simp only [hq, Option.some.injEq, Prod.mk.injEq] at h
        obtain ⟨rfl, rfl⟩ := h
        obtain ⟨arr, rfl, hv⟩ := hx
        obtain ⟨u, h1, h2⟩ := vpartN_sound (P := P) hT hv (p := q.1) (y := q.2) hq hp.2
        obtain ⟨info', d', z', e1', _, _, e4', _⟩ := hT e ie he
        have hsz := run_sizeOf_tab (P := P) (w := w) e1'
        rw [e4'] at hsz
        exact ⟨u, by simp [Instr.index, asIntOf, run_underlying e2, hp.1, hsz, h1], h2⟩
  · rename_i _ _ _ s ht
    obtain ⟨info, d, z, e1, e2, e3, e4, e5, e6, e7⟩ := hT t _ ht
    obtain rfl := kindOf_string e3
    simp only [VRep] at hx; subst hx
    simp only [Option.some.injEq, Prod.mk.injEq] at h; obtain ⟨rfl, rfl⟩ := h
    have hlt : i.toNat < s.size := by omega
    have hb : s[i.toNat]? = some s[i.toNat] := by simp [getElem?_pos, hlt]
    refine ⟨_, ?_, rfl⟩
    simp only [Instr.index, asIntOf, Sem.run_bind, Sem.run_pure, Result.andThen_ok, run_underlying e2, if_pos hp.1, hb]
    have : s.data[i.toNat]?.getD 0 = s[i.toNat] := by
      have : i.toNat < s.data.size := hlt
      simp [Array.getElem?_eq_getElem this]; rfl
    rw [strAt, this]
  · cases h

end
end Go.VX

/- Addresses and slices of slices: that the operations do what is said of them. -/
namespace Go.VX
set_option linter.unusedVariables false
set_option linter.unusedSimpArgs false
section
variable {P : Program} {T : Nat → Option TI} {w : World} {Φ : Nat → Prop} {H : Nat → Option Nat} {ob : List Ob}

/-- A pointer, moved on by so many cells. -/
theorem vadd_sound (hs : HSim Φ H ob w) {x y : V} {v : Value} (hx : VRep (mkE Φ H ob w) x v) {p : Prop} {cs : List V} {off n : Nat} (h : rdV ob x = some (p, cs, off)) (hp : p) (ha : vadd x n = some y) :
    ∃ b o, v = .pointer (some ⟨b, o, none⟩) ∧ VRep (mkE Φ H ob w) y (.pointer (some ⟨b, o + n, none⟩)) := by
  cases x <;> simp only [vadd, reduceCtorEq, Option.some.injEq] at ha
  · subst ha
    obtain ⟨b, o, us, rfl, h2, h3, h4⟩ := hx
    exact ⟨b, o, rfl, b, o + n, us.drop n, rfl, h2, reads_drop n h3, h4.drop n⟩
  · subst ha
    rename_i id tot o
    obtain ⟨h0, h1, h2⟩ := hx
    have : ∃ b, v = .pointer (some ⟨b, o, none⟩) := by
      simp only [rdV] at h
      split at h <;> simp only [Option.some.injEq, Prod.mk.injEq, reduceCtorEq] at h
      all_goals
        rename_i cs' ho
        obtain ⟨rfl, rfl, rfl⟩ := h
        obtain ⟨_, hh⟩ := h2 cs'.length (by simp [mkE, Lof, ho, Ob.len])
        obtain ⟨b, hb, hv⟩ := hh hp.symm
        exact ⟨b, hv⟩
    obtain ⟨b, rfl⟩ := this
    refine ⟨b, o, rfl, rfl, h1, fun T' hT' => ?_⟩
    obtain ⟨k1, k2⟩ := h2 T' hT'
    refine ⟨k1, fun e => ?_⟩
    obtain ⟨b', hb', hv'⟩ := k2 e
    simp only [Value.pointer.injEq, Option.some.injEq, Addr.mk.injEq] at hv'
    obtain ⟨rfl, _, _⟩ := hv'
    exact ⟨b, hb', rfl⟩

theorem vfieldAddr_sound (hT : TabOK P T) (hs : HSim Φ H ob w) {t f : Nat} {x y : V} {v : Value} (hx : VRep (mkE Φ H ob w) x v) {p : Prop} (h : vfieldAddr T ob t x f = some (p, y)) (hp : p) :
    ∃ u, (Instr.fieldAt t v f).run P w = .ok u w ∧ VRep (mkE Φ H ob w) y u := by
  unfold vfieldAddr at h
  split at h
  case h_2 => cases h
  rename_i fs _ _ _ p' cs' off' ht hrd
  split at h
  case h_2 => cases h
  rename_i o ft hf
  split at h
  case h_2 => cases h
  rename_i i hti
  split at h
  · cases h
  rename_i hsz
  split at h
  case h_2 => cases h
  rename_i y' hy
  simp only [Option.some.injEq, Prod.mk.injEq] at h
  obtain ⟨rfl, rfl⟩ := h
  obtain ⟨info, d, z, e1, e2, e3, e4, e5, e6, e7⟩ := hT t _ ht
  obtain ⟨a, rfl, rfl⟩ := kindOf_struct e3
  simp only [List.getElem?_map, Option.map_eq_some_iff, Prod.mk.injEq] at hf
  obtain ⟨fld, hfl, rfl, rfl⟩ := hf
  have hfl' : a[f]? = some fld := by simpa using hfl
  obtain ⟨b, o, rfl, hv⟩ := vadd_sound hs hx hrd hp hy
  obtain ⟨info', d', z', e1', _, _, e4', _⟩ := hT _ i hti
  have hs' := run_sizeOf_tab (P := P) (w := w) e1'
  rw [e4'] at hs'
  refine ⟨_, ?_, hv⟩
  simp [Instr.fieldAt, run_underlying e2, hfl', Instr.sureAddr, fieldPlace, hs', hsz, addr_add]

theorem vindexAddr_sound (hT : TabOK P T) (hs : HSim Φ H ob w) {t : Nat} {x y : V} {v : Value} (hx : VRep (mkE Φ H ob w) x v) {k : IntKind} {i : Int} {p : Prop} (h : vindexAddr T ob t x i = some (p, y)) (hp : p) :
    ∃ u, (Instr.indexAt t v (.int k i)).run P w = .ok u w ∧ VRep (mkE Φ H ob w) y u := by
  unfold vindexAddr at h
  split at h
  · rename_i n e _ _ _ ht
    split at h
    case h_2 => cases h
    rename_i ie p' cs' off' hte hrd
    split at h
    case h_2 => cases h
    rename_i y' hy
    simp only [Option.some.injEq, Prod.mk.injEq] at h
    obtain ⟨rfl, rfl⟩ := h
    obtain ⟨info, d, z, e1, e2, e3, e4, e5, e6, e7⟩ := hT t _ ht
    obtain rfl := kindOf_array e3
    obtain ⟨b, o, rfl, hv⟩ := vadd_sound hs hx hrd hp.2 hy
    obtain ⟨info', d', z', e1', _, _, e4', _⟩ := hT e ie hte
    have hs' := run_sizeOf_tab (P := P) (w := w) e1'
    rw [e4'] at hs'
    refine ⟨_, ?_, hv⟩
    simp [Instr.indexAt, asIntOf, run_underlying e2, Instr.sureAddr, hp.1, hs', addr_add]
  · rename_i e _ _ _ ht
    obtain ⟨info, d, z, e1, e2, e3, e4, e5, e6, e7⟩ := hT t _ ht
    obtain rfl := kindOf_slice e3
    split at h
    · rename_i ie n cs hte
      simp only [Option.some.injEq, Prod.mk.injEq] at h
      obtain ⟨rfl, rfl⟩ := h
      obtain ⟨h0, h1, h2⟩ := hp
      obtain ⟨ad, cap, us, rfl, _, hv, hu⟩ := hx
      have hl := hv.length
      obtain ⟨b, o, rfl, hphi, hr⟩ := hu (by omega)
      obtain ⟨info', d', z', e1', _, _, e4', _⟩ := hT e ie hte
      have hs' := run_sizeOf_tab (P := P) (w := w) e1'
      rw [e4'] at hs'
      refine ⟨.pointer (some ⟨b, o + i.toNat * ie.size, none⟩), ?_, b, o + i.toNat * ie.size, us.drop (i.toNat * ie.size), rfl, hphi, reads_drop _ hr, hv.drop _⟩
      simp [Instr.indexAt, asIntOf, run_underlying e2, h0, h1, hs', addr_add]
    · rename_i ie id tot esz off n hte
      split at h
      case h_2 => cases h
      rename_i p' n' cs' hrd
      split at h
      case isFalse => cases h
      rename_i hesz
      simp only [Option.some.injEq, Prod.mk.injEq] at h
      obtain ⟨rfl, rfl⟩ := h
      obtain ⟨h0, h1, h2, h3⟩ := hp
      obtain ⟨k0, k1, k2⟩ := hx
      have hob : ∃ cs'' : List V, Lof ob id = some cs''.length ∧ (cs''.length = tot) := by
        simp only [rdS] at hrd
        split at hrd <;> simp only [Option.some.injEq, Prod.mk.injEq, reduceCtorEq] at hrd
        all_goals
          rename_i cs'' ho
          obtain ⟨rfl, _, _⟩ := hrd
          exact ⟨cs'', by simp [Lof, ho, Ob.len], h3⟩
      obtain ⟨cs'', hL, hlen⟩ := hob
      obtain ⟨q1, q2⟩ := k2 _ hL
      have hv := q2 hlen.symm
      simp only [mkE] at hv
      cases hH : H id with
      | none =>
        rw [hH] at hv
        obtain ⟨_, _, rfl, _⟩ := hv
        simp at h1; omega
      | some b =>
        rw [hH] at hv
        obtain ⟨cap, rfl, g2, g3, g4⟩ := hv
        obtain ⟨info', d', z', e1', _, _, e4', _⟩ := hT e ie hte
        have hs' := run_sizeOf_tab (P := P) (w := w) e1'
        rw [e4'] at hs'
        refine ⟨.pointer (some ⟨b, off + i.toNat * ie.size, none⟩), ?_, rfl, k1, fun T' hT' => ?_⟩
        · simp [Instr.indexAt, asIntOf, run_underlying e2, h0, h1, hs', addr_add]
        · have e : T' = cs''.length := by rw [show (mkE Φ H ob w).L id = Lof ob id from rfl, hL] at hT'; exact (Option.some.inj hT').symm
          exact ⟨by omega, fun _ => ⟨b, hH, rfl⟩⟩
    · cases h
  · cases h


theorem sliceBounds_of {isS : Bool} {len cap : Nat} {lo hi : Option Int} {kl kh : IntKind} (h0 : 0 ≤ lo.getD 0) (h1 : lo.getD 0 ≤ hi.getD (len : Int)) (h2 : hi.getD (len : Int) ≤ (cap : Int)) :
    (Instr.sliceBounds isS len cap (lo.map (Value.int kl)) (hi.map (Value.int kh)) none).run P w = .ok ((lo.getD 0).toNat, (hi.getD (len : Int)).toNat, cap) w := by
  cases lo <;> cases hi <;> simp only [Option.getD_none, Option.getD_some] at h0 h1 h2
  · simp [Instr.sliceBounds]
  · rename_i h
    have hb : 0 ≤ h ∧ h ≤ (cap : Int) := ⟨h1, h2⟩
    simp [Instr.sliceBounds, Instr.sliceBound, asIntOf, hb]
  · rename_i l
    have hb : 0 ≤ l ∧ l ≤ (len : Int) := ⟨h0, h1⟩
    simp [Instr.sliceBounds, Instr.sliceBound, asIntOf, hb]
  · rename_i l h
    have hb : 0 ≤ h ∧ h ≤ (cap : Int) := ⟨by omega, h2⟩
    have hb2 : 0 ≤ l ∧ l ≤ max h 0 := ⟨h0, by omega⟩
    have hb3 : 0 ≤ l ∧ l ≤ h := ⟨h0, h1⟩
    have e : ((h.toNat : Nat) : Int) = h := by omega
    simp [Instr.sliceBounds, Instr.sliceBound, asIntOf, hb, hb2, hb3, e]

theorem vslice_sound (hT : TabOK P T) (hs : HSim Φ H ob w) {t : Nat} {x y : V} {v : Value} (hx : VRep (mkE Φ H ob w) x v) {lo hi : Option Int} {kl kh : IntKind} {p : Prop} (h : vslice T ob t x lo hi = some (p, y)) (hp : p) :
    ∃ u, (Instr.sliceAt t v (lo.map (Value.int kl)) (hi.map (Value.int kh)) none).run P w = .ok u w ∧ VRep (mkE Φ H ob w) y u := by
  unfold vslice at h
  split at h
  · rename_i _ _ _ ht
    split at h
    case h_2 => cases h
    rename_i s
    simp only [Option.some.injEq, Prod.mk.injEq] at h
    obtain ⟨rfl, rfl⟩ := h
    obtain ⟨info, d, z, e1, e2, e3, e4, e5, e6, e7⟩ := hT t _ ht
    obtain rfl := kindOf_string e3
    simp only [VRep] at hx; subst hx
    have hb := sliceBounds_of (P := P) (w := w) (isS := false) (len := s.size) (cap := s.size) (kl := kl) (kh := kh) hp.1 hp.2.1 hp.2.2
    refine ⟨_, ?_, rfl⟩
    simp [Instr.sliceAt, run_underlying e2, Instr.slice, hb]
  · rename_i e _ _ _ ht
    obtain ⟨info, d, z, e1, e2, e3, e4, e5, e6, e7⟩ := hT t _ ht
    obtain rfl := kindOf_slice e3
    split at h
    case h_2 => cases h
    rename_i ie p' n cs hte hrd
    obtain ⟨info', d', z', e1', _, _, e4', _⟩ := hT e ie hte
    have hs' := run_sizeOf_tab (P := P) (w := w) e1'
    rw [e4'] at hs'
    dsimp only at h
    split at h
    · rename_i id tot esz off n'
      split at h
      case isFalse => cases h
      rename_i hesz
      have hob : ∃ cs'' : List V, Lof ob id = some cs''.length ∧ (p' → cs''.length = tot) ∧ n = n' := by
        simp only [rdS] at hrd
        split at hrd <;> simp only [Option.some.injEq, Prod.mk.injEq, reduceCtorEq] at hrd
        all_goals
          rename_i cs'' ho
          obtain ⟨rfl, h2, _⟩ := hrd
          exact ⟨cs'', by simp [Lof, ho, Ob.len], fun q => q, h2.symm⟩
      obtain ⟨cs'', hL, hlen, rfl⟩ := hob
      obtain ⟨k0, k1, k2⟩ := hx
      obtain ⟨q1, q2⟩ := k2 _ hL
      have heq : ∀ T', (mkE Φ H ob w).L id = some T' → T' = cs''.length := fun T' hT' => by
        rw [show (mkE Φ H ob w).L id = Lof ob id from rfl, hL] at hT'; exact (Option.some.inj hT').symm
      split at h
      · simp only [Option.some.injEq, Prod.mk.injEq] at h
        obtain ⟨rfl, rfl⟩ := h
        obtain ⟨hp1, hp2, hp3⟩ := hp
        have hv := q2 (hlen hp1).symm
        simp only [mkE] at hv
        cases hH : H id with
        | none =>
          rw [hH] at hv
          obtain ⟨g1, g2, g3, rfl⟩ := hv
          subst g1 g2 g3
          have hh : (hi.getD ((0 : Nat) : Int)) = 0 := by
            rcases hp3 with q | ⟨q1, q2⟩
            · omega
            · have : (hi.getD ((0 : Nat) : Int)).toNat = 0 := by
                rcases Nat.eq_zero_or_pos (hi.getD ((0 : Nat) : Int)).toNat with r | r
                · exact r
                · have := Nat.mul_pos r q1; omega
              omega
          have hb := sliceBounds_of (P := P) (w := w) (isS := true) (len := 0) (cap := 0) (lo := none) (hi := hi) (kl := kl) (kh := kh) (by simp) (by simpa using hp2) (by omega)
          refine ⟨.slice none 0 0, ?_, rfl, k1, fun T' hT' => ⟨by omega, fun _ => ?_⟩⟩
          · simp only [Option.map_none] at hb ⊢
            have hh' : hi.getD 0 = 0 := hh
            simp [Instr.sliceAt, run_underlying e2, Instr.slice, hb, hs', hh']
          · simp only [mkE, hH, hh, SlV]; simp
        | some b =>
          rw [hH] at hv
          obtain ⟨cap, rfl, g2, g3, g4⟩ := hv
          have htc : (hi.getD (n : Int)).toNat ≤ cap ∧ off + (hi.getD (n : Int)).toNat * esz ≤ tot := by
            rcases hp3 with q | ⟨q1, q2⟩
            · have : (hi.getD (n : Int)).toNat * esz ≤ n * esz := Nat.mul_le_mul_right _ (by omega)
              omega
            · rw [← hesz] at q1 q2
              exact ⟨Nat.le_of_mul_le_mul_right (c := esz) (by have := g4.2 (by omega); omega) q1, q2⟩
          have hb := sliceBounds_of (P := P) (w := w) (isS := true) (len := n) (cap := cap) (lo := none) (hi := hi) (kl := kl) (kh := kh) (by simp) (by simpa using hp2) (by omega)
          refine ⟨.slice (some ⟨b, off, none⟩) (hi.getD (n : Int)).toNat cap, ?_, rfl, k1, fun T' hT' => ⟨by have := heq T' hT'; omega, fun _ => ?_⟩⟩
          · simp only [Option.map_none] at hb ⊢
            simp [Instr.sliceAt, run_underlying e2, Instr.slice, hb, hs', addr_add]
          · simp only [mkE, hH, SlV]
            exact ⟨cap, rfl, htc.1, htc.2, g4⟩
      · rename_i l
        simp only [Option.some.injEq, Prod.mk.injEq, Option.getD_some] at h
        obtain ⟨rfl, rfl⟩ := h
        obtain ⟨hp1, hp2, hp3, hp4⟩ := hp
        have hv := q2 (hlen hp1).symm
        simp only [mkE] at hv
        by_cases hlt : l < hi.getD (n : Int)
        case neg =>
          have hleq : hi.getD (n : Int) = l := by omega
          unfold vsub
          rw [if_neg hlt]
          cases hH : H id with
          | none =>
            rw [hH] at hv
            obtain ⟨g1, g2, g3, rfl⟩ := hv
            subst g3
            obtain rfl : l = 0 := by
              rcases hp4 with q | ⟨q1, q2⟩
              · omega
              · rcases Nat.eq_zero_or_pos (hi.getD ((0 : Nat) : Int)).toNat with r | r
                · omega
                · have := Nat.mul_pos r q1; omega
            have hb := sliceBounds_of (P := P) (w := w) (isS := true) (len := 0) (cap := 0) (lo := some 0) (hi := hi) (kl := kl) (kh := kh) (by simp) (by simp; omega) (by omega)
            simp only [Option.getD_some, Option.map_some] at hb
            have hh' : hi.getD 0 = 0 := hleq
            refine ⟨.slice none 0 0, ?_, none, 0, [], rfl, Nat.le_refl _, rfl, fun h => by simp at h⟩
            simp [Instr.sliceAt, run_underlying e2, Instr.slice, hb, hs', hh']
          | some b =>
            rw [hH] at hv
            obtain ⟨cap, rfl, g2, g3, g4⟩ := hv
            have htc : (hi.getD (n : Int)).toNat ≤ cap := by
              rcases hp4 with q | ⟨q1, q2⟩
              · omega
              · rw [← hesz] at q1 q2
                exact Nat.le_of_mul_le_mul_right (c := esz) (by have := g4.2 (by omega); omega) q1
            have hb := sliceBounds_of (P := P) (w := w) (isS := true) (len := n) (cap := cap) (lo := some l) (hi := hi) (kl := kl) (kh := kh) (by simpa using hp2) (by simp; omega) (by omega)
            simp only [Option.getD_some, Option.map_some] at hb
            have hz : (hi.getD (n : Int)).toNat - l.toNat = 0 := by omega
            by_cases hne : cap = l.toNat
            · subst hne
              refine ⟨.slice (some ⟨b, off, none⟩) 0 0, ?_, some ⟨b, off, none⟩, 0, [], rfl, Nat.zero_le _, rfl, fun h => by simp at h⟩
              simp [Instr.sliceAt, run_underlying e2, Instr.slice, hb, hs', addr_add]
              try omega
            · refine ⟨.slice (some ⟨b, off + l.toNat * ie.size, none⟩) 0 (cap - l.toNat), ?_, some ⟨b, off + l.toNat * ie.size, none⟩, cap - l.toNat, [], rfl, Nat.zero_le _, rfl, fun h => by simp at h⟩
              simp [Instr.sliceAt, run_underlying e2, Instr.slice, hb, hs', hne, addr_add]
              try omega
        unfold vsub
        rw [if_pos hlt]
        cases hH : H id with
        | none =>
          rw [hH] at hv
          obtain ⟨g1, g2, g3, rfl⟩ := hv
          subst g3
          exfalso
          rcases hp4 with q | ⟨q1, q2⟩
          · omega
          · rcases Nat.eq_zero_or_pos (hi.getD ((0 : Nat) : Int)).toNat with r | r
            · omega
            · have := Nat.mul_pos r q1; omega
        | some b =>
          rw [hH] at hv
          obtain ⟨cap, rfl, g2, g3, g4⟩ := hv
          have htc : (hi.getD (n : Int)).toNat ≤ cap ∧ off + (hi.getD (n : Int)).toNat * esz ≤ tot := by
            rcases hp4 with q | ⟨q1, q2⟩
            · have : (hi.getD (n : Int)).toNat * esz ≤ n * esz := Nat.mul_le_mul_right _ (by omega)
              omega
            · rw [← hesz] at q1 q2
              exact ⟨Nat.le_of_mul_le_mul_right (c := esz) (by have := g4.2 (by omega); omega) q1, q2⟩
          have hb := sliceBounds_of (P := P) (w := w) (isS := true) (len := n) (cap := cap) (lo := some l) (hi := hi) (kl := kl) (kh := kh) (by simpa using hp2) (by simp; omega) (by omega)
          simp only [Option.getD_some, Option.map_some] at hb
          have hne : cap ≠ l.toNat := by omega
          refine ⟨.slice (some ⟨b, off + l.toNat * ie.size, none⟩) ((hi.getD (n : Int)).toNat - l.toNat) (cap - l.toNat), ?_, rfl, k1, fun T' hT' => ⟨by have := heq T' hT'; omega, fun _ => ?_⟩⟩
          · simp [Instr.sliceAt, run_underlying e2, Instr.slice, hb, hs', hne, addr_add]
          · simp only [mkE, hH, SlV]
            subst hesz
            have a1 : l.toNat * ie.size + ((hi.getD (n : Int)).toNat - l.toNat) * ie.size = (hi.getD (n : Int)).toNat * ie.size := by rw [← Nat.add_mul]; congr 1; omega
            have a2 := htc.2
            have a3 : l.toNat * ie.size + (cap - l.toNat) * ie.size = cap * ie.size := by rw [← Nat.add_mul]; congr 1; omega
            exact ⟨_, rfl, by omega, by omega, by omega, fun hne0 => by have := g4.2 hne0; omega⟩
    · simp only [Option.some.injEq, Prod.mk.injEq] at h
      obtain ⟨rfl, rfl⟩ := h
      obtain ⟨hp1, hp2, hp3, rfl⟩ := hp
      simp only [VRep] at hx
      subst hx
      have hb := sliceBounds_of (P := P) (w := w) (isS := true) (len := 0) (cap := 0) (lo := lo) (hi := hi) (kl := kl) (kh := kh) hp1 hp2 hp3
      have h1 : (lo.getD 0).toNat = 0 := by simp only [Int.ofNat_zero, Int.natCast_zero] at hp2 hp3; omega
      have h2 : (hi.getD ((0 : Nat) : Int)).toNat = 0 := by omega
      rw [h1, h2] at hb
      refine ⟨.slice none 0 0, ?_, rfl⟩
      simp [Instr.sliceAt, run_underlying e2, Instr.slice, hb, hs']
    · rename_i hnsl hnnl
      simp only [Option.some.injEq, Prod.mk.injEq] at h
      obtain ⟨rfl, rfl⟩ := h
      obtain ⟨hp1, hp2, hp3, hp4, hp5⟩ := hp
      obtain ⟨ad, cap, us, rfl, hc, hv, hu⟩ : ∃ ad cap us, v = .slice ad n cap ∧ n ≤ cap ∧ VReps .frz (mkE Φ H ob w) cs us ∧ (0 < us.length → ∃ b o, ad = some ⟨b, o, none⟩ ∧ Φ b ∧ reads w b o us) := by
        cases x <;> simp only [rdS, reduceCtorEq, Option.some.injEq, Prod.mk.injEq] at hrd
        · obtain ⟨_, rfl, rfl⟩ := hrd
          simp only [VRep] at hx
          exact ⟨none, 0, [], hx, Nat.le_refl _, by simp [VReps], by simp⟩
        · obtain ⟨_, rfl, rfl⟩ := hrd
          exact hx
        · exact absurd rfl (hnsl _ _ _ _ _)
      have hb := sliceBounds_of (P := P) (w := w) (isS := true) (len := n) (cap := cap) (lo := lo) (hi := hi) (kl := kl) (kh := kh) hp2 hp3 (by omega)
      have hl := hv.length
      refine ⟨.slice (if cap = (lo.getD 0).toNat then ad else ad.map (·.add ((lo.getD 0).toNat * ie.size))) ((hi.getD (n : Int)).toNat - (lo.getD 0).toNat) (cap - (lo.getD 0).toNat), ?_, _, _, (us.drop ((lo.getD 0).toNat * ie.size)).take (((hi.getD (n : Int)).toNat - (lo.getD 0).toNat) * ie.size), rfl, by omega, (hv.drop _).take _, fun hlen => ?_⟩
      · simp [Instr.sliceAt, run_underlying e2, Instr.slice, hb, hs']
      · simp only [List.length_take, List.length_drop] at hlen
        have hpos : (hi.getD (n : Int)).toNat - (lo.getD 0).toNat ≠ 0 := fun e => by rw [e] at hlen; simp at hlen
        obtain ⟨b, o, rfl, hphi, hr⟩ := hu (by omega)
        rw [if_neg (by omega)]
        exact ⟨b, o + (lo.getD 0).toNat * ie.size, by simp [addr_add], hphi, reads_take _ (reads_drop _ hr)⟩
  · rename_i n e _ _ _ ht
    obtain ⟨info, d, z, e1, e2, e3, e4, e5, e6, e7⟩ := hT t _ ht
    obtain rfl := kindOf_array e3
    split at h
    case h_2 => cases h
    rename_i ie p' cs off hte hrd
    obtain ⟨info', d', z', e1', _, _, e4', _⟩ := hT e ie hte
    have hs' := run_sizeOf_tab (P := P) (w := w) e1'
    rw [e4'] at hs'
    dsimp only at h
    split at h
    · rename_i id tot o
      simp only [Option.some.injEq, Prod.mk.injEq] at h
      obtain ⟨rfl, rfl⟩ := h
      obtain ⟨hp0, hp1, hp2, hp3, hp4, hp5⟩ := hp
      have hrd' := hrd
      obtain ⟨k0, k1, k2⟩ := hx
      have hob : ∃ cs'' : List V, Lof ob id = some cs''.length ∧ cs''.length = tot := by
        simp only [rdV] at hrd
        split at hrd <;> simp only [Option.some.injEq, Prod.mk.injEq, reduceCtorEq] at hrd
        all_goals
          rename_i cs'' ho
          obtain ⟨rfl, _, _⟩ := hrd
          exact ⟨cs'', by simp [Lof, ho, Ob.len], hp0⟩
      obtain ⟨cs'', hL, hlen⟩ := hob
      obtain ⟨q1, q2⟩ := k2 _ hL
      obtain ⟨b, hb', rfl⟩ := q2 hlen.symm
      have hb := sliceBounds_of (P := P) (w := w) (isS := false) (len := n) (cap := n) (lo := lo) (hi := hi) (kl := kl) (kh := kh) hp1 hp2 hp3
      have hbs : tot ≤ bsize w b := by
        have hidlt : id < ob.length := k1
        obtain ⟨o1, ho1⟩ : ∃ o1, ob[id]? = some o1 := ⟨ob[id], by simp [List.getElem?_eq_getElem hidlt]⟩
        have hr := hs.rep id o1 ho1
        simp only [mkE] at hb'
        cases o1 with
        | live cs1 =>
          rw [hb'] at hr
          obtain ⟨c, el, g1, g2, g3, g4⟩ := hr
          have : cs1.length = cs''.length := by simpa [Lof, ho1, Ob.len] using hL
          have g1' : w.heap[b]? = some (.cells c el (0, 0)) := g1
          simp only [bsize, g1']; omega
        | frz cs1 =>
          rw [hb'] at hr
          obtain ⟨g1, us, g2, g3⟩ := hr
          have e : cs1.length = cs''.length := by simpa [Lof, ho1, Ob.len] using hL
          have hl := g3.length
          rcases Nat.eq_zero_or_pos tot with h0 | h0
          · omega
          · have hlast := g2 (us.length - 1) (by omega)
            have : ∃ u, us[us.length - 1]? = some u := ⟨us[us.length - 1]'(by omega), by rw [List.getElem?_eq_getElem (by omega)]⟩
            obtain ⟨u, hu⟩ := this
            rw [hu] at hlast
            simp only [World.cell?, Nat.zero_add] at hlast
            simp only [bsize]
            split at hlast
            · rename_i c el fz hc
              have hc' : w.heap[b]? = some (.cells c el fz) := hc
              simp only [hc']
              simp only [Option.isSome_none, Bool.false_eq_true, if_false] at hlast
              have := (Array.getElem?_eq_some_iff.1 hlast).1
              omega
            · cases hlast
        | map es bs ck => simp [rdV, ho1] at hrd'
        | iter m s sn l => simp [rdV, ho1] at hrd'
        | loop st pd n ks vs ps as bd => simp [rdV, ho1] at hrd'
        | dead => simp [rdV, ho1] at hrd'
      refine ⟨.slice (some (if n = (lo.getD 0).toNat then ⟨b, o, none⟩ else (⟨b, o, none⟩ : Addr).add ((lo.getD 0).toNat * ie.size))) ((hi.getD (n : Int)).toNat - (lo.getD 0).toNat) (n - (lo.getD 0).toNat), ?_, rfl, k1, fun T' hT' => ⟨?_, fun _ => ?_⟩⟩
      · simp [Instr.sliceAt, run_underlying e2, Instr.sureAddr, hb, hs']
      · rw [show (mkE Φ H ob w).L id = Lof ob id from rfl, hL] at hT'
        have := Option.some.inj hT'
        omega
      · have hH : H id = some b := hb'
        simp only [mkE, hH, SlV]
        have a1 : (lo.getD 0).toNat * ie.size + ((hi.getD (n : Int)).toNat - (lo.getD 0).toNat) * ie.size = (hi.getD (n : Int)).toNat * ie.size := by rw [← Nat.add_mul]; congr 1; omega
        have a2 : (hi.getD (n : Int)).toNat * ie.size ≤ n * ie.size := Nat.mul_le_mul_right _ (by omega)
        have a3 : (lo.getD 0).toNat * ie.size + (n - (lo.getD 0).toNat) * ie.size = n * ie.size := by rw [← Nat.add_mul]; congr 1; omega
        refine ⟨n - (lo.getD 0).toNat, ?_, by omega, ?_, ?_, ?_⟩
        rotate_left
        · split
          · omega
          · simp only [Nat.mul_zero]; omega
        · split
          · omega
          · simp only [Nat.mul_zero]; omega
        · intro hne0
          split
          · omega
          · rename_i hq; rw [if_neg hq] at hne0; exact absurd rfl hne0
        congr 1
        split
        · rename_i hn
          have : (lo.getD 0).toNat = 0 := by omega
          simp [this]
        · rw [addr_add]
    · rename_i cs1
      simp only [Option.some.injEq, Prod.mk.injEq] at h
      obtain ⟨rfl, rfl⟩ := h
      obtain ⟨hp1, hp2, hp3, hp4⟩ := hp
      obtain ⟨b, o, us, rfl, hphi, hr, hv⟩ := hx
      have hb := sliceBounds_of (P := P) (w := w) (isS := false) (len := n) (cap := n) (lo := lo) (hi := hi) (kl := kl) (kh := kh) hp1 hp2 hp3
      refine ⟨.slice (some (if n = (lo.getD 0).toNat then ⟨b, o, none⟩ else (⟨b, o, none⟩ : Addr).add ((lo.getD 0).toNat * ie.size))) ((hi.getD (n : Int)).toNat - (lo.getD 0).toNat) (n - (lo.getD 0).toNat), ?_, _, _, (us.drop ((lo.getD 0).toNat * ie.size)).take (((hi.getD (n : Int)).toNat - (lo.getD 0).toNat) * ie.size), rfl, by omega, (hv.drop _).take _, fun hlen => ?_⟩
      · simp [Instr.sliceAt, run_underlying e2, Instr.sureAddr, hb, hs']
      · simp only [List.length_take, List.length_drop] at hlen
        have hpos : (hi.getD (n : Int)).toNat - (lo.getD 0).toNat ≠ 0 := fun e => by rw [e] at hlen; simp at hlen
        rw [if_neg (by omega)]
        exact ⟨b, o + (lo.getD 0).toNat * ie.size, by simp [addr_add], hphi, reads_take _ (reads_drop _ hr)⟩
    · cases h
  · cases h

end
end Go.VX

/- New objects, and stores into them. -/
namespace Go.VX
open Go.RowKit
set_option linter.unusedVariables false
set_option linter.unusedSimpArgs false

def spl (cs : List V) (off : Nat) : List V → List V
  | [v] => cs.set off v
  | vs => cs.take off ++ vs ++ cs.drop (off + vs.length)

theorem spl_eq {cs : List V} {off : Nat} {vs : List V} (h : off + vs.length ≤ cs.length) : spl cs off vs = cs.take off ++ vs ++ cs.drop (off + vs.length) := by
  unfold spl
  split
  · rename_i v
    simp only [List.length_cons, List.length_nil] at h ⊢
    rw [List.set_eq_take_append_cons_drop, if_pos (by omega)]
    simp
  · rfl
theorem spl_length {cs : List V} {off : Nat} {vs : List V} (h : off + vs.length ≤ cs.length) : (spl cs off vs).length = cs.length := by
  rw [spl_eq h]; simp; omega

theorem cells_rep {E : Env} {x : V} {v : Value} (hx : VRep E x v) (hk : x.known = true) : VReps .cell E x.cells v.cells.toList := by
  by_cases h1 : x.one = true
  · have ho := VRep.oneCell h1 hx
    have hc : x.cells = [x] := by cases x <;> simp_all [V.cells, V.one]
    have hv : v.cells = #[v] := by cases v <;> simp_all [Value.cells, Value.oneCell']
    rw [hc, hv]
    exact ⟨v, [], rfl, h1, hx, rfl⟩
  · cases x <;> simp_all [V.one, V.known]
    obtain ⟨a, rfl, h⟩ := hx
    exact h

theorem VReps.one {E : Env} : ∀ {xs : List V} {us : List Value}, VReps .cell E xs us → ∀ u ∈ us, u.oneCell' = true
  | [], us, hu, u, hm => by simp [VReps] at hu; subst hu; simp at hm
  | c :: cs, us, ⟨u, r, h1, h0, h2, h3⟩, y, hm => by
    subst h1
    rcases List.mem_cons.1 hm with rfl | hm
    · exact VRep.oneCell h0 h2
    · exact VReps.one h3 y hm

section
variable {P : Program} {T : Nat → Option TI} {w : World} {Φ : Nat → Prop} {H : Nat → Option Nat} {ob : List Ob}

theorem HStep.same (hs : HSim Φ H ob w) {w' : World} (h1 : w'.os = w.os) (h2 : w'.tape = w.tape) (h3 : w'.output = w.output) (hh : w'.heap = w.heap) (hd : w.drawn ≤ w'.drawn := by first | exact Nat.le_refl _ | exact Nat.le_succ _ | exact Nat.le_add_right _ _ | assumption | (simp; done) | (simp; omega)) : HStep Φ H ob w Φ H ob w' := by
  obtain ⟨g1, g2⟩ := hs.same hh
  exact ⟨h1, h2, ⟨h3, hd⟩, by rw [hh]; exact Nat.le_refl _, fun b hb _ => by rw [hh], g1, g2, fun _ h => .inl h, fun i o b k1 k2 k3 => .inl ⟨i, o, k1, k2, k3⟩⟩

theorem HStep.ofPush (hs : HSim Φ H ob w) {w' : World} {o : Ob} {x : Option Nat} (h1 : w'.os = w.os) (h2 : w'.tape = w.tape) (h3 : w'.output = w.output)
    (hkeep : ∀ k, k < w.heap.size → w'.heap[k]? = w.heap[k]?) (hsz : w.heap.size ≤ w'.heap.size) (hx : ∀ b, x = some b → w.heap.size ≤ b)
    (ho : ∀ E', Ext (mkE Φ H ob w) E' → E'.w = w' → E'.Φ = Φ → ObRep E' x o) (hd : w.drawn ≤ w'.drawn := by first | exact Nat.le_refl _ | exact Nat.le_succ _ | exact Nat.le_add_right _ _ | assumption | (simp; done) | (simp; omega)) : HStep Φ H ob w Φ (upd H ob.length x) (ob ++ [o]) w' := by
  obtain ⟨g1, g2⟩ := hs.push hkeep hsz hx ho
  refine ⟨h1, h2, ⟨h3, hd⟩, hsz, fun b hb _ => hkeep b hb, g1, g2, fun _ h => .inl h, fun i o' b k1 k2 k3 => ?_⟩
  rcases Nat.lt_or_ge i ob.length with hlt | hge
  · rw [List.getElem?_append_left hlt] at k1
    rw [upd_other _ _ (by omega)] at k3
    exact .inl ⟨i, o', k1, k2, k3⟩
  · have hlt2 : i < (ob ++ [o]).length := by
      rcases Nat.lt_or_ge i (ob ++ [o]).length with q | q
      · exact q
      · simp [List.getElem?_eq_none q] at k1
    obtain rfl : i = ob.length := by simp at hlt2; omega
    rw [upd_same] at k3
    exact .inr (hx b k3)

/-- A new block of cells. -/
theorem HStep.alloc (hs : HSim Φ H ob w) (c : Array Value) (el : TypeId) {cs : List V} (hle : cs.length ≤ c.size) (hv : VReps .cell (mkE Φ H ob w) cs (c.toList.take cs.length)) :
    HStep Φ H ob w Φ (upd H ob.length (some w.heap.size)) (ob ++ [.live cs]) (w.alloc (.cells c el)) := by
  refine HStep.ofPush hs rfl rfl rfl (fun k hk => Below.heap_alloc w _ k hk) (by simp) (fun b hb => by simp at hb; omega) fun E' hE hw hΦ => ?_
  refine ⟨c, el, by rw [hw]; exact heap_alloc_new w _, fun hp => ?_, hle, VReps.ext hE _ _ hv⟩
  rw [hΦ] at hp
  exact absurd (hs.phi _ hp) (by omega)

theorem HStep.ofChange (hs : HSim Φ H ob w) {i : Nat} {o o' : Ob} (hi : ob[i]? = some o) (hm : o.mutb = true)
    {Φ' : Nat → Prop} {w' : World} {x : Option Nat} (h1 : w'.os = w.os) (h2 : w'.tape = w.tape) (h3 : w'.output = w.output)
    (hkeep : ∀ k, k < w.heap.size → H i ≠ some k → w'.heap[k]? = w.heap[k]?) (hsz : w.heap.size ≤ w'.heap.size)
    (hp1 : ∀ b, Φ b → Φ' b) (hp2 : ∀ b, Φ' b → Φ b ∨ (H i = some b ∧ o'.mutb = false))
    (hx : ∀ b, x = some b → H i = some b ∨ w.heap.size ≤ b)
    (hl : ∀ T', o'.len = some T' → ∃ T, o.len = some T ∧ T ≤ T' ∧ (T = T' → x = H i ∧ ∀ b, H i = some b → bsize w' b = bsize w b))
    (ho : ∀ E', Ext (mkE Φ H ob w) E' → E'.w = w' → E'.Φ = Φ' → ObRep E' x o') (hd : w.drawn ≤ w'.drawn := by first | exact Nat.le_refl _ | exact Nat.le_succ _ | exact Nat.le_add_right _ _ | assumption | (simp; done) | (simp; omega)) : HStep Φ H ob w Φ' (upd H i x) (ob.set i o') w' := by
  obtain ⟨g1, g2⟩ := hs.change hi hm hkeep hsz hp1 hp2 hx hl ho
  have hilt : i < ob.length := (List.getElem?_eq_some_iff.1 hi).1
  refine ⟨h1, h2, ⟨h3, hd⟩, hsz, fun b hb hn => hkeep b hb (hn i o hi hm), g1, g2, fun b hb => ?_, fun j o1 b k1 k2 k3 => ?_⟩
  · rcases hp2 b hb with q | ⟨q, _⟩
    · exact .inl q
    · exact .inr (.inl ⟨i, o, hi, hm, q⟩)
  · by_cases hji : j = i
    · subst hji
      rw [upd_same] at k3
      rcases hx b k3 with q | q
      · exact .inl ⟨j, o, hi, hm, q⟩
      · exact .inr q
    · rw [List.getElem?_set_ne (by omega : i ≠ j)] at k1
      rw [upd_other _ _ hji] at k3
      exact .inl ⟨j, o1, k1, k2, k3⟩

theorem write_rep {E : Env} {cs vs : List V} {us : List Value} {c : Array Value} {off : Nat} (hc : VReps .cell E cs (c.toList.take cs.length)) (hle : cs.length ≤ c.size) (hv : VReps .cell E vs us) (ho : off + vs.length ≤ cs.length) :
    VReps .cell E (spl cs off vs) ((c.toList.take off ++ us ++ c.toList.drop (off + us.length)).take cs.length) := by
  rw [spl_eq ho]
  have hl := hv.length
  have h1 := hc.take off
  have h2 := hc.drop (off + vs.length)
  rw [List.take_take, Nat.min_eq_left (by omega)] at h1
  rw [List.drop_take] at h2
  have e : (c.toList.take off ++ us ++ c.toList.drop (off + us.length)).take cs.length = c.toList.take off ++ us ++ (c.toList.drop (off + vs.length)).take (cs.length - (off + vs.length)) := by
    have la : (c.toList.take off ++ us).length = off + us.length := by simp; omega
    rw [List.take_append, List.take_of_length_le (by omega), la, hl]
  rw [e]
  exact (h1.append hv).append h2

/-- Cells of an object are written. -/
theorem HStep.write (hs : HSim Φ H ob w) {i : Nat} {cs : List V} (hi : ob[i]? = some (.live cs)) {b : Nat} (hb : H i = some b) {off : Nat} {vs : List V} {us : List Value}
    (hv : VReps .cell (mkE Φ H ob w) vs us) (ho : off + vs.length ≤ cs.length) :
    ∃ (cur : Array Value) (el : TypeId), w.heap[b]? = some (.cells cur el (0, 0)) ∧ off + us.length ≤ cur.size ∧
      HStep Φ H ob w Φ (upd H i (H i)) (ob.set i (.live (spl cs off vs))) (w.setRow b (cur.toList.take off ++ us ++ cur.toList.drop (off + us.length)).toArray) := by
  have hr := hs.rep i _ hi
  rw [hb] at hr
  obtain ⟨c, el, g1, g2, g3, g4⟩ := hr
  have g1' : w.heap[b]? = some (.cells c el (0, 0)) := g1
  have hl := hv.length
  refine ⟨c, el, g1, by omega, ?_⟩
  have hsz : (c.toList.take off ++ us ++ c.toList.drop (off + us.length)).length = c.size := by simp; omega
  refine HStep.ofChange hs hi rfl rfl rfl rfl (fun k hk hn => ?_) (by simp) (fun _ h => h) (fun _ h => .inl h) (fun b' hb' => .inl hb') (fun T' hT' => ?_) (fun E' hE hw hΦ => ?_)
  · exact setRow_other w b k _ (fun e => hn (by rw [e]; exact hb))
  · simp only [Ob.len, Option.some.injEq] at hT'
    rw [spl_length ho] at hT'
    refine ⟨cs.length, rfl, by omega, fun _ => ⟨rfl, fun b' hb' => ?_⟩⟩
    rw [hb] at hb'
    obtain rfl := Option.some.inj hb'
    simp only [bsize, setRow_heap w b c _ el _ g1', g1']
    simpa using hsz
  · rw [hb]
    refine ⟨_, el, by rw [hw]; exact setRow_heap w b c _ el _ g1', by rw [hΦ]; exact g2, by rw [spl_length ho]; simp only [List.size_toArray]; omega, ?_⟩
    rw [spl_length ho]
    simp only [List.toList_toArray]
    exact VReps.ext hE _ _ (write_rep g4 g3 hv ho)

/-- A store through a pointer. -/
theorem store_sound (hT : TabOK P T) (hs : HSim Φ H ob w) {t : Nat} {i : TI} (ht : T t = some i) {id tot off : Nat} {v : Value} (hx : VRep (mkE Φ H ob w) (.ptr id tot off) v)
    {cs : List V} (ho : ob[id]? = some (.live cs)) (hlen : cs.length = tot) {y : V} {u : Value} (hy : VRep (mkE Φ H ob w) y u) (hk : y.known = true) (hsz : y.cells.length = i.size) (hfit : off + y.cells.length ≤ cs.length) (hpos : 0 < y.cells.length) :
    ∃ w' H', (Instr.storeAt t v u).run P w = .ok () w' ∧ HStep Φ H ob w Φ H' (ob.set id (.live (spl cs off y.cells))) w' := by
  obtain ⟨info, d, z, e1, e2, e3, e4, e5, e6, e7⟩ := hT t i ht
  obtain ⟨h0, h1, h2⟩ := hx
  obtain ⟨_, hh⟩ := h2 cs.length (by simp [mkE, Lof, ho, Ob.len])
  obtain ⟨b, hb, rfl⟩ := hh hlen.symm
  have hv := cells_rep hy hk
  obtain ⟨cur, el, g1, g2, g3⟩ := HStep.write hs ho hb hv hfit
  have hst := run_storeCells_at P b off el u.cells.toList 0 cur w g1 (by simpa using g2) (VReps.one hv)
  have hl := hv.length
  refine ⟨_, _, ?_, g3⟩
  have hsz2 := run_sizeOf_tab (P := P) (w := w) e1
  have : u.cells.size = info.size := by rw [e4, ← hsz, hl]; simp
  simp only [Nat.add_zero] at hst
  simp [Instr.storeAt, Instr.sureAddr, storeVar, hsz2, this, hst]

end
end Go.VX

/- New variables, literals, make, append, copy. -/
namespace Go.VX
open Go.RowKit
set_option linter.unusedVariables false
set_option linter.unusedSimpArgs false

/-- So many zero values, one behind the other. -/
def zerosV : List V → Nat → List V
  | [z], n => List.replicate n z
  | zc, n => (List.replicate n zc).flatten

theorem zerosV_eq (zc : List V) (n : Nat) : zerosV zc n = (List.replicate n zc).flatten := by
  unfold zerosV
  split
  · rename_i z
    induction n with
    | zero => rfl
    | succ n ih => simp only [List.replicate_succ, List.flatten_cons] at ih ⊢; rw [ih]; rfl
  · rfl

def vfill (place : Nat → Option (Nat × Nat)) (cells : List V) : List (Nat × V) → Option (Prop × List V)
  | [] => some (True, cells)
  | (i, x) :: rest =>
    match place i with
    | none => none
    | some (off, size) =>
      if x.known then
        match vfill place (spl cells off x.cells) rest with
        | none => none
        | some (p, cs) => some ((x.cells.length = size ∧ off + x.cells.length ≤ cells.length) ∧ p, cs)
      else none

def structPlaces (T : Nat → Option TI) (fs : List (Nat × Nat)) (i : Nat) : Option (Nat × Nat) :=
  match fs[i]? with
  | some (o, ft) => match T ft with
    | some ti => some (o, ti.size)
    | none => none
  | none => none

def vbuild (T : Nat → Option TI) (t : Nat) (parts : List (Nat × V)) : Option (Prop × V) :=
  match T t with
  | some ⟨.struct fs, _, _, z⟩ => if fs.all (fun f => (T f.2).isSome) then
      match vfill (structPlaces T fs) z.cells parts with
      | some (p, cs) => some (p, .agg cs)
      | none => none
    else none
  | some ⟨.array _ e, _, _, z⟩ => match T e with
    | some ie => match vfill (fun i => some (i * ie.size, ie.size)) z.cells parts with
      | some (p, cs) => some (p, .agg cs)
      | none => none
    | none => none
  | _ => none

section
variable {P : Program} {T : Nat → Option TI} {w : World} {Φ : Nat → Prop} {H : Nat → Option Nat} {ob : List Ob}

theorem foldl_set_list (off : Nat) : ∀ (us : List Value) (k : Nat) (cells : Array Value), off + k + us.length ≤ cells.size →
    ((us.zipIdx k).foldl (fun cs (c : Value × Nat) => cs.setIfInBounds (off + c.2) c.1) cells).toList = cells.toList.take (off + k) ++ us ++ cells.toList.drop (off + k + us.length)
  | [], k, cells, _ => by simp
  | u :: us, k, cells, h => by
    simp only [List.zipIdx_cons, List.foldl_cons]
    rw [foldl_set_list off us (k + 1) _ (by simp at h ⊢; omega)]
    simp only [List.length_cons] at h ⊢
    simp only [Array.toList_setIfInBounds]
    have e1 : (cells.toList.set (off + k) u).take (off + (k + 1)) = cells.toList.take (off + k) ++ [u] := by
      rw [List.set_eq_take_append_cons_drop, if_pos (by simp; omega)]
      rw [List.take_append]
      have : (cells.toList.take (off + k)).length = off + k := by simp; omega
      rw [this, List.take_of_length_le (by omega)]
      congr 1
      have : off + (k + 1) - (off + k) = 1 := by omega
      rw [this]; rfl
    have e2 : (cells.toList.set (off + k) u).drop (off + (k + 1) + us.length) = cells.toList.drop (off + k + (us.length + 1)) := by
      rw [List.drop_set_of_lt (by omega)]
      congr 1
      omega
    rw [e1, e2]; simp

theorem fill_sound {E : Env} {place : Nat → Option (Nat × Nat)} : ∀ {parts : List (Nat × V)} {vals : List (Nat × Value)} {cells cs : List V} {arr : Array Value} {p : Prop},
    parts.map (·.1) = vals.map (·.1) → VReps .any E (parts.map (·.2)) (vals.map (·.2)) → VReps .cell E cells arr.toList → vfill place cells parts = some (p, cs) → p →
    ∃ arr', Instr.fill place arr vals = some arr' ∧ VReps .cell E cs arr'.toList
  | [], vals, cells, cs, arr, p, h1, h2, h3, h4, hp => by
    cases vals with
    | nil =>
      simp only [vfill, Option.some.injEq, Prod.mk.injEq] at h4
      obtain ⟨_, rfl⟩ := h4
      exact ⟨arr, rfl, h3⟩
    | cons a b => simp at h1
  | (i, x) :: rest, vals, cells, cs, arr, p, h1, h2, h3, h4, hp => by
    cases vals with
    | nil => simp at h1
    | cons q vals =>
      obtain ⟨j, v⟩ := q
      simp only [List.map_cons, List.cons.injEq] at h1
      obtain ⟨rfl, h1⟩ := h1
      simp only [List.map_cons] at h2
      obtain ⟨u, r, he, _, hx, hr⟩ := h2
      simp only [List.cons.injEq] at he
      obtain ⟨rfl, rfl⟩ := he
      simp only [vfill] at h4
      cases hpl : place i with
      | none => simp [hpl] at h4
      | some os =>
        obtain ⟨off, size⟩ := os
        simp only [hpl] at h4
        split at h4
        case isFalse => cases h4
        rename_i hk
        cases hrec : vfill place (spl cells off x.cells) rest with
        | none => simp [hrec] at h4
        | some q =>
          obtain ⟨p', cs'⟩ := q
          simp only [hrec, Option.some.injEq, Prod.mk.injEq] at h4
          obtain ⟨rfl, rfl⟩ := h4
          obtain ⟨⟨hl, hf⟩, hp'⟩ := hp
          have hv := cells_rep hx hk
          have hlv := hv.length
          have hla := h3.length
          simp only [Array.length_toList] at hlv hla
          have harr : VReps .cell E (spl cells off x.cells) (v.cells.zipIdx.foldl (fun cs (c : Value × Nat) => cs.setIfInBounds (off + c.2) c.1) arr).toList := by
            rw [← Array.foldl_toList, Array.toList_zipIdx]
            rw [foldl_set_list off v.cells.toList 0 arr (by simp; omega)]
            have hc : VReps .cell E cells (arr.toList.take cells.length) := by rw [List.take_of_length_le (by simp; omega)]; exact h3
            have := write_rep (off := off) hc (by omega) hv hf
            rw [List.take_of_length_le (by simp; omega)] at this
            simpa using this
          obtain ⟨arr', g1, g2⟩ := fill_sound h1 hr harr hrec hp'
          refine ⟨arr', ?_, g2⟩
          simp only [Instr.fill, hpl]
          rw [if_neg (by simp only [Bool.or_eq_true, decide_eq_true_eq]; omega)]
          exact g1

theorem zero_rep (hT : TabOK P T) {t : Nat} {i : TI} (ht : T t = some i) (E : Env) : ∃ info z, P.info? t = some info ∧ info.zero = some z ∧ VReps .cell E i.zero.cells z.cells.toList ∧ z.cells.size = i.size ∧ i.zero.cells.length = i.size := by
  obtain ⟨info, d, z, e1, e2, e3, e4, e5, e6, e7, e8, e9⟩ := hT t i ht
  have hr := vconst_rep E z
  rw [e7] at hr
  have hc := cells_rep hr e8
  exact ⟨info, z, e1, e6, hc, by have := hc.length; simp only [Array.length_toList] at this; omega, e9⟩

theorem places_run {fs : List Field} (h : ∀ f ∈ fs, (T f.type).isSome = true) (hT : TabOK P T) :
    fs.mapM (fun f => (P.info? f.type).map fun i => (f.offset, i.size)) = some (fs.map fun f => (f.offset, ((T f.type).map (·.size)).getD 0)) := by
  induction fs with
  | nil => rfl
  | cons f fs ih =>
    have hf := h f (by simp)
    cases hti : T f.type with
    | none => simp [hti] at hf
    | some i =>
      obtain ⟨info, d, z, e1, e2, e3, e4, _⟩ := hT _ i hti
      simp [List.mapM_cons, e1, e4, hti, ih (fun g hg => h g (by simp [hg]))]

theorem build_sound (hT : TabOK P T) {t : Nat} {parts : List (Nat × V)} {vals : Array (Nat × Value)} (h1 : parts.map (·.1) = vals.toList.map (·.1)) (h2 : VReps .any (mkE Φ H ob w) (parts.map (·.2)) (vals.toList.map (·.2)))
    {p : Prop} {y : V} (h : vbuild T t parts = some (p, y)) (hp : p) : ∃ u, (Instr.build t vals).run P w = .ok u w ∧ VRep (mkE Φ H ob w) y u := by
  unfold vbuild at h
  split at h
  · rename_i fs sz by_ z ht
    split at h
    case isFalse => cases h
    rename_i hall
    cases hq : vfill (structPlaces T fs) z.cells parts with
    | none => simp [hq] at h
    | some q =>
      obtain ⟨p', cs⟩ := q
      simp only [hq, Option.some.injEq, Prod.mk.injEq] at h
      obtain ⟨rfl, rfl⟩ := h
      obtain ⟨info, zz, e1, e2, e3, e4, e5⟩ := zero_rep hT ht (mkE Φ H ob w)
      obtain ⟨info', d, z', f1, f2, f3, f4, _⟩ := hT t _ ht
      obtain ⟨a, rfl, rfl⟩ := kindOf_struct f3
      obtain ⟨arr', g1, g2⟩ := fill_sound h1 h2 e3 hq hp
      refine ⟨.agg arr', run_build w t vals arr' ?_, ⟨arr', rfl, g2⟩⟩
      have hpl := places_run (fs := a.toList) (fun f hf => by simpa using List.all_eq_true.1 hall (f.offset, f.type) (List.mem_map.2 ⟨f, hf, rfl⟩)) hT
      simp only [Program.built, e1, f2, e2, hpl]
      rw [← g1]
      congr 1
      funext i
      simp only [structPlaces, List.getElem?_map]
      cases hi : a.toList[i]? with
      | none =>
        have hi' : a[i]? = none := by simpa using hi
        simp [hi, hi']
      | some f =>
        have hi' : a[i]? = some f := by simpa using hi
        have hm : f ∈ a.toList := List.mem_of_getElem? hi
        have := List.all_eq_true.1 hall (f.offset, f.type) (List.mem_map.2 ⟨f, hm, rfl⟩)
        cases hti : T f.type with
        | none => simp [hti] at this
        | some ti => simp [hi, hi', hti]
  · rename_i n e sz by_ z ht
    cases hte : T e with
    | none => simp [hte] at h
    | some ie =>
      simp only [hte] at h
      cases hq : vfill (fun i => some (i * ie.size, ie.size)) z.cells parts with
      | none => simp [hq] at h
      | some q =>
        obtain ⟨p', cs⟩ := q
        simp only [hq, Option.some.injEq, Prod.mk.injEq] at h
        obtain ⟨rfl, rfl⟩ := h
        obtain ⟨info, zz, e1, e2, e3, e4, e5⟩ := zero_rep hT ht (mkE Φ H ob w)
        obtain ⟨info', d, z', f1, f2, f3, f4, _⟩ := hT t _ ht
        obtain rfl := kindOf_array f3
        obtain ⟨info2, d2, z2, k1, k2, k3, k4, _⟩ := hT e ie hte
        obtain ⟨arr', g1, g2⟩ := fill_sound h1 h2 e3 hq hp
        refine ⟨.agg arr', run_build w t vals arr' ?_, ⟨arr', rfl, g2⟩⟩
        simp only [Program.built, e1, f2, e2, k1, k4]
        exact g1
  · cases h

/-- The pointer to an object that has just come. -/
theorem ptr_new (w' : World) (cs : List V) (b : Nat) : VRep (mkE Φ (upd H ob.length (some b)) (ob ++ [.live cs]) w') (.ptr ob.length cs.length 0) (.pointer (some ⟨b, 0, none⟩)) :=
  ⟨rfl, by simp [mkE], fun T' hT' => by
    have : T' = cs.length := by
      have h : (ob ++ [Ob.live cs])[ob.length]? = some (.live cs) := by simp
      have h2 : Lof (ob ++ [Ob.live cs]) ob.length = some cs.length := by simp [Lof, Ob.len]
      rw [show (mkE Φ (upd H ob.length (some b)) (ob ++ [.live cs]) w').L ob.length = Lof (ob ++ [Ob.live cs]) ob.length from rfl, h2] at hT'
      exact (Option.some.inj hT').symm
    exact ⟨by omega, fun _ => ⟨b, by simp [mkE], rfl⟩⟩⟩

theorem alloc_sound (hT : TabOK P T) (hs : HSim Φ H ob w) {t : Nat} {i : TI} (ht : T t = some i) :
    ∃ u w' H', (Instr.alloc t true (.tuple #[])).run P w = .ok u w' ∧ HStep Φ H ob w Φ H' (ob ++ [.live i.zero.cells]) w' ∧ VRep (mkE Φ H' (ob ++ [.live i.zero.cells]) w') (.ptr ob.length i.zero.cells.length 0) u := by
  obtain ⟨info, z, e1, e2, e3, e4, e5⟩ := zero_rep hT ht (mkE Φ H ob w)
  have hl := e3.length
  refine ⟨.pointer (some ⟨w.heap.size, 0, none⟩), _, _, ?_, HStep.alloc hs z.cells t (by simp at hl; omega) (by rw [List.take_of_length_le (by omega)]; exact e3), ptr_new _ _ _⟩
  simp [Instr.alloc, zeroValue, typeInfo, e1, e2, newVar, newRow]

theorem box_sound (hs : HSim Φ H ob w) {t : Nat} {x : V} {v : Value} (hx : VRep (mkE Φ H ob w) x v) (hk : x.known = true) :
    ∃ u w' H', (Instr.box t v).run P w = .ok u w' ∧ HStep Φ H ob w Φ H' (ob ++ [.live x.cells]) w' ∧ VRep (mkE Φ H' (ob ++ [.live x.cells]) w') (.ptr ob.length x.cells.length 0) u := by
  have hc := cells_rep hx hk
  have hl := hc.length
  refine ⟨.pointer (some ⟨w.heap.size, 0, none⟩), _, _, ?_, HStep.alloc hs v.cells t (by simp at hl; omega) (by rw [List.take_of_length_le (by omega)]; exact hc), ptr_new _ _ _⟩
  simp [Instr.box, newVar, newRow]

/-- The header of a row that has just come. -/
theorem sl_new (w' : World) (cs : List V) (b esz n cap : Nat) (hn : n * esz = cs.length) (hc : n ≤ cap) (hb : cap * esz ≤ bsize w' b) :
    VRep (mkE Φ (upd H ob.length (some b)) (ob ++ [.live cs]) w') (.sl ob.length cs.length esz 0 n) (.slice (some ⟨b, 0, none⟩) n cap) :=
  ⟨rfl, by simp [mkE], fun T' hT' => by
    have : T' = cs.length := by
      have h2 : Lof (ob ++ [Ob.live cs]) ob.length = some cs.length := by simp [Lof, Ob.len]
      rw [show (mkE Φ (upd H ob.length (some b)) (ob ++ [.live cs]) w').L ob.length = Lof (ob ++ [Ob.live cs]) ob.length from rfl, h2] at hT'
      exact (Option.some.inj hT').symm
    refine ⟨by omega, fun _ => ?_⟩
    simp only [mkE, upd_same, SlV]
    exact ⟨cap, rfl, hc, by omega, by omega, fun _ => by have := Nat.mul_le_mul_right esz hc; omega⟩⟩

theorem bsize_alloc (w : World) (c : Array Value) (el : TypeId) : bsize (w.alloc (.cells c el)) w.heap.size = c.size := by
  unfold bsize; rw [heap_alloc_new]

end
end Go.VX

/- Slice literals, make, append, copy, texts and bytes. -/
namespace Go.VX
open Go.RowKit
set_option linter.unusedVariables false
set_option linter.unusedSimpArgs false

def bytesV (s : ByteArray) : List V := s.data.toList.map fun b => .int .u8 (b.toNat : Int)

/-- What is appended or copied: how many, and the cells. -/
def rdX (ob : List Ob) : V → Option (Prop × Nat × List V)
  | .str s => some (True, s.size, bytesV s)
  | x => rdS ob x

section
variable {P : Program} {T : Nat → Option TI} {w : World} {Φ : Nat → Prop} {H : Nat → Option Nat} {ob : List Ob}

theorem VReps.replicate {q : Fl} {E : Env} {zc : List V} {zs : List Value} (h : VReps q E zc zs) : ∀ n, VReps q E (List.replicate n zc).flatten (List.replicate n zs).flatten
  | 0 => by simp [VReps]
  | n + 1 => by
    simp only [List.replicate_succ, List.flatten_cons]
    exact h.append (VReps.replicate h n)

theorem zeros_rep {E : Env} {zc : List V} {z : Array Value} (h : VReps .cell E zc z.toList) (n : Nat) : VReps .cell E (zerosV zc n) (madeCells z (n * z.size)).toList := by
  rw [zerosV_eq]
  have e : (madeCells z (n * z.size)).toList = (List.replicate n z.toList).flatten := by
    apply List.ext_getElem?
    intro j
    have hlen : (madeCells z (n * z.size)).size = n * z.size := size_madeCells z _
    have hfl : ∀ n, ((List.replicate n z.toList).flatten).length = n * z.size := fun n => by simp
    rcases Nat.lt_or_ge j (n * z.size) with hj | hj
    · have hz : 0 < z.size := by
        rcases Nat.eq_zero_or_pos z.size with q | q
        · rw [q] at hj; simp at hj
        · exact q
      have hr : ∀ n j, j < n * z.size → ((List.replicate n z.toList).flatten)[j]? = z.toList[j % z.size]? := by
        intro n
        induction n with
        | zero => intro j hj; simp at hj
        | succ n ih =>
          intro j hj
          simp only [List.replicate_succ, List.flatten_cons]
          rcases Nat.lt_or_ge j z.size with q | q
          · rw [List.getElem?_append_left (by simpa using q), Nat.mod_eq_of_lt q]
          · rw [List.getElem?_append_right (by simpa using q)]
            simp only [Array.length_toList]
            have hq : j - z.size < n * z.size := by rw [Nat.succ_mul] at hj; omega
            rw [ih _ hq]
            congr 1
            exact (Nat.mod_eq_sub_mod q).symm
      rw [hr n j hj]
      have hm : j % z.size < z.size := Nat.mod_lt _ hz
      simp [madeCells, hj, hm]
    · rw [List.getElem?_eq_none (by simp only [Array.length_toList]; omega), List.getElem?_eq_none (by rw [hfl]; omega)]
  rw [e]
  exact h.replicate n

theorem buildSlice_sound (hT : TabOK P T) (hs : HSim Φ H ob w) {t e : Nat} {it ie : TI} (ht : T t = some it) (hk : it.k = .slice e) (he : T e = some ie) {n : Nat} {parts : List (Nat × V)} {vals : Array (Nat × Value)}
    (h1 : parts.map (·.1) = vals.toList.map (·.1)) (h2 : VReps .any (mkE Φ H ob w) (parts.map (·.2)) (vals.toList.map (·.2))) {p : Prop} {cs : List V}
    (h : vfill (fun i => some (i * ie.size, ie.size)) (zerosV ie.zero.cells n) parts = some (p, cs)) (hp : p) (hbig : n * ie.size ≤ 16777216) (hcl : cs.length = n * ie.size) :
    ∃ u w' H', (Instr.buildSlice t n vals).run P w = .ok u w' ∧ HStep Φ H ob w Φ H' (ob ++ [.live cs]) w' ∧ VRep (mkE Φ H' (ob ++ [.live cs]) w') (.sl ob.length cs.length ie.size 0 n) u := by
  obtain ⟨info, d, zq, f1, f2, f3, f4, _⟩ := hT t it ht
  obtain rfl := kindOf_slice (f3.trans hk)
  obtain ⟨info2, d2, zq2, g1, g2, g3, g4, _⟩ := hT e ie he
  obtain ⟨info', z, e1, e2, e3, e4, e5⟩ := zero_rep hT he (mkE Φ H ob w)
  have hz := zeros_rep e3 n
  rw [e4] at hz
  obtain ⟨arr', k1, k2⟩ := fill_sound h1 h2 hz h hp
  have hl := k2.length
  simp only [Array.length_toList] at hl
  have hsz := run_sizeOf_tab (P := P) (w := w) g1
  rw [g4] at hsz
  refine ⟨.slice (some ⟨w.heap.size, 0, none⟩) n n, _, _, ?_, HStep.alloc hs arr' e (by omega) (by rw [List.take_of_length_le (by simp; omega)]; exact k2), sl_new _ _ _ _ _ _ (by omega) (Nat.le_refl _) (by rw [bsize_alloc]; omega)⟩
  have hn : ¬ (n * ie.size > 2 ^ 24) := by omega
  by_cases h0 : n * ie.size = 0
  · have k1' : Instr.fill (fun i => some (i * ie.size, ie.size)) #[] vals.toList = some arr' := by
      rw [h0] at k1
      have hm : madeCells z.cells 0 = #[] := by simp [madeCells, Array.range_zero']
      rwa [hm] at k1
    simp [Instr.buildSlice, run_underlying f2, hsz, hn, h0, Array.range_zero', k1', newRow]
  · have k1' : Instr.fill (fun i => some (i * ie.size, ie.size)) ((Array.range (n * ie.size)).map (z.cells[· % z.cells.size]!)) vals.toList = some arr' := k1
    simp [Instr.buildSlice, run_underlying f2, hsz, hn, h0, zeroValue, typeInfo, e1, e2, k1', newRow]

theorem makeSlice_sound (hT : TabOK P T) (hs : HSim Φ H ob w) {t e : Nat} {it ie : TI} (ht : T t = some it) (hk : it.k = .slice e) (he : T e = some ie) {kl kc : IntKind} {l c : Int}
    (h0 : 0 ≤ l) (h1 : l ≤ c) (h2 : (ie.bytes : Int) * c ≤ 140737488355328) (h3 : c ≤ 140737488355328) :
    ∃ u w' H', (Instr.makeSlice t (.int kl l) (.int kc c)).run P w = .ok u w' ∧ HStep Φ H ob w Φ H' (ob ++ [.live (zerosV ie.zero.cells l.toNat)]) w' ∧
      VRep (mkE Φ H' (ob ++ [.live (zerosV ie.zero.cells l.toNat)]) w') (.sl ob.length (zerosV ie.zero.cells l.toNat).length ie.size 0 l.toNat) u := by
  obtain ⟨info, d, zq, f1, f2, f3, f4, _⟩ := hT t it ht
  obtain rfl := kindOf_slice (f3.trans hk)
  obtain ⟨info2, d2, zq2, g1, g2, g3, g4, g5, _⟩ := hT e ie he
  obtain ⟨info', z, e1, e2, e3, e4, e5⟩ := zero_rep hT he (mkE Φ H ob w)
  obtain rfl : info2 = info' := by rw [g1] at e1; exact Option.some.inj e1
  have hr := run_make (P := P) w t e info2 z f2 g1 e2 kl kc l c h0 h1 (by rw [g5]; omega) (by omega)
  have hz := zeros_rep e3 c.toNat
  have hlen : (zerosV ie.zero.cells l.toNat).length = l.toNat * ie.size := by rw [zerosV_eq]; simp [e5]
  have hle : l.toNat * ie.size ≤ c.toNat * ie.size := Nat.mul_le_mul_right _ (by omega)
  rw [e4] at hz
  rw [g4] at hr
  refine ⟨_, _, _, hr, HStep.alloc hs _ e (by rw [size_madeCells, hlen]; exact hle) ?_, sl_new _ _ _ _ _ _ hlen.symm (by omega) (by rw [bsize_alloc, size_madeCells]; exact Nat.le_refl _)⟩
  have := hz.take (l.toNat * ie.size)
  rw [hlen]
  have e : (zerosV ie.zero.cells c.toNat).take (l.toNat * ie.size) = zerosV ie.zero.cells l.toNat := by
    rw [zerosV_eq, zerosV_eq]
    obtain ⟨k, hk⟩ : ∃ k, c.toNat = l.toNat + k := ⟨c.toNat - l.toNat, by omega⟩
    rw [hk, ← List.replicate_append_replicate, List.flatten_append, List.take_append_of_le_length (by simp [e5]), List.take_of_length_le (by simp [e5])]
  rwa [e] at this

theorem bytes_rep (E : Env) (s : ByteArray) : VReps .cell E (bytesV s) (s.data.toList.map fun b => Value.int .u8 (b.toNat : Int)) := by
  unfold bytesV
  induction s.data.toList with
  | nil => simp [VReps]
  | cons b l ih => exact ⟨_, _, rfl, rfl, rfl, ih⟩

/-- What is appended: how long it is, and its cells. -/
theorem rdX_run (hs : HSim Φ H ob w) {y : V} {v : Value} (hy : VRep (mkE Φ H ob w) y v) {p : Prop} {m : Nat} {ys : List V} (h : rdX ob y = some (p, m, ys)) (hp : p) (size : Nat) (hl : ys.length = m * size) :
    ∃ us, VReps .cell (mkE Φ H ob w) ys us ∧ (∀ w' : World, (Builtin.lenOf v).run P w' = .ok m w') ∧ (∀ (w' : World), w'.heap = w.heap → (Builtin.firstCells size m v).run P w' = .ok us.toArray w') ∧
      (∀ k, k ≤ m → ∀ (w' : World), w'.heap = w.heap → (Builtin.firstCells size k v).run P w' = .ok (us.take (k * size)).toArray w') := by
  by_cases hstr : ∃ s, y = .str s
  · obtain ⟨s, rfl⟩ := hstr
    simp only [VRep] at hy; subst hy
    simp only [rdX, Option.some.injEq, Prod.mk.injEq] at h
    obtain ⟨_, rfl, rfl⟩ := h
    have hb := bytes_rep (mkE Φ H ob w) s
    have hlen : (bytesV s).length = s.size := by simp [bytesV]
    have key : ∀ k, k ≤ s.size → ∀ w' : World, (Builtin.firstCells size k (.string s)).run P w' = .ok (((s.data.toList.map fun b => Value.int .u8 (b.toNat : Int)).take (k * size)).toArray) w' := by
      intro k hk w'
      have hsz : size = 1 ∨ s.size = 0 := by
        rw [hlen] at hl
        rcases Nat.eq_zero_or_pos s.size with q | q
        · exact .inr q
        · left
          have : s.size * size = s.size * 1 := by omega
          exact Nat.eq_of_mul_eq_mul_left q this
      simp only [Builtin.firstCells, Sem.run_pure]
      congr 1
      apply Array.ext'
      simp only [Array.toList_map]
      rcases hsz with rfl | h0
      · simp [ByteArray.data_extract, List.extract_eq_take_drop]
      · have : s.data.toList = [] := by
          have : s.data.size = 0 := h0
          rw [← Array.length_toList] at this
          exact List.eq_nil_of_length_eq_zero this
        simp [ByteArray.data_extract, this]
    refine ⟨_, hb, fun w' => rfl, fun w' _ => ?_, fun k hk w' _ => key k hk w'⟩
    have := key s.size (Nat.le_refl _) w'
    rw [List.take_of_length_le] at this
    · exact this
    · rw [List.length_map, ← hl, hlen]; exact Nat.le_refl _
  · have h' : rdS ob y = some (p, m, ys) := by
      cases y <;> first | exact h | exact absurd ⟨_, rfl⟩ hstr
    obtain ⟨ad, cap, us, rfl, hc, hv, hu⟩ := rdS_sound hs hy h' hp
    have hul := hv.length
    have key : ∀ k, k ≤ m → ∀ w' : World, w'.heap = w.heap → (Builtin.firstCells size k (.slice ad m cap)).run P w' = .ok (us.take (k * size)).toArray w' := by
      intro k hk w' hw
      cases ad with
      | none =>
        have : us = [] := by
          rcases Nat.eq_zero_or_pos us.length with q | q
          · exact List.eq_nil_of_length_eq_zero q
          · obtain ⟨b, o, e, _⟩ := hu q; cases e
        subst this
        simp [Builtin.firstCells]
      | some a =>
        have hle : k * size ≤ us.length := by rw [← hul, hl]; exact Nat.mul_le_mul_right _ hk
        have := run_firstCells_some (P := P) w' size k a m cap (us.take (k * size)) (by simp; omega) fun j v hj => by
          have hj' : j < k * size ∧ us[j]? = some v := by
            rw [List.getElem?_take] at hj
            split at hj
            · exact ⟨by assumption, hj⟩
            · simp at hj
          have hlt : j < us.length := by omega
          obtain ⟨b, o, e, hr⟩ := hu (by omega)
          obtain rfl := Option.some.inj e
          rw [addr_add, cell?_of_heap (w := w) (by rw [hw]), hr j hlt]
          exact hj'.2
        exact this
    refine ⟨us, hv, fun w' => rfl, fun w' hw => ?_, key⟩
    have := key m (Nat.le_refl _) w' hw
    rwa [List.take_of_length_le (by omega)] at this


/-- Behind a growth: the new row. -/
theorem grown_row (hs : HSim Φ H ob w) {zs xs us : List Value} {cs ys : List V} {e : TypeId} {need cap size : Nat} {z : Array Value} (hx : VReps .cell (mkE Φ H ob w) cs xs) (hy : VReps .cell (mkE Φ H ob w) ys us)
    (hlen : cs.length + ys.length = need * size) (hz : z.size = size) (hcap : need ≤ cap) :
    (xs.toArray ++ us.toArray ++ Builtin.zeroCells z (cap - need)).size = cap * size ∧
    VReps .cell (mkE Φ H ob w) (cs ++ ys) ((xs.toArray ++ us.toArray ++ Builtin.zeroCells z (cap - need)).toList.take (cs ++ ys).length) := by
  have h1 := hx.length
  have h2 := hy.length
  refine ⟨?_, ?_⟩
  · simp only [Array.size_append, List.size_toArray, size_zeroCells, hz, ← h1, ← h2, hlen]
    rw [← Nat.add_mul]
    congr 1
    omega
  · have : (xs.toArray ++ us.toArray ++ Builtin.zeroCells z (cap - need)).toList.take (cs ++ ys).length = xs ++ us := by
      simp only [Array.toList_append, List.length_append]
      rw [List.take_append_of_le_length (by simp; omega), List.take_of_length_le (by simp; omega)]
    rw [this]
    exact hx.append hy

/-- What is behind an append, from what is put. -/
def vappendC (ie : TI) (ob : List Ob) (x : V) (p : Prop) (m : Nat) (ys : List V) : Option (Prop × V × List Ob) :=
  if 0 < ie.size ∧ 0 < ie.bytes then
    match x with
    | .nils => some (p ∧ ys.length = m * ie.size ∧ m * ie.bytes ≤ 140737488355328, .sl ob.length ys.length ie.size 0 m, ob ++ [.live ys])
    | .sl id tot esz off n => match ob[id]? with
      | some (.live cs) => if esz = ie.size then
          if off + n * esz < tot then some (p ∧ ys.length = m * ie.size ∧ cs.length = tot ∧ off + (n + m) * esz ≤ tot, .sl id tot esz off (n + m), ob.set id (.live (spl cs (off + n * esz) ys)))
          else some (p ∧ ys.length = m * ie.size ∧ cs.length = tot ∧ off = 0 ∧ tot = n * esz ∧ (n + m) * ie.bytes ≤ 140737488355328, .sl id ((n + m) * esz) esz 0 (n + m), ob.set id (.live (cs ++ ys)))
        else none
      | _ => none
    | _ => none
  else none
def vappend (T : Nat → Option TI) (ob : List Ob) (t : Nat) (x y : V) : Option (Prop × V × List Ob) :=
  match T t with
  | some ⟨.slice e, _, _, _⟩ => match T e, rdX ob y with
    | some ie, some (p, m, ys) => vappendC ie ob x p m ys
    | _, _ => none
  | _ => none
/-- .. of so many zeros. -/
def vappendZ (T : Nat → Option TI) (ob : List Ob) (t : Nat) (x : V) (n : Int) : Option (Prop × V × List Ob) :=
  match T t with
  | some ⟨.slice e, _, _, _⟩ => match T e with
    | some ie => vappendC ie ob x (0 ≤ n ∧ n ≤ 140737488355328 ∧ n * ie.bytes ≤ 140737488355328) n.toNat (zerosV ie.zero.cells n.toNat)
    | none => none
  | _ => none

/-- The header of an object that has been changed. -/
theorem sl_set (w' : World) {i : Nat} (hi : i < ob.length) (cs : List V) (x : Option Nat) (esz n : Nat) (v : Value) (ho : v.oneCell' = true) (h : SlV w' x cs.length esz 0 n v) :
    VRep (mkE Φ (upd H i x) (ob.set i (.live cs)) w') (.sl i cs.length esz 0 n) v :=
  ⟨ho, by simpa [mkE] using hi, fun T' hT' => by
    have : T' = cs.length := by
      have h2 : Lof (ob.set i (Ob.live cs)) i = some cs.length := by simp [Lof, Ob.len, hi]
      rw [show (mkE Φ (upd H i x) (ob.set i (.live cs)) w').L i = Lof (ob.set i (Ob.live cs)) i from rfl, h2] at hT'
      exact (Option.some.inj hT').symm
    refine ⟨by omega, fun _ => ?_⟩
    simpa [mkE] using h⟩

set_option maxHeartbeats 2000000 in
theorem run_append_grow' {t t2 ty e : Nat} {d3 : TypeDesc} {info2 : TypeInfo} {z u : Value} {n old m : Nat} {ad : Option Addr} {xs us : List Value}
    (f2 : P.underlying t = some (.slice e)) (hd3 : P.underlying t2 = some d3) (hni : ∀ k, d3 ≠ .int k) (g1 : P.info? e = some info2) (e2 : info2.zero = some z)
    (hlen : (Builtin.lenOf u).run P w = .ok m w) (hfo : (Builtin.firstCells info2.size n (.slice ad n old)).run P w.drew = .ok xs.toArray w.drew) (hfn : (Builtin.firstCells info2.size m u).run P w.drew = .ok us.toArray w.drew)
    (hn' : ¬ (n + m ≤ old)) (h63 : ¬ (9223372036854775807 < ((n : Int) + (m : Int)))) (h48 : ¬ (281474976710656 < Builtin.nextslicecap (n + m) old * info2.bytes)) :
    (Builtin.append_ #[t, t2] ty #[.slice ad n old, u]).run P w = .ok (.slice (some ⟨w.heap.size, 0, none⟩) (n + m) (grownCap w (n + m) old e)) (w.drew.alloc (.cells (xs.toArray ++ us.toArray ++ Builtin.zeroCells z.cells (grownCap w (n + m) old e - (n + m))) e)) := by
  cases d3 <;> first
    | exact absurd rfl (hni _)
    | (simp [Builtin.append_, run_underlying f2, run_underlying hd3, sizeOf, typeInfo, zeroValue, g1, e2, hlen, hn', h63, h48, Question.forced, hfo, hfn, newRow, grownCap]
       congr 2
       apply Array.ext'
       simp [List.append_assoc])

set_option maxHeartbeats 2000000 in
theorem run_append_room' {t t2 ty e : Nat} {d3 : TypeDesc} {info2 : TypeInfo} {u : Value} {n cap m b o : Nat} {us : List Value} {w' : World}
    (f2 : P.underlying t = some (.slice e)) (hd3 : P.underlying t2 = some d3) (hni : ∀ k, d3 ≠ .int k) (g1 : P.info? e = some info2)
    (hlen : (Builtin.lenOf u).run P w = .ok m w) (hfn : (Builtin.firstCells info2.size m u).run P w = .ok us.toArray w) (hroom : n + m ≤ cap)
    (hst : (storeCells ((⟨b, o, none⟩ : Addr).add (n * info2.size)) us).run P w = .ok () w') :
    (Builtin.append_ #[t, t2] ty #[.slice (some ⟨b, o, none⟩) n cap, u]).run P w = .ok (.slice (some ⟨b, o, none⟩) (n + m) cap) w' := by
  cases d3 <;> first
    | exact absurd rfl (hni _)
    | simp [Builtin.append_, run_underlying f2, run_underlying hd3, sizeOf, typeInfo, g1, hlen, hroom, hfn, hst]

set_option maxHeartbeats 2000000 in
theorem run_append_none' {t t2 ty e : Nat} {d3 : TypeDesc} {info2 : TypeInfo} {u : Value}
    (f2 : P.underlying t = some (.slice e)) (hd3 : P.underlying t2 = some d3) (hni : ∀ k, d3 ≠ .int k) (g1 : P.info? e = some info2)
    (hlen : (Builtin.lenOf u).run P w = .ok 0 w) (hfn : (Builtin.firstCells info2.size 0 u).run P w = .ok #[] w) :
    (Builtin.append_ #[t, t2] ty #[.slice none 0 0, u]).run P w = .ok (.slice none 0 0) w := by
  cases d3 <;> first
    | exact absurd rfl (hni _)
    | simp [Builtin.append_, run_underlying f2, run_underlying hd3, sizeOf, typeInfo, g1, hlen, hfn]

theorem append_core (hs : HSim Φ H ob w) {t t2 ty e : Nat} {x : V} {v u : Value} {z : Value} (hx : VRep (mkE Φ H ob w) x v) {ie : TI} {p' : Prop} {m : Nat} {ys : List V} (e4 : z.cells.size = ie.size) {p : Prop} {r : V} {ob' : List Ob} (h : vappendC ie ob x p' m ys = some (p, r, ob')) (hp : p)
    (K : 0 < ie.size ∧ 0 < ie.bytes → p' → ys.length = m * ie.size → ∃ us : List Value, VReps .cell (mkE Φ H ob w) ys us ∧
      (∀ (n old : Nat) (xs : List Value) (cs : List V) (a : Option Addr), VReps .cell (mkE Φ H ob w) cs xs → cs.length = n * ie.size → (n + m) * ie.bytes ≤ 140737488355328 → old < n + m → (∀ w' : World, w'.heap = w.heap → (Builtin.firstCells ie.size n (.slice a n old)).run P w' = .ok xs.toArray w') →
        ∃ cap, n + m ≤ cap ∧ (Builtin.append_ #[t, t2] ty #[.slice a n old, u]).run P w = .ok (.slice (some ⟨w.heap.size, 0, none⟩) (n + m) cap) (w.drew.alloc (.cells (xs.toArray ++ us.toArray ++ Builtin.zeroCells z.cells (cap - (n + m))) e))) ∧
      (∀ (n cap b o : Nat) (cur : Array Value) (el : TypeId), w.heap[b]? = some (.cells cur el (0, 0)) → n + m ≤ cap → o + cap * ie.size ≤ cur.size →
        (Builtin.append_ #[t, t2] ty #[.slice (some ⟨b, o, none⟩) n cap, u]).run P w = .ok (.slice (some ⟨b, o, none⟩) (n + m) cap) (w.setRow b (cur.toList.take (o + n * ie.size) ++ us ++ cur.toList.drop (o + n * ie.size + us.length)).toArray)) ∧
      (m = 0 → (Builtin.append_ #[t, t2] ty #[.slice none 0 0, u]).run P w = .ok (.slice none 0 0) w)) :
    ∃ q w' H', (Builtin.append_ #[t, t2] ty #[v, u]).run P w = .ok q w' ∧ HStep Φ H ob w Φ H' ob' w' ∧ VRep (mkE Φ H' ob' w') r q := by
  unfold vappendC at h
  split at h
  case isFalse => cases h
  rename_i hpos
  split at h
  · -- nil
    simp only [VRep] at hx; subst hx
    simp only [Option.some.injEq, Prod.mk.injEq] at h
    obtain ⟨rfl, rfl, rfl⟩ := h
    obtain ⟨hp', hl, hb⟩ := hp
    obtain ⟨us, hv, grow, room, hN⟩ := K hpos hp' hl
    rcases Nat.eq_zero_or_pos m with hm | hm
    · subst hm
      have hys : ys = [] := List.eq_nil_of_length_eq_zero (by omega)
      subst hys
      have hus : us = [] := List.eq_nil_of_length_eq_zero (by rw [← hv.length]; rfl)
      subst hus
      refine ⟨.slice none 0 0, w, upd H ob.length none, ?_, ?_, ?_⟩
      · exact hN rfl
      · exact HStep.ofPush hs rfl rfl rfl (fun _ _ => rfl) (Nat.le_refl _) (fun b hb => by cases hb) (fun E' _ _ _ => rfl)
      · refine ⟨rfl, by simp [mkE], fun T' hT' => ?_⟩
        have h2 : Lof (ob ++ [Ob.live ([] : List V)]) ob.length = some 0 := by simp [Lof, Ob.len]
        rw [show (mkE Φ (upd H ob.length none) (ob ++ [.live []]) w).L ob.length = Lof (ob ++ [Ob.live []]) ob.length from rfl, h2] at hT'
        exact ⟨by simp, fun _ => by simp [mkE, SlV]⟩
    · obtain ⟨cap, hcap, hr⟩ := grow 0 0 [] [] none (by simp [VReps]) (by simp) (by simpa using hb) (by omega) (fun w' _ => by simp [Builtin.firstCells])
      simp only [Nat.zero_add] at hcap hr
      have hs' := (hs.same (w' := w.drew) rfl).1
      obtain ⟨q1, q2⟩ := grown_row (need := m) (cap := cap) (size := ie.size) (z := z.cells) hs' (e := e) (zs := []) (show VReps .cell (mkE Φ H ob w.drew) [] [] by simp [VReps]) (VReps.ext (hs.same (w' := w.drew) rfl).2 _ _ hv) (by simpa using hl) e4 hcap
      refine ⟨_, _, _, hr, (HStep.same (w' := w.drew) hs rfl rfl rfl rfl).trans (HStep.alloc hs' _ e (cs := ys) (by rw [q1]; have := Nat.mul_le_mul_right ie.size hcap; omega) (by simpa using q2)), sl_new _ _ _ _ _ _ hl.symm hcap (by rw [bsize_alloc, q1]; exact Nat.le_refl _)⟩
  · rename_i id tot esz off n
    split at h
    case h_2 => cases h
    rename_i cs ho
    split at h
    case isFalse => cases h
    rename_i hesz
    split at h
    · -- in place
      rename_i hlt
      simp only [Option.some.injEq, Prod.mk.injEq] at h
      obtain ⟨rfl, rfl, rfl⟩ := h
      obtain ⟨hp', hl, hct, hfit0⟩ := hp
      subst hesz
      obtain ⟨us, hv, grow, room, hN⟩ := K hpos hp' hl
      have hidlt : id < ob.length := (List.getElem?_eq_some_iff.1 ho).1
      obtain ⟨k0, k1, k2⟩ := hx
      obtain ⟨_, hh⟩ := k2 cs.length (by simp [mkE, Lof, ho, Ob.len])
      have hsl := hh hct.symm
      simp only [mkE] at hsl
      have hob := hs.rep id _ ho
      have hul := hv.length
      cases hH : H id with
      | none =>
        rw [hH] at hsl
        obtain ⟨e1, _, e3, _⟩ := hsl
        omega
      | some b =>
        rw [hH] at hsl hob
        obtain ⟨cap, rfl, e2, e3, e4', e5'⟩ := hsl
        obtain ⟨c, el, b1, b2, b3, b4⟩ := hob
        have b1' : w.heap[b]? = some (.cells c el (0, 0)) := b1
        have hbs : off + cap * ie.size ≤ c.size := by simpa [bsize, b1'] using e4'
        have hroom : n + m ≤ cap := by
          have := e5' (by omega)
          refine Nat.le_of_mul_le_mul_right (c := ie.size) ?_ hpos.1
          omega
        have hr := room n cap b off c el b1' hroom hbs
        have hfit : off + n * ie.size + ys.length ≤ cs.length := by rw [hl, Nat.add_assoc, ← Nat.add_mul]; omega
        obtain ⟨cur, el2, q1, q2, q3⟩ := HStep.write hs ho hH (off := off + n * ie.size) hv hfit
        obtain ⟨rfl, rfl⟩ : c = cur ∧ el = el2 := by
          rw [b1'] at q1
          simpa using q1
        refine ⟨_, _, _, hr, q3, ?_⟩
        have hlen3 := spl_length hfit
        refine ⟨rfl, by simpa [mkE] using hidlt, fun T' hT' => ?_⟩
        have hT2 : T' = cs.length := by
          have h2 : Lof (ob.set id (Ob.live (spl cs (off + n * ie.size) ys))) id = some cs.length := by simp [Lof, Ob.len, hidlt, hlen3]
          change Lof (ob.set id (Ob.live (spl cs (off + n * ie.size) ys))) id = some T' at hT'
          rw [h2] at hT'
          exact (Option.some.inj hT').symm
        refine ⟨by omega, fun _ => ?_⟩
        simp only [mkE, upd_same, hH, SlV]
        refine ⟨cap, rfl, hroom, hfit0, ?_, fun _ => e5' (by omega)⟩
        simp only [bsize, setRow_heap w b c _ el _ b1']
        simp; omega
    simp only [Option.some.injEq, Prod.mk.injEq] at h
    obtain ⟨rfl, rfl, rfl⟩ := h
    obtain ⟨hp', hl, hct, hoff0, htn, hb⟩ := hp
    subst hoff0
    subst hesz
    rename_i hnlt
    have htm : (n + m) * ie.size = tot + ys.length := by rw [htn, hl, Nat.add_mul]
    rw [htm]
    obtain ⟨us, hv, grow, room, hN⟩ := K hpos hp' hl
    have hidlt : id < ob.length := (List.getElem?_eq_some_iff.1 ho).1
    obtain ⟨k0, k1, k2⟩ := hx
    obtain ⟨_, hh⟩ := k2 cs.length (by simp [mkE, Lof, ho, Ob.len])
    have hsl := hh hct.symm
    simp only [mkE] at hsl
    have hob := hs.rep id _ ho
    have hul := hv.length
    have hs' := (hs.same (w' := w.drew) rfl).1
    have hE' := (hs.same (w' := w.drew) rfl).2
    have hlen2 : (cs ++ ys).length = tot + ys.length := by simp [hct]
    -- what a growth makes of it
    have fin : ∀ (xs : List Value) (a : Option Addr) (old : Nat), VReps .cell (mkE Φ H ob w) cs xs → v = .slice a n old → old < n + m → (∀ w' : World, w'.heap = w.heap → (Builtin.firstCells ie.size n (.slice a n old)).run P w' = .ok xs.toArray w') →
        ∃ q w' H', (Builtin.append_ #[t, t2] ty #[v, u]).run P w = .ok q w' ∧ HStep Φ H ob w Φ H' (ob.set id (.live (cs ++ ys))) w' ∧ VRep (mkE Φ H' (ob.set id (.live (cs ++ ys))) w') (.sl id (tot + ys.length) ie.size 0 (n + m)) q := by
      intro xs a old hxs hva hold hfo
      subst hva
      obtain ⟨cap, hcap, hr⟩ := grow n old xs cs a hxs (by omega) hb hold hfo
      obtain ⟨q1, q2⟩ := grown_row (need := n + m) (cap := cap) (size := ie.size) (z := z.cells) hs' (e := e) (zs := []) (VReps.ext hE' _ _ hxs) (VReps.ext hE' _ _ hv) (by rw [hct, htn, hl, Nat.add_mul]) e4 hcap
      have hst : HStep Φ H ob w.drew Φ (upd H id (some w.heap.size)) (ob.set id (.live (cs ++ ys))) (w.drew.alloc (.cells (xs.toArray ++ us.toArray ++ Builtin.zeroCells z.cells (cap - (n + m))) e)) := by
        refine HStep.ofChange hs' ho rfl rfl rfl rfl (fun k hk _ => Below.heap_alloc w.drew _ k hk) (by simp) (fun _ h => h) (fun _ h => .inl h) (fun b hb => .inr (by simp at hb; simp [← hb])) (fun T' hT' => ?_) (fun E' hE hw hΦ => ?_)
        · simp only [Ob.len, Option.some.injEq] at hT'
          refine ⟨cs.length, rfl, by rw [← hT', hlen2, hct]; omega, fun e => ?_⟩
          exfalso
          rw [← hT', hlen2, hct, hl] at e
          have hm : 0 < m := by
            rcases Nat.eq_zero_or_pos m with q | q
            · exfalso
              subst q
              -- the room was there
              cases hH : H id with
              | none =>
                rw [hH] at hsl
                obtain ⟨_, _, rfl, _⟩ := hsl
                omega
              | some b =>
                rw [hH] at hsl
                obtain ⟨cap', e1, e2, _⟩ := hsl
                simp only [Value.slice.injEq] at e1
                omega
            · exact q
          have := Nat.mul_pos hm hpos.1
          omega
        · refine ⟨_, e, by rw [hw]; exact heap_alloc_new w.drew _, ?_, by rw [q1, hlen2, htn, hl, ← Nat.add_mul]; exact Nat.mul_le_mul_right _ hcap, VReps.ext hE _ _ q2⟩
          rw [hΦ]
          exact fun hp => absurd (hs.phi _ hp) (Nat.lt_irrefl _)
      refine ⟨_, _, _, hr, (HStep.same (w' := w.drew) hs rfl rfl rfl rfl).trans hst, ?_⟩
      rw [← hlen2]
      refine sl_set _ hidlt _ _ _ _ _ rfl ?_
      refine ⟨cap, rfl, hcap, by rw [hlen2, htn, hl, Nat.add_mul]; omega, ?_, fun _ => ?_⟩
      · rw [show w.heap.size = w.drew.heap.size from rfl, bsize_alloc, q1]
        omega
      · have := Nat.mul_le_mul_right ie.size hcap
        rw [hlen2]; omega
    cases hH : H id with
    | none =>
      rw [hH] at hsl hob
      obtain ⟨e1, _, e3, rfl⟩ := hsl
      simp only [ObRep] at hob
      subst hob
      subst e3
      rcases Nat.eq_zero_or_pos m with hm | hm
      · subst hm
        have hys : ys = [] := List.eq_nil_of_length_eq_zero (by omega)
        subst hys
        have hus : us = [] := List.eq_nil_of_length_eq_zero (by rw [← hul]; rfl)
        subst hus
        simp only [List.length_nil] at hct
        subst hct
        refine ⟨.slice none 0 0, w, H, ?_, ?_, ?_⟩
        · exact hN rfl
        · have : ob.set id (.live ([] ++ [])) = ob := by
            apply List.ext_getElem?
            intro j
            by_cases hj : id = j
            · subst hj; rw [ho]; simp [hidlt]
            · simp [List.getElem?_set_ne hj]
          rw [this]
          exact HStep.refl hs
        · have : ob.set id (.live ([] ++ [])) = ob := by
            apply List.ext_getElem?
            intro j
            by_cases hj : id = j
            · subst hj; rw [ho]; simp [hidlt]
            · simp [List.getElem?_set_ne hj]
          rw [this]
          refine ⟨rfl, k1, fun T' hT' => ⟨by simp, fun _ => ?_⟩⟩
          simp only [mkE, hH, SlV]
          simp
      · exact fin [] none 0 (by simp [VReps]) rfl (by omega) (fun w' _ => by simp [Builtin.firstCells])
    | some b =>
      rw [hH] at hsl hob
      obtain ⟨cap, rfl, e2, e3, e4', e5'⟩ := hsl
      obtain ⟨c, el, b1, b2, b3, b4⟩ := hob
      have b1' : w.heap[b]? = some (.cells c el (0, 0)) := b1
      have hbs : cap * ie.size ≤ c.size := by simpa [bsize, b1'] using e4'
      by_cases hroom : n + m ≤ cap
      · have hr := room n cap b 0 c el b1' hroom (by omega)
        simp only [Nat.zero_add] at hr
        have hfit : n * ie.size + us.length ≤ c.size := by rw [← hul, hl, ← Nat.add_mul]; exact Nat.le_trans (Nat.mul_le_mul_right _ hroom) hbs
        refine ⟨_, _, upd H id (some b), hr, ?_, ?_⟩
        · refine HStep.ofChange hs ho rfl rfl rfl rfl (fun k hk hn => setRow_other w b k _ (fun e => hn (by rw [e]; exact hH))) (by simp) (fun _ h => h) (fun _ h => .inl h) (fun b' hb' => .inl (by rw [hH]; exact hb')) (fun T' hT' => ?_) (fun E' hE hw hΦ => ?_)
          · simp only [Ob.len, Option.some.injEq] at hT'
            refine ⟨cs.length, rfl, by rw [← hT', hlen2, hct]; omega, fun _ => ⟨hH.symm, fun b' hb' => ?_⟩⟩
            rw [hH] at hb'
            obtain rfl := Option.some.inj hb'
            simp only [bsize, setRow_heap w b c _ el _ b1', b1']
            simp; omega
          · refine ⟨_, el, by rw [hw]; exact setRow_heap w b c _ el _ b1', by rw [hΦ]; exact b2, ?_, ?_⟩
            · simp only [List.size_toArray, List.length_append, List.length_take, List.length_drop, Array.length_toList]
              omega
            · have e : ((c.toList.take (n * ie.size) ++ us ++ c.toList.drop (n * ie.size + us.length)).toArray.toList).take (cs ++ ys).length = c.toList.take cs.length ++ us := by
                simp only [List.toList_toArray]
                rw [List.take_append_of_le_length (by simp; omega), List.take_of_length_le (by simp; omega), hct, htn]
              rw [e]
              exact VReps.ext hE _ _ (b4.append hv)
        · rw [← hlen2]
          refine sl_set _ hidlt _ _ _ _ _ rfl ?_
          refine ⟨cap, rfl, hroom, by rw [hlen2, htn, hl, Nat.add_mul]; omega, ?_, fun _ => ?_⟩
          · simp only [bsize, setRow_heap w b c _ el _ b1']
            simp; omega
          · have := Nat.mul_le_mul_right ie.size hroom
            rw [hlen2]; omega
      · refine fin (c.toList.take cs.length) (some ⟨b, 0, none⟩) cap b4 rfl (by omega) (fun w' hw => ?_)
        have := run_firstCells_some (P := P) w' ie.size n ⟨b, 0, none⟩ n cap (c.toList.take cs.length) (by simp; omega) fun j x hj => by
          rw [addr_add, cell?_of_heap (w := w) (by rw [hw])]
          have hrr := reads_row b1' 0 cs.length j (by
            have : j < (c.toList.take cs.length).length := (List.getElem?_eq_some_iff.1 hj).1
            simpa using this)
          rw [Nat.zero_add] at hrr ⊢
          rw [hrr]
          simpa using hj
        exact this
  · cases h

theorem append_sound (hT : TabOK P T) (hs : HSim Φ H ob w) {t t2 ty : Nat} {x y : V} {v u : Value} (hx : VRep (mkE Φ H ob w) x v) (hy : VRep (mkE Φ H ob w) y u)
    (ht2 : ∀ k, P.underlying t2 ≠ some (.int k)) (ht2' : (P.underlying t2).isSome = true) {p : Prop} {r : V} {ob' : List Ob} (h : vappend T ob t x y = some (p, r, ob')) (hp : p) :
    ∃ q w' H', (Builtin.append_ #[t, t2] ty #[v, u]).run P w = .ok q w' ∧ HStep Φ H ob w Φ H' ob' w' ∧ VRep (mkE Φ H' ob' w') r q := by
  unfold vappend at h
  split at h
  case h_2 => cases h
  rename_i e _ _ _ ht
  split at h
  case h_2 => cases h
  rename_i ie p' m ys hte hrd
  obtain ⟨info, d, zq, f1, f2, f3, f4, _⟩ := hT t _ ht
  obtain rfl := kindOf_slice f3
  obtain ⟨info2, d2, zq2, g1, g2, g3, g4, g5, _⟩ := hT e ie hte
  obtain ⟨info', z, e1, e2, e3, e4, e5⟩ := zero_rep hT hte (mkE Φ H ob w)
  obtain rfl : info2 = info' := by rw [g1] at e1; exact Option.some.inj e1
  obtain ⟨d3, hd3⟩ := Option.isSome_iff_exists.1 ht2'
  have hni : ∀ k, d3 ≠ .int k := fun k e => ht2 k (by rw [hd3, e])
  refine append_core (e := e) hs hx e4 h hp fun hpos hp' hl => ?_
  obtain ⟨us, hv, hlen, hfn, _⟩ := rdX_run (P := P) hs hy hrd hp' ie.size hl
  -- growth, from whatever was there
  have grow : ∀ (n old : Nat) (xs us : List Value) (cs : List V) (a : Option Addr), VReps .cell (mkE Φ H ob w) cs xs → VReps .cell (mkE Φ H ob w) ys us → cs.length = n * ie.size → ys.length = m * ie.size →
      (n + m) * ie.bytes ≤ 140737488355328 → old < n + m → (∀ w' : World, w'.heap = w.heap → (Builtin.firstCells ie.size n (.slice a n old)).run P w' = .ok xs.toArray w') →
      (∀ w' : World, (Builtin.lenOf u).run P w' = .ok m w') → (∀ w' : World, w'.heap = w.heap → (Builtin.firstCells ie.size m u).run P w' = .ok us.toArray w') →
      ∃ cap, n + m ≤ cap ∧ (Builtin.append_ #[t, t2] ty #[.slice a n old, u]).run P w = .ok (.slice (some ⟨w.heap.size, 0, none⟩) (n + m) cap) (w.drew.alloc (.cells (xs.toArray ++ us.toArray ++ Builtin.zeroCells z.cells (cap - (n + m))) e)) := by
    intro n old xs us cs a hcx hcy hl1 hl2 hb hold hfo hlen hfn
    refine ⟨grownCap w (n + m) old e, grownCap_ge _ _ _ _, ?_⟩
    have hnm : n + m ≤ 140737488355328 := Nat.le_trans (Nat.le_mul_of_pos_right _ hpos.2) hb
    have h63' : ¬ (9223372036854775807 < ((n : Int) + (m : Int))) := by omega
    have h48' : ¬ (281474976710656 < Builtin.nextslicecap (n + m) old * info2.bytes) := by rw [g5]; exact Nat.not_lt.2 (growslice_fits hold hb)
    have hn' : ¬ (n + m ≤ old) := by omega
    have hfo' := hfo w.drew rfl
    have hfn' := hfn w.drew rfl
    rw [← g4] at hfo' hfn'
    exact run_append_grow' f2 hd3 hni g1 e2 (hlen w) hfo' hfn' hn' h63' h48'
  have room : ∀ (n cap : Nat) (us : List Value) (b o : Nat) (cur : Array Value) (el : TypeId), w.heap[b]? = some (.cells cur el (0, 0)) → VReps .cell (mkE Φ H ob w) ys us → ys.length = m * ie.size → n + m ≤ cap → o + cap * ie.size ≤ cur.size →
      (∀ w' : World, (Builtin.lenOf u).run P w' = .ok m w') → (∀ w' : World, w'.heap = w.heap → (Builtin.firstCells ie.size m u).run P w' = .ok us.toArray w') →
      (Builtin.append_ #[t, t2] ty #[.slice (some ⟨b, o, none⟩) n cap, u]).run P w = .ok (.slice (some ⟨b, o, none⟩) (n + m) cap) (w.setRow b (cur.toList.take (o + n * ie.size) ++ us ++ cur.toList.drop (o + n * ie.size + us.length)).toArray) := by
    intro n cap us b o cur el hb hcy hl hroom hcs hlen hfn
    have hul := hcy.length
    have hfit : o + n * ie.size + us.length ≤ cur.size := by rw [← hul, hl, Nat.add_assoc, ← Nat.add_mul]; exact Nat.le_trans (Nat.add_le_add_left (Nat.mul_le_mul_right _ hroom) _) hcs
    have hfn' := hfn w rfl
    rw [← g4] at hfn'
    have hst := run_storeCells_at P b (o + n * ie.size) el us 0 cur w hb (by simpa using hfit) (VReps.one hcy)
    simp only [Nat.add_zero] at hst
    have hadd : (⟨b, o, none⟩ : Addr).add (n * info2.size) = ⟨b, o + n * ie.size, none⟩ := by rw [addr_add, g4]
    exact run_append_room' f2 hd3 hni g1 (hlen w) hfn' hroom (by rw [hadd]; exact hst)
  refine ⟨us, hv, fun n old xs cs a h1 h2 h3 h4 h5 => grow n old xs us cs a h1 hv h2 hl h3 h4 h5 hlen hfn, fun n cap b o cur el h1 h2 h3 => room n cap us b o cur el h1 hv hl h2 h3 hlen hfn, fun hm => ?_⟩
  have hfn' := hfn w rfl
  rw [← g4] at hfn'
  have hlw := hlen w
  rw [hm] at hlw hfn'
  have hus : us = [] := List.eq_nil_of_length_eq_zero (by rw [← hv.length, hl, hm, Nat.zero_mul])
  subst hus
  exact run_append_none' f2 hd3 hni g1 hlw hfn'

/-! ### Zeros put -/
set_option maxHeartbeats 2000000 in
theorem run_append_growZ {t t2 ty e : Nat} {k kk : IntKind} {info2 : TypeInfo} {z : Value} {n old m : Nat} {ad : Option Addr} {xs : List Value}
    (f2 : P.underlying t = some (.slice e)) (hd3 : P.underlying t2 = some (.int k)) (g1 : P.info? e = some info2) (e2 : info2.zero = some z) (hz : z.cells.size = info2.size) (hpos : 0 < info2.size)
    (hfo : (Builtin.firstCells info2.size n (.slice ad n old)).run P w.drew = .ok xs.toArray w.drew) (hm : m ≤ 140737488355328) (hmb : m * info2.bytes ≤ 140737488355328)
    (hn' : ¬ (n + m ≤ old)) (h63 : ¬ (9223372036854775807 < ((n : Int) + (m : Int)))) (h48 : ¬ (281474976710656 < Builtin.nextslicecap (n + m) old * info2.bytes)) :
    (Builtin.append_ #[t, t2] ty #[.slice ad n old, .int kk (m : Int)]).run P w = .ok (.slice (some ⟨w.heap.size, 0, none⟩) (n + m) (grownCap w (n + m) old e)) (w.drew.alloc (.cells (xs.toArray ++ Builtin.zeroCells z.cells m ++ Builtin.zeroCells z.cells (grownCap w (n + m) old e - (n + m))) e)) := by
  have hw : IntKind.i64.wrap (m : Int) = m := by rw [IntKind.wrap_i64]; omega
  have hneg : ¬ ((m : Int) < 0) := by omega
  have hbig : ¬ (281474976710656 < (m : Int) * (info2.bytes : Int)) := by
    have : ((m * info2.bytes : Nat) : Int) ≤ ((140737488355328 : Nat) : Int) := Int.ofNat_le.2 hmb
    rw [Int.natCast_mul] at this
    omega
  by_cases h0 : m = 0
  · subst h0
    have e0 : Builtin.zeroCells z.cells 0 = #[] := Array.eq_empty_of_size_eq_zero (by rw [size_zeroCells, Nat.zero_mul])
    have hw0 : IntKind.i64.wrap 0 = 0 := by simpa using hw
    have a1 : ¬ (n ≤ old) := by omega
    have a2 : ¬ (9223372036854775807 < (n : Int)) := by omega
    have a3 : ¬ (281474976710656 < Builtin.nextslicecap n old * info2.bytes) := by simpa using h48
    simp [Builtin.append_, run_underlying f2, run_underlying hd3, sizeOf, typeInfo, zeroValue, g1, e2, asInt, asIntOf, hw0, hfo, newRow, grownCap, e0, a1, a2, a3, Question.forced]
  · have h0' : ¬ (m * info2.size = 0) := Nat.mul_ne_zero h0 (by omega)
    simp [Builtin.append_, run_underlying f2, run_underlying hd3, sizeOf, typeInfo, zeroValue, g1, e2, asInt, asIntOf, hw, hneg, hbig, hn', h63, h48, Question.forced, hfo, newRow, grownCap, h0']

set_option maxHeartbeats 2000000 in
theorem run_append_roomZ {t t2 ty e : Nat} {k kk : IntKind} {info2 : TypeInfo} {z : Value} {n cap m b o : Nat} {w' : World}
    (f2 : P.underlying t = some (.slice e)) (hd3 : P.underlying t2 = some (.int k)) (g1 : P.info? e = some info2) (e2 : info2.zero = some z) (hz : z.cells.size = info2.size) (hpos : 0 < info2.size)
    (hm : m ≤ 140737488355328) (hmb : m * info2.bytes ≤ 140737488355328) (hroom : n + m ≤ cap)
    (hst : (storeCells ((⟨b, o, none⟩ : Addr).add (n * info2.size)) (Builtin.zeroCells z.cells m).toList).run P w = .ok () w') :
    (Builtin.append_ #[t, t2] ty #[.slice (some ⟨b, o, none⟩) n cap, .int kk (m : Int)]).run P w = .ok (.slice (some ⟨b, o, none⟩) (n + m) cap) w' := by
  have hw : IntKind.i64.wrap (m : Int) = m := by rw [IntKind.wrap_i64]; omega
  have hneg : ¬ ((m : Int) < 0) := by omega
  have hbig : ¬ (281474976710656 < (m : Int) * (info2.bytes : Int)) := by
    have : ((m * info2.bytes : Nat) : Int) ≤ ((140737488355328 : Nat) : Int) := Int.ofNat_le.2 hmb
    rw [Int.natCast_mul] at this
    omega
  by_cases h0 : m = 0
  · subst h0
    have e0 : Builtin.zeroCells z.cells 0 = #[] := Array.eq_empty_of_size_eq_zero (by rw [size_zeroCells, Nat.zero_mul])
    have hw0 : IntKind.i64.wrap 0 = 0 := by simpa using hw
    have hr0 : n ≤ cap := by omega
    have hst' : (storeCells ((⟨b, o, none⟩ : Addr).add (n * info2.size)) []).run P w = .ok () w' := by simpa [e0] using hst
    simp [Builtin.append_, run_underlying f2, run_underlying hd3, sizeOf, typeInfo, g1, asInt, asIntOf, hw0, hr0, hst']
  · have h0' : ¬ (m * info2.size = 0) := Nat.mul_ne_zero h0 (by omega)
    simp [Builtin.append_, run_underlying f2, run_underlying hd3, sizeOf, typeInfo, zeroValue, g1, e2, asInt, asIntOf, hw, hneg, hbig, hroom, h0', hst]

theorem zeroCells_rep {E : Env} {zs : List V} {z : Array Value} (h : VReps .cell E zs z.toList) (m : Nat) : VReps .cell E (zerosV zs m) (Builtin.zeroCells z m).toList := zeros_rep h m

theorem append_zero_sound (hT : TabOK P T) (hs : HSim Φ H ob w) {t t2 ty : Nat} {x : V} {v : Value} {k kk : IntKind} {n : Int} (hx : VRep (mkE Φ H ob w) x v)
    (hd3 : P.underlying t2 = some (.int k)) {p : Prop} {r : V} {ob' : List Ob} (h : vappendZ T ob t x n = some (p, r, ob')) (hp : p) :
    ∃ q w' H', (Builtin.append_ #[t, t2] ty #[v, .int kk n]).run P w = .ok q w' ∧ HStep Φ H ob w Φ H' ob' w' ∧ VRep (mkE Φ H' ob' w') r q := by
  unfold vappendZ at h
  split at h
  case h_2 => cases h
  rename_i e _ _ _ ht
  split at h
  case h_2 => cases h
  rename_i ie hte
  obtain ⟨info, d, zq, f1, f2, f3, f4, _⟩ := hT t _ ht
  obtain rfl := kindOf_slice f3
  obtain ⟨info2, d2, zq2, g1, g2, g3, g4, g5, _⟩ := hT e ie hte
  obtain ⟨info', z, e1, e2, e3, e4, e5⟩ := zero_rep hT hte (mkE Φ H ob w)
  obtain rfl : info2 = info' := by rw [g1] at e1; exact Option.some.inj e1
  refine append_core (e := e) hs hx e4 h hp fun hpos hp' hl => ?_
  obtain ⟨h0, h1, h2⟩ := hp'
  obtain ⟨m, rfl⟩ : ∃ m : Nat, n = m := ⟨n.toNat, by omega⟩
  simp only [Int.toNat_natCast] at hl ⊢
  have hm : m ≤ 140737488355328 := by omega
  have hmb : m * info2.bytes ≤ 140737488355328 := by
    rw [g5]
    refine Int.ofNat_le.1 ?_
    rw [Int.natCast_mul]
    exact h2
  have hz : z.cells.size = info2.size := by rw [e4, g4]
  have hps : 0 < info2.size := by rw [g4]; exact hpos.1
  have hzr := zeroCells_rep e3 m
  refine ⟨(Builtin.zeroCells z.cells m).toList, hzr, fun n old xs cs a q1 q2 q3 q4 q5 => ⟨grownCap w (n + m) old e, grownCap_ge _ _ _ _, ?_⟩, fun n cap b o cur el q1 q2 q3 => ?_, fun hm0 => ?_⟩
  · have hnm : n + m ≤ 140737488355328 := Nat.le_trans (Nat.le_mul_of_pos_right _ hpos.2) q3
    have h63' : ¬ (9223372036854775807 < ((n : Int) + (m : Int))) := by omega
    have h48' : ¬ (281474976710656 < Builtin.nextslicecap (n + m) old * info2.bytes) := by rw [g5]; exact Nat.not_lt.2 (growslice_fits q4 q3)
    have hfo' := q5 w.drew rfl
    rw [← g4] at hfo'
    exact run_append_growZ f2 hd3 g1 e2 hz hps hfo' hm hmb (by omega) h63' h48'
  · have hul := hzr.length
    have hfit : o + n * ie.size + (Builtin.zeroCells z.cells m).toList.length ≤ cur.size := by rw [← hul, hl, Nat.add_assoc, ← Nat.add_mul]; exact Nat.le_trans (Nat.add_le_add_left (Nat.mul_le_mul_right _ q2) _) q3
    have hst := run_storeCells_at P b (o + n * ie.size) el _ 0 cur w q1 (by simpa using hfit) (VReps.one hzr)
    simp only [Nat.add_zero] at hst
    have hadd : (⟨b, o, none⟩ : Addr).add (n * info2.size) = ⟨b, o + n * ie.size, none⟩ := by rw [addr_add, g4]
    exact run_append_roomZ f2 hd3 g1 e2 hz hps hm hmb q2 (by rw [hadd]; exact hst)
  · subst hm0
    have hw0 : IntKind.i64.wrap 0 = 0 := by rw [IntKind.wrap_i64]; omega
    simp [Builtin.append_, run_underlying f2, run_underlying hd3, sizeOf, typeInfo, g1, asInt, asIntOf, hw0]

end
end Go.VX

/- Copy, and texts made of bytes and back. -/
namespace Go.VX
open Go.RowKit
set_option linter.unusedVariables false
set_option linter.unusedSimpArgs false

def vcopy (T : Nat → Option TI) (ob : List Ob) (t : Nat) (x y : V) : Option (Prop × V × List Ob) :=
  match T t with
  | some ⟨.slice e, _, _, _⟩ => match T e, rdX ob y with
    | some ie, some (p, m, ys) => match x with
      | .sl id tot esz off n => match ob[id]? with
        | some (.live cs) => if esz = ie.size then
            some (p ∧ ys.length = m * ie.size ∧ cs.length = tot, .int .i64 ((min m n : Nat) : Int), ob.set id (.live (spl cs off (ys.take (min m n * ie.size)))))
          else if esz = 0 then
            some (p ∧ ys.length = m * ie.size ∧ cs.length = tot ∧ off + n * ie.size ≤ tot, .int .i64 ((min m n : Nat) : Int), ob.set id (.live (spl cs off (ys.take (min m n * ie.size)))))
          else none
        | _ => none
      | _ => none
    | _, _ => none
  | _ => none

def strOfV (ys : List V) : ByteArray := ⟨(ys.map fun | .int .u8 n => UInt8.ofNat n.toNat | _ => 0).toArray⟩

section
variable {P : Program} {T : Nat → Option TI} {w : World} {Φ : Nat → Prop} {H : Nat → Option Nat} {ob : List Ob}

theorem set_same {i : Nat} {o : Ob} (h : ob[i]? = some o) : ob.set i o = ob := by
  have hlt := (List.getElem?_eq_some_iff.1 h).1
  apply List.ext_getElem?
  intro j
  by_cases hj : i = j
  · subst hj; rw [h]; simp [hlt]
  · simp [List.getElem?_set_ne hj]

theorem copy_sound (hT : TabOK P T) (hs : HSim Φ H ob w) {t t2 ty : Nat} {x y : V} {v u : Value} (hx : VRep (mkE Φ H ob w) x v) (hy : VRep (mkE Φ H ob w) y u)
    {p : Prop} {r : V} {ob' : List Ob} (h : vcopy T ob t x y = some (p, r, ob')) (hp : p) :
    ∃ q w' H', (Builtin.copy_ #[t, t2] ty #[v, u]).run P w = .ok q w' ∧ HStep Φ H ob w Φ H' ob' w' ∧ VRep (mkE Φ H' ob' w') r q := by
  unfold vcopy at h
  split at h
  case h_2 => cases h
  rename_i e _ _ _ ht
  split at h
  case h_2 => cases h
  rename_i ie p' m ys hte hrd
  split at h
  case h_2 => cases h
  rename_i id tot esz off n
  split at h
  case h_2 => cases h
  rename_i cs ho
  obtain ⟨hr0, hp', hl, hct, hfit0⟩ : (r = .int .i64 ((min m n : Nat) : Int) ∧ ob' = ob.set id (.live (spl cs off (ys.take (min m n * ie.size))))) ∧ p' ∧ ys.length = m * ie.size ∧ cs.length = tot ∧ (esz = ie.size ∨ off + n * ie.size ≤ tot) := by
    split at h
    · simp only [Option.some.injEq, Prod.mk.injEq] at h
      obtain ⟨rfl, rfl, rfl⟩ := h
      rename_i he
      exact ⟨⟨rfl, rfl⟩, hp.1, hp.2.1, hp.2.2, .inl he⟩
    · split at h
      · simp only [Option.some.injEq, Prod.mk.injEq] at h
        obtain ⟨rfl, rfl, rfl⟩ := h
        exact ⟨⟨rfl, rfl⟩, hp.1, hp.2.1, hp.2.2.1, .inr hp.2.2.2⟩
      · cases h
  obtain ⟨rfl, rfl⟩ := hr0
  obtain ⟨info, d, zq, f1, f2, f3, f4, _⟩ := hT t _ ht
  obtain rfl := kindOf_slice f3
  obtain ⟨info2, d2, zq2, g1, g2, g3, g4, g5, _⟩ := hT e ie hte
  obtain ⟨us, hv, hlen, _, hfk⟩ := rdX_run (P := P) hs hy hrd hp' ie.size hl
  have hidlt : id < ob.length := (List.getElem?_eq_some_iff.1 ho).1
  obtain ⟨k0, k1, k2⟩ := hx
  obtain ⟨_, hh⟩ := k2 cs.length (by simp [mkE, Lof, ho, Ob.len])
  have hsl := hh hct.symm
  simp only [mkE] at hsl
  have hob := hs.rep id _ ho
  have hsz := run_sizeOf_tab (P := P) (w := w) g1
  rw [g4] at hsz
  have hmin : (Nat.min m n) ≤ m := Nat.min_le_left m n
  have hfn := hfk (Nat.min m n) hmin w rfl
  cases hH : H id with
  | none =>
    rw [hH] at hsl hob
    obtain ⟨e1, e2, e3, rfl⟩ := hsl
    subst e2 e3
    simp only [ObRep] at hob
    subst hob
    have e : spl ([] : List V) 0 (ys.take (min m 0 * ie.size)) = [] := by simp [spl]
    rw [e, set_same ho]
    refine ⟨goInt 0, w, H, ?_, HStep.refl hs, by simp [VRep, goInt]⟩
    have hmin0 : Nat.min m 0 = 0 := Nat.min_zero m
    rw [hmin0] at hfn
    simp only [Nat.zero_mul, List.take_zero] at hfn
    simp [Builtin.copy_, run_underlying f2, hsz, hlen, hmin0, hfn]
  | some b =>
    rw [hH] at hsl
    obtain ⟨cap, rfl, e2, e3, e4⟩ := hsl
    have e3 : off + n * ie.size ≤ tot := by
      rcases hfit0 with q | q
      · rw [← q]; exact e3
      · exact q
    have hle : min m n * ie.size ≤ n * ie.size := Nat.mul_le_mul_right _ (Nat.min_le_right m n)
    have hyl : (ys.take (min m n * ie.size)).length = min m n * ie.size := by
      rw [List.length_take, hl]
      exact Nat.min_eq_left (Nat.mul_le_mul_right _ hmin)
    obtain ⟨cur, el, q1, q2, q3⟩ := HStep.write hs ho hH (off := off) (hv.take (min m n * ie.size)) (by rw [hyl]; omega)
    have hst := run_storeCells_at P b off el (us.take (min m n * ie.size)) 0 cur w q1 (by simpa using q2) (VReps.one (hv.take _))
    simp only [Nat.add_zero] at hst
    refine ⟨goInt (min m n : Nat), _, _, ?_, q3, by simp [VRep, goInt]⟩
    simp [Builtin.copy_, run_underlying f2, hsz, hlen, hfn, hst]

/-- Memory that has just come, and is never written. -/
theorem HStep.frozenNew (hs : HSim Φ H ob w) {w' : World} (h1 : w'.os = w.os) (h2 : w'.tape = w.tape) (h3 : w'.output = w.output)
    (hkeep : ∀ k, k < w.heap.size → w'.heap[k]? = w.heap[k]?) (hsz : w'.heap.size = w.heap.size + 1) (hd : w.drawn ≤ w'.drawn := by first | exact Nat.le_refl _ | exact Nat.le_succ _ | exact Nat.le_add_right _ _ | assumption | (simp; done) | (simp; omega)) :
    HStep Φ H ob w (fun b => Φ b ∨ b = w.heap.size) H ob w' := by
  have hE : Ext (mkE Φ H ob w) (mkE (fun b => Φ b ∨ b = w.heap.size) H ob w') := by
    refine ⟨fun b hb => .inl hb, fun b hb => hkeep b (hs.phi b hb), Nat.le_refl _, fun i hi T' hT => ⟨T', hT, Nat.le_refl _, fun _ => ⟨rfl, fun b hb => ?_⟩⟩⟩
    simp only [mkE, bsize]
    rcases Nat.lt_or_ge b w.heap.size with hlt | hge
    · rw [hkeep b hlt]
    · exfalso
      have hi' : i < ob.length := hi
      obtain ⟨o', ho'⟩ : ∃ o', ob[i]? = some o' := ⟨ob[i], by simp [List.getElem?_eq_getElem hi']⟩
      have hr := hs.rep i o' ho'
      have hb' : H i = some b := hb
      cases o' with
      | live cs => rw [hb'] at hr; obtain ⟨c, el, g1, _⟩ := hr; exact absurd (lt_of_heap g1) (Nat.not_lt.2 hge)
      | frz cs => rw [hb'] at hr; exact absurd (hs.phi b hr.1) (by omega)
      | map es bs ck => obtain ⟨_, b', arr, e1, g1, _⟩ := hr; obtain rfl : b = b' := by simpa [hb'] using e1
                        exact absurd (lt_of_heap g1) (Nat.not_lt.2 hge)
      | iter m s sn l => obtain ⟨_, b', r, e1, g1, _⟩ := hr; obtain rfl : b = b' := by simpa [hb'] using e1
                         exact absurd (lt_of_heap g1) (Nat.not_lt.2 hge)
      | loop st pd n ks vs ps as bd =>
        obtain ⟨b', r, e1, g1, _⟩ := hr; obtain rfl : b = b' := by simpa [hb'] using e1
        exact absurd (lt_of_heap g1) (Nat.not_lt.2 hge)
      | dead => have hT' : Lof ob i = some T' := hT; simp [Lof, ho', Ob.len] at hT'
  refine ⟨h1, h2, ⟨h3, hd⟩, by omega, fun b hb _ => hkeep b hb, ⟨fun b hb => ?_, fun i o hi => ?_, hs.inj⟩, hE, fun b hb => ?_, fun i o b k1 k2 k3 => .inl ⟨i, o, k1, k2, k3⟩⟩
  · rcases hb with hb | hb
    · have := hs.phi b hb; omega
    · omega
  · refine ObRep.ext hE rfl (fun hm b hb => ?_) (hs.rep i o hi)
    obtain ⟨q1, q2⟩ := hs.mutb hi hm hb
    refine ⟨hkeep b q1, fun hp => ?_⟩
    rcases hp with hp | hp
    · exact q2 hp
    · omega
  · rcases hb with hb | hb
    · exact .inl hb
    · exact .inr (.inr (by omega))

theorem bytes_sound (hT : TabOK P T) (hs : HSim Φ H ob w) {src dst e : Nat} {it ie is_ : TI} (ht : T dst = some it) (hk : it.k = .slice e) (he : T e = some ie) (hke : ie.k = .int .u8) (hsr : T src = some is_) (hks : is_.k = .string) (s : ByteArray) :
    ∃ u w' Φ', (convert src dst (.string s)).run P w = .ok u w' ∧ HStep Φ H ob w Φ' H ob w' ∧ VRep (mkE Φ' H ob w') (.fs s.size (bytesV s)) u := by
  obtain ⟨i1, d1, z1, f1, f2, f3, _⟩ := hT dst it ht
  obtain rfl := kindOf_slice (f3.trans hk)
  obtain ⟨i2, d2, z2, g1, g2, g3, _⟩ := hT e ie he
  obtain rfl := kindOf_int (g3.trans hke)
  obtain ⟨i3, d3, z3, k1, k2, k3, _⟩ := hT src is_ hsr
  obtain rfl := kindOf_string (k3.trans hks)
  let cap := (Question.appendCap s.size 0 e).cut (w.tape w.drawn (.appendCap s.size 0 e))
  have hcap : s.size ≤ cap := by simp [cap, Question.cut]
  let c : Array Value := (s.data.map fun b => Value.int .u8 (b.toNat : Int)) ++ Array.replicate (cap - s.size) (.int .u8 0)
  let w1 := w.drew.alloc (.cells c e)
  let w2 := w1.freeze { block := w.heap.size, off := c.size } 1
  have hw2 : w2.heap[w.heap.size]? = some (.cells c e (c.size, c.size + 1)) := by
    have h1 : w1.heap[w.heap.size]? = some (.cells c e) := heap_alloc_new w.drew _
    have hlt : w.heap.size < w1.heap.size := lt_of_heap h1
    have h1' : w1.heap[w.heap.size] = .cells c e := by simpa [Array.getElem?_eq_getElem hlt] using h1
    simp only [w2, World.freeze]
    rw [if_neg (by decide)]
    simp only
    rw [Array.getElem?_eq_getElem (by simpa using hlt), Array.getElem_modify_self, h1']
    rfl
  have hkeep : ∀ k, k < w.heap.size → w2.heap[k]? = w.heap[k]? := fun k hk => by
    have h1 : w1.heap[k]? = w.heap[k]? := Below.heap_alloc w.drew _ k hk
    rw [← h1]
    simp only [w2, World.freeze]
    rw [if_neg (by decide)]
    simp only [Array.getElem?_modify]
    rw [if_neg (by omega)]
  have hsize : w2.heap.size = w.heap.size + 1 := by
    simp only [w2, World.freeze]
    rw [if_neg (by decide)]
    simp [w1]
  refine ⟨.slice (some ⟨w.heap.size, 0, none⟩) s.size cap, w2, _, ?_, HStep.frozenNew hs ?_ ?_ ?_ hkeep hsize, ?_⟩
  · have hsh : ∀ c : Array Value, (w.drew.alloc (.cells c e)).shape? w.heap.size = some (e, c.size) := fun c => by
      unfold World.shape?
      have h1 : (w.drew.alloc (.cells c e)).heap[w.heap.size]? = some (.cells c e) := heap_alloc_new w.drew _
      rw [h1]
    simp [convert, run_underlying f2, run_underlying g2, run_underlying k2, Conv.stringToBytes, Question.forced, newRow, markStringish, hsh]
    refine ⟨rfl, ?_⟩
    have hcs : c.size = s.size + ((Question.appendCap s.size 0 e).cut (w.tape w.drawn (Question.appendCap s.size 0 e)) - s.size) := by
      simp [c, cap]
    simp only [w2, w1, hcs]
    rfl
  · simp only [w2, World.freeze]; rw [if_neg (by decide)]; rfl
  · simp only [w2, World.freeze]; rw [if_neg (by decide)]; rfl
  · simp only [w2, World.freeze]; rw [if_neg (by decide)]; rfl
  · refine ⟨_, cap, s.data.toList.map fun b => Value.int .u8 (b.toNat : Int), rfl, hcap, VReps.toFrz (fun c hc => by simp only [bytesV, List.mem_map] at hc; obtain ⟨b, _, rfl⟩ := hc; rfl) (bytes_rep _ s), fun _ => ⟨w.heap.size, 0, rfl, .inr rfl, fun i hi => ?_⟩⟩
    have hi' : i < s.size := by simpa using hi
    simp only [World.cell?, mkE, hw2, Nat.zero_add, Option.isSome_none, Bool.false_eq_true, if_false]
    have hlt : i < (s.data.map fun b => Value.int .u8 (b.toNat : Int)).size := by simpa using hi'
    simp only [c]
    rw [Array.getElem?_append_left hlt]
    simp

def byteQ : V → Bool
  | .int .u8 _ => true
  | _ => false

theorem foldl_push (ns : List Int) (s : ByteArray) : ns.foldl (fun r n => r.push (UInt8.ofNat n.toNat)) s = s ++ ⟨(ns.map fun n => UInt8.ofNat n.toNat).toArray⟩ := by
  induction ns generalizing s with
  | nil => apply ByteArray.ext; simp
  | cons n r ih =>
    rw [List.foldl_cons, ih]
    apply ByteArray.ext
    simp [ByteArray.data_append, ByteArray.data_push]

theorem bytes_of_rep {E : Env} : ∀ {ys : List V} {us : List Value}, VReps .cell E ys us → ys.all byteQ = true → ∃ ns : List Int, us = ns.map (Value.int .u8) ∧ ys = ns.map (V.int .u8)
  | [], us, h, _ => ⟨[], by simp [VReps] at h; simp [h], rfl⟩
  | c :: cs, us, ⟨u, r, h1, h0, h2, h3⟩, hq => by
    subst h1
    simp only [List.all_cons, Bool.and_eq_true] at hq
    obtain ⟨ns, e1, e2⟩ := bytes_of_rep h3 hq.2
    cases c <;> simp [byteQ] at hq
    rename_i k n
    obtain rfl : k = .u8 := by
      have := hq.1
      cases k <;> simp_all
    simp only [VRep] at h2
    exact ⟨n :: ns, by simp [h2, e1], by simp [e2]⟩

theorem str_sound (hT : TabOK P T) (hs : HSim Φ H ob w) {src dst e : Nat} {is_ it ie : TI} (hsr : T src = some is_) (hks : is_.k = .slice e) (he : T e = some ie) (hke : ie.k = .int .u8) (ht : T dst = some it) (hk : it.k = .string)
    {x : V} {v : Value} (hx : VRep (mkE Φ H ob w) x v) {p : Prop} {n : Nat} {ys : List V} (h : rdS ob x = some (p, n, ys)) (hp : p) (hl : ys.length = n) (hq : ys.all byteQ = true) :
    (convert src dst v).run P w = .ok (.string (strOfV ys)) w := by
  obtain ⟨i1, d1, z1, f1, f2, f3, _⟩ := hT dst it ht
  obtain rfl := kindOf_string (f3.trans hk)
  obtain ⟨i2, d2, z2, g1, g2, g3, _⟩ := hT e ie he
  obtain rfl := kindOf_int (g3.trans hke)
  obtain ⟨i3, d3, z3, k1, k2, k3, _⟩ := hT src is_ hsr
  obtain rfl := kindOf_slice (k3.trans hks)
  obtain ⟨ad, cap, us, rfl, hc, hv, hu⟩ := rdS_sound hs hx h hp
  obtain ⟨ns, rfl, rfl⟩ := bytes_of_rep hv hq
  rw [run_convert_bytes_string w src dst e ad n cap k2 g2 f2]
  have hso : strOfV (ns.map (V.int .u8)) = ns.foldl (fun r n => r.push (UInt8.ofNat n.toNat)) ByteArray.empty := by
    rw [foldl_push]
    apply ByteArray.ext
    simp [strOfV, Function.comp_def]
  cases ad with
  | none =>
    have h0 : ns.length = 0 := by
      rcases Nat.eq_zero_or_pos ns.length with q | q
      · exact q
      · obtain ⟨b, o, e, _⟩ := hu (by simpa using q); cases e
    obtain rfl : ns = [] := List.length_eq_zero_iff.1 h0
    simp [Conv.bytesToString, hso]
    rfl
  | some a =>
    rw [hso]
    refine run_bytesToString w a n cap ns ?_
    have hn : ns.length = n := by simpa using hl
    subst hn
    have := run_loadCells_list (P := P) w a (ns.map (Value.int .u8)) fun j u hj => by
      have hlt : j < (ns.map (Value.int .u8)).length := (List.getElem?_eq_some_iff.1 hj).1
      obtain ⟨b, o, e, hr⟩ := hu (by omega)
      cases e
      rw [← hj, addr_add]
      exact hr j hlt
    simpa using this

/-- Bytes that are marked, and so never written any more. -/
def vmark (T : Nat → Option TI) (ob : List Ob) (src dst : Nat) (x : V) : Option (Prop × V × List Ob) :=
  if src = dst then match T src, x with
    | some ⟨.slice e, _, _, _⟩, .sl id tot esz off n => match T e, ob[id]? with
      | some ⟨.int .u8, _, _, _⟩, some (.live cs) => some (cs.length = tot ∧ 0 < cs.length ∧ cs.all V.noId = true, .sl id tot esz off n, ob.set id (.frz cs))
      | _, _ => none
    | _, _ => none
  else none

theorem mark_sound (hT : TabOK P T) (hs : HSim Φ H ob w) {src dst : Nat} {x : V} {v : Value} (hx : VRep (mkE Φ H ob w) x v) {p : Prop} {r : V} {ob' : List Ob} (h : vmark T ob src dst x = some (p, r, ob')) (hp : p) :
    ∃ u w' Φ' H', (convert src dst v).run P w = .ok u w' ∧ HStep Φ H ob w Φ' H' ob' w' ∧ VRep (mkE Φ' H' ob' w') r u := by
  unfold vmark at h
  split at h
  case isFalse => cases h
  rename_i hsd
  subst hsd
  split at h
  case h_2 => cases h
  rename_i e _ _ _ idn tot esz off n ht
  split at h
  case h_2 => cases h
  rename_i _ _ _ cs hte ho
  simp only [Option.some.injEq, Prod.mk.injEq] at h
  obtain ⟨rfl, rfl, rfl⟩ := h
  obtain ⟨q1, q2, q3⟩ := hp
  have hn : ∀ c ∈ cs, c.noId = true := List.all_eq_true.1 q3
  obtain ⟨i1, d1, z1, f1, f2, f3, _⟩ := hT _ _ ht
  obtain rfl := kindOf_slice f3
  obtain ⟨i2, d2, z2, g1, g2, g3, _⟩ := hT e _ hte
  obtain rfl := kindOf_int g3
  have hx' := hx
  obtain ⟨k0, k1, k2⟩ := hx'
  obtain ⟨_, hh⟩ := k2 cs.length (by simp [mkE, Lof, ho, Ob.len])
  have hsl := hh q1.symm
  simp only [mkE] at hsl
  have hr := hs.rep _ _ ho
  cases hH : H idn with
  | none =>
    rw [hH] at hr
    simp only [ObRep] at hr
    subst hr
    simp at q2
  | some b =>
    rw [hH] at hr hsl
    obtain ⟨cap, rfl, e2, e3, e4⟩ := hsl
    obtain ⟨c, el, g1', g2', g3', g4'⟩ := hr
    have g1 : w.heap[b]? = some (.cells c el (0, 0)) := g1'
    have hblt : b < w.heap.size := lt_of_heap g1
    let w' := w.freeze { block := b, off := c.size } 1
    have hw1 : w'.heap[b]? = some (.cells c el (c.size, c.size + 1)) := by
      have hb' : w.heap[b] = .cells c el (0, 0) := by simpa [Array.getElem?_eq_getElem hblt] using g1
      simp only [w', World.freeze]
      rw [if_neg (by decide)]
      simp only
      rw [Array.getElem?_eq_getElem (by simpa using hblt), Array.getElem_modify_self, hb']
      rfl
    have hkeep : ∀ k, k ≠ b → w'.heap[k]? = w.heap[k]? := fun k hk => by
      simp only [w', World.freeze]
      rw [if_neg (by decide)]
      simp only [Array.getElem?_modify]
      rw [if_neg (Ne.symm hk)]
    have hsize : w'.heap.size = w.heap.size := by
      simp only [w', World.freeze]
      rw [if_neg (by decide)]
      simp
    have hbs : ∀ b', bsize w' b' = bsize w b' := fun b' => by
      by_cases hb' : b' = b
      · subst hb'; simp only [bsize, hw1, g1]
      · simp only [bsize, hkeep b' hb']
    let Φ' : Nat → Prop := fun x => Φ x ∨ H idn = some x
    have hst : HStep Φ H ob w Φ' (upd H idn (H idn)) (ob.set idn (.frz cs)) w' := by
      refine HStep.ofChange hs ho rfl ?_ ?_ ?_ (fun k _ hne => hkeep k (fun e => hne (by rw [e]; exact hH))) (by omega) (fun b hb => .inl hb) (fun b hb => ?_) (fun b hb => .inl hb) (fun T' hT' => ?_) (fun E' hE hw hΦ => ?_)
      · simp only [w', World.freeze]; rw [if_neg (by decide)]
      · simp only [w', World.freeze]; rw [if_neg (by decide)]
      · simp only [w', World.freeze]; rw [if_neg (by decide)]
      · rcases hb with hb | hb
        · exact .inl hb
        · exact .inr ⟨hb, rfl⟩
      · exact ⟨cs.length, rfl, by simp [Ob.len] at hT'; omega, fun _ => ⟨rfl, fun b' _ => hbs b'⟩⟩
      · rw [hH]
        refine ⟨by rw [hΦ]; exact .inr hH, c.toList.take cs.length, ?_, VReps.ext hE _ _ (g4'.toFrz hn)⟩
        rw [hw]
        have hrr := reads_row hw1 0 cs.length
        rwa [List.drop_zero] at hrr
    refine ⟨_, w', Φ', _, ?_, hst, VRep.ext hst.ext _ _ hx⟩
    have hsh : w.shape? b = some (el, c.size) := by
      unfold World.shape?
      rw [g1]
    simp [convert, run_underlying f2, run_underlying g2, markStringish, hsh]
    rfl

end
end Go.VX

/- Maps whose keys are numbers, texts or bools. -/
namespace Go.VX
open Go.RowKit
set_option linter.unusedVariables false
set_option linter.unusedSimpArgs false

def sameK : V → V → Option Bool
  | .int k a, .int k' b => if k = k' then some (a == b) else none
  | .str a, .str b => some (decide (a = b))
  | .bool a, .bool b => some (a == b)
  | _, _ => none
def vfindK (k : V) : List (V × V) → Nat → Option (Option (Nat × V))
  | [], _ => some none
  | e :: es, i => match sameK k e.1 with
    | some true => some (some (i, e.2))
    | some false => vfindK k es (i + 1)
    | none => none
def keyT : TK → V → Bool
  | .int k, .int k' _ => decide (k' = k)
  | .string, .str _ => true
  | .bool, .bool _ => true
  | _, _ => false

def vlookup (T : Nat → Option TI) (ob : List Ob) (t : Nat) (x k : V) (ok : Bool) : Option V :=
  match T t with
  | some ⟨.map kt et, _, _, _⟩ => match T kt, T et with
    | some ik, some ie => if keyT ik.k k = true then
        match x with
        | .nilm => some (if ok = true then .tup [ie.zero, .bool false] else ie.zero)
        | .mp id => match ob[id]? with
          | some (.map es _ _) => match vfindK k es 0 with
            | some (some (_, y)) => some (if ok = true then .tup [y, .bool true] else y)
            | some none => some (if ok = true then .tup [ie.zero, .bool false] else ie.zero)
            | none => none
          | _ => none
        | _ => none
      else none
    | _, _ => none
  | _ => none
/-- A value put. -/
def vput (k y : V) (es : List (V × V)) (bs : List Nat) (ck : Nat) : Option Ob :=
  match vfindK k es 0 with
  | some (some (i, _)) => some (.map (es.modify i fun e => (e.1, y)) bs ck)
  | some none => some (.map (es ++ [(k, y)]) (bs ++ [ck]) (ck + 1))
  | none => none
def vdel (k : V) (es : List (V × V)) (bs : List Nat) (ck : Nat) : Option Ob :=
  match vfindK k es 0 with
  | some (some (i, _)) => some (.map (es.eraseIdx i) (bs.eraseIdx i) ck)
  | some none => some (.map es bs ck)
  | none => none
def vmapKey (T : Nat → Option TI) (t : Nat) (k : V) : Bool :=
  match T t with
  | some ⟨.map kt _, _, _, _⟩ => match T kt with
    | some ik => keyT ik.k k
    | none => false
  | _ => false

theorem bytes_beq' (a b : ByteArray) : (a == b) = decide (a = b) := by
  rw [Bool.eq_iff_iff, decide_eq_true_iff]
  exact MapKept.bytes_beq a b

section
variable {P : Program} {T : Nat → Option TI} {w : World} {Φ : Nat → Prop} {H : Nat → Option Nat} {ob : List Ob}

theorem sameK_sound {E : Env} {k k' : V} {u u' : Value} {d : TypeDesc} {b : Bool} (h : sameK k k' = some b) (hk : keyT (kindOf d) k = true) (hu : VRep E k u) (hu' : VRep E k' u') : Instr.sameNow d u u' = some b := by
  cases k <;> cases k' <;> simp [sameK] at h <;> simp only [VRep] at hu hu' <;> subst hu <;> subst hu'
  · cases d <;> simp [keyT, kindOf] at hk
    simpa [Instr.sameNow] using h
  · cases d <;> simp [keyT, kindOf] at hk
    obtain ⟨rfl, rfl⟩ := h
    simp [Instr.sameNow]
  · cases d <;> simp [keyT, kindOf] at hk
    subst h
    simp [Instr.sameNow, bytes_beq']

theorem vfindK_sound {E : Env} {k : V} {u : Value} {d : TypeDesc} (hk : keyT (kindOf d) k = true) (hu : VRep E k u) : ∀ {es : List (V × V)} {l : List MapEntry} (i : Nat) {r : Option (Nat × V)}, VReps .any E (es.map (·.1)) (l.map (·.key)) → VReps .any E (es.map (·.2)) (l.map (·.val)) → vfindK k es i = some r →
    (r = none ∧ Instr.findNow d u l i = some none) ∨ ∃ j x v, r = some (i + j, x) ∧ Instr.findNow d u l i = some (some (i + j, v)) ∧ VRep E x v ∧ es[j]? = some (k, x) ∧ ∃ e, l[j]? = some e ∧ e.val = v
  | [], l, i, r, h1, h2, h => by
    cases l with
    | cons e l => have := VReps.length h1; simp at this
    | nil =>
      simp only [vfindK, Option.some.injEq] at h
      subst h
      exact .inl ⟨rfl, rfl⟩
  | c :: es, l, i, r, h1, h2, h => by
    cases l with
    | nil => have := VReps.length h1; simp at this
    | cons e l =>
      obtain ⟨u1, r1, e1, _, g1, g1'⟩ := h1
      obtain ⟨u2, r2, e2, _, g2, g2'⟩ := h2
      simp only [List.map_cons, List.cons.injEq] at e1 e2
      obtain ⟨rfl, rfl⟩ := e1
      obtain ⟨rfl, rfl⟩ := e2
      simp only [vfindK] at h
      split at h
      · rename_i hs
        simp only [Option.some.injEq] at h
        subst h
        have hq := sameK_sound hs hk hu g1
        have : k = c.1 := by
          cases hk' : k <;> cases hc : c.1 <;> rw [hk', hc] at hs <;> simp [sameK] at hs
          · exact congrArg _ hs
          · obtain ⟨rfl, rfl⟩ := hs; rfl
          · exact congrArg _ hs
        exact .inr ⟨0, c.2, e.val, rfl, by simp [Instr.findNow, hq], g2, by rw [this]; rfl, e, rfl, rfl⟩
      · rename_i hs
        have hq := sameK_sound hs hk hu g1
        rcases vfindK_sound hk hu (i + 1) g1' g2' h with ⟨rfl, q⟩ | ⟨j, x, v, rfl, q1, q2, q3, e', q4, q5⟩
        · exact .inl ⟨rfl, by simp [Instr.findNow, hq, q]⟩
        · exact .inr ⟨j + 1, x, v, by simp; omega, by simp [Instr.findNow, hq, q1]; omega, q2, by simpa using q3, e', by simpa using q4, q5⟩
      · cases h

theorem vconst_notTup (z : Value) : (vconst z).notTup = true := by
  unfold vconst
  split
  · split <;> rfl
  · unfold vconst1
    split <;> rfl
theorem isKey_of {E : Env} {d : TypeDesc} {k : V} {u : Value} (hk : keyT (kindOf d) k = true) (hu : VRep E k u) : MapKept.IsKey d u := by
  cases k <;> cases d <;> simp [keyT, kindOf] at hk <;> simp only [VRep] at hu <;> subst hu <;> simp [MapKept.IsKey, hk]
theorem kindOf_map {d : TypeDesc} {k e : Nat} (h : kindOf d = .map k e) : d = .map k e := by
  cases d <;> simp_all [kindOf]

theorem map_at (hs : HSim Φ H ob w) {id : Nat} {es : List (V × V)} {bs : List Nat} {ck : Nat} {v : Value} (hx : VRep (mkE Φ H ob w) (.mp id) v) (ho : ob[id]? = some (.map es bs ck)) :
    ∃ b arr, v = .map (some b) ∧ H id = some b ∧ w.heap[b]? = some (.map arr ck) ∧ ObRep (mkE Φ H ob w) (some b) (.map es bs ck) ∧ VReps .any (mkE Φ H ob w) (es.map (·.1)) (arr.toList.map (·.key)) ∧ VReps .any (mkE Φ H ob w) (es.map (·.2)) (arr.toList.map (·.val)) ∧
      (es.all fun e => e.1.notTup && e.2.notTup) = true ∧ arr.toList.map (·.born) = bs ∧ bs.Nodup ∧ (∀ n ∈ bs, n < ck) ∧ ¬ Φ b := by
  obtain ⟨_, h1, h2⟩ := hx
  obtain ⟨b, hb, rfl⟩ := h2 (by simp [mkE, Lof, ho, Ob.len])
  have hr := hs.rep id _ ho
  have hr0 := hr
  obtain ⟨q0, b', arr, g1, g2, g3, g4, g5, g6, g7, g8⟩ := hr
  have hb' : H id = some b := hb
  obtain rfl : b = b' := by rw [hb'] at g1; exact Option.some.inj g1
  rw [hb'] at hr0
  exact ⟨b, arr, rfl, hb', g2, hr0, g4, g5, q0, g6, g7, g8, g3⟩

theorem lookup_sound (hT : TabOK P T) (hs : HSim Φ H ob w) {t : Nat} {x k y : V} {v u : Value} {ok : Bool} (hx : VRep (mkE Φ H ob w) x v) (hk : VRep (mkE Φ H ob w) k u) (h : vlookup T ob t x k ok = some y) :
    ∃ q, (Instr.lookup t v u ok).run P w = .ok q w ∧ VRep (mkE Φ H ob w) y q := by
  unfold vlookup at h
  split at h
  case h_2 => cases h
  rename_i kt et _ _ _ ht
  split at h
  case h_2 => cases h
  rename_i ik ie hik hie
  split at h
  case isFalse => cases h
  rename_i hkt
  obtain ⟨info, d, zq, f1, f2, f3, _⟩ := hT t _ ht
  obtain rfl := kindOf_map f3
  obtain ⟨infok, dk, zk, k1, k2, k3, _⟩ := hT kt _ hik
  obtain ⟨infoe, de, ze, z1, z2, z3, z4, z5, z6, z7, z8, z9⟩ := hT et _ hie
  rw [← k3] at hkt
  have hkey := isKey_of hkt hk
  have hz : VRep (mkE Φ H ob w) ie.zero ze := by rw [← z7]; exact vconst_rep _ _
  have hnt : ie.zero.notTup = true := by rw [← z7]; exact vconst_notTup _
  have mk : ∀ (b : Bool) (z : V) (q : Value), z.notTup = true → VRep (mkE Φ H ob w) z q → VRep (mkE Φ H ob w) (if ok = true then .tup [z, .bool b] else z) (if ok = true then .tuple #[q, .bool b] else q) := by
    intro b z q hn hq
    cases ok
    · exact hq
    · exact ⟨#[q, .bool b], by show (z.notTup && (V.notTup (.bool b) && true)) = true; rw [hn]; rfl, rfl, q, _, rfl, trivial, hq, _, _, rfl, trivial, rfl, rfl⟩
  split at h
  · simp only [VRep] at hx; subst hx
    simp only [Option.some.injEq] at h; subst h
    refine ⟨_, ?_, mk false _ _ hnt hz⟩
    have hc := MapKept.run_checkKey (P := P) (w := w) k2 hkey true 9999
    have hf := MapKept.run_findKey (P := P) (w := w) k2 (k := u) (l := []) (a := none) rfl
    simp [Instr.lookup, run_underlying f2, hc, hf, zeroValue, typeInfo, z1, z6]
  · rename_i id
    split at h
    case h_2 => cases h
    rename_i es bs ck ho
    obtain ⟨b, arr, rfl, hb, hw, _, hvk, hvv, hnt2, _⟩ := map_at hs hx ho
    have hg := MapKept.run_getObj_map (P := P) hw
    have hc := MapKept.run_checkKey (P := P) (w := w) k2 hkey arr.isEmpty 9999
    split at h
    · rename_i i z hfnd
      simp only [Option.some.injEq] at h; subst h
      rcases vfindK_sound hkt hk 0 hvk hvv hfnd with ⟨q, _⟩ | ⟨j, x', v', q1, q2, q3, q4, e', _, _⟩
      · cases q
      · simp only [Option.some.injEq, Prod.mk.injEq] at q1
        obtain ⟨rfl, rfl⟩ := q1
        have hf := MapKept.run_findKey (P := P) (w := w) k2 q2
        refine ⟨_, ?_, mk true _ _ ?_ q3⟩
        · simp [Instr.lookup, run_underlying f2, hg, hc, hf]
        · have := List.all_eq_true.1 hnt2 _ (List.mem_of_getElem? q4)
          simp only [Bool.and_eq_true] at this
          exact this.2
    · rename_i hfnd
      simp only [Option.some.injEq] at h; subst h
      rcases vfindK_sound hkt hk 0 hvk hvv hfnd with ⟨_, q2⟩ | ⟨j, x', v', q1, _⟩
      · have hf := MapKept.run_findKey (P := P) (w := w) k2 q2
        refine ⟨_, ?_, mk false _ _ hnt hz⟩
        simp [Instr.lookup, run_underlying f2, hg, hc, hf, zeroValue, typeInfo, z1, z6]
      · cases q1
    · cases h
  · cases h

theorem heap_setObj (w : World) {b : Nat} {o o' : Obj} (h : w.heap[b]? = some o) (k : Nat) : ({ w with heap := w.heap.setIfInBounds b o' } : World).heap[k]? = if k = b then some o' else w.heap[k]? := by
  obtain ⟨h1, h2⟩ := MapKept.heap_set (o' := o') h
  show (w.heap.setIfInBounds b o')[k]? = _
  split
  · rename_i e; rw [e]; exact h1
  · rename_i e; exact h2 k e

/-- A map that is changed. -/
theorem map_step (hs : HSim Φ H ob w) {id b : Nat} {es es' : List (V × V)} {bs bs' : List Nat} {ck ck' : Nat} {arr arr' : Array MapEntry} (ho : ob[id]? = some (.map es bs ck)) (hb : H id = some b) (hw : w.heap[b]? = some (.map arr ck)) (hp : ¬ Φ b)
    (h0 : (es'.all fun e => e.1.notTup && e.2.notTup) = true) (hk : VReps .any (mkE Φ H ob w) (es'.map (·.1)) (arr'.toList.map (·.key))) (hv : VReps .any (mkE Φ H ob w) (es'.map (·.2)) (arr'.toList.map (·.val)))
    (hbs : arr'.toList.map (·.born) = bs') (hn : bs'.Nodup) (hlt : ∀ n ∈ bs', n < ck') :
    HStep Φ H ob w Φ (upd H id (some b)) (ob.set id (.map es' bs' ck')) { w with heap := w.heap.setIfInBounds b (.map arr' ck') } := by
  refine HStep.ofChange hs ho rfl rfl rfl rfl (fun k hk hne => ?_) (by simp) (fun _ h => h) (fun _ h => .inl h) (fun b' hb' => .inl (by rw [hb]; exact hb')) (fun T' hT' => ?_) (fun E' hE hw' hΦ => ?_)
  · rw [heap_setObj w hw, if_neg (fun e => hne (by rw [e]; exact hb))]
  · simp only [Ob.len, Option.some.injEq] at hT'
    refine ⟨0, rfl, by omega, fun _ => ⟨hb.symm, fun b' hb' => ?_⟩⟩
    rw [hb] at hb'
    obtain rfl := Option.some.inj hb'
    simp only [bsize]
    rw [heap_setObj w hw, if_pos rfl, hw]
  · refine ⟨h0, b, arr', rfl, by rw [hw', heap_setObj w hw, if_pos rfl], by rw [hΦ]; exact hp, VReps.ext hE _ _ hk, VReps.ext hE _ _ hv, hbs, hn, hlt⟩

theorem keyStays {E : Env} {w : World} {k : V} {a u : Value} {d : TypeDesc} (hk : keyT (kindOf d) k = true) (ha : VRep E k a) (hu : VRep E k u) : (Instr.keyThatStays a u).run P w = .ok u w := by
  cases k <;> cases d <;> simp [keyT, kindOf] at hk <;> simp only [VRep] at ha hu <;> subst ha <;> subst hu <;> simp [Instr.keyThatStays, Instr.sameBits, bytes_beq']

theorem modify_toList {α : Type} (a : Array α) (i : Nat) (f : α → α) : (a.modify i f).toList = a.toList.modify i f := by
  apply List.ext_getElem?
  intro j
  rw [List.getElem?_modify]
  rw [Array.getElem?_toList, Array.getElem?_modify]
  by_cases h : i = j
  · subst h; simp
  · simp [h]
theorem VReps.modify {q : Fl} {E : Env} : ∀ (n : Nat) {xs : List V} {us : List Value} {x : V} {v : Value} (f : V → V) (g : Value → Value), VReps q E xs us → okq q x → VRep E x v → (∀ c, xs[n]? = some c → f c = x) → (∀ c, us[n]? = some c → g c = v) → VReps q E (xs.modify n f) (us.modify n g)
  | n, [], us, x, v, f, g, h, ho, hx, _, _ => by simp [VReps] at h; subst h; simp [VReps]
  | 0, c :: cs, us, x, v, f, g, ⟨u, r, h1, h0, h2, h3⟩, ho, hx, hf, hg => by
    subst h1
    have e1 := hf c rfl
    have e2 := hg u rfl
    simp only [List.modify_zero_cons]
    rw [e1, e2]
    exact ⟨v, r, rfl, ho, hx, h3⟩
  | n + 1, c :: cs, us, x, v, f, g, ⟨u, r, h1, h0, h2, h3⟩, ho, hx, hf, hg => by
    subst h1
    simp only [List.modify_succ_cons]
    exact ⟨u, r.modify n g, rfl, h0, h2, VReps.modify n f g h3 ho hx (fun c h => hf c (by simpa using h)) (fun c h => hg c (by simpa using h))⟩
theorem map_modify_same {α β : Type} (f : α → β) (g : α → α) (h : ∀ a, f (g a) = f a) : ∀ (l : List α) (n : Nat), (l.modify n g).map f = l.map f
  | [], n => by simp
  | a :: l, 0 => by simp [h]
  | a :: l, n + 1 => by simp [map_modify_same f g h l n]
theorem map_modify {α β : Type} (f : α → β) (g : α → α) (k : β → β) (h : ∀ a, f (g a) = k (f a)) : ∀ (l : List α) (n : Nat), (l.modify n g).map f = (l.map f).modify n k
  | [], n => by simp
  | a :: l, 0 => by simp [h]
  | a :: l, n + 1 => by simp [map_modify f g k h l n]

theorem mapUpdate_sound (hT : TabOK P T) (hs : HSim Φ H ob w) {t : Nat} {id : Nat} {k y : V} {v u uy : Value} {es : List (V × V)} {bs : List Nat} {ck : Nat} {o' : Ob} (hx : VRep (mkE Φ H ob w) (.mp id) v) (hk : VRep (mkE Φ H ob w) k u) (hy : VRep (mkE Φ H ob w) y uy) (hn : y.notTup = true)
    (ho : ob[id]? = some (.map es bs ck)) (hkt : vmapKey T t k = true) (h : vput k y es bs ck = some o') :
    ∃ w' H', (Instr.mapUpdate t v u uy).run P w = .ok () w' ∧ HStep Φ H ob w Φ H' (ob.set id o') w' := by
  unfold vmapKey at hkt
  split at hkt
  case h_2 => cases hkt
  rename_i kt et _ _ _ ht
  split at hkt
  case h_2 => cases hkt
  rename_i ik hik
  obtain ⟨info, d, zq, f1, f2, f3, _⟩ := hT t _ ht
  obtain rfl := kindOf_map f3
  obtain ⟨infok, dk, zk, k1, k2, k3, _⟩ := hT kt _ hik
  rw [← k3] at hkt
  have hkey := isKey_of hkt hk
  have hkn : k.notTup = true := by cases k <;> simp_all [keyT, V.notTup]
  obtain ⟨b, arr, rfl, hb, hw, _, hvk, hvv, hnt, hbs, hnd, hlt, hph⟩ := map_at hs hx ho
  have hg := MapKept.run_getObj_map (P := P) hw
  have hc := MapKept.run_checkKey (P := P) (w := w) k2 hkey false 9999
  have hset := fun o => MapKept.run_setObj_map (P := P) o hw
  unfold vput at h
  split at h
  · rename_i i z hfnd
    simp only [Option.some.injEq] at h; subst h
    rcases vfindK_sound hkt hk 0 hvk hvv hfnd with ⟨q, _⟩ | ⟨j, x', v', q1, q2, q3, q4, e', q5, q6⟩
    · cases q
    · simp only [Option.some.injEq, Prod.mk.injEq, Nat.zero_add] at q1 q2
      obtain ⟨rfl, rfl⟩ := q1
      have hf := MapKept.run_findKey (P := P) (w := w) k2 q2
      have hek : VRep (mkE Φ H ob w) k e'.key := by
        obtain ⟨u', g1, _, g3⟩ := hvk.get i k (by rw [List.getElem?_map, q4]; rfl)
        rw [List.getElem?_map, q5] at g1
        simp only [Option.map_some, Option.some.injEq] at g1
        rw [g1]; exact g3
      have hks := keyStays (P := P) (w := w) hkt hek hk
      have hae : arr[i]? = some e' := by simpa using q5
      refine ⟨_, _, ?_, map_step (arr' := arr.modify i fun e => { e with key := u, val := uy }) hs ho hb hw hph ?_ ?_ ?_ ?_ hnd hlt⟩
      · simp [Instr.mapUpdate, run_underlying f2, hg, hc, hf, hae, hks, hset]
      · rw [List.all_eq_true] at hnt ⊢
        intro e he
        obtain ⟨j, hj⟩ := List.getElem?_of_mem he
        rw [List.getElem?_modify] at hj
        obtain ⟨e0, g1, g2⟩ : ∃ e0, es[j]? = some e0 ∧ (if i = j then (e0.1, y) else e0) = e := by
          by_cases hij : i = j
          · simp only [hij, if_true] at hj ⊢; cases hq : es[j]? <;> simp_all
          · simp only [if_neg hij] at hj ⊢; cases hq : es[j]? <;> simp_all
        have g0 := hnt e0 (List.mem_of_getElem? g1)
        simp only [Bool.and_eq_true] at g0 ⊢
        by_cases hij : i = j
        · rw [if_pos hij] at g2; subst g2; exact ⟨g0.1, hn⟩
        · rw [if_neg hij] at g2; subst g2; exact g0
      · rw [map_modify_same _ _ (by intro a; rfl), modify_toList, map_modify (fun e : MapEntry => e.key) _ (fun _ => u) (by intro a; rfl)]
        have := VReps.modify i (fun _ => k) (fun _ => u) hvk trivial hk (fun _ _ => rfl) (fun _ _ => rfl)
        have e1 : (es.map (·.1)).modify i (fun _ => k) = es.map (·.1) := by
          apply List.ext_getElem?
          intro j
          rw [List.getElem?_modify, List.getElem?_map]
          by_cases hij : i = j
          · subst hij; simp [q4]
          · simp [hij]
        rwa [e1] at this
      · rw [map_modify (fun e : V × V => e.2) _ (fun _ => y) (by intro a; rfl), modify_toList, map_modify (fun e : MapEntry => e.val) _ (fun _ => uy) (by intro a; rfl)]
        exact VReps.modify i (fun _ => y) (fun _ => uy) hvv trivial hy (fun _ _ => rfl) (fun _ _ => rfl)
      · rw [modify_toList, map_modify_same _ _ (by intro a; rfl)]; exact hbs
  · rename_i hfnd
    simp only [Option.some.injEq] at h; subst h
    rcases vfindK_sound hkt hk 0 hvk hvv hfnd with ⟨_, q2⟩ | ⟨j, x', v', q1, _⟩
    · have hf := MapKept.run_findKey (P := P) (w := w) k2 q2
      refine ⟨_, _, ?_, map_step (arr' := arr.push { key := u, val := uy, born := ck }) hs ho hb hw hph ?_ ?_ ?_ ?_ ?_ ?_⟩
      · simp [Instr.mapUpdate, run_underlying f2, hg, hc, hf, hset]
      · simp only [List.all_append, hnt, Bool.true_and, List.all_cons, List.all_nil, hkn, hn, Bool.and_true]
      · simp only [Array.toList_push, List.map_append, List.map_cons, List.map_nil]
        exact hvk.append ⟨u, _, rfl, trivial, hk, rfl⟩
      · simp only [Array.toList_push, List.map_append, List.map_cons, List.map_nil]
        exact hvv.append ⟨uy, _, rfl, trivial, hy, rfl⟩
      · simp [hbs]
      · rw [List.nodup_append]
        refine ⟨hnd, by simp, fun a ha c hc => ?_⟩
        simp only [List.mem_singleton] at hc
        have := hlt a ha
        omega
      · intro n hnm
        simp only [List.mem_append, List.mem_singleton] at hnm
        rcases hnm with q | q
        · have := hlt n q; omega
        · omega
    · cases q1
  · cases h

theorem VReps.eraseIdx {q : Fl} {E : Env} : ∀ (n : Nat) {xs : List V} {us : List Value}, VReps q E xs us → VReps q E (xs.eraseIdx n) (us.eraseIdx n)
  | n, [], us, h => by simp [VReps] at h; subst h; simp [VReps]
  | 0, c :: cs, us, ⟨u, r, h1, h0, h2, h3⟩ => by subst h1; simpa using h3
  | n + 1, c :: cs, us, ⟨u, r, h1, h0, h2, h3⟩ => by subst h1; exact ⟨u, r.eraseIdx n, rfl, h0, h2, VReps.eraseIdx n h3⟩
theorem map_eraseIdx {α β : Type} (f : α → β) : ∀ (l : List α) (n : Nat), (l.eraseIdx n).map f = (l.map f).eraseIdx n
  | [], n => by simp
  | a :: l, 0 => by simp
  | a :: l, n + 1 => by simp [map_eraseIdx f l n]

theorem delete_sound (hT : TabOK P T) (hs : HSim Φ H ob w) {t t2 ty : Nat} {id : Nat} {k : V} {v u : Value} {es : List (V × V)} {bs : List Nat} {ck : Nat} {o' : Ob} (hx : VRep (mkE Φ H ob w) (.mp id) v) (hk : VRep (mkE Φ H ob w) k u)
    (ho : ob[id]? = some (.map es bs ck)) (hkt : vmapKey T t k = true) (h : vdel k es bs ck = some o') :
    ∃ w' H', (Builtin.delete_ #[t, t2] ty #[v, u]).run P w = .ok (.tuple #[]) w' ∧ HStep Φ H ob w Φ H' (ob.set id o') w' := by
  unfold vmapKey at hkt
  split at hkt
  case h_2 => cases hkt
  rename_i kt et _ _ _ ht
  split at hkt
  case h_2 => cases hkt
  rename_i ik hik
  obtain ⟨info, d, zq, f1, f2, f3, _⟩ := hT t _ ht
  obtain rfl := kindOf_map f3
  obtain ⟨infok, dk, zk, k1, k2, k3, _⟩ := hT kt _ hik
  rw [← k3] at hkt
  have hkey := isKey_of hkt hk
  obtain ⟨b, arr, rfl, hb, hw, hrep, hvk, hvv, hnt, hbs, hnd, hlt, hph⟩ := map_at hs hx ho
  have hg := MapKept.run_getObj_map (P := P) hw
  have hc := MapKept.run_checkKey (P := P) (w := w) k2 hkey arr.isEmpty 9999
  have hset := fun o => MapKept.run_setObj_map (P := P) o hw
  unfold vdel at h
  split at h
  · rename_i i z hfnd
    simp only [Option.some.injEq] at h; subst h
    rcases vfindK_sound hkt hk 0 hvk hvv hfnd with ⟨q, _⟩ | ⟨j, x', v', q1, q2, q3, q4, e', q5, q6⟩
    · cases q
    · simp only [Option.some.injEq, Prod.mk.injEq, Nat.zero_add] at q1 q2
      obtain ⟨rfl, rfl⟩ := q1
      have hf := MapKept.run_findKey (P := P) (w := w) k2 q2
      have he : (arr.eraseIdxIfInBounds i).toList = arr.toList.eraseIdx i := Array.toList_eraseIdxIfInBounds
      refine ⟨_, _, ?_, map_step (arr' := arr.eraseIdxIfInBounds i) hs ho hb hw hph ?_ ?_ ?_ ?_ ?_ ?_⟩
      · simp [Builtin.delete_, run_underlying f2, hg, hc, hf, hset]
      · rw [List.all_eq_true] at hnt ⊢
        exact fun e he => hnt e (List.mem_of_mem_eraseIdx he)
      · rw [map_eraseIdx, he, map_eraseIdx]; exact VReps.eraseIdx i hvk
      · rw [map_eraseIdx, he, map_eraseIdx]; exact VReps.eraseIdx i hvv
      · rw [he, map_eraseIdx, hbs]
      · exact hnd.sublist (List.eraseIdx_sublist _ _)
      · exact fun n hn => hlt n (List.mem_of_mem_eraseIdx hn)
  · rename_i hfnd
    simp only [Option.some.injEq] at h; subst h
    rcases vfindK_sound hkt hk 0 hvk hvv hfnd with ⟨_, q2⟩ | ⟨j, x', v', q1, _⟩
    · have hf := MapKept.run_findKey (P := P) (w := w) k2 q2
      refine ⟨_, _, ?_, map_step (arr' := arr) hs ho hb hw hph hnt hvk hvv hbs hnd hlt⟩
      simp [Builtin.delete_, run_underlying f2, hg, hc, hf, hset]
    · cases q1
  · cases h
end
end Go.VX

/- Going through a map. -/
namespace Go.VX
open Go.RowKit
set_option linter.unusedVariables false
set_option linter.unusedSimpArgs false

/-- The entry of a stamp. -/
def vfindB (n : Nat) : List Nat → List (V × V) → Option (V × V)
  | b :: bs, e :: es => if b = n then some e else vfindB n bs es
  | _, _ => none
theorem vfindB_get {n : Nat} : ∀ {bs : List Nat} {es : List (V × V)} {i : Nat} {e : V × V}, bs.Nodup → bs[i]? = some n → es[i]? = some e → vfindB n bs es = some e
  | [], _, i, e, _, h, _ => by simp at h
  | b :: bs, [], i, e, _, _, h => by simp at h
  | b :: bs, c :: es, 0, e, hn, h1, h2 => by
    simp at h1 h2
    subst h1; subst h2
    simp [vfindB]
  | b :: bs, c :: es, i + 1, e, hn, h1, h2 => by
    simp only [List.getElem?_cons_succ] at h1 h2
    have hne : b ≠ n := fun q => by
      subst q
      exact (List.nodup_cons.1 hn).1 (List.mem_of_getElem? h1)
    simp only [vfindB, if_neg hne]
    exact vfindB_get (List.nodup_cons.1 hn).2 h1 h2
theorem vfindB_some {n : Nat} : ∀ {bs : List Nat} {es : List (V × V)} {e : V × V}, vfindB n bs es = some e → ∃ i : Nat, bs[i]? = some n ∧ es[i]? = some e
  | [], _, e, h => by simp [vfindB] at h
  | b :: bs, [], e, h => by simp [vfindB] at h
  | b :: bs, c :: es, e, h => by
    simp only [vfindB] at h
    split at h
    · rename_i q
      simp only [Option.some.injEq] at h
      exact ⟨0, by simp [q], by simp [h]⟩
    · obtain ⟨i, h1, h2⟩ := vfindB_some h
      exact ⟨i + 1, by simpa using h1, by simpa using h2⟩

def vrange (T : Nat → Option TI) (ob : List Ob) (t : Nat) (x : V) : Option (V × List Ob) :=
  match T t, x with
  | some ⟨.map _ _, _, _, _⟩, .mp id => match ob[id]? with
    | some (.map _ _ ck) => some (.ptr ob.length 0 0, ob ++ [.iter (.mp id) ck [] ck])
    | _ => none
  | _, _ => none
def ventry (ob : List Ob) (x : V) : Option (Prop × V) :=
  match x with
  | .ptr id 0 0 => match ob[id]? with
    | some (.iter (.mp m) _ seen last) => match ob[m]? with
      | some (.map es bs ck) => match seen.getLast? with
        | some n => match vfindB n bs es with
          | some e => some (ck = last, .tup [e.1, e.2])
          | none => none
        | none => none
      | _ => none
    | _ => none
  | _ => none

section
variable {P : Program} {T : Nat → Option TI} {w : World} {Φ : Nat → Prop} {H : Nat → Option Nat} {ob : List Ob}

theorem iter_at (hs : HSim Φ H ob w) {id m : Nat} {since last : Nat} {seen : List Nat} {v : Value} (hx : VRep (mkE Φ H ob w) (.ptr id 0 0) v) (ho : ob[id]? = some (.iter (.mp m) since seen last)) {es : List (V × V)} {bs : List Nat} {ck : Nat} (hm : ob[m]? = some (.map es bs ck)) :
    ∃ b bm arr, v = .pointer (some ⟨b, 0, none⟩) ∧ H id = some b ∧ H m = some bm ∧ w.heap[b]? = some (.mapIter (some bm) since seen.toArray last) ∧ w.heap[bm]? = some (.map arr ck) ∧ ¬ Φ b ∧
      VReps .any (mkE Φ H ob w) (es.map (·.1)) (arr.toList.map (·.key)) ∧ VReps .any (mkE Φ H ob w) (es.map (·.2)) (arr.toList.map (·.val)) ∧
      (es.all fun e => e.1.notTup && e.2.notTup) = true ∧ arr.toList.map (·.born) = bs ∧ bs.Nodup ∧ (∀ n ∈ bs, n < ck) := by
  obtain ⟨_, h1, h2⟩ := hx
  obtain ⟨_, hh⟩ := h2 0 (by simp [mkE, Lof, ho, Ob.len])
  obtain ⟨b, hb, rfl⟩ := hh rfl
  have hb' : H id = some b := hb
  have hr := hs.rep id _ ho
  obtain ⟨q0, b', r, g1, g2, g3, g4⟩ := hr
  obtain rfl : b = b' := by rw [hb'] at g1; exact Option.some.inj g1
  obtain ⟨bm, arr, e1, e2, e3, _, e5, e6, e7, e8, e9, e10, _⟩ := map_at hs g4 hm
  simp only [Value.map.injEq] at e1
  subst e1
  exact ⟨b, bm, arr, rfl, hb', e2, g2, e3, g3, e5, e6, e7, e8, e9, e10⟩

theorem range_sound (hT : TabOK P T) (hs : HSim Φ H ob w) {t : Nat} {x y : V} {v : Value} {ob' : List Ob} (hx : VRep (mkE Φ H ob w) x v) (h : vrange T ob t x = some (y, ob')) :
    ∃ q w' H', (Instr.range t v).run P w = .ok q w' ∧ HStep Φ H ob w Φ H' ob' w' ∧ VRep (mkE Φ H' ob' w') y q := by
  unfold vrange at h
  split at h
  case h_2 => cases h
  rename_i kt et _ _ _ id ht
  split at h
  case h_2 => cases h
  rename_i es bs ck ho
  simp only [Option.some.injEq, Prod.mk.injEq] at h
  obtain ⟨rfl, rfl⟩ := h
  obtain ⟨info, d, zq, f1, f2, f3, _⟩ := hT t _ ht
  obtain rfl := kindOf_map f3
  have hx0 := hx
  obtain ⟨b, arr, rfl, hb, hw, _⟩ := map_at hs hx ho
  have hg := MapKept.run_getObj_map (P := P) hw
  have hst : HStep Φ H ob w Φ (upd H ob.length (some w.heap.size)) (ob ++ [.iter (.mp id) ck [] ck]) (w.alloc (.mapIter (some b) ck #[] ck)) := by
    refine HStep.ofPush hs rfl rfl rfl (fun k hk => Below.heap_alloc w _ k hk) (by simp) (fun b hb => by simp at hb; omega) fun E' hE hw' hΦ => ?_
    refine ⟨rfl, _, some b, rfl, by rw [hw']; exact heap_alloc_new w _, fun hp => ?_, VRep.ext hE _ _ hx0⟩
    rw [hΦ] at hp
    exact absurd (hs.phi _ hp) (by omega)
  refine ⟨.pointer (some ⟨w.heap.size, 0, none⟩), _, _, ?_, hst, ?_⟩
  · simp [Instr.range, run_underlying f2, hg]
  · refine ⟨rfl, by simp [mkE], fun T' hT' => ⟨by omega, fun _ => ⟨w.heap.size, by simp [mkE], rfl⟩⟩⟩

theorem entry_sound (hs : HSim Φ H ob w) {x y : V} {v : Value} {p : Prop} (hx : VRep (mkE Φ H ob w) x v) (h : ventry ob x = some (p, y)) (hp : p) : ∃ q, (Instr.entry v).run P w = .ok q w ∧ VRep (mkE Φ H ob w) y q := by
  unfold ventry at h
  split at h
  case h_2 => cases h
  rename_i id
  split at h
  case h_2 => cases h
  rename_i m since seen last ho
  split at h
  case h_2 => cases h
  rename_i es bs ck hm
  split at h
  case h_2 => cases h
  rename_i n hl
  split at h
  case h_2 => cases h
  rename_i e he
  simp only [Option.some.injEq, Prod.mk.injEq] at h
  obtain ⟨rfl, rfl⟩ := h
  obtain ⟨b, bm, arr, rfl, hb, hbm, g1, g2, g3, g4, g5, g6, g7, g8, g9⟩ := iter_at hs hx ho hm
  obtain ⟨i, h1, h2⟩ := vfindB_some he
  have hil : i < arr.toList.length := by
    have := (List.getElem?_eq_some_iff.1 h1).1
    rw [← g7] at this
    simpa using this
  have hai : arr.toList[i]? = some arr.toList[i] := List.getElem?_eq_getElem hil
  have hborn : arr.toList[i].born = n := by
    rw [← g7, List.getElem?_map, hai] at h1
    simpa using h1
  have hseen : seen.toArray = (seen.dropLast.toArray).push arr.toList[i].born := by
    rw [hborn]
    have : seen = seen.dropLast ++ [n] := by
      have hne : seen ≠ [] := by intro q; subst q; simp at hl
      have h3 := List.dropLast_concat_getLast hne
      rw [List.getLast?_eq_some_getLast hne] at hl
      simp only [Option.some.injEq] at hl
      rw [hl] at h3
      exact h3.symm
    conv => lhs; rw [this]
    simp
  rw [hseen, ← hp] at g1
  have hr := run_entry_at (P := P) w b bm since _ arr ck _ g1 g2 (List.getElem_mem hil) (by rw [g7]; exact g8)
  refine ⟨_, hr, ?_⟩
  obtain ⟨u1, k1, _, k2⟩ := g4.get i e.1 (by rw [List.getElem?_map, h2]; rfl)
  obtain ⟨u2, k3, _, k4⟩ := g5.get i e.2 (by rw [List.getElem?_map, h2]; rfl)
  rw [List.getElem?_map, hai] at k1 k3
  simp only [Option.map_some, Option.some.injEq] at k1 k3
  have hnt := List.all_eq_true.1 g6 e (List.mem_of_getElem? h2)
  simp only [Bool.and_eq_true] at hnt
  refine ⟨_, by show (e.1.notTup && (e.2.notTup && true)) = true; rw [hnt.1, hnt.2]; rfl, rfl, u1, [u2], by rw [← k1, ← k3], trivial, k2, u2, [], rfl, trivial, k4, rfl⟩

theorem next_sound (hs : HSim Φ H ob w) {id m : Nat} {since last : Nat} {seen : List Nat} {v : Value} {ty : Nat} (hx : VRep (mkE Φ H ob w) (.ptr id 0 0) v) (ho : ob[id]? = some (.iter (.mp m) since seen last)) {es : List (V × V)} {bs : List Nat} {ck : Nat} (hm : ob[m]? = some (.map es bs ck))
    (hcs : ck ≤ since) (hsl : since ≤ last) :
    ((∀ n ∈ bs, n ∈ seen) ∧ (Instr.next v false ty).run P w = .ok (.tuple #[.bool false]) w) ∨
    ∃ (i n : Nat) (e : V × V) (q : Value) (w' : World) (H' : Nat → Option Nat), bs[i]? = some n ∧ es[i]? = some e ∧ n ∉ seen ∧ (Instr.next v false ty).run P w = .ok q w' ∧ HStep Φ H ob w Φ H' (ob.set id (.iter (.mp m) since (seen ++ [n]) ck)) w' ∧ VRep (mkE Φ H' (ob.set id (.iter (.mp m) since (seen ++ [n]) ck)) w') (.tup [.bool true, e.1, e.2]) q := by
  obtain ⟨b, bm, arr, rfl, hb, hbm, g1, g2, g3, g4, g5, g6, g7, g8, g9⟩ := iter_at hs hx ho hm
  have hold : ∀ x ∈ arr.toList, x.born < since := fun x hx => by
    have := g9 x.born (by rw [← g7]; exact List.mem_map_of_mem hx)
    omega
  rcases run_next_at (P := P) w ty b bm since last seen.toArray arr ck g1 g2 hold hsl with ⟨h0, hr⟩ | ⟨e0, he0, w1, hw1, hr⟩
  · refine .inl ⟨fun n hn => ?_, hr⟩
    rw [← g7] at hn
    obtain ⟨e, he, rfl⟩ := List.mem_map.1 hn
    have h0' : leftOf arr seen.toArray = #[] := Array.eq_empty_of_size_eq_zero h0
    unfold leftOf at h0'
    rw [Array.filter_eq_empty_iff] at h0'
    have := h0' e (by simpa using he)
    simpa using this
  · right
    have he1 : e0 ∈ arr.toList ∧ e0.born ∉ seen := by
      unfold leftOf at he0
      simpa using he0
    obtain ⟨i, hi⟩ := List.getElem?_of_mem he1.1
    have hbi : bs[i]? = some e0.born := by rw [← g7, List.getElem?_map, hi]; rfl
    have hei : i < es.length := by
      have := g4.length
      have := (List.getElem?_eq_some_iff.1 hi).1
      simp at *; omega
    have hes : es[i]? = some es[i] := List.getElem?_eq_getElem hei
    have hw1h : w1.heap = w.heap := by rcases hw1 with rfl | rfl <;> rfl
    have g1' : w1.heap[b]? = some (.mapIter (some bm) since seen.toArray last) := by rw [hw1h]; exact g1
    have hst0 : HStep Φ H ob w Φ H ob w1 := by
      rcases hw1 with rfl | rfl
      · exact HStep.refl hs
      · exact HStep.same hs rfl rfl rfl rfl
    have hs1 : HSim Φ H ob w1 := (hs.same hw1h).1
    have hE1 := (hs.same (w' := w1) hw1h).2
    have hrep := hs1.rep id _ ho
    rw [hb] at hrep
    obtain ⟨q0, b', r', k1, k2, k3, k4⟩ := hrep
    have hst : HStep Φ H ob w1 Φ (upd H id (some b)) (ob.set id (.iter (.mp m) since (seen ++ [e0.born]) ck)) { w1 with heap := w1.heap.setIfInBounds b (.mapIter (some bm) since (seen.toArray.push e0.born) ck) } := by
      refine HStep.ofChange hs1 ho rfl rfl rfl rfl (fun k hk hne => ?_) (by simp) (fun _ h => h) (fun _ h => .inl h) (fun b' hb' => .inl (by rw [hb]; exact hb')) (fun T' hT' => ?_) (fun E' hE hw' hΦ => ?_)
      · rw [heap_setObj w1 g1', if_neg (fun e => hne (by rw [e]; exact hb))]
      · simp only [Ob.len, Option.some.injEq] at hT'
        refine ⟨0, rfl, by omega, fun _ => ⟨hb.symm, fun b' hb' => ?_⟩⟩
        rw [hb] at hb'
        obtain rfl := Option.some.inj hb'
        simp only [bsize]
        rw [heap_setObj w1 g1', if_pos rfl, g1']
      · simp only [Option.some.injEq] at k1
        subst k1
        have k2 : w1.heap[b]? = _ := k2
        rw [g1'] at k2
        simp only [Option.some.injEq, Obj.mapIter.injEq] at k2
        obtain ⟨rfl, _⟩ := k2
        refine ⟨rfl, b, some bm, rfl, by rw [hw', heap_setObj w1 g1', if_pos rfl]; simp, by rw [hΦ]; exact g3, VRep.ext hE _ _ k4⟩
    obtain ⟨u1, k1', _, k2'⟩ := g4.get i es[i].1 (by rw [List.getElem?_map, hes]; rfl)
    obtain ⟨u2, k3', _, k4'⟩ := g5.get i es[i].2 (by rw [List.getElem?_map, hes]; rfl)
    rw [List.getElem?_map, hi] at k1' k3'
    simp only [Option.map_some, Option.some.injEq] at k1' k3'
    have hnt := List.all_eq_true.1 g6 es[i] (List.mem_of_getElem? hes)
    simp only [Bool.and_eq_true] at hnt
    have hst2 := hst0.trans hst
    refine ⟨i, e0.born, es[i], _, _, _, hbi, hes, he1.2, hr, hst2, _, by show (V.notTup (.bool true) && (es[i].1.notTup && (es[i].2.notTup && true))) = true; rw [hnt.1, hnt.2]; rfl, rfl, .bool true, [u1, u2], by simp [k1', k3'], trivial, rfl, u1, [u2], rfl, trivial, VRep.ext hst2.ext _ _ k2', u2, [], rfl, trivial, VRep.ext hst2.ext _ _ k4', rfl⟩
end
end Go.VX

/- Structs compared. -/
namespace Go.VX
open Go.RowKit
set_option linter.unusedVariables false
set_option linter.unusedSimpArgs false

def veqFs (T : Nat → Option TI) (E : Nat → V → V → Option (Prop × Bool)) : List (Nat × Nat) → List V → List V → Option (Prop × Bool)
  | [], _, _ => some (True, true)
  | f :: fs, xs, ys => match vpart T f.2 xs f.1, vpart T f.2 ys f.1 with
    | some (p1, a), some (p2, b) => match E f.2 a b, veqFs T E fs xs ys with
      | some (p3, q), some (p4, r) => some (p1 ∧ p2 ∧ p3 ∧ p4, q && r)
      | _, _ => none
    | _, _ => none
def veqV (T : Nat → Option TI) : Nat → Nat → V → V → Option (Prop × Bool)
  | 0, _, _, _ => none
  | d + 1, t, x, y => match T t with
    | some ⟨.int _, _, _, _⟩ => match x, y with
      | .int k a, .int k' b => if k = k' then some (True, a == b) else none
      | _, _ => none
    | some ⟨.bool, _, _, _⟩ => match x, y with
      | .bool a, .bool b => some (True, a == b)
      | _, _ => none
    | some ⟨.string, _, _, _⟩ => match x, y with
      | .str a, .str b => some (True, decide (a = b))
      | _, _ => none
    | some ⟨.struct fs, _, _, _⟩ => match x, y with
      | .agg xs, .agg ys => veqFs T (veqV T d) fs xs ys
      | _, _ => none
    | _ => none
/-- Is a slice surely nil, or surely not? What must hold for that. -/
def vnilS (ob : List Ob) : V → Option (Prop × Bool)
  | .nils => some (True, true)
  | .fs _ cs => some (cs.length ≠ 0, false)
  | .sl id tot _ _ _ => match ob[id]? with
    | some (.live cs) | some (.frz cs) => some (cs.length = tot ∧ tot ≠ 0, false)
    | _ => none
  | _ => none
/-- .. with structs, and slices with nil. -/
def vbinE (T : Nat → Option TI) (ob : List Ob) (op : BinOp) (t : Nat) (x y : V) : Option (Prop × V) :=
  match op, x, y with
  | .eql, .agg xs, .agg ys => match veqV T 4 t (.agg xs) (.agg ys) with
    | some (p, q) => some (p, .bool q)
    | none => none
  | .neq, .agg xs, .agg ys => match veqV T 4 t (.agg xs) (.agg ys) with
    | some (p, q) => some (p, .bool (!q))
    | none => none
  | .eql, x, .nils => match T t, vnilS ob x with
    | some ⟨.slice _, _, _, _⟩, some (p, b) => some (p, .bool b)
    | _, _ => none
  | .neq, x, .nils => match T t, vnilS ob x with
    | some ⟨.slice _, _, _, _⟩, some (p, b) => some (p, .bool (!b))
    | _, _ => none
  | op, x, y => vbin T ob op t x y

section
variable {P : Program} {T : Nat → Option TI} {w : World} {Φ : Nat → Prop} {H : Nat → Option Nat} {ob : List Ob}

theorem kindOf_bool {d : TypeDesc} (h : kindOf d = .bool) : d = .bool := by
  cases d <;> simp_all [kindOf]

theorem veqFs_sound (hT : TabOK P T) {d : Nat} (ih : ∀ (t : Nat) (x y : V) (u v : Value) {p : Prop} {q : Bool}, veqV T d t x y = some (p, q) → p → VRep (mkE Φ H ob w) x u → VRep (mkE Φ H ob w) y v → ∀ n, d ≤ n → (Op.equalIn n t u v).run P w = .ok q w) : ∀ (F : List Field) (xs ys : List V) (a b : Array Value) {p : Prop} {q : Bool}, veqFs T (veqV T d) (F.map fun f => (f.offset, f.type)) xs ys = some (p, q) → p → VReps .cell (mkE Φ H ob w) xs a.toList → VReps .cell (mkE Φ H ob w) ys b.toList →
    (∀ f ∈ F, f.name ≠ "_") → ∀ n, d ≤ n → (Op.eqFields n a b F).run P w = .ok q w
  | [], xs, ys, a, b, p, q, h, hp, ha, hb, hf, n, hn => by
    simp only [List.map_nil, veqFs, Option.some.injEq, Prod.mk.injEq] at h
    obtain ⟨_, rfl⟩ := h
    simp [Op.eqFields]
  | f :: F, xs, ys, a, b, p, q, h, hp, ha, hb, hf, n, hn => by
    simp only [List.map_cons, veqFs] at h
    split at h
    case h_2 => cases h
    rename_i p1 x p2 y h1 h2
    split at h
    case h_2 => cases h
    rename_i p3 q3 p4 q4 h3 h4
    simp only [Option.some.injEq, Prod.mk.injEq] at h
    obtain ⟨rfl, rfl⟩ := h
    obtain ⟨hp1, hp2, hp3, hp4⟩ := hp
    obtain ⟨u, g1, g2⟩ := vpart_sound (P := P) hT ha h1 hp1
    obtain ⟨v, g3, g4⟩ := vpart_sound (P := P) hT hb h2 hp2
    have g5 := ih f.type x y u v h3 hp3 g2 g4 n hn
    have g6 := veqFs_sound hT ih F xs ys a b h4 hp4 ha hb (fun g hg => hf g (List.mem_cons_of_mem _ hg)) n hn
    have hne := hf f (by simp)
    cases q3
    · simp [Op.eqFields, hne, g1, g3, g5]
    · simp [Op.eqFields, hne, g1, g3, g5, g6]
theorem veqV_sound (hT : TabOK P T) : ∀ (d t : Nat) (x y : V) (u v : Value) {p : Prop} {q : Bool}, veqV T d t x y = some (p, q) → p → VRep (mkE Φ H ob w) x u → VRep (mkE Φ H ob w) y v → ∀ n, d ≤ n → (Op.equalIn n t u v).run P w = .ok q w
  | 0, _, _, _, _, _, _, _, h, _, _, _, _, _ => by simp [veqV] at h
  | d + 1, t, x, y, u, v, p, q, h, hp, hx, hy, 0, hn => by omega
  | d + 1, t, x, y, u, v, p, q, h, hp, hx, hy, n + 1, hn => by
    simp only [veqV] at h
    split at h
    · rename_i k _ _ _ ht
      obtain ⟨info, dd, z, e1, e2, e3, _⟩ := hT t _ ht
      obtain rfl := kindOf_int e3
      split at h
      case h_2 => cases h
      split at h
      case isFalse => cases h
      rename_i hk
      subst hk
      simp only [Option.some.injEq, Prod.mk.injEq] at h
      obtain ⟨_, rfl⟩ := h
      simp only [VRep] at hx hy
      subst hx; subst hy
      exact run_equalIn_int w n t _ _ _ _ e2
    · rename_i _ _ _ ht
      obtain ⟨info, dd, z, e1, e2, e3, _⟩ := hT t _ ht
      obtain rfl := kindOf_bool e3
      split at h
      case h_2 => cases h
      simp only [Option.some.injEq, Prod.mk.injEq] at h
      obtain ⟨_, rfl⟩ := h
      simp only [VRep] at hx hy
      subst hx; subst hy
      exact run_equalIn_bool' w n t _ _ e2
    · rename_i _ _ _ ht
      obtain ⟨info, dd, z, e1, e2, e3, _⟩ := hT t _ ht
      obtain rfl := kindOf_string e3
      split at h
      case h_2 => cases h
      simp only [Option.some.injEq, Prod.mk.injEq] at h
      obtain ⟨_, rfl⟩ := h
      simp only [VRep] at hx hy
      subst hx; subst hy
      rw [run_equalIn_string w n t _ _ e2, ← beq_toListBytes]
      congr 1
      rw [Bool.eq_iff_iff, decide_eq_true_iff]
      exact MapKept.bytes_beq _ _
    · rename_i fs _ _ _ ht
      have hq := hT.eqs t _ _ _ _ ht
      obtain ⟨info, dd, z, e1, e2, e3, _⟩ := hT t _ ht
      obtain ⟨F, rfl, rfl⟩ := kindOf_struct e3
      split at h
      case h_2 => cases h
      rename_i xs ys
      obtain ⟨a, rfl, ha⟩ := hx
      obtain ⟨b, rfl, hb⟩ := hy
      have hF : P.fieldsOf t = F := by unfold Program.fieldsOf; rw [e2]
      unfold eqOK at hq
      simp only [e2, Bool.and_eq_true, Bool.not_eq_true', List.all_eq_true, decide_eq_true_eq] at hq
      rw [run_equalIn_struct w n t a b (by rw [hF]; exact e2) hq.1, hF]
      exact veqFs_sound hT (fun t x y u v {p q} h hp hx hy n hn => veqV_sound hT d t x y u v h hp hx hy n hn) F.toList xs ys a b h hp ha hb hq.2.2 n (by omega)
    · cases h
theorem vnilS_sound {x : V} {v : Value} (hx : VRep (mkE Φ H ob w) x v) {p : Prop} {b : Bool} (h : vnilS ob x = some (p, b)) (hp : p) :
    ∃ a l c, v = .slice a l c ∧ a.isNone = b := by
  cases x <;> simp only [vnilS] at h <;> (try (simp at h; done))
  · simp only [Option.some.injEq, Prod.mk.injEq] at h
    simp only [VRep] at hx
    exact ⟨_, _, _, hx, by rw [← h.2]; rfl⟩
  · simp only [Option.some.injEq, Prod.mk.injEq] at h
    obtain ⟨rfl, rfl⟩ := h
    obtain ⟨ad, cap, us, h1, h2, h3, h4⟩ := hx
    have hl : 0 < us.length := by rw [← VReps.length h3]; omega
    obtain ⟨b, o, e, _⟩ := h4 hl
    exact ⟨_, _, _, h1, by rw [e]; rfl⟩
  · rename_i id tot esz off n
    obtain ⟨h0, h1, h2⟩ := hx
    split at h
    all_goals simp only [Option.some.injEq, Prod.mk.injEq, reduceCtorEq] at h
    all_goals
      rename_i cs ho
      obtain ⟨rfl, rfl⟩ := h
      obtain ⟨_, hh⟩ := h2 cs.length (by simp [mkE, Lof, ho, Ob.len])
      have hs := hh hp.1.symm
      cases hb : (mkE Φ H ob w).H id with
      | none =>
        rw [hb] at hs
        exact absurd hs.1 hp.2
      | some b =>
        rw [hb] at hs
        obtain ⟨cap, hv, _⟩ := hs
        exact ⟨_, _, _, hv, rfl⟩
theorem eqG_slice (op : BinOp) (t : Nat) (ox oy : Operand) (a : Option Addr) (l c : Nat) (y : Value) : (eqGuard op t ox oy (.slice a l c) y).run P w = .ok () w := by
  unfold eqGuard
  split <;> simp
theorem run_eql_slice_nil (t e : TypeId) (a : Option Addr) (l c : Nat) (h : P.underlying t = some (.slice e)) : (binOp .eql t (.slice a l c) (.slice none 0 0)).run P w = .ok (.bool a.isNone) w := by
  simp only [binOp]
  simp [run_equal_slice_nil w t e a l c h]
theorem vbinE_run (hT : TabOK P T) {op : BinOp} {t : Nat} {x y z : V} {u v : Value} {p : Prop} (h : vbinE T ob op t x y = some (p, z)) (hp : p)
    (hx : VRep (mkE Φ H ob w) x u) (hy : VRep (mkE Φ H ob w) y v) (ox oy : Operand) :
    ∃ r, (do eqGuard op t ox oy u v; binOp op t u v : Sem Value).run P w = .ok r w ∧ VRep (mkE Φ H ob w) z r := by
  have agg : ∀ (xs ys : List V) (q : Bool), veqV T 4 t (.agg xs) (.agg ys) = some (p, q) → VRep (mkE Φ H ob w) (.agg xs) u → VRep (mkE Φ H ob w) (.agg ys) v →
      ∃ a b : Array Value, u = .agg a ∧ v = .agg b ∧ (Op.equalIn 10000 t (.agg a) (.agg b)).run P w = .ok q w ∧ P.eqGuardType P.depth t = false := by
    intro xs ys q hv h1 h2
    have h1' := h1
    have h2' := h2
    obtain ⟨a, rfl, _⟩ := h1
    obtain ⟨b, rfl, _⟩ := h2
    refine ⟨a, b, rfl, rfl, veqV_sound hT 4 t _ _ _ _ hv hp h1' h2' 10000 (by omega), ?_⟩
    simp only [veqV] at hv
    split at hv
    · cases hv
    · cases hv
    · cases hv
    · rename_i fs _ _ _ ht
      have hq := hT.eqs t _ _ _ _ ht
      unfold eqOK at hq
      simp only [Bool.and_eq_true, Bool.not_eq_true'] at hq
      exact hq.2.1
    · cases hv
  unfold vbinE at h
  split at h
  · split at h
    case h_2 => cases h
    rename_i p' q hv
    simp only [Option.some.injEq, Prod.mk.injEq] at h
    obtain ⟨rfl, rfl⟩ := h
    obtain ⟨a, b, rfl, rfl, h1, h2⟩ := agg _ _ _ hv hx hy
    exact ⟨.bool q, by simp [run_eqGuard_agg w _ t ox oy a b h2, run_eql_struct, h1], rfl⟩
  · split at h
    case h_2 => cases h
    rename_i p' q hv
    simp only [Option.some.injEq, Prod.mk.injEq] at h
    obtain ⟨rfl, rfl⟩ := h
    obtain ⟨a, b, rfl, rfl, h1, h2⟩ := agg _ _ _ hv hx hy
    exact ⟨.bool (!q), by simp [run_eqGuard_agg w _ t ox oy a b h2, run_neq_struct, h1], rfl⟩
  · split at h
    case h_2 => cases h
    rename_i ht hn
    simp only [Option.some.injEq, Prod.mk.injEq] at h
    obtain ⟨rfl, rfl⟩ := h
    obtain ⟨info, d, zz, e1, e2, e3, _⟩ := hT t _ ht
    obtain rfl := kindOf_slice e3
    obtain ⟨a, l, c, rfl, rfl⟩ := vnilS_sound hx hn hp
    simp only [VRep] at hy
    subst hy
    exact ⟨_, by simp [eqG_slice, run_eql_slice_nil (w := w) t _ a l c e2], rfl⟩
  · split at h
    case h_2 => cases h
    rename_i ht hn
    simp only [Option.some.injEq, Prod.mk.injEq] at h
    obtain ⟨rfl, rfl⟩ := h
    obtain ⟨info, d, zz, e1, e2, e3, _⟩ := hT t _ ht
    obtain rfl := kindOf_slice e3
    obtain ⟨a, l, c, rfl, rfl⟩ := vnilS_sound hx hn hp
    simp only [VRep] at hy
    subst hy
    exact ⟨_, by simp [eqG_slice, run_neq_slice_nil w t _ a l c e2], rfl⟩
  · exact vbin_run hT h hp hx hy ox oy
end
end Go.VX

/- Slices cleared; room that is asked for; slices with a bound, looked at alone. -/
namespace Go.VX
open Go.RowKit
set_option linter.unusedVariables false
set_option linter.unusedSimpArgs false

def vclear (T : Nat → Option TI) (ob : List Ob) (t : Nat) (x : V) : Option (Prop × V × List Ob) :=
  match T t with
  | some ⟨.slice e, _, _, _⟩ => match T e, x with
    | some ie, .sl id tot esz off n => match ob[id]? with
      | some (.live cs) => if esz = ie.size then some (cs.length = tot ∧ 0 < n, .tup [], ob.set id (.live (spl cs off (zerosV ie.zero.cells n)))) else none
      | _ => none
    | _, _ => none
  | _ => none
def vcap (T : Nat → Option TI) (t : Nat) (x : V) : Option V :=
  match T t, x with
  | some ⟨.slice _, _, _, _⟩, .nils => some (.int .i64 0)
  | _, _ => none
def vsl3 (sz : Nat) (x : V) (l h : Int) : V :=
  match x with
  | .fs n cs => .fs (h.toNat - l.toNat) ((cs.drop (l.toNat * sz)).take ((h.toNat - l.toNat) * sz))
  | _ => .junk
def vslice3 (T : Nat → Option TI) (ob : List Ob) (t : Nat) (x : V) (lo hi : Option Int) (mx : Int) : Option (Prop × V) :=
  match T t, rdS ob x, hi with
  | some ⟨.slice e, _, _, _⟩, some (p, n, _), some h => match T e with
    | some ie => some (p ∧ 0 ≤ lo.getD 0 ∧ lo.getD 0 ≤ h ∧ h ≤ mx ∧ mx ≤ n, vsl3 ie.size x (lo.getD 0) h)
    | none => none
  | _, _, _ => none
section
variable {P : Program} {T : Nat → Option TI} {w : World} {Φ : Nat → Prop} {H : Nat → Option Nat} {ob : List Ob}

theorem clear_sound (hT : TabOK P T) (hs : HSim Φ H ob w) {t ty : Nat} {x : V} {v : Value} (hx : VRep (mkE Φ H ob w) x v)
    {p : Prop} {r : V} {ob' : List Ob} (h : vclear T ob t x = some (p, r, ob')) (hp : p) :
    ∃ q w' H', (Builtin.clear_ #[t] ty #[v]).run P w = .ok q w' ∧ HStep Φ H ob w Φ H' ob' w' ∧ VRep (mkE Φ H' ob' w') r q := by
  unfold vclear at h
  split at h
  case h_2 => cases h
  rename_i e _ _ _ ht
  split at h
  case h_2 => cases h
  rename_i ie id tot esz off n hte
  split at h
  case h_2 => cases h
  rename_i cs ho
  split at h
  case isFalse => cases h
  rename_i hesz
  simp only [Option.some.injEq, Prod.mk.injEq] at h
  obtain ⟨rfl, rfl, rfl⟩ := h
  obtain ⟨hct, hn⟩ := hp
  subst hesz
  obtain ⟨info, d, zq, f1, f2, f3, f4, _⟩ := hT t _ ht
  obtain rfl := kindOf_slice f3
  obtain ⟨info', z, e1, e2, e3, e4, e5⟩ := zero_rep hT hte (mkE Φ H ob w)
  have hz := zeroCells_rep e3 n
  obtain ⟨k0, k1, k2⟩ := hx
  obtain ⟨_, hh⟩ := k2 cs.length (by simp [mkE, Lof, ho, Ob.len])
  have hsl := hh hct.symm
  simp only [mkE] at hsl
  cases hH : H id with
  | none =>
    rw [hH] at hsl
    obtain ⟨_, _, e3, _⟩ := hsl
    omega
  | some b =>
    rw [hH] at hsl
    obtain ⟨cap, rfl, g2, g3, g4⟩ := hsl
    have hyl : (zerosV ie.zero.cells n).length = n * ie.size := by rw [zerosV_eq]; simp [e5]
    obtain ⟨cur, el, q1, q2, q3⟩ := HStep.write hs ho hH (off := off) hz (by rw [hyl]; omega)
    have hst := run_storeCells_at P b off el (Builtin.zeroCells z.cells n).toList 0 cur w q1 (by simpa using q2) (VReps.one hz)
    simp only [Nat.add_zero] at hst
    obtain ⟨k, rfl⟩ : ∃ k, n = k + 1 := ⟨n - 1, by omega⟩
    refine ⟨.tuple #[], _, _, ?_, q3, ⟨#[], rfl, rfl, rfl⟩⟩
    simp [Builtin.clear_, run_underlying f2, zeroValue, typeInfo, e1, e2, hst]

theorem cap_sound (hT : TabOK P T) {t ty : Nat} {E : Env} {x r : V} {v : Value} (hx : VRep E x v) (h : vcap T t x = some r) : (Builtin.cap_ #[t] ty #[v]).run P w = .ok (goInt 0) w ∧ r = .int .i64 0 := by
  unfold vcap at h
  split at h
  · rename_i e _ _ _ ht
    obtain ⟨info, d, zq, f1, f2, f3, f4, _⟩ := hT t _ ht
    obtain rfl := kindOf_slice f3
    simp only [VRep] at hx
    subst hx
    exact ⟨by simp [Builtin.cap_, run_underlying f2], (Option.some.inj h).symm⟩
  · cases h

theorem slice_value {x : V} {v : Value} (hx : VRep (mkE Φ H ob w) x v) {p : Prop} {n : Nat} {cs : List V} (h : rdS ob x = some (p, n, cs)) (hp : p) : ∃ ad cap, v = .slice ad n cap ∧ n ≤ cap := by
  cases x <;> simp only [rdS, reduceCtorEq, Option.some.injEq, Prod.mk.injEq] at h
  · obtain ⟨_, rfl, _⟩ := h
    exact ⟨none, 0, hx, Nat.le_refl _⟩
  · obtain ⟨_, rfl, _⟩ := h
    obtain ⟨ad, cap, us, h1, h2, _⟩ := hx
    exact ⟨ad, cap, h1, h2⟩
  · rename_i id tot esz off n'
    have hob : ∃ cs'' : List V, Lof ob id = some cs''.length ∧ cs''.length = tot ∧ n = n' := by
      split at h <;> simp only [Option.some.injEq, Prod.mk.injEq, reduceCtorEq] at h
      all_goals
        rename_i cs'' ho
        obtain ⟨rfl, h2, _⟩ := h
        exact ⟨cs'', by simp [Lof, ho, Ob.len], hp, h2.symm⟩
    obtain ⟨cs'', hL, hlen, rfl⟩ := hob
    obtain ⟨k0, k1, k2⟩ := hx
    obtain ⟨q1, q2⟩ := k2 _ hL
    have hv := q2 hlen.symm
    simp only [mkE] at hv
    cases hH : H id with
    | none =>
      rw [hH] at hv
      obtain ⟨_, _, rfl, rfl⟩ := hv
      exact ⟨none, 0, rfl, Nat.le_refl _⟩
    | some b =>
      rw [hH] at hv
      obtain ⟨cap, rfl, g2, _⟩ := hv
      exact ⟨_, cap, rfl, g2⟩

theorem vslice3_sound (hT : TabOK P T) {t : Nat} {x y : V} {v : Value} (hx : VRep (mkE Φ H ob w) x v) {lo hi : Option Int} {mx : Int} {kl kh km : IntKind} {p : Prop} (h : vslice3 T ob t x lo hi mx = some (p, y)) (hp : p) :
    ∃ u, (Instr.sliceAt t v (lo.map (Value.int kl)) (hi.map (Value.int kh)) (some (Value.int km mx))).run P w = .ok u w ∧ VRep (mkE Φ H ob w) y u := by
  unfold vslice3 at h
  split at h
  case h_2 => cases h
  rename_i e _ _ _ p' n cs h' ht hrd
  split at h
  case h_2 => cases h
  rename_i ie hte
  simp only [Option.some.injEq, Prod.mk.injEq] at h
  obtain ⟨rfl, rfl⟩ := h
  obtain ⟨hp', h0, h1, h2, h3⟩ := hp
  obtain ⟨info, d, zq, f1, f2, f3, f4, _⟩ := hT t _ ht
  obtain rfl := kindOf_slice f3
  obtain ⟨info', d', z', e1', _, _, e4', _⟩ := hT e ie hte
  have hs' := run_sizeOf_tab (P := P) (w := w) e1'
  rw [e4'] at hs'
  obtain ⟨ad, cap, hve, hc⟩ := slice_value hx hrd hp'
  have hy : ∀ l : Int, 0 ≤ l → l ≤ h' → h' ≤ mx → VRep (mkE Φ H ob w) (vsl3 ie.size x l h') (.slice (if mx.toNat = l.toNat then ad else ad.map (·.add (l.toNat * ie.size))) (h'.toNat - l.toNat) (mx.toNat - l.toNat)) := by
    intro l q0 q1 q2
    cases x <;> try exact trivial
    rename_i nn cc
    obtain ⟨ad2, cap2, us, g1, g2, g3, g4⟩ := hx
    rw [hve] at g1
    cases g1
    refine ⟨_, _, (us.drop (l.toNat * ie.size)).take ((h'.toNat - l.toNat) * ie.size), rfl, by omega, (g3.drop _).take _, fun hlen => ?_⟩
    simp only [List.length_take, List.length_drop] at hlen
    have hpos : h'.toNat - l.toNat ≠ 0 := fun e => by rw [e] at hlen; simp at hlen
    obtain ⟨b, o, rfl, hphi, hr⟩ := g4 (by omega)
    rw [if_neg (by omega)]
    exact ⟨b, o + l.toNat * ie.size, by simp [addr_add], hphi, reads_take _ (reads_drop _ hr)⟩
  subst hve
  have b1 : 0 ≤ mx ∧ mx ≤ (cap : Int) := ⟨by omega, by omega⟩
  have b2 : 0 ≤ h' ∧ h' ≤ max mx 0 := ⟨by omega, by omega⟩
  have b2' : 0 ≤ h' ∧ h' ≤ mx := ⟨by omega, by omega⟩
  have e3 : ((mx.toNat : Nat) : Int) = mx := by omega
  have e4 : ((h'.toNat : Nat) : Int) = h' := by omega
  cases lo with
  | none =>
    refine ⟨.slice (if mx.toNat = 0 then ad else ad.map (·.add (0 * ie.size))) (h'.toNat - 0) (mx.toNat - 0), ?_, hy 0 (by omega) h1 h2⟩
    simp [Instr.sliceAt, run_underlying f2, Instr.slice, Instr.sliceBounds, Instr.sliceBound, asIntOf, b1, b2, b2', e3, hs']
  | some l =>
    simp only [Option.getD_some] at h0 h1
    have b3 : 0 ≤ l ∧ l ≤ h' := ⟨h0, h1⟩
    have b3' : 0 ≤ l ∧ l ≤ max h' 0 := ⟨h0, by omega⟩
    refine ⟨.slice (if mx.toNat = l.toNat then ad else ad.map (·.add (l.toNat * ie.size))) (h'.toNat - l.toNat) (mx.toNat - l.toNat), ?_, hy l h0 h1 h2⟩
    simp [Instr.sliceAt, run_underlying f2, Instr.slice, Instr.sliceBounds, Instr.sliceBound, asIntOf, b1, b2, b2', b3, b3', e3, e4, hs']
end
end Go.VX

/- All operations together. -/
namespace Go.VX
open Go.RowKit
set_option linter.unusedVariables false
set_option linter.unusedSimpArgs false

def vpick (c : Bool) (x y : V) : V := if c = true then x else y

def intOfV : V → Option Int
  | .int _ n => some n
  | _ => none

def vmin (x y : V) : Option V :=
  match x, y with
  | .int k a, .int k' b => if k = k' then some (.int k (if b < a then b else a)) else none
  | _, _ => none
def vmax (x y : V) : Option V :=
  match x, y with
  | .int k a, .int k' b => if k = k' then some (.int k (if b > a then b else a)) else none
  | _, _ => none

def vlen (T : Nat → Option TI) (ob : List Ob) (t : Nat) (x : V) : Option (Prop × V) :=
  match T t with
  | some ⟨.string, _, _, _⟩ => match x with
    | .str s => some (True, .int .i64 (s.size : Int))
    | _ => none
  | some ⟨.slice _, _, _, _⟩ => match rdS ob x with
    | some (p, n, _) => some (p, .int .i64 (n : Int))
    | none => none
  | some ⟨.array n _, _, _, _⟩ => some (True, .int .i64 (n : Int))
  | some ⟨.map _ _, _, _, _⟩ => match x with
    | .mp id => match ob[id]? with
      | some (.map es _ _) => some (True, .int .i64 (es.length : Int))
      | _ => none
    | _ => none
  | _ => none

def vconv (T : Nat → Option TI) (ob : List Ob) (src dst : Nat) (x : V) : Option (Prop × V) :=
  match T src, T dst with
  | some i, some j => match j.k, x with
    | .int k, .int _ n => some (True, .int k (k.wrap n))
    | .string, .str s => some (True, .str s)
    | .slice e, .str s => match i.k, T e with
      | .string, some ⟨.int .u8, _, _, _⟩ => some (True, .fs s.size (bytesV s))
      | _, _ => none
    | .string, x => match i.k with
      | .slice e => match T e, rdS ob x with
        | some ⟨.int .u8, _, _, _⟩, some (p, n, ys) => some (p ∧ ys.length = n ∧ ys.all byteQ = true, .str (strOfV ys))
        | _, _ => none
      | _ => none
    | _, _ => none
  | _, _ => none

def vopCall (T : Nat → Option TI) (sl : List (Nat × V)) (ob : List Ob) (b : Builtin) (args : List Operand) (ts : List Nat) : Option (Prop × V × List Ob) :=
  match b, args, ts with
  | .len, [x], [t] => match vlen T ob t (evV sl x) with
    | some (p, y) => some (p, y, ob)
    | none => none
  | .min, [x, y], _ => match vmin (evV sl x) (evV sl y) with
    | some z => some (True, z, ob)
    | none => none
  | .max, [x, y], _ => match vmax (evV sl x) (evV sl y) with
    | some z => some (True, z, ob)
    | none => none
  | .append, [x, y], [t, t2] => match T t2 with
    | some ⟨.slice _, _, _, _⟩ | some ⟨.string, _, _, _⟩ => vappend T ob t (evV sl x) (evV sl y)
    | some ⟨.int _, _, _, _⟩ => match evV sl y with
      | .int _ n => vappendZ T ob t (evV sl x) n
      | _ => none
    | _ => none
  | .copy, [x, y], [t, _] => vcopy T ob t (evV sl x) (evV sl y)
  | .delete, [x, k], [t, _] => match evV sl x with
    | .mp id => match ob[id]? with
      | some (.map es bs ck) => if vmapKey T t (evV sl k) = true then match vdel (evV sl k) es bs ck with
          | some o' => some (True, .tup [], ob.set id o')
          | none => none
        else none
      | _ => none
    | _ => none
  | .clear, [x], [t] => vclear T ob t (evV sl x)
  | .cap, [x], [t] => match vcap T t (evV sl x) with
    | some y => some (True, y, ob)
    | none => none
  | _, _, _ => none

/-- A value, as the program's own text may hold it. -/
def conc1 : V → Option Value
  | .int k n => some (.int k n)
  | .bool b => some (.bool b)
  | .str s => some (.string s)
  | _ => none
def concV : V → Option Value
  | .agg cs => (cs.mapM conc1).map fun l => .agg l.toArray
  | _ => none
def vop (T : Nat → Option TI) (sl : List (Nat × V)) (ob : List Ob) : Op → Option (Prop × V × List Ob)
  | .move x => some (True, evV sl x, ob)
  | .assign x => some (True, evV sl x, ob)
  | .pick c a b => match evV sl c with
    | .bool c => some (True, vpick c (evV sl a) (evV sl b), ob)
    | _ => none
  | .alloc t => match T t with
    | some i => some (True, .ptr ob.length i.zero.cells.length 0, ob ++ [.live i.zero.cells])
    | none => none
  | .box _ x => if (evV sl x).known then some (True, .ptr ob.length (evV sl x).cells.length 0, ob ++ [.live (evV sl x).cells]) else none
  | .build t parts => match vbuild T t (parts.toList.map fun q => (q.1, evV sl q.2)) with
    | some (p, y) => some (p, y, ob)
    | none => none
  | .buildSlice t n parts => match T t with
    | some ⟨.slice e, _, _, _⟩ => match T e with
      | some ie => match vfill (fun i => some (i * ie.size, ie.size)) (zerosV ie.zero.cells n) (parts.toList.map fun q => (q.1, evV sl q.2)) with
        | some (p, cs) => some (p ∧ n * ie.size ≤ 16777216 ∧ cs.length = n * ie.size, .sl ob.length cs.length ie.size 0 n, ob ++ [.live cs])
        | none => none
      | none => none
    | _ => none
  | .load t x => match T t, rdV ob (evV sl x) with
    | some i, some (p, cs, off) => if i.k.isAgg then some (p ∧ off + i.size ≤ cs.length, .agg ((cs.drop off).take i.size), ob) else some (p ∧ off < cs.length, cs.getD off .junk, ob)
    | _, _ => none
  | .store t x y => match T t, evV sl x with
    | some i, .ptr id tot off => match ob[id]? with
      | some (.live cs) => if (evV sl y).known then
          some (cs.length = tot ∧ (evV sl y).cells.length = i.size ∧ 0 < i.size ∧ off + (evV sl y).cells.length ≤ cs.length, .junk, ob.set id (.live (spl cs off (evV sl y).cells)))
        else none
      | _ => none
    | _, _ => none
  | .nilCheck x => match evV sl x with
    | .fn f cs => some (True, .fn f cs, ob)
    | y => match vnil ob y with
      | some (p, false) => some (p, y, ob)
      | _ => none
  | .binOp op t x y _ => match vbinE T ob op t (evV sl x) (evV sl y) with
    | some (p, z) => some (p, z, ob)
    | none => none
  | .unOp op _ x => match vun op (evV sl x) with
    | some y => some (True, y, ob)
    | none => none
  | .convert src dst x => match vmark T ob src dst (evV sl x) with
    | some r => some r
    | none => match vconv T ob src dst (evV sl x) with
      | some (p, y) => some (p, y, ob)
      | none => none
  | .makeFunc (.func f) first caps => if first.isEmpty && (caps.toList.map (evV sl)).all V.flat0 then some (True, .fn f (caps.toList.map (evV sl)), ob) else none
  | .makeSlice t l c => match T t, evV sl l, evV sl c with
    | some ⟨.slice e, _, _, _⟩, .int _ l, .int _ c => match T e with
      | some ie => some (0 ≤ l ∧ l ≤ c ∧ (ie.bytes : Int) * c ≤ 140737488355328 ∧ c ≤ 140737488355328, .sl ob.length (zerosV ie.zero.cells l.toNat).length ie.size 0 l.toNat, ob ++ [.live (zerosV ie.zero.cells l.toNat)])
      | none => none
    | _, _, _ => none
  | .slice t x lo hi none => match (lo.map fun o => intOfV (evV sl o)), (hi.map fun o => intOfV (evV sl o)) with
    | some none, _ => none
    | _, some none => none
    | l, h => match vslice T ob t (evV sl x) (l.bind id) (h.bind id) with
      | some (p, y) => some (p, y, ob)
      | none => none
  | .slice t x (some lo) (some hi) (some mx) => match evV sl lo, evV sl hi, evV sl mx with
    | .int _ l, .int _ h, .int _ m => match vslice3 T ob t (evV sl x) (some l) (some h) m with
      | some (p, y) => some (p, y, ob)
      | none => none
    | _, _, _ => none
  | .fieldAddr t x f => match vfieldAddr T ob t (evV sl x) f with
    | some (p, y) => some (p, y, ob)
    | none => none
  | .field t x f => match T t, evV sl x with
    | some ⟨.struct fs, _, _, _⟩, .agg cs => match fs[f]? with
      | some (o, ft) => match vpartN T ft cs o with
        | some (p, y) => some (p, y, ob)
        | none => none
      | none => none
    | _, _ => none
  | .indexAddr t x i => match evV sl i with
    | .int _ i => match vindexAddr T ob t (evV sl x) i with
      | some (p, y) => some (p, y, ob)
      | none => none
    | _ => none
  | .index t x i => match evV sl i with
    | .int _ i => match vindex T t (evV sl x) i with
      | some (p, y) => some (p, y, ob)
      | none => none
    | _ => none
  | .extract x i => match evV sl x with
    | .tup cs => match cs[i]? with
      | some y => some (True, y, ob)
      | none => none
    | _ => none
  | .call c => match c.callee with
    | .builtin b => vopCall T sl ob b c.args.toList c.argTypes.toList
    | _ => none
  | .makeMap _ none => some (True, .mp ob.length, ob ++ [.map [] [] 0])
  | .lookup t x k ok => match vlookup T ob t (evV sl x) (evV sl k) ok with
    | some y => some (True, y, ob)
    | none => none
  | .mapUpdate t m k y => match evV sl m with
    | .mp id => match ob[id]? with
      | some (.map es bs ck) => if vmapKey T t (evV sl k) = true ∧ (evV sl y).notTup = true then match vput (evV sl k) (evV sl y) es bs ck with
          | some o' => some (True, .junk, ob.set id o')
          | none => none
        else none
      | _ => none
    | _ => none
  | .range t x => match vrange T ob t (evV sl x) with
    | some (y, ob') => some (True, y, ob')
    | none => none
  | .entry x => match ventry ob (evV sl x) with
    | some (p, y) => some (p, y, ob)
    | none => none
  | .makeInterface t x => match T t, concV (evV sl x) with
    | some ⟨.struct _, _, _, _⟩, some v => some (True, .ifc t v, ob)
    | _, _ => none
  | .typeAssert x _ t false => match T t, evV sl x with
    | some ⟨.struct _, _, _, _⟩, .ifc t' v => if t' = t then some (True, vconst v, ob) else none
    | _, _ => none
  | _ => none

section
variable {P : Program} {T : Nat → Option TI} {C : Ctx} {Φ : Nat → Prop} {H : Nat → Option Nat} {sl : List (Nat × V)} {ob : List Ob} {a : Act} {w : World}

theorem evals_rep (h : SimE C Φ H ⟨sl, ob⟩ a w) : ∀ (parts : List (Nat × Operand)), VReps .any (mkE Φ H ob w) (parts.map fun q => evV sl q.2) (parts.map fun q => a.eval q.2)
  | [] => by simp [VReps]
  | (i, x) :: r => ⟨_, _, rfl, trivial, h.eval x, evals_rep h r⟩
theorem evals_rep' (h : SimE C Φ H ⟨sl, ob⟩ a w) : ∀ (xs : List Operand), VReps .any (mkE Φ H ob w) (xs.map (evV sl)) (xs.map a.eval)
  | [] => by simp [VReps]
  | x :: r => ⟨_, _, rfl, trivial, h.eval x, evals_rep' h r⟩

theorem int_of_rep {x : V} {n : Int} {v : Value} (hx : VRep (mkE Φ H ob w) x v) (h : intOfV x = some n) : ∃ k, v = .int k n := by
  cases x <;> simp [intOfV] at h
  subst h
  exact ⟨_, hx⟩

theorem vlen_sound (hT : TabOK P T) (hs : HSim Φ H ob w) {t ty : Nat} {x y : V} {v : Value} (hx : VRep (mkE Φ H ob w) x v) {p : Prop} (h : vlen T ob t x = some (p, y)) (hp : p) :
    ∃ u, (Builtin.len_ #[t] ty #[v]).run P w = .ok u w ∧ VRep (mkE Φ H ob w) y u := by
  unfold vlen at h
  split at h
  · rename_i ht
    obtain ⟨info, d, z, e1, e2, e3, _⟩ := hT t _ ht
    obtain rfl := kindOf_string e3
    split at h
    case h_2 => cases h
    simp only [Option.some.injEq, Prod.mk.injEq] at h; obtain ⟨rfl, rfl⟩ := h
    simp only [VRep] at hx; subst hx
    exact ⟨_, by simp [Builtin.len_, run_underlying e2]; rfl, rfl⟩
  · rename_i ht
    obtain ⟨info, d, z, e1, e2, e3, _⟩ := hT t _ ht
    obtain rfl := kindOf_slice e3
    split at h
    case h_2 => cases h
    rename_i p' n cs hrd
    simp only [Option.some.injEq, Prod.mk.injEq] at h; obtain ⟨rfl, rfl⟩ := h
    obtain ⟨ad, cap, us, rfl, _⟩ := rdS_sound hs hx hrd hp
    exact ⟨_, by simp [Builtin.len_, run_underlying e2]; rfl, rfl⟩
  · rename_i ht
    obtain ⟨info, d, z, e1, e2, e3, _⟩ := hT t _ ht
    obtain rfl := kindOf_array e3
    simp only [Option.some.injEq, Prod.mk.injEq] at h; obtain ⟨rfl, rfl⟩ := h
    exact ⟨_, by simp [Builtin.len_, run_underlying e2]; rfl, rfl⟩
  · rename_i kk ee _ _ _ ht
    obtain ⟨info, d, z, e1, e2, e3, _⟩ := hT t _ ht
    obtain ⟨k', e', rfl⟩ : ∃ k e, d = .map k e := by cases d <;> simp_all [kindOf]
    split at h
    case h_2 => cases h
    rename_i id
    split at h
    case h_2 => cases h
    rename_i es bs ck ho
    simp only [Option.some.injEq, Prod.mk.injEq] at h; obtain ⟨rfl, rfl⟩ := h
    obtain ⟨_, h1, h2⟩ := hx
    obtain ⟨b, hb, rfl⟩ := h2 (by simp [mkE, Lof, ho, Ob.len])
    have hr := hs.rep id _ ho
    obtain ⟨_, b', arr, g1, g2, g3, g4, _⟩ := hr
    have hb' : H id = some b := hb
    obtain rfl : b = b' := by rw [hb'] at g1; exact Option.some.inj g1
    have g2' : w.heap[b]? = some (.map arr ck) := g2
    have hl := g4.length
    simp only [List.length_map, Array.length_toList] at hl
    refine ⟨_, ?_, rfl⟩
    simp [Builtin.len_, run_underlying e2, getObj, Sem.run, g2', goInt, hl]
  · cases h

theorem conc1_rep {E : Env} {x : V} {v u : Value} (h : conc1 x = some u) (hv : VRep E x v) : v = u := by
  cases x <;> simp [conc1] at h <;> subst h <;> exact hv
theorem concs_rep {E : Env} {q : Fl} : ∀ {xs : List V} {us us' : List Value}, xs.mapM conc1 = some us' → VReps q E xs us → us = us'
  | [], us, us', h, hv => by
    simp only [List.mapM_nil, Option.pure_def, Option.some.injEq] at h
    simp only [VReps] at hv
    rw [hv, h]
  | c :: cs, us, us', h, ⟨u, r, h1, h0, h2, h3⟩ => by
    rw [List.mapM_cons] at h
    cases hc : conc1 c with
    | none => simp [hc] at h
    | some u1 =>
      cases hm : cs.mapM conc1 with
      | none => simp [hc, hm] at h
      | some r1 =>
        simp only [hc, hm, Option.bind_eq_bind, Option.bind_some, Option.pure_def, Option.some.injEq] at h
        rw [h1, ← h, conc1_rep hc h2, concs_rep hm h3]
theorem concV_rep {E : Env} {x : V} {v u : Value} (h : concV x = some u) (hv : VRep E x v) : v = u := by
  cases x <;> simp only [concV, reduceCtorEq, Option.map_eq_some_iff] at h
  obtain ⟨l, hl, rfl⟩ := h
  obtain ⟨a, rfl, hr⟩ := hv
  rw [← concs_rep hl hr]
theorem vop_sound (hT : TabOK P T) (s : SimE C Φ H ⟨sl, ob⟩ a w) {o : Oper} {p : Prop} {x : V} {ob' : List Ob} (h : vop T sl ob o.op = some (p, x, ob')) (hp : p) : OpOK P o a w Φ H ob x ob' := by
  have hs : HSim Φ H ob w := s.hs.sim
  obtain ⟨dst, op, ty, pos, aft, gd⟩ := o
  dsimp only at h
  cases op with
  | move y => simp only [vop, Option.some.injEq, Prod.mk.injEq] at h; obtain ⟨rfl, rfl, rfl⟩ := h; exact OpOK.pure hs rfl (s.eval y)
  | assign y => simp only [vop, Option.some.injEq, Prod.mk.injEq] at h; obtain ⟨rfl, rfl, rfl⟩ := h; exact OpOK.pure hs rfl (s.eval y)
  | pick c y z =>
    simp only [vop] at h
    split at h
    case h_2 => cases h
    rename_i b hc
    simp only [Option.some.injEq, Prod.mk.injEq] at h; obtain ⟨rfl, rfl, rfl⟩ := h
    have hb := s.eval c
    simp only [hc, VRep] at hb
    refine OpOK.pure hs (v := if b = true then a.eval y else a.eval z) (by simp [execOp, hb, asBool]) ?_
    unfold vpick
    split
    · exact s.eval y
    · exact s.eval z
  | alloc t =>
    simp only [vop] at h
    split at h
    case h_2 => cases h
    rename_i i ht
    simp only [Option.some.injEq, Prod.mk.injEq] at h; obtain ⟨rfl, rfl, rfl⟩ := h
    obtain ⟨u, w', H', h1, h2, h3⟩ := alloc_sound hT hs ht
    exact ⟨u, w', Φ, H', .inl (by simp [execOp, h1]), h2, h3⟩
  | box t y =>
    simp only [vop] at h
    split at h
    case isFalse => cases h
    rename_i hk
    simp only [Option.some.injEq, Prod.mk.injEq] at h; obtain ⟨rfl, rfl, rfl⟩ := h
    obtain ⟨u, w', H', h1, h2, h3⟩ := box_sound (P := P) (t := t) hs (s.eval y) hk
    exact ⟨u, w', Φ, H', .inl (by simp [execOp, h1]), h2, h3⟩
  | build t parts =>
    simp only [vop] at h
    split at h
    case h_2 => cases h
    rename_i p' y hb
    simp only [Option.some.injEq, Prod.mk.injEq] at h; obtain ⟨rfl, rfl, rfl⟩ := h
    obtain ⟨u, h1, h2⟩ := build_sound (P := P) hT (vals := parts.map fun (i, x) => (i, a.eval x)) (by simp) (by simpa [Function.comp_def] using evals_rep s parts.toList) hb hp
    exact OpOK.pure hs (by simp [execOp, h1]) h2
  | buildSlice t n parts =>
    simp only [vop] at h
    split at h
    case h_2 => cases h
    rename_i e _ _ _ ht
    split at h
    case h_2 => cases h
    rename_i ie he
    split at h
    case h_2 => cases h
    rename_i p' cs hf
    simp only [Option.some.injEq, Prod.mk.injEq] at h; obtain ⟨rfl, rfl, rfl⟩ := h
    obtain ⟨u, w', H', h1, h2, h3⟩ := buildSlice_sound (P := P) hT hs ht rfl he (n := n) (vals := parts.map fun (i, x) => (i, a.eval x)) (by simp) (by simpa [Function.comp_def] using evals_rep s parts.toList) hf hp.1 hp.2.1 hp.2.2
    exact ⟨u, w', Φ, H', .inl (by simp [execOp, h1]), h2, h3⟩
  | load t y =>
    simp only [vop] at h
    split at h
    case h_2 => cases h
    rename_i i p' cs off ht hr
    have hx := s.eval y
    split at h
    · rename_i ha
      simp only [Option.some.injEq, Prod.mk.injEq] at h; obtain ⟨rfl, rfl, rfl⟩ := h
      obtain ⟨u, h1, h2⟩ := (load_sound hT hs ht hx hr hp.1).1 ha hp.2
      exact OpOK.pure hs (by simp [execOp, h1]) h2
    · rename_i ha
      simp only [Option.some.injEq, Prod.mk.injEq] at h; obtain ⟨rfl, rfl, rfl⟩ := h
      obtain ⟨u, h1, h2, _⟩ := (load_sound hT hs ht hx hr hp.1).2 (by simpa using ha) (cs.getD off .junk) (by rw [List.getD_eq_getElem?_getD, List.getElem?_eq_getElem hp.2]; rfl)
      exact OpOK.pure hs (by simp [execOp, h1]) h2
  | store t y z =>
    simp only [vop] at h
    split at h
    case h_2 => cases h
    rename_i i id tot off ht hy
    split at h
    case h_2 => cases h
    rename_i cs ho
    split at h
    case isFalse => cases h
    rename_i hk
    simp only [Option.some.injEq, Prod.mk.injEq] at h; obtain ⟨rfl, rfl, rfl⟩ := h
    obtain ⟨q1, q2, q3, q4⟩ := hp
    have hx := s.eval y
    rw [hy] at hx
    obtain ⟨w', H', h1, h2⟩ := store_sound (P := P) hT hs ht hx ho q1 (s.eval z) hk q2 q4 (by rw [q2]; exact q3)
    exact ⟨undef, w', Φ, H', .inr ⟨by simp [execOp, h1], rfl⟩, h2, trivial⟩
  | nilCheck y =>
    simp only [vop] at h
    have hx := s.eval y
    split at h
    · rename_i f cs hf
      simp only [Option.some.injEq, Prod.mk.injEq] at h; obtain ⟨rfl, rfl, rfl⟩ := h
      have hx' := hx
      rw [hf] at hx'
      obtain ⟨arr, e0, e1, e2⟩ := hx'
      exact OpOK.pure hs (v := .func (.func f) #[] arr) (by simp [execOp, e1]) ⟨arr, e0, rfl, e2⟩
    · split at h
      case h_2 => cases h
      rename_i p' hn
      simp only [Option.some.injEq, Prod.mk.injEq] at h; obtain ⟨rfl, rfl, rfl⟩ := h
      rcases vnil_sound hx hn hp with ⟨q, _⟩ | ⟨_, ad, e⟩
      · cases q
      · exact OpOK.pure hs (v := a.eval y) (by simp [execOp, e]) hx
  | binOp op t y z t2 =>
    simp only [vop] at h
    split at h
    case h_2 => cases h
    rename_i p' r hb
    simp only [Option.some.injEq, Prod.mk.injEq] at h; obtain ⟨rfl, rfl, rfl⟩ := h
    obtain ⟨r, h1, h2⟩ := vbinE_run (P := P) hT hb hp (s.eval y) (s.eval z) y z
    refine OpOK.pure hs (v := r) ?_ h2
    simp only [execOp, Sem.run_bind] at h1 ⊢
    simp [h1]
  | unOp op t y =>
    simp only [vop] at h
    split at h
    case h_2 => cases h
    rename_i r hb
    simp only [Option.some.injEq, Prod.mk.injEq] at h; obtain ⟨rfl, rfl, rfl⟩ := h
    obtain ⟨r, h1, h2⟩ := vun_run (P := P) hb (s.eval y)
    exact OpOK.pure hs (by simp [execOp, h1]) h2
  | convert src dst' y =>
    simp only [vop] at h
    split at h
    · rename_i hmk
      simp only [Option.some.injEq] at h
      subst h
      obtain ⟨u, w', Φ', H', h1, h2, h3⟩ := mark_sound (P := P) hT hs (s.eval y) hmk hp
      exact ⟨u, w', Φ', H', .inl (by simp [execOp, h1]), h2, h3⟩
    split at h
    case h_2 => cases h
    rename_i p' r hb
    simp only [Option.some.injEq, Prod.mk.injEq] at h; obtain ⟨rfl, rfl, rfl⟩ := h
    have hx := s.eval y
    unfold vconv at hb
    split at hb
    case h_2 => cases hb
    rename_i i j hi hj
    obtain ⟨info, d, z, e1, e2, e3, _⟩ := hT dst' _ hj
    obtain ⟨info', d', z', f1, f2, f3, _⟩ := hT src _ hi
    split at hb
    · rename_i k k0 n hjk hey
      simp only [Option.some.injEq, Prod.mk.injEq] at hb; obtain ⟨rfl, rfl⟩ := hb
      obtain rfl := kindOf_int (e3.trans hjk)
      rw [hey] at hx
      simp only [VRep] at hx
      refine OpOK.pure hs (v := .int k (k.wrap n)) ?_ rfl
      simp [execOp, convert, run_underlying e2, run_underlying f2, hx, Conv.intToInt]
    · rename_i st hjk hey
      simp only [Option.some.injEq, Prod.mk.injEq] at hb; obtain ⟨rfl, rfl⟩ := hb
      obtain rfl := kindOf_string (e3.trans hjk)
      rw [hey] at hx
      simp only [VRep] at hx
      refine OpOK.pure hs (v := .string st) ?_ rfl
      simp [execOp, convert, run_underlying e2, run_underlying f2, hx]
    · rename_i e st hjk hey
      split at hb
      case h_2 => cases hb
      rename_i hik he
      simp only [Option.some.injEq, Prod.mk.injEq] at hb; obtain ⟨rfl, rfl⟩ := hb
      rw [hey] at hx
      simp only [VRep] at hx
      obtain ⟨u, w', Φ', h1, h2, h3⟩ := bytes_sound (P := P) hT hs hj hjk he rfl hi hik st
      exact ⟨u, w', Φ', H, .inl (by simp [execOp, hx, h1]), h2, h3⟩
    · rename_i hjk _
      split at hb
      case h_2 => cases hb
      rename_i e hik
      split at hb
      case h_2 => cases hb
      rename_i _ p'' n ys he hrd
      simp only [Option.some.injEq, Prod.mk.injEq] at hb; obtain ⟨rfl, rfl⟩ := hb
      obtain ⟨q1, q2, q3⟩ := hp
      have := str_sound (P := P) hT hs hi hik he rfl hj hjk hx hrd q1 q2 q3
      exact OpOK.pure hs (v := .string (strOfV ys)) (by simp [execOp, this]) rfl
    · cases hb
  | makeFunc fn first caps =>
    cases fn with
    | func f =>
      simp only [vop] at h
      split at h
      case isFalse => cases h
      rename_i hfe
      simp only [Option.some.injEq, Prod.mk.injEq] at h; obtain ⟨rfl, rfl, rfl⟩ := h
      simp only [Bool.and_eq_true] at hfe
      have hf0 : first = #[] := by simpa using hfe.1
      subst hf0
      refine OpOK.pure hs (v := .func (.func f) #[] (caps.map a.eval)) (by simp [execOp, Instr.makeFunc]) ⟨_, hfe.2, rfl, by simpa using evals_rep' s caps.toList⟩
    | _ => simp [vop] at h
  | makeSlice t l c =>
    simp only [vop] at h
    split at h
    case h_2 => cases h
    rename_i e _ _ _ kl l' kc c' ht hl hc
    split at h
    case h_2 => cases h
    rename_i ie he
    simp only [Option.some.injEq, Prod.mk.injEq] at h; obtain ⟨rfl, rfl, rfl⟩ := h
    obtain ⟨q1, q2, q3, q4⟩ := hp
    obtain ⟨u, w', H', h1, h2, h3⟩ := makeSlice_sound (P := P) hT hs ht rfl he (kl := kl) (kc := kc) q1 q2 q3 q4
    have hl' := s.eval l
    have hc' := s.eval c
    rw [hl] at hl'
    rw [hc] at hc'
    simp only [VRep] at hl' hc'
    exact ⟨u, w', Φ, H', .inl (by simp [execOp, hl', hc', h1]), h2, h3⟩
  | slice t y lo hi mx =>
    cases mx with
    | some m =>
      cases lo with
      | none => simp [vop] at h
      | some lo =>
        cases hi with
        | none => simp [vop] at h
        | some hi =>
          simp only [vop] at h
          split at h
          case h_2 => cases h
          rename_i kl l kh h' km m' e1 e2 e3
          split at h
          case h_2 => cases h
          rename_i p' y' hv
          simp only [Option.some.injEq, Prod.mk.injEq] at h; obtain ⟨rfl, rfl, rfl⟩ := h
          have q1 := s.eval lo
          have q2 := s.eval hi
          have q3 := s.eval m
          rw [e1] at q1
          rw [e2] at q2
          rw [e3] at q3
          simp only [VRep] at q1 q2 q3
          obtain ⟨u, h1, h2⟩ := vslice3_sound (P := P) hT (s.eval y) (kl := kl) (kh := kh) (km := km) hv hp
          simp only [Option.map_some] at h1
          exact OpOK.pure hs (by simp [execOp, q1, q2, q3, h1]) h2
    | none =>
      simp only [vop] at h
      have key : ∀ (l h' : Option Int), (∀ o, lo = some o → ∃ k n, a.eval o = .int k n ∧ l = some n) → (lo = none → l = none) → (∀ o, hi = some o → ∃ k n, a.eval o = .int k n ∧ h' = some n) → (hi = none → h' = none) →
          ∀ {p' y'}, vslice T ob t (evV sl y) l h' = some (p', y') → p' → OpOK P ⟨dst, .slice t y lo hi none, ty, pos, aft, gd⟩ a w Φ H ob y' ob := by
        intro l h' hl1 hl2 hh1 hh2 p' y' hv hp'
        obtain ⟨kl, el⟩ : ∃ k, lo.map a.eval = l.map (Value.int k) := by
          cases lo with
          | none => exact ⟨.i64, by rw [hl2 rfl]; rfl⟩
          | some o => obtain ⟨k, n, q1, q2⟩ := hl1 o rfl; exact ⟨k, by rw [q2]; simp [q1]⟩
        obtain ⟨kh, eh⟩ : ∃ k, hi.map a.eval = h'.map (Value.int k) := by
          cases hi with
          | none => exact ⟨.i64, by rw [hh2 rfl]; rfl⟩
          | some o => obtain ⟨k, n, q1, q2⟩ := hh1 o rfl; exact ⟨k, by rw [q2]; simp [q1]⟩
        obtain ⟨u, h1, h2⟩ := vslice_sound (P := P) hT hs (s.eval y) (kl := kl) (kh := kh) hv hp'
        exact OpOK.pure hs (by simp [execOp, el, eh, h1]) h2
      have hint : ∀ o n, intOfV (evV sl o) = some n → ∃ k, a.eval o = .int k n := fun o n q => int_of_rep (s.eval o) q
      split at h
      · cases h
      · cases h
      · rename_i l0 h0 hn1 hn2
        split at h
        case h_2 => cases h
        rename_i p' y' hv
        simp only [Option.some.injEq, Prod.mk.injEq] at h; obtain ⟨rfl, rfl, rfl⟩ := h
        refine key _ _ (fun o e => ?_) (fun e => by simp [e]) (fun o e => ?_) (fun e => by simp [e]) hv hp
        · subst e
          cases q : intOfV (evV sl o) with
          | none => exact (hn1 (by simp [q])).elim
          | some n => obtain ⟨k, hk⟩ := hint o n q; exact ⟨k, n, hk, by simp [q]⟩
        · subst e
          cases q : intOfV (evV sl o) with
          | none => exact (hn2 (by simp [q])).elim
          | some n => obtain ⟨k, hk⟩ := hint o n q; exact ⟨k, n, hk, by simp [q]⟩
  | fieldAddr t y f =>
    simp only [vop] at h
    split at h
    case h_2 => cases h
    rename_i p' r hb
    simp only [Option.some.injEq, Prod.mk.injEq] at h; obtain ⟨rfl, rfl, rfl⟩ := h
    obtain ⟨u, h1, h2⟩ := vfieldAddr_sound (P := P) hT hs (s.eval y) hb hp
    exact OpOK.pure hs (by simp [execOp, h1]) h2
  | field t y f =>
    simp only [vop] at h
    split at h
    case h_2 => cases h
    rename_i fs _ _ _ cs ht hy
    split at h
    case h_2 => cases h
    rename_i o' ft hf
    split at h
    case h_2 => cases h
    rename_i p' r hb
    simp only [Option.some.injEq, Prod.mk.injEq] at h; obtain ⟨rfl, rfl, rfl⟩ := h
    have hx := s.eval y
    rw [hy] at hx
    obtain ⟨info, d, z, e1, e2, e3, _⟩ := hT t _ ht
    obtain ⟨arr', rfl, rfl⟩ := kindOf_struct e3
    obtain ⟨arr, e, hv⟩ := hx
    obtain ⟨u, h1, h2⟩ := vpartN_sound (P := P) hT hv hb hp
    simp only [List.getElem?_map, Option.map_eq_some_iff, Prod.mk.injEq] at hf
    obtain ⟨fld, hfl, rfl, rfl⟩ := hf
    have hfl' : arr'[f]? = some fld := by simpa using hfl
    exact OpOK.pure hs (by simp [execOp, Instr.field, run_underlying e2, hfl', e, asAgg, h1]) h2
  | indexAddr t y i =>
    simp only [vop] at h
    split at h
    case h_2 => cases h
    rename_i k n hi
    split at h
    case h_2 => cases h
    rename_i p' r hb
    simp only [Option.some.injEq, Prod.mk.injEq] at h; obtain ⟨rfl, rfl, rfl⟩ := h
    have hi' := s.eval i
    rw [hi] at hi'
    simp only [VRep] at hi'
    obtain ⟨u, h1, h2⟩ := vindexAddr_sound (P := P) hT hs (s.eval y) (k := k) hb hp
    exact OpOK.pure hs (by simp [execOp, hi', h1]) h2
  | index t y i =>
    simp only [vop] at h
    split at h
    case h_2 => cases h
    rename_i k n hi
    split at h
    case h_2 => cases h
    rename_i p' r hb
    simp only [Option.some.injEq, Prod.mk.injEq] at h; obtain ⟨rfl, rfl, rfl⟩ := h
    have hi' := s.eval i
    rw [hi] at hi'
    simp only [VRep] at hi'
    obtain ⟨u, h1, h2⟩ := vindex_sound (P := P) hT (s.eval y) (k := k) hb hp
    exact OpOK.pure hs (by simp [execOp, hi', h1]) h2
  | extract y i =>
    simp only [vop] at h
    split at h
    case h_2 => cases h
    rename_i cs hy
    split at h
    case h_2 => cases h
    rename_i r hb
    simp only [Option.some.injEq, Prod.mk.injEq] at h; obtain ⟨rfl, rfl, rfl⟩ := h
    have hx := s.eval y
    rw [hy] at hx
    obtain ⟨arr, _, e, hv⟩ := hx
    obtain ⟨u, hu, _, h2⟩ := hv.get i _ hb
    have hu' : arr[i]? = some u := by simpa using hu
    exact OpOK.pure hs (by simp [execOp, Instr.extract, e, hu']) h2
  | call c =>
    obtain ⟨callee, args, ts⟩ := c
    simp only [vop] at h
    split at h
    case h_2 => cases h
    rename_i b
    unfold vopCall at h
    split at h
    · rename_i y t e1 e2
      split at h
      case h_2 => cases h
      rename_i p' r hb
      simp only [Option.some.injEq, Prod.mk.injEq] at h; obtain ⟨rfl, rfl, rfl⟩ := h
      obtain rfl : args = #[y] := by apply Array.ext'; exact e1
      obtain rfl : ts = #[t] := by apply Array.ext'; exact e2
      obtain ⟨u, h1, h2⟩ := vlen_sound (P := P) hT hs (ty := ty) (s.eval y) hb hp
      exact OpOK.pure hs (by simp [execOp, resolve, invoke, builtin, h1]) h2
    · rename_i y z e1
      split at h
      case h_2 => cases h
      rename_i r hb
      simp only [Option.some.injEq, Prod.mk.injEq] at h; obtain ⟨rfl, rfl, rfl⟩ := h
      obtain rfl : args = #[y, z] := by apply Array.ext'; exact e1
      unfold vmin at hb
      split at hb
      case h_2 => cases hb
      rename_i k m k' n hy hz
      split at hb
      case isFalse => cases hb
      simp only [Option.some.injEq] at hb; subst hb
      have q1 := s.eval y; rw [hy] at q1
      have q2 := s.eval z; rw [hz] at q2
      simp only [VRep] at q1 q2
      refine OpOK.pure hs (v := .int k (if n < m then n else m)) ?_ rfl
      simp [execOp, resolve, invoke, builtin, q1, q2, run_min_int2]
    · rename_i y z e1
      split at h
      case h_2 => cases h
      rename_i r hb
      simp only [Option.some.injEq, Prod.mk.injEq] at h; obtain ⟨rfl, rfl, rfl⟩ := h
      obtain rfl : args = #[y, z] := by apply Array.ext'; exact e1
      unfold vmax at hb
      split at hb
      case h_2 => cases hb
      rename_i k m k' n hy hz
      split at hb
      case isFalse => cases hb
      simp only [Option.some.injEq] at hb; subst hb
      have q1 := s.eval y; rw [hy] at q1
      have q2 := s.eval z; rw [hz] at q2
      simp only [VRep] at q1 q2
      refine OpOK.pure hs (v := .int k (if n > m then n else m)) ?_ rfl
      simp [execOp, resolve, invoke, builtin, q1, q2, run_max_int2]
    · rename_i y z t t2 e1 e2
      obtain rfl : args = #[y, z] := by apply Array.ext'; exact e1
      obtain rfl : ts = #[t, t2] := by apply Array.ext'; exact e2
      have key : (∀ k, P.underlying t2 ≠ some (.int k)) → (P.underlying t2).isSome = true → vappend T ob t (evV sl y) (evV sl z) = some (p, x, ob') → OpOK P ⟨dst, .call ⟨.builtin .append, #[y, z], #[t, t2]⟩, ty, pos, aft, gd⟩ a w Φ H ob x ob' := by
        intro k1 k2 hv
        obtain ⟨q, w', H', h1, h2, h3⟩ := append_sound (P := P) hT hs (ty := ty) (s.eval y) (s.eval z) k1 k2 hv hp
        exact ⟨q, w', Φ, H', .inl (by simp [execOp, resolve, invoke, builtin, h1]), h2, h3⟩
      split at h
      · rename_i ht2
        obtain ⟨info, d, zz, e1, e2, e3, _⟩ := hT t2 _ ht2
        obtain rfl := kindOf_slice e3
        exact key (by rw [e2]; simp) (by rw [e2]; rfl) h
      · rename_i ht2
        obtain ⟨info, d, zz, e1, e2, e3, _⟩ := hT t2 _ ht2
        obtain rfl := kindOf_string e3
        exact key (by rw [e2]; simp) (by rw [e2]; rfl) h
      · rename_i ht2
        obtain ⟨info, d, zz, e1, e2, e3, _⟩ := hT t2 _ ht2
        obtain rfl := kindOf_int e3
        split at h
        case h_2 => cases h
        rename_i kk n hz
        have q2 := s.eval z; rw [hz] at q2
        simp only [VRep] at q2
        obtain ⟨q, w', H', h1, h2, h3⟩ := append_zero_sound (P := P) hT hs (ty := ty) (kk := kk) (s.eval y) e2 h hp
        exact ⟨q, w', Φ, H', .inl (by simp [execOp, resolve, invoke, builtin, q2, h1]), h2, h3⟩
      · cases h
    · rename_i y z t t2 e1 e2
      obtain rfl : args = #[y, z] := by apply Array.ext'; exact e1
      obtain rfl : ts = #[t, t2] := by apply Array.ext'; exact e2
      obtain ⟨q, w', H', h1, h2, h3⟩ := copy_sound (P := P) hT hs (t2 := t2) (ty := ty) (s.eval y) (s.eval z) h hp
      exact ⟨q, w', Φ, H', .inl (by simp [execOp, resolve, invoke, builtin, h1]), h2, h3⟩
    · rename_i y z t t2 e1 e2
      obtain rfl : args = #[y, z] := by apply Array.ext'; exact e1
      obtain rfl : ts = #[t, t2] := by apply Array.ext'; exact e2
      split at h
      case h_2 => cases h
      rename_i id hy
      split at h
      case h_2 => cases h
      rename_i es bs ck ho
      split at h
      case isFalse => cases h
      rename_i hk
      split at h
      case h_2 => cases h
      rename_i o' hv
      simp only [Option.some.injEq, Prod.mk.injEq] at h; obtain ⟨rfl, rfl, rfl⟩ := h
      have hx := s.eval y
      rw [hy] at hx
      obtain ⟨w', H', h1, h2⟩ := delete_sound (P := P) hT hs (t2 := t2) (ty := ty) hx (s.eval z) ho hk hv
      exact ⟨.tuple #[], w', Φ, H', .inl (by simp [execOp, resolve, invoke, builtin, h1]), h2, ⟨#[], rfl, rfl, rfl⟩⟩
    · rename_i y t e1 e2
      obtain rfl : args = #[y] := by apply Array.ext'; exact e1
      obtain rfl : ts = #[t] := by apply Array.ext'; exact e2
      obtain ⟨q, w', H', h1, h2, h3⟩ := clear_sound (P := P) hT hs (ty := ty) (s.eval y) h hp
      exact ⟨q, w', Φ, H', .inl (by simp [execOp, resolve, invoke, builtin, h1]), h2, h3⟩
    · rename_i y t e1 e2
      split at h
      case h_2 => cases h
      rename_i r hb
      simp only [Option.some.injEq, Prod.mk.injEq] at h; obtain ⟨rfl, rfl, rfl⟩ := h
      obtain rfl : args = #[y] := by apply Array.ext'; exact e1
      obtain rfl : ts = #[t] := by apply Array.ext'; exact e2
      obtain ⟨h1, rfl⟩ := cap_sound (P := P) (w := w) hT (ty := ty) (s.eval y) hb
      exact OpOK.pure hs (v := goInt 0) (by simp [execOp, resolve, invoke, builtin, h1]) (by simp [VRep, goInt])
    · cases h
  | makeMap t r =>
    cases r with
    | some r => simp [vop] at h
    | none =>
      simp only [vop, Option.some.injEq, Prod.mk.injEq] at h; obtain ⟨rfl, rfl, rfl⟩ := h
      refine ⟨.map (some w.heap.size), w.alloc (.map #[] 0), Φ, upd H ob.length (some w.heap.size), .inl (by simp [execOp, run_makeMap]), ?_, rfl, by simp [mkE], fun _ => ⟨w.heap.size, by simp [mkE], rfl⟩⟩
      refine HStep.ofPush hs rfl rfl rfl (fun k hk => Below.heap_alloc w _ k hk) (by simp) (fun b hb => by simp at hb; omega) fun E' hE hw' hΦ => ?_
      refine ⟨rfl, _, #[], rfl, by rw [hw']; exact heap_alloc_new w _, fun hp => ?_, rfl, rfl, rfl, by simp, by simp⟩
      rw [hΦ] at hp
      exact absurd (hs.phi _ hp) (by omega)
  | lookup t y k ok =>
    simp only [vop] at h
    split at h
    case h_2 => cases h
    rename_i z hv
    simp only [Option.some.injEq, Prod.mk.injEq] at h; obtain ⟨rfl, rfl, rfl⟩ := h
    obtain ⟨q, h1, h2⟩ := lookup_sound (P := P) hT hs (s.eval y) (s.eval k) hv
    exact OpOK.pure hs (by simp [execOp, h1]) h2
  | mapUpdate t m k y =>
    simp only [vop] at h
    split at h
    case h_2 => cases h
    rename_i id hy
    split at h
    case h_2 => cases h
    rename_i es bs ck ho
    split at h
    case isFalse => cases h
    rename_i hk
    split at h
    case h_2 => cases h
    rename_i o' hv
    simp only [Option.some.injEq, Prod.mk.injEq] at h; obtain ⟨rfl, rfl, rfl⟩ := h
    have hx := s.eval m
    rw [hy] at hx
    obtain ⟨w', H', h1, h2⟩ := mapUpdate_sound (P := P) hT hs hx (s.eval k) (s.eval y) hk.2 ho hk.1 hv
    exact ⟨undef, w', Φ, H', .inr ⟨by simp [execOp, h1], rfl⟩, h2, trivial⟩
  | range t y =>
    simp only [vop] at h
    split at h
    case h_2 => cases h
    rename_i z ob2 hv
    simp only [Option.some.injEq, Prod.mk.injEq] at h; obtain ⟨rfl, rfl, rfl⟩ := h
    obtain ⟨q, w', H', h1, h2, h3⟩ := range_sound (P := P) hT hs (s.eval y) hv
    exact ⟨q, w', Φ, H', .inl (by simp [execOp, h1]), h2, h3⟩
  | entry y =>
    simp only [vop] at h
    split at h
    case h_2 => cases h
    rename_i p' z hv
    simp only [Option.some.injEq, Prod.mk.injEq] at h; obtain ⟨rfl, rfl, rfl⟩ := h
    obtain ⟨q, h1, h2⟩ := entry_sound (P := P) hs (s.eval y) hv hp
    exact OpOK.pure hs (by simp [execOp, h1]) h2
  | makeInterface t y =>
    simp only [vop] at h
    split at h
    case h_2 => cases h
    rename_i fs _ _ _ v e1 e2
    simp only [Option.some.injEq, Prod.mk.injEq] at h; obtain ⟨rfl, rfl, rfl⟩ := h
    obtain ⟨info, d, zz, f1, f2, f3, _⟩ := hT t _ e1
    obtain ⟨A, rfl, _⟩ := kindOf_struct f3
    have hv := concV_rep e2 (s.eval y)
    exact OpOK.pure hs (v := .iface t v) (by simp [execOp, Instr.makeInterface, run_underlying f2, hv]) rfl
  | typeAssert y xt t ok =>
    cases ok with
    | true => simp [vop] at h
    | false =>
      simp only [vop] at h
      split at h
      case h_2 => cases h
      rename_i fs _ _ _ t' v e1 e2
      split at h
      case isFalse => cases h
      rename_i ht
      subst ht
      simp only [Option.some.injEq, Prod.mk.injEq] at h; obtain ⟨rfl, rfl, rfl⟩ := h
      obtain ⟨info, d, zz, f1, f2, f3, _⟩ := hT t' _ e1
      obtain ⟨A, rfl, _⟩ := kindOf_struct f3
      have hx := s.eval y
      rw [e2] at hx
      simp only [VRep] at hx
      exact OpOK.pure hs (v := v) (by simp [execOp, Instr.typeAssert, run_underlying f2, hx]) (vconst_rep _ v)
  | _ => simp [vop] at h

end
end Go.VX
