/- Abstract values, what they say of the machine's values and memory, and how that is kept. Nothing here speaks of one program. -/
import Derived.WalkKit
namespace Go.VX
set_option linter.unusedVariables false

inductive V where
  | junk
  | bool (b : Bool)
  | int (k : IntKind) (n : Int)
  | str (s : ByteArray)
  | agg (cs : List V)
  | tup (vs : List V)
  | nilp
  | nils
  | nilf
  | nilm
  | nili
  | fp (cs : List V)
  | fs (n : Nat) (cs : List V)
  | ptr (id tot off : Nat)
  | sl (id tot esz off n : Nat)
  | fn (f : FuncId) (caps : List V)
  | mp (id : Nat)
  deriving Inhabited

/-- One cell holds it. -/
def V.one : V → Bool
  | .agg _ | .tup _ | .junk => false
  | _ => true

def V.plain : V → Bool
  | .ptr _ _ _ | .sl _ _ _ _ _ | .mp _ | .fn _ _ | .agg _ | .tup _ | .junk => false
  | _ => true
def V.flat0 : V → Bool
  | .fn _ _ | .agg _ | .tup _ => false
  | _ => true
def V.notTup : V → Bool
  | .tup _ => false
  | _ => true
/-- No object is named in it. -/
def V.noId : V → Bool
  | .ptr _ _ _ | .sl _ _ _ _ _ | .mp _ => false
  | .fn _ cs => cs.all V.plain
  | _ => true

inductive Fl where
  | any | cell | frz
def okq : Fl → V → Prop
  | .any, _ => True
  | .cell, c => c.one = true
  | .frz, c => c.one = true ∧ c.noId = true

structure Env where
  Φ : Nat → Prop
  H : Nat → Option Nat
  L : Nat → Option Nat
  N : Nat
  w : World

/-- The cells from an address on. -/
def reads (w : World) (b o : Nat) (us : List Value) : Prop :=
  ∀ i, i < us.length → w.cell? ⟨b, o + i, none⟩ = us[i]?

def bsize (w : World) (b : Nat) : Nat :=
  match w.heap[b]? with
  | some (.cells c _ _) => c.size
  | _ => 0

/-- A slice's header over an object's block. -/
def SlV (w : World) (h : Option Nat) (tot esz off n : Nat) (v : Value) : Prop :=
  match h with
  | none => tot = 0 ∧ off = 0 ∧ n = 0 ∧ v = .slice none 0 0
  | some b => ∃ cap, v = .slice (some ⟨b, off, none⟩) n cap ∧ n ≤ cap ∧ off + n * esz ≤ tot ∧ off + cap * esz ≤ bsize w b

mutual
def VRep (E : Env) : V → Value → Prop
  | .junk, _ => True
  | .bool b, v => v = .bool b
  | .int k n, v => v = .int k n
  | .str s, v => v = .string s
  | .agg cs, v => ∃ a : Array Value, v = .agg a ∧ VReps .cell E cs a.toList
  | .tup cs, v => ∃ a : Array Value, cs.all V.notTup = true ∧ v = .tuple a ∧ VReps .any E cs a.toList
  | .nilp, v => v = .pointer none
  | .nils, v => v = .slice none 0 0
  | .nilf, v => v = .nilFunc
  | .nilm, v => v = .map none
  | .nili, v => v = .nilIface
  | .fp cs, v => ∃ b o us, v = .pointer (some ⟨b, o, none⟩) ∧ E.Φ b ∧ reads E.w b o us ∧ VReps .frz E cs us
  | .fs n cs, v => ∃ ad cap us, v = .slice ad n cap ∧ n ≤ cap ∧ VReps .frz E cs us ∧ (0 < us.length → ∃ b o, ad = some ⟨b, o, none⟩ ∧ E.Φ b ∧ reads E.w b o us)
  | .ptr id tot off, v => v.oneCell' = true ∧ id < E.N ∧ ∀ T, E.L id = some T → tot ≤ T ∧ (tot = T → ∃ b, E.H id = some b ∧ v = .pointer (some ⟨b, off, none⟩))
  | .sl id tot esz off n, v => v.oneCell' = true ∧ id < E.N ∧ ∀ T, E.L id = some T → tot ≤ T ∧ (tot = T → SlV E.w (E.H id) tot esz off n v)
  | .fn f cs, v => ∃ a : Array Value, cs.all V.flat0 = true ∧ v = .func (.func f) #[] a ∧ VReps .any E cs a.toList
  | .mp id, v => v.oneCell' = true ∧ id < E.N ∧ (E.L id = some 0 → ∃ b, E.H id = some b ∧ v = .map (some b))
def VReps (q : Fl) (E : Env) : List V → List Value → Prop
  | [], us => us = []
  | c :: cs, us => ∃ u r, us = u :: r ∧ okq q c ∧ VRep E c u ∧ VReps q E cs r
end

/-- What may happen between two moments, so that what is said of values stays true. -/
structure Ext (E E' : Env) : Prop where
  phi : ∀ b, E.Φ b → E'.Φ b
  heap : ∀ b, E.Φ b → E'.w.heap[b]? = E.w.heap[b]?
  n : E.N ≤ E'.N
  l : ∀ i, i < E.N → ∀ T', E'.L i = some T' → ∃ T, E.L i = some T ∧ T ≤ T' ∧ (T = T' → E'.H i = E.H i ∧ ∀ b, E.H i = some b → bsize E'.w b = bsize E.w b)

theorem Ext.refl (E : Env) : Ext E E :=
  ⟨fun _ h => h, fun _ _ => rfl, Nat.le_refl _, fun _ _ T' h => ⟨T', h, Nat.le_refl _, fun _ => ⟨rfl, fun _ _ => rfl⟩⟩⟩
theorem Ext.trans {a b c : Env} (h : Ext a b) (k : Ext b c) : Ext a c := by
  refine ⟨fun x hx => k.phi x (h.phi x hx), fun x hx => (k.heap x (h.phi x hx)).trans (h.heap x hx), Nat.le_trans h.n k.n, fun i hi T'' hT => ?_⟩
  obtain ⟨T', h1, h2, h3⟩ := k.l i (Nat.lt_of_lt_of_le hi h.n) T'' hT
  obtain ⟨T, h4, h5, h6⟩ := h.l i hi T' h1
  refine ⟨T, h4, Nat.le_trans h5 h2, fun e => ?_⟩
  have e1 : T' = T'' := by omega
  have e2 : T = T' := by omega
  obtain ⟨g1, g2⟩ := h6 e2
  obtain ⟨g3, g4⟩ := h3 e1
  exact ⟨g3.trans g1, fun b hb => (g4 b (g1.trans hb)).trans (g2 b hb)⟩

theorem cell?_of_heap {w w' : World} {a : Addr} (h : w'.heap[a.block]? = w.heap[a.block]?) : w'.cell? a = w.cell? a := by
  unfold World.cell?; rw [h]
theorem reads_of_heap {w w' : World} {b o : Nat} {us : List Value} (h : w'.heap[b]? = w.heap[b]?) (hr : reads w b o us) : reads w' b o us := by
  intro i hi
  rw [cell?_of_heap (w := w) (w' := w') (by exact h)]
  exact hr i hi

theorem SlV.of {w w' : World} {h : Option Nat} {tot esz off n : Nat} {v : Value} (hb : ∀ b, h = some b → bsize w' b = bsize w b) (k : SlV w h tot esz off n v) : SlV w' h tot esz off n v := by
  cases h with
  | none => exact k
  | some b =>
    obtain ⟨cap, h1, h2, h3, h4⟩ := k
    exact ⟨cap, h1, h2, h3, by rw [hb b rfl]; exact h4⟩

mutual
theorem VRep.ext {E E' : Env} (h : Ext E E') : ∀ (x : V) (v : Value), VRep E x v → VRep E' x v
  | .junk, _, _ => by simp [VRep]
  | .bool b, v, hv => hv
  | .int k n, v, hv => hv
  | .str s, v, hv => hv
  | .agg cs, v, ⟨a, h1, h2⟩ => ⟨a, h1, VReps.ext h cs _ h2⟩
  | .tup cs, v, ⟨a, h0, h1, h2⟩ => ⟨a, h0, h1, VReps.ext h cs _ h2⟩
  | .nilp, v, hv => hv
  | .nils, v, hv => hv
  | .nilf, v, hv => hv
  | .nilm, v, hv => hv
  | .nili, v, hv => hv
  | .fp cs, v, ⟨b, o, us, h1, h2, h3, h4⟩ => ⟨b, o, us, h1, h.phi _ h2, reads_of_heap (h.heap b h2) h3, VReps.ext h cs _ h4⟩
  | .fs n cs, v, ⟨ad, cap, us, h1, h2, h3, h4⟩ => ⟨ad, cap, us, h1, h2, VReps.ext h cs _ h3, fun hu => by
      obtain ⟨b, o, e, hp, hr⟩ := h4 hu
      exact ⟨b, o, e, h.phi _ hp, reads_of_heap (h.heap b hp) hr⟩⟩
  | .ptr id tot off, v, ⟨h0, h1, h2⟩ => ⟨h0, Nat.lt_of_lt_of_le h1 h.n, fun T' hT' => by
      obtain ⟨T, g1, g2, g3⟩ := h.l id h1 T' hT'
      obtain ⟨k1, k2⟩ := h2 T g1
      refine ⟨Nat.le_trans k1 g2, fun e => ?_⟩
      obtain ⟨b, hb, hv⟩ := k2 (by omega)
      exact ⟨b, (g3 (by omega)).1.trans hb, hv⟩⟩
  | .sl id tot esz off n, v, ⟨h0, h1, h2⟩ => ⟨h0, Nat.lt_of_lt_of_le h1 h.n, fun T' hT' => by
      obtain ⟨T, g1, g2, g3⟩ := h.l id h1 T' hT'
      obtain ⟨k1, k2⟩ := h2 T g1
      refine ⟨Nat.le_trans k1 g2, fun e => ?_⟩
      obtain ⟨e1, e2⟩ := g3 (by omega)
      rw [e1]
      exact (k2 (by omega)).of e2⟩
  | .fn f cs, v, ⟨a, h0, h1, h2⟩ => ⟨a, h0, h1, VReps.ext h cs _ h2⟩
  | .mp id, v, ⟨h0, h1, h2⟩ => ⟨h0, Nat.lt_of_lt_of_le h1 h.n, fun hT' => by
      obtain ⟨T, g1, g2, g3⟩ := h.l id h1 0 hT'
      obtain rfl : T = 0 := by omega
      obtain ⟨b, hb, hv⟩ := h2 g1
      exact ⟨b, (g3 rfl).1.trans hb, hv⟩⟩
theorem VReps.ext {q : Fl} {E E' : Env} (h : Ext E E') : ∀ (xs : List V) (us : List Value), VReps q E xs us → VReps q E' xs us
  | [], us, hu => hu
  | c :: cs, us, ⟨u, r, h1, h0, h2, h3⟩ => ⟨u, r, h1, h0, VRep.ext h c u h2, VReps.ext h cs r h3⟩
end

section
variable {q : Fl} {E : Env}
theorem VReps.length : ∀ {xs : List V} {us : List Value}, VReps q E xs us → xs.length = us.length
  | [], us, hu => by simp [VReps] at hu; simp [hu]
  | c :: cs, us, ⟨u, r, h1, h0, h2, h3⟩ => by subst h1; simp [VReps.length h3]
theorem VReps.get : ∀ {xs : List V} {us : List Value}, VReps q E xs us → ∀ (i : Nat) (x : V), xs[i]? = some x → ∃ u, us[i]? = some u ∧ okq q x ∧ VRep E x u
  | [], us, hu, i, x, hx => by simp at hx
  | c :: cs, us, ⟨u, r, h1, h0, h2, h3⟩, i, x, hx => by
    subst h1
    cases i with
    | zero => simp at hx; subst hx; exact ⟨u, by simp, h0, h2⟩
    | succ i => simp at hx; simpa using VReps.get h3 i x hx
theorem VReps.append : ∀ {xs : List V} {us : List Value} {ys : List V} {vs : List Value}, VReps q E xs us → VReps q E ys vs → VReps q E (xs ++ ys) (us ++ vs)
  | [], us, ys, vs, hu, hv => by simp [VReps] at hu; subst hu; simpa using hv
  | c :: cs, us, ys, vs, ⟨u, r, h1, h0, h2, h3⟩, hv => by subst h1; exact ⟨u, r ++ vs, rfl, h0, h2, VReps.append h3 hv⟩
theorem VReps.take : ∀ (n : Nat) {xs : List V} {us : List Value}, VReps q E xs us → VReps q E (xs.take n) (us.take n)
  | 0, xs, us, h => by simp [VReps]
  | n + 1, [], us, h => by simp [VReps] at h; subst h; simp [VReps]
  | n + 1, c :: cs, us, ⟨u, r, h1, h0, h2, h3⟩ => by subst h1; exact ⟨u, r.take n, rfl, h0, h2, VReps.take n h3⟩
theorem VReps.drop : ∀ (n : Nat) {xs : List V} {us : List Value}, VReps q E xs us → VReps q E (xs.drop n) (us.drop n)
  | 0, xs, us, h => by simpa using h
  | n + 1, [], us, h => by simp [VReps] at h; subst h; simp [VReps]
  | n + 1, c :: cs, us, ⟨u, r, h1, h0, h2, h3⟩ => by subst h1; simpa using VReps.drop n h3
theorem VReps.set : ∀ (n : Nat) {xs : List V} {us : List Value} {x : V} {v : Value}, VReps q E xs us → okq q x → VRep E x v → VReps q E (xs.set n x) (us.set n v)
  | n, [], us, x, v, h, ho, hx => by simp [VReps] at h; subst h; simp [VReps]
  | 0, c :: cs, us, x, v, ⟨u, r, h1, h0, h2, h3⟩, ho, hx => by subst h1; exact ⟨v, r, rfl, ho, hx, h3⟩
  | n + 1, c :: cs, us, x, v, ⟨u, r, h1, h0, h2, h3⟩, ho, hx => by subst h1; exact ⟨u, r.set n v, rfl, h0, h2, VReps.set n h3 ho hx⟩
theorem VReps.weak : ∀ {xs : List V} {us : List Value}, VReps .frz E xs us → VReps .cell E xs us
  | [], us, h => h
  | c :: cs, us, ⟨u, r, h1, h0, h2, h3⟩ => ⟨u, r, h1, h0.1, h2, VReps.weak h3⟩
theorem VReps.toAny : ∀ {xs : List V} {us : List Value}, VReps q E xs us → VReps .any E xs us
  | [], us, h => h
  | c :: cs, us, ⟨u, r, h1, h0, h2, h3⟩ => ⟨u, r, h1, trivial, h2, VReps.toAny h3⟩
theorem VReps.toFrz : ∀ {xs : List V} {us : List Value}, (∀ c ∈ xs, c.noId = true) → VReps .cell E xs us → VReps .frz E xs us
  | [], us, hc, h => h
  | c :: cs, us, hc, ⟨u, r, h1, h0, h2, h3⟩ => ⟨u, r, h1, ⟨h0, hc c (by simp)⟩, h2, VReps.toFrz (fun d hd => hc d (by simp [hd])) h3⟩
theorem VRep.oneCell : ∀ {x : V} {v : Value}, x.one = true → VRep E x v → v.oneCell' = true := by
  intro x v h1 h2
  cases x <;> simp [V.one] at h1 <;> simp only [VRep] at h2 <;> (try (subst h2; rfl))
  · obtain ⟨b, o, us, rfl, _⟩ := h2; rfl
  · obtain ⟨ad, cap, us, rfl, _⟩ := h2; rfl
  · exact h2.1
  · exact h2.1
  · obtain ⟨a, _, rfl, _⟩ := h2; rfl
  · exact h2.1
end

/-! ### Objects -/
inductive Ob where
  | live (cs : List V)
  | frz (cs : List V)
  | map (es : List (V × V)) (bs : List Nat) (ck : Nat)
  | iter (m : V) (since : Nat) (seen : List Nat) (last : Nat)
  | dead
  deriving Inhabited

def Ob.len : Ob → Option Nat
  | .live cs => some cs.length
  | .frz cs => some cs.length
  | .map _ _ _ => some 0
  | .iter _ _ _ _ => some 0
  | .dead => none
def Ob.mutb : Ob → Bool
  | .live _ | .map _ _ _ | .iter _ _ _ _ => true
  | _ => false
def Lof (ob : List Ob) (i : Nat) : Option Nat := (ob[i]?).bind Ob.len

def mkE (Φ : Nat → Prop) (H : Nat → Option Nat) (ob : List Ob) (w : World) : Env := ⟨Φ, H, Lof ob, ob.length, w⟩

def ObRep (E : Env) (h : Option Nat) : Ob → Prop
  | .live cs => match h with
    | none => cs = []
    | some b => ∃ c el, E.w.heap[b]? = some (.cells c el (0, 0)) ∧ ¬ E.Φ b ∧ cs.length ≤ c.size ∧ VReps .cell E cs (c.toList.take cs.length)
  | .frz cs => match h with
    | none => cs = []
    | some b => E.Φ b ∧ ∃ us, reads E.w b 0 us ∧ VReps .frz E cs us
  | .map es bs ck => (es.all fun e => e.1.notTup && e.2.notTup) = true ∧ ∃ b arr, h = some b ∧ E.w.heap[b]? = some (.map arr ck) ∧ ¬ E.Φ b ∧
      VReps .any E (es.map (·.1)) (arr.toList.map (·.key)) ∧ VReps .any E (es.map (·.2)) (arr.toList.map (·.val)) ∧
      arr.toList.map (·.born) = bs ∧ bs.Nodup ∧ ∀ n ∈ bs, n < ck
  | .iter m since seen last => m.flat0 = true ∧ ∃ b r, h = some b ∧ E.w.heap[b]? = some (.mapIter r since seen.toArray last) ∧ ¬ E.Φ b ∧ VRep E m (.map r)
  | .dead => True

structure HSim (Φ : Nat → Prop) (H : Nat → Option Nat) (ob : List Ob) (w : World) : Prop where
  phi : ∀ b, Φ b → b < w.heap.size
  rep : ∀ i o, ob[i]? = some o → ObRep (mkE Φ H ob w) (H i) o
  inj : ∀ i j o o' b, ob[i]? = some o → ob[j]? = some o' → o.mutb = true → o'.mutb = true → H i = some b → H j = some b → i = j

theorem lt_of_heap {w : World} {b : Nat} {o : Obj} (h : w.heap[b]? = some o) : b < w.heap.size := by
  rcases Nat.lt_or_ge b w.heap.size with h' | h'
  · exact h'
  · simp [Array.getElem?_eq_none h'] at h

theorem HSim.mutb {Φ H ob w} (h : HSim Φ H ob w) {i : Nat} {o : Ob} {b : Nat} (ho : ob[i]? = some o) (hm : o.mutb = true) (hb : H i = some b) : b < w.heap.size ∧ ¬ Φ b := by
  have := h.rep i o ho
  cases o with
  | live cs =>
    simp only [ObRep, hb] at this
    obtain ⟨c, el, h1, h2, _⟩ := this
    exact ⟨lt_of_heap h1, h2⟩
  | map es bs ck =>
    simp only [ObRep, hb] at this
    obtain ⟨_, b', arr, e, h1, h2, _⟩ := this
    obtain rfl : b = b' := by simpa using e
    exact ⟨lt_of_heap h1, h2⟩
  | iter m s sn l =>
    simp only [ObRep, hb] at this
    obtain ⟨_, b', r, e, h1, h2, _⟩ := this
    obtain rfl : b = b' := by simpa using e
    exact ⟨lt_of_heap h1, h2⟩
  | frz cs => simp [Ob.mutb] at hm
  | dead => simp [Ob.mutb] at hm

/-- An object that is not touched, from one moment to another. -/
theorem ObRep.ext {E E' : Env} (h : Ext E E') {o : Ob} {x x' : Option Nat} (hx : x' = x) (hh : o.mutb = true → ∀ b, x = some b → E'.w.heap[b]? = E.w.heap[b]? ∧ ¬ E'.Φ b) (k : ObRep E x o) : ObRep E' x' o := by
  subst hx
  cases o with
  | live cs =>
    cases x' with
    | none => exact k
    | some b =>
      obtain ⟨c, el, h1, h2, h4, h5⟩ := k
      obtain ⟨g1, g2⟩ := hh rfl b rfl
      exact ⟨c, el, g1.trans h1, g2, h4, VReps.ext h _ _ h5⟩
  | frz cs =>
    cases x' with
    | none => exact k
    | some b =>
      obtain ⟨h1, us, h2, h3⟩ := k
      exact ⟨h.phi _ h1, us, reads_of_heap (h.heap b h1) h2, VReps.ext h _ _ h3⟩
  | map es bs ck =>
    obtain ⟨h0, b, arr, e, h1, h2, h3, h4, h5⟩ := k
    obtain ⟨g1, g2⟩ := hh rfl b e
    exact ⟨h0, b, arr, e, g1.trans h1, g2, VReps.ext h _ _ h3, VReps.ext h _ _ h4, h5⟩
  | iter m s sn l =>
    obtain ⟨h0, b, r, e, h1, h2, h3⟩ := k
    obtain ⟨g1, g2⟩ := hh rfl b e
    exact ⟨h0, b, r, e, g1.trans h1, g2, VRep.ext h _ _ h3⟩
  | dead => trivial

/-! ### What may happen to memory -/
def upd {α : Type} (f : Nat → α) (i : Nat) (x : α) : Nat → α := fun j => if j = i then x else f j
@[simp] theorem upd_same {α : Type} (f : Nat → α) (i : Nat) (x : α) : upd f i x i = x := by simp [upd]
theorem upd_other {α : Type} (f : Nat → α) {i j : Nat} (x : α) (h : j ≠ i) : upd f i x j = f j := by simp [upd, h]

/-- A new object. -/
theorem HSim.push {Φ H ob w} (h : HSim Φ H ob w) {w' : World} {o : Ob} {x : Option Nat}
    (hkeep : ∀ k, k < w.heap.size → w'.heap[k]? = w.heap[k]?) (hsz : w.heap.size ≤ w'.heap.size)
    (hx : ∀ b, x = some b → w.heap.size ≤ b)
    (ho : ∀ E', Ext (mkE Φ H ob w) E' → E'.w = w' → E'.Φ = Φ → ObRep E' x o) :
    HSim Φ (upd H ob.length x) (ob ++ [o]) w' ∧ Ext (mkE Φ H ob w) (mkE Φ (upd H ob.length x) (ob ++ [o]) w') := by
  have hE : Ext (mkE Φ H ob w) (mkE Φ (upd H ob.length x) (ob ++ [o]) w') := by
    refine ⟨fun _ k => k, fun b hb => hkeep b (h.phi b hb), by simp [mkE], fun i hi T' hT => ?_⟩
    simp only [mkE] at hi hT ⊢
    have e : Lof (ob ++ [o]) i = Lof ob i := by simp [Lof, List.getElem?_append_left hi]
    rw [e] at hT
    refine ⟨T', hT, Nat.le_refl _, fun _ => ⟨upd_other _ _ (by omega), fun b hb => ?_⟩⟩
    simp only [bsize]
    rcases Nat.lt_or_ge b w.heap.size with hlt | hge
    · rw [hkeep b hlt]
    · exfalso
      have hi' : ∃ o', ob[i]? = some o' := ⟨ob[i], by simp [List.getElem?_eq_getElem hi]⟩
      obtain ⟨o', ho'⟩ := hi'
      have hr := h.rep i o' ho'
      cases o' with
      | live cs => rw [hb] at hr; obtain ⟨c, el, h1, _⟩ := hr; exact absurd (lt_of_heap h1) (Nat.not_lt.2 hge)
      | frz cs => rw [hb] at hr; exact absurd (h.phi b hr.1) (by omega)
      | map es bs ck => obtain ⟨_, b', arr, e1, h1, _⟩ := hr; obtain rfl : b = b' := by simpa [hb] using e1
                        exact absurd (lt_of_heap h1) (Nat.not_lt.2 hge)
      | iter m s sn l => obtain ⟨_, b', r, e1, h1, _⟩ := hr; obtain rfl : b = b' := by simpa [hb] using e1
                         exact absurd (lt_of_heap h1) (Nat.not_lt.2 hge)
      | dead => simp [Lof, ho', Ob.len] at hT
  refine ⟨⟨fun b hb => Nat.lt_of_lt_of_le (h.phi b hb) hsz, fun i o' hi => ?_, fun i j o1 o2 b hi hj m1 m2 e1 e2 => ?_⟩, hE⟩
  · rcases Nat.lt_or_ge i ob.length with hlt | hge
    · rw [List.getElem?_append_left hlt] at hi
      refine ObRep.ext hE (upd_other _ _ (by omega)) (fun hm b hb => ?_) (h.rep i o' hi)
      obtain ⟨g1, g2⟩ := h.mutb hi hm hb
      exact ⟨hkeep b g1, g2⟩
    · have hlt2 : i < (ob ++ [o]).length := by
        rcases Nat.lt_or_ge i (ob ++ [o]).length with q | q
        · exact q
        · simp [List.getElem?_eq_none q] at hi
      obtain rfl : i = ob.length := by simp at hlt2; omega
      obtain rfl : o = o' := by simpa using hi
      rw [upd_same]
      exact ho _ hE rfl rfl
  · rcases Nat.lt_or_ge i ob.length with hlt | hge
    · rw [List.getElem?_append_left hlt] at hi
      rw [upd_other _ _ (by omega)] at e1
      rcases Nat.lt_or_ge j ob.length with hlt' | hge'
      · rw [List.getElem?_append_left hlt'] at hj
        rw [upd_other _ _ (by omega)] at e2
        exact h.inj i j o1 o2 b hi hj m1 m2 e1 e2
      · have hlt2 : j < (ob ++ [o]).length := by
          rcases Nat.lt_or_ge j (ob ++ [o]).length with q | q
          · exact q
          · simp [List.getElem?_eq_none q] at hj
        obtain rfl : j = ob.length := by simp at hlt2; omega
        rw [upd_same] at e2
        exact absurd (h.mutb hi m1 e1).1 (by have := hx b e2; omega)
    · have hlt2 : i < (ob ++ [o]).length := by
        rcases Nat.lt_or_ge i (ob ++ [o]).length with q | q
        · exact q
        · simp [List.getElem?_eq_none q] at hi
      obtain rfl : i = ob.length := by simp at hlt2; omega
      rw [upd_same] at e1
      rcases Nat.lt_or_ge j ob.length with hlt' | hge'
      · rw [List.getElem?_append_left hlt'] at hj
        rw [upd_other _ _ (by omega)] at e2
        exact absurd (h.mutb hj m2 e2).1 (by have := hx b e1; omega)
      · have hlt3 : j < (ob ++ [o]).length := by
          rcases Nat.lt_or_ge j (ob ++ [o]).length with q | q
          · exact q
          · simp [List.getElem?_eq_none q] at hj
        simp at hlt3; omega

/-- An object that is changed: written, grown into a new block, or frozen. -/
theorem HSim.change {Φ H ob w} (h : HSim Φ H ob w) {i : Nat} {o o' : Ob} (hi : ob[i]? = some o) (hm : o.mutb = true)
    {Φ' : Nat → Prop} {w' : World} {x : Option Nat}
    (hkeep : ∀ k, k < w.heap.size → H i ≠ some k → w'.heap[k]? = w.heap[k]?) (hsz : w.heap.size ≤ w'.heap.size)
    (hp1 : ∀ b, Φ b → Φ' b) (hp2 : ∀ b, Φ' b → Φ b ∨ (H i = some b ∧ o'.mutb = false))
    (hx : ∀ b, x = some b → H i = some b ∨ w.heap.size ≤ b)
    (hl : ∀ T', o'.len = some T' → ∃ T, o.len = some T ∧ T ≤ T' ∧ (T = T' → x = H i ∧ ∀ b, H i = some b → bsize w' b = bsize w b))
    (ho : ∀ E', Ext (mkE Φ H ob w) E' → E'.w = w' → E'.Φ = Φ' → ObRep E' x o') :
    HSim Φ' (upd H i x) (ob.set i o') w' ∧ Ext (mkE Φ H ob w) (mkE Φ' (upd H i x) (ob.set i o') w') := by
  have hilt : i < ob.length := by
    rcases Nat.lt_or_ge i ob.length with q | q
    · exact q
    · simp [List.getElem?_eq_none q] at hi
  have hHlt : ∀ j o1 b, ob[j]? = some o1 → o1.mutb = true → H j = some b → j ≠ i → H i ≠ some b := fun j o1 b hj mj e ne e' => ne (h.inj j i o1 o b hj hi mj hm e e')
  have hphi : ∀ b, Φ b → H i ≠ some b := fun b hb e => (h.mutb hi hm e).2 hb
  have hE : Ext (mkE Φ H ob w) (mkE Φ' (upd H i x) (ob.set i o') w') := by
    refine ⟨hp1, fun b hb => hkeep b (h.phi b hb) (hphi b hb), by simp [mkE], fun j hj T' hT => ?_⟩
    simp only [mkE] at hj hT ⊢
    by_cases hji : j = i
    · subst hji
      have e : Lof (ob.set j o') j = o'.len := by simp [Lof, hilt]
      rw [e] at hT
      obtain ⟨T, h1, h2, h3⟩ := hl T' hT
      exact ⟨T, by simpa [Lof, hi] using h1, h2, fun e => by rw [upd_same]; exact h3 e⟩
    · have e : Lof (ob.set i o') j = Lof ob j := by simp [Lof, List.getElem?_set_ne (by omega : i ≠ j)]
      rw [e] at hT
      refine ⟨T', hT, Nat.le_refl _, fun _ => ⟨upd_other _ _ hji, fun b hb => ?_⟩⟩
      have hi' : ∃ o1, ob[j]? = some o1 := ⟨ob[j], by simp [List.getElem?_eq_getElem hj]⟩
      obtain ⟨o1, ho1⟩ := hi'
      have hr := h.rep j o1 ho1
      cases o1 with
      | live cs =>
        have q := h.mutb ho1 rfl hb
        simp only [bsize]; rw [hkeep b q.1 (hHlt j _ b ho1 rfl hb hji)]
      | frz cs => rw [hb] at hr; simp only [bsize]; rw [hkeep b (h.phi b hr.1) (hphi b hr.1)]
      | map es bs ck =>
        have q := h.mutb ho1 rfl hb
        simp only [bsize]; rw [hkeep b q.1 (hHlt j _ b ho1 rfl hb hji)]
      | iter m s sn l =>
        have q := h.mutb ho1 rfl hb
        simp only [bsize]; rw [hkeep b q.1 (hHlt j _ b ho1 rfl hb hji)]
      | dead => simp [Lof, ho1, Ob.len] at hT
  refine ⟨⟨fun b hb => ?_, fun j o1 hj => ?_, fun j k o1 o2 b hj hk m1 m2 e1 e2 => ?_⟩, hE⟩
  · rcases hp2 b hb with q | ⟨q, _⟩
    · exact Nat.lt_of_lt_of_le (h.phi b q) hsz
    · exact Nat.lt_of_lt_of_le (h.mutb hi hm q).1 hsz
  · by_cases hji : j = i
    · subst hji
      obtain rfl : o' = o1 := by simpa [hilt] using hj
      rw [upd_same]
      exact ho _ hE rfl rfl
    · rw [List.getElem?_set_ne (by omega : i ≠ j)] at hj
      refine ObRep.ext hE (upd_other _ _ hji) (fun hm1 b hb => ?_) (h.rep j o1 hj)
      have q := h.mutb hj hm1 hb
      have nb := hHlt j _ b hj hm1 hb hji
      refine ⟨hkeep b q.1 nb, fun hp => ?_⟩
      rcases hp2 b hp with r | ⟨r, _⟩
      · exact q.2 r
      · exact nb r
  · by_cases hji : j = i
    · by_cases hki : k = i
      · omega
      · subst hji
        rw [List.getElem?_set_ne (by omega : j ≠ k)] at hk
        rw [upd_same] at e1
        rw [upd_other _ _ hki] at e2
        rcases hx b e1 with q | q
        · exact absurd q (hHlt k o2 b hk m2 e2 hki)
        · exact absurd (h.mutb hk m2 e2).1 (by omega)
    · rw [List.getElem?_set_ne (by omega : i ≠ j)] at hj
      rw [upd_other _ _ hji] at e1
      by_cases hki : k = i
      · subst hki
        rw [upd_same] at e2
        rcases hx b e2 with q | q
        · exact absurd q (hHlt j o1 b hj m1 e1 hji)
        · exact absurd (h.mutb hj m1 e1).1 (by omega)
      · rw [List.getElem?_set_ne (by omega : i ≠ k)] at hk
        rw [upd_other _ _ hki] at e2
        exact h.inj j k o1 o2 b hj hk m1 m2 e1 e2

/-- A world in which only a count has moved on. -/
theorem HSim.same {Φ H ob w} (h : HSim Φ H ob w) {w' : World} (hw : w'.heap = w.heap) : HSim Φ H ob w' ∧ Ext (mkE Φ H ob w) (mkE Φ H ob w') := by
  have hE : Ext (mkE Φ H ob w) (mkE Φ H ob w') :=
    ⟨fun _ k => k, fun b hb => by simp [mkE, hw], Nat.le_refl _, fun i hi T' hT => ⟨T', hT, Nat.le_refl _, fun _ => ⟨rfl, fun b _ => by simp [mkE, bsize, hw]⟩⟩⟩
  refine ⟨⟨fun b hb => by rw [hw]; exact h.phi b hb, fun i o hi => ObRep.ext hE rfl (fun hm b hb => ⟨by simp [mkE, hw], (h.mutb hi hm hb).2⟩) (h.rep i o hi), h.inj⟩, hE⟩

end Go.VX
