/- Maps whose keys are numbers, texts or bools. -/
import Derived.Test.YthjpaongoflgiaaVXOp8
import Derived.MapKept
namespace Go.VX
open Go.RowKit
set_option linter.unusedVariables false
set_option linter.unusedSimpArgs false

def sameK : V → V → Option Bool
  | .int k a, .int k' b => if k = k' then some (a == b) else none
  | .str a, .str b => some (decide (a = b))
  | .bool a, .bool b => some (a == b)
  | _, _ => none
def vfindK (k : V) : List (V × V) → Nat → Option (Option (Nat × V))
  | [], _ => some none
  | e :: es, i => match sameK k e.1 with
    | some true => some (some (i, e.2))
    | some false => vfindK k es (i + 1)
    | none => none
def keyT : TK → V → Bool
  | .int k, .int k' _ => decide (k' = k)
  | .string, .str _ => true
  | .bool, .bool _ => true
  | _, _ => false

def vlookup (T : Nat → Option TI) (ob : List Ob) (t : Nat) (x k : V) (ok : Bool) : Option V :=
  match T t with
  | some ⟨.map kt et, _, _, _⟩ => match T kt, T et with
    | some ik, some ie => if keyT ik.k k = true then
        match x with
        | .nilm => some (if ok = true then .tup [ie.zero, .bool false] else ie.zero)
        | .mp id => match ob[id]? with
          | some (.map es _ _) => match vfindK k es 0 with
            | some (some (_, y)) => some (if ok = true then .tup [y, .bool true] else y)
            | some none => some (if ok = true then .tup [ie.zero, .bool false] else ie.zero)
            | none => none
          | _ => none
        | _ => none
      else none
    | _, _ => none
  | _ => none
/-- A value put. -/
def vput (k y : V) (es : List (V × V)) (bs : List Nat) (ck : Nat) : Option Ob :=
  match vfindK k es 0 with
  | some (some (i, _)) => some (.map (es.modify i fun e => (e.1, y)) bs ck)
  | some none => some (.map (es ++ [(k, y)]) (bs ++ [ck]) (ck + 1))
  | none => none
def vdel (k : V) (es : List (V × V)) (bs : List Nat) (ck : Nat) : Option Ob :=
  match vfindK k es 0 with
  | some (some (i, _)) => some (.map (es.eraseIdx i) (bs.eraseIdx i) ck)
  | some none => some (.map es bs ck)
  | none => none
def vmapKey (T : Nat → Option TI) (t : Nat) (k : V) : Bool :=
  match T t with
  | some ⟨.map kt _, _, _, _⟩ => match T kt with
    | some ik => keyT ik.k k
    | none => false
  | _ => false

theorem bytes_beq' (a b : ByteArray) : (a == b) = decide (a = b) := by
  rw [Bool.eq_iff_iff, decide_eq_true_iff]
  exact MapKept.bytes_beq a b

section
variable {P : Program} {T : Nat → Option TI} {w : World} {Φ : Nat → Prop} {H : Nat → Option Nat} {ob : List Ob}

theorem sameK_sound {E : Env} {k k' : V} {u u' : Value} {d : TypeDesc} {b : Bool} (h : sameK k k' = some b) (hk : keyT (kindOf d) k = true) (hu : VRep E k u) (hu' : VRep E k' u') : Instr.sameNow d u u' = some b := by
  cases k <;> cases k' <;> simp [sameK] at h <;> simp only [VRep] at hu hu' <;> subst hu <;> subst hu'
  · cases d <;> simp [keyT, kindOf] at hk
    simpa [Instr.sameNow] using h
  · cases d <;> simp [keyT, kindOf] at hk
    obtain ⟨rfl, rfl⟩ := h
    simp [Instr.sameNow]
  · cases d <;> simp [keyT, kindOf] at hk
    subst h
    simp [Instr.sameNow, bytes_beq']

theorem vfindK_sound {E : Env} {k : V} {u : Value} {d : TypeDesc} (hk : keyT (kindOf d) k = true) (hu : VRep E k u) : ∀ {es : List (V × V)} {l : List MapEntry} (i : Nat) {r : Option (Nat × V)}, VReps .any E (es.map (·.1)) (l.map (·.key)) → VReps .any E (es.map (·.2)) (l.map (·.val)) → vfindK k es i = some r →
    (r = none ∧ Instr.findNow d u l i = some none) ∨ ∃ j x v, r = some (i + j, x) ∧ Instr.findNow d u l i = some (some (i + j, v)) ∧ VRep E x v ∧ es[j]? = some (k, x) ∧ ∃ e, l[j]? = some e ∧ e.val = v
  | [], l, i, r, h1, h2, h => by
    cases l with
    | cons e l => have := VReps.length h1; simp at this
    | nil =>
      simp only [vfindK, Option.some.injEq] at h
      subst h
      exact .inl ⟨rfl, rfl⟩
  | c :: es, l, i, r, h1, h2, h => by
    cases l with
    | nil => have := VReps.length h1; simp at this
    | cons e l =>
      obtain ⟨u1, r1, e1, _, g1, g1'⟩ := h1
      obtain ⟨u2, r2, e2, _, g2, g2'⟩ := h2
      simp only [List.map_cons, List.cons.injEq] at e1 e2
      obtain ⟨rfl, rfl⟩ := e1
      obtain ⟨rfl, rfl⟩ := e2
      simp only [vfindK] at h
      split at h
      · rename_i hs
        simp only [Option.some.injEq] at h
        subst h
        have hq := sameK_sound hs hk hu g1
        have : k = c.1 := by
          cases hk' : k <;> cases hc : c.1 <;> rw [hk', hc] at hs <;> simp [sameK] at hs
          · exact congrArg _ hs
          · obtain ⟨rfl, rfl⟩ := hs; rfl
          · exact congrArg _ hs
        exact .inr ⟨0, c.2, e.val, rfl, by simp [Instr.findNow, hq], g2, by rw [this]; rfl, e, rfl, rfl⟩
      · rename_i hs
        have hq := sameK_sound hs hk hu g1
        rcases vfindK_sound hk hu (i + 1) g1' g2' h with ⟨rfl, q⟩ | ⟨j, x, v, rfl, q1, q2, q3, e', q4, q5⟩
        · exact .inl ⟨rfl, by simp [Instr.findNow, hq, q]⟩
        · exact .inr ⟨j + 1, x, v, by simp; omega, by simp [Instr.findNow, hq, q1]; omega, q2, by simpa using q3, e', by simpa using q4, q5⟩
      · cases h

theorem vconst_notTup (z : Value) : (vconst z).notTup = true := by
  unfold vconst
  split
  · split <;> rfl
  · unfold vconst1
    split <;> rfl
theorem isKey_of {E : Env} {d : TypeDesc} {k : V} {u : Value} (hk : keyT (kindOf d) k = true) (hu : VRep E k u) : MapKept.IsKey d u := by
  cases k <;> cases d <;> simp [keyT, kindOf] at hk <;> simp only [VRep] at hu <;> subst hu <;> simp [MapKept.IsKey, hk]
theorem kindOf_map {d : TypeDesc} {k e : Nat} (h : kindOf d = .map k e) : d = .map k e := by
  cases d <;> simp_all [kindOf]

theorem map_at (hs : HSim Φ H ob w) {id : Nat} {es : List (V × V)} {bs : List Nat} {ck : Nat} {v : Value} (hx : VRep (mkE Φ H ob w) (.mp id) v) (ho : ob[id]? = some (.map es bs ck)) :
    ∃ b arr, v = .map (some b) ∧ H id = some b ∧ w.heap[b]? = some (.map arr ck) ∧ ObRep (mkE Φ H ob w) (some b) (.map es bs ck) ∧ VReps .any (mkE Φ H ob w) (es.map (·.1)) (arr.toList.map (·.key)) ∧ VReps .any (mkE Φ H ob w) (es.map (·.2)) (arr.toList.map (·.val)) ∧
      (es.all fun e => e.1.notTup && e.2.notTup) = true ∧ arr.toList.map (·.born) = bs ∧ bs.Nodup ∧ (∀ n ∈ bs, n < ck) ∧ ¬ Φ b := by
  obtain ⟨_, h1, h2⟩ := hx
  obtain ⟨b, hb, rfl⟩ := h2 (by simp [mkE, Lof, ho, Ob.len])
  have hr := hs.rep id _ ho
  have hr0 := hr
  obtain ⟨q0, b', arr, g1, g2, g3, g4, g5, g6, g7, g8⟩ := hr
  have hb' : H id = some b := hb
  obtain rfl : b = b' := by rw [hb'] at g1; exact Option.some.inj g1
  rw [hb'] at hr0
  exact ⟨b, arr, rfl, hb', g2, hr0, g4, g5, q0, g6, g7, g8, g3⟩

theorem lookup_sound (hT : TabOK P T) (hs : HSim Φ H ob w) {t : Nat} {x k y : V} {v u : Value} {ok : Bool} (hx : VRep (mkE Φ H ob w) x v) (hk : VRep (mkE Φ H ob w) k u) (h : vlookup T ob t x k ok = some y) :
    ∃ q, (Instr.lookup t v u ok).run P w = .ok q w ∧ VRep (mkE Φ H ob w) y q := by
  unfold vlookup at h
  split at h
  case h_2 => cases h
  rename_i kt et _ _ _ ht
  split at h
  case h_2 => cases h
  rename_i ik ie hik hie
  split at h
  case isFalse => cases h
  rename_i hkt
  obtain ⟨info, d, zq, f1, f2, f3, _⟩ := hT t _ ht
  obtain rfl := kindOf_map f3
  obtain ⟨infok, dk, zk, k1, k2, k3, _⟩ := hT kt _ hik
  obtain ⟨infoe, de, ze, z1, z2, z3, z4, z5, z6, z7, z8, z9⟩ := hT et _ hie
  rw [← k3] at hkt
  have hkey := isKey_of hkt hk
  have hz : VRep (mkE Φ H ob w) ie.zero ze := by rw [← z7]; exact vconst_rep _ _
  have hnt : ie.zero.notTup = true := by rw [← z7]; exact vconst_notTup _
  have mk : ∀ (b : Bool) (z : V) (q : Value), z.notTup = true → VRep (mkE Φ H ob w) z q → VRep (mkE Φ H ob w) (if ok = true then .tup [z, .bool b] else z) (if ok = true then .tuple #[q, .bool b] else q) := by
    intro b z q hn hq
    cases ok
    · exact hq
    · exact ⟨#[q, .bool b], by show (z.notTup && (V.notTup (.bool b) && true)) = true; rw [hn]; rfl, rfl, q, _, rfl, trivial, hq, _, _, rfl, trivial, rfl, rfl⟩
  split at h
  · simp only [VRep] at hx; subst hx
    simp only [Option.some.injEq] at h; subst h
    refine ⟨_, ?_, mk false _ _ hnt hz⟩
    have hc := MapKept.run_checkKey (P := P) (w := w) k2 hkey true 9999
    have hf := MapKept.run_findKey (P := P) (w := w) k2 (k := u) (l := []) (a := none) rfl
    simp [Instr.lookup, run_underlying f2, hc, hf, zeroValue, typeInfo, z1, z6]
  · rename_i id
    split at h
    case h_2 => cases h
    rename_i es bs ck ho
    obtain ⟨b, arr, rfl, hb, hw, _, hvk, hvv, hnt2, _⟩ := map_at hs hx ho
    have hg := MapKept.run_getObj_map (P := P) hw
    have hc := MapKept.run_checkKey (P := P) (w := w) k2 hkey arr.isEmpty 9999
    split at h
    · rename_i i z hfnd
      simp only [Option.some.injEq] at h; subst h
      rcases vfindK_sound hkt hk 0 hvk hvv hfnd with ⟨q, _⟩ | ⟨j, x', v', q1, q2, q3, q4, e', _, _⟩
      · cases q
      · simp only [Option.some.injEq, Prod.mk.injEq] at q1
        obtain ⟨rfl, rfl⟩ := q1
        have hf := MapKept.run_findKey (P := P) (w := w) k2 q2
        refine ⟨_, ?_, mk true _ _ ?_ q3⟩
        · simp [Instr.lookup, run_underlying f2, hg, hc, hf]
        · have := List.all_eq_true.1 hnt2 _ (List.mem_of_getElem? q4)
          simp only [Bool.and_eq_true] at this
          exact this.2
    · rename_i hfnd
      simp only [Option.some.injEq] at h; subst h
      rcases vfindK_sound hkt hk 0 hvk hvv hfnd with ⟨_, q2⟩ | ⟨j, x', v', q1, _⟩
      · have hf := MapKept.run_findKey (P := P) (w := w) k2 q2
        refine ⟨_, ?_, mk false _ _ hnt hz⟩
        simp [Instr.lookup, run_underlying f2, hg, hc, hf, zeroValue, typeInfo, z1, z6]
      · cases q1
    · cases h
  · cases h

theorem heap_setObj (w : World) {b : Nat} {o o' : Obj} (h : w.heap[b]? = some o) (k : Nat) : ({ w with heap := w.heap.setIfInBounds b o' } : World).heap[k]? = if k = b then some o' else w.heap[k]? := by
  obtain ⟨h1, h2⟩ := MapKept.heap_set (o' := o') h
  show (w.heap.setIfInBounds b o')[k]? = _
  split
  · rename_i e; rw [e]; exact h1
  · rename_i e; exact h2 k e

/-- A map that is changed. -/
theorem map_step (hs : HSim Φ H ob w) {id b : Nat} {es es' : List (V × V)} {bs bs' : List Nat} {ck ck' : Nat} {arr arr' : Array MapEntry} (ho : ob[id]? = some (.map es bs ck)) (hb : H id = some b) (hw : w.heap[b]? = some (.map arr ck)) (hp : ¬ Φ b)
    (h0 : (es'.all fun e => e.1.notTup && e.2.notTup) = true) (hk : VReps .any (mkE Φ H ob w) (es'.map (·.1)) (arr'.toList.map (·.key))) (hv : VReps .any (mkE Φ H ob w) (es'.map (·.2)) (arr'.toList.map (·.val)))
    (hbs : arr'.toList.map (·.born) = bs') (hn : bs'.Nodup) (hlt : ∀ n ∈ bs', n < ck') :
    HStep Φ H ob w Φ (upd H id (some b)) (ob.set id (.map es' bs' ck')) { w with heap := w.heap.setIfInBounds b (.map arr' ck') } := by
  refine HStep.ofChange hs ho rfl rfl rfl rfl (fun k hk hne => ?_) (by simp) (fun _ h => h) (fun _ h => .inl h) (fun b' hb' => .inl (by rw [hb]; exact hb')) (fun T' hT' => ?_) (fun E' hE hw' hΦ => ?_)
  · rw [heap_setObj w hw, if_neg (fun e => hne (by rw [e]; exact hb))]
  · simp only [Ob.len, Option.some.injEq] at hT'
    refine ⟨0, rfl, by omega, fun _ => ⟨hb.symm, fun b' hb' => ?_⟩⟩
    rw [hb] at hb'
    obtain rfl := Option.some.inj hb'
    simp only [bsize]
    rw [heap_setObj w hw, if_pos rfl, hw]
  · refine ⟨h0, b, arr', rfl, by rw [hw', heap_setObj w hw, if_pos rfl], by rw [hΦ]; exact hp, VReps.ext hE _ _ hk, VReps.ext hE _ _ hv, hbs, hn, hlt⟩

theorem keyStays {E : Env} {w : World} {k : V} {a u : Value} {d : TypeDesc} (hk : keyT (kindOf d) k = true) (ha : VRep E k a) (hu : VRep E k u) : (Instr.keyThatStays a u).run P w = .ok u w := by
  cases k <;> cases d <;> simp [keyT, kindOf] at hk <;> simp only [VRep] at ha hu <;> subst ha <;> subst hu <;> simp [Instr.keyThatStays, Instr.sameBits, bytes_beq']

theorem modify_toList {α : Type} (a : Array α) (i : Nat) (f : α → α) : (a.modify i f).toList = a.toList.modify i f := by
  apply List.ext_getElem?
  intro j
  rw [List.getElem?_modify]
  rw [Array.getElem?_toList, Array.getElem?_modify]
  by_cases h : i = j
  · subst h; simp
  · simp [h]
theorem VReps.modify {q : Fl} {E : Env} : ∀ (n : Nat) {xs : List V} {us : List Value} {x : V} {v : Value} (f : V → V) (g : Value → Value), VReps q E xs us → okq q x → VRep E x v → (∀ c, xs[n]? = some c → f c = x) → (∀ c, us[n]? = some c → g c = v) → VReps q E (xs.modify n f) (us.modify n g)
  | n, [], us, x, v, f, g, h, ho, hx, _, _ => by simp [VReps] at h; subst h; simp [VReps]
  | 0, c :: cs, us, x, v, f, g, ⟨u, r, h1, h0, h2, h3⟩, ho, hx, hf, hg => by
    subst h1
    have e1 := hf c rfl
    have e2 := hg u rfl
    simp only [List.modify_zero_cons]
    rw [e1, e2]
    exact ⟨v, r, rfl, ho, hx, h3⟩
  | n + 1, c :: cs, us, x, v, f, g, ⟨u, r, h1, h0, h2, h3⟩, ho, hx, hf, hg => by
    subst h1
    simp only [List.modify_succ_cons]
    exact ⟨u, r.modify n g, rfl, h0, h2, VReps.modify n f g h3 ho hx (fun c h => hf c (by simpa using h)) (fun c h => hg c (by simpa using h))⟩
theorem map_modify_same {α β : Type} (f : α → β) (g : α → α) (h : ∀ a, f (g a) = f a) : ∀ (l : List α) (n : Nat), (l.modify n g).map f = l.map f
  | [], n => by simp
  | a :: l, 0 => by simp [h]
  | a :: l, n + 1 => by simp [map_modify_same f g h l n]
theorem map_modify {α β : Type} (f : α → β) (g : α → α) (k : β → β) (h : ∀ a, f (g a) = k (f a)) : ∀ (l : List α) (n : Nat), (l.modify n g).map f = (l.map f).modify n k
  | [], n => by simp
  | a :: l, 0 => by simp [h]
  | a :: l, n + 1 => by simp [map_modify f g k h l n]

theorem mapUpdate_sound (hT : TabOK P T) (hs : HSim Φ H ob w) {t : Nat} {id : Nat} {k y : V} {v u uy : Value} {es : List (V × V)} {bs : List Nat} {ck : Nat} {o' : Ob} (hx : VRep (mkE Φ H ob w) (.mp id) v) (hk : VRep (mkE Φ H ob w) k u) (hy : VRep (mkE Φ H ob w) y uy) (hn : y.notTup = true)
    (ho : ob[id]? = some (.map es bs ck)) (hkt : vmapKey T t k = true) (h : vput k y es bs ck = some o') :
    ∃ w' H', (Instr.mapUpdate t v u uy).run P w = .ok () w' ∧ HStep Φ H ob w Φ H' (ob.set id o') w' := by
  unfold vmapKey at hkt
  split at hkt
  case h_2 => cases hkt
  rename_i kt et _ _ _ ht
  split at hkt
  case h_2 => cases hkt
  rename_i ik hik
  obtain ⟨info, d, zq, f1, f2, f3, _⟩ := hT t _ ht
  obtain rfl := kindOf_map f3
  obtain ⟨infok, dk, zk, k1, k2, k3, _⟩ := hT kt _ hik
  rw [← k3] at hkt
  have hkey := isKey_of hkt hk
  have hkn : k.notTup = true := by cases k <;> simp_all [keyT, V.notTup]
  obtain ⟨b, arr, rfl, hb, hw, _, hvk, hvv, hnt, hbs, hnd, hlt, hph⟩ := map_at hs hx ho
  have hg := MapKept.run_getObj_map (P := P) hw
  have hc := MapKept.run_checkKey (P := P) (w := w) k2 hkey false 9999
  have hset := fun o => MapKept.run_setObj_map (P := P) o hw
  unfold vput at h
  split at h
  · rename_i i z hfnd
    simp only [Option.some.injEq] at h; subst h
    rcases vfindK_sound hkt hk 0 hvk hvv hfnd with ⟨q, _⟩ | ⟨j, x', v', q1, q2, q3, q4, e', q5, q6⟩
    · cases q
    · simp only [Option.some.injEq, Prod.mk.injEq, Nat.zero_add] at q1 q2
      obtain ⟨rfl, rfl⟩ := q1
      have hf := MapKept.run_findKey (P := P) (w := w) k2 q2
      have hek : VRep (mkE Φ H ob w) k e'.key := by
        obtain ⟨u', g1, _, g3⟩ := hvk.get i k (by rw [List.getElem?_map, q4]; rfl)
        rw [List.getElem?_map, q5] at g1
        simp only [Option.map_some, Option.some.injEq] at g1
        rw [g1]; exact g3
      have hks := keyStays (P := P) (w := w) hkt hek hk
      have hae : arr[i]? = some e' := by simpa using q5
      refine ⟨_, _, ?_, map_step (arr' := arr.modify i fun e => { e with key := u, val := uy }) hs ho hb hw hph ?_ ?_ ?_ ?_ hnd hlt⟩
      · simp [Instr.mapUpdate, run_underlying f2, hg, hc, hf, hae, hks, hset]
      · rw [List.all_eq_true] at hnt ⊢
        intro e he
        obtain ⟨j, hj⟩ := List.getElem?_of_mem he
        rw [List.getElem?_modify] at hj
        obtain ⟨e0, g1, g2⟩ : ∃ e0, es[j]? = some e0 ∧ (if i = j then (e0.1, y) else e0) = e := by
          by_cases hij : i = j
          · simp only [hij, if_true] at hj ⊢; cases hq : es[j]? <;> simp_all
          · simp only [if_neg hij] at hj ⊢; cases hq : es[j]? <;> simp_all
        have g0 := hnt e0 (List.mem_of_getElem? g1)
        simp only [Bool.and_eq_true] at g0 ⊢
        by_cases hij : i = j
        · rw [if_pos hij] at g2; subst g2; exact ⟨g0.1, hn⟩
        · rw [if_neg hij] at g2; subst g2; exact g0
      · rw [map_modify_same _ _ (by intro a; rfl), modify_toList, map_modify (fun e : MapEntry => e.key) _ (fun _ => u) (by intro a; rfl)]
        have := VReps.modify i (fun _ => k) (fun _ => u) hvk trivial hk (fun _ _ => rfl) (fun _ _ => rfl)
        have e1 : (es.map (·.1)).modify i (fun _ => k) = es.map (·.1) := by
          apply List.ext_getElem?
          intro j
          rw [List.getElem?_modify, List.getElem?_map]
          by_cases hij : i = j
          · subst hij; simp [q4]
          · simp [hij]
        rwa [e1] at this
      · rw [map_modify (fun e : V × V => e.2) _ (fun _ => y) (by intro a; rfl), modify_toList, map_modify (fun e : MapEntry => e.val) _ (fun _ => uy) (by intro a; rfl)]
        exact VReps.modify i (fun _ => y) (fun _ => uy) hvv trivial hy (fun _ _ => rfl) (fun _ _ => rfl)
      · rw [modify_toList, map_modify_same _ _ (by intro a; rfl)]; exact hbs
  · rename_i hfnd
    simp only [Option.some.injEq] at h; subst h
    rcases vfindK_sound hkt hk 0 hvk hvv hfnd with ⟨_, q2⟩ | ⟨j, x', v', q1, _⟩
    · have hf := MapKept.run_findKey (P := P) (w := w) k2 q2
      refine ⟨_, _, ?_, map_step (arr' := arr.push { key := u, val := uy, born := ck }) hs ho hb hw hph ?_ ?_ ?_ ?_ ?_ ?_⟩
      · simp [Instr.mapUpdate, run_underlying f2, hg, hc, hf, hset]
      · simp only [List.all_append, hnt, Bool.true_and, List.all_cons, List.all_nil, hkn, hn, Bool.and_true]
      · simp only [Array.toList_push, List.map_append, List.map_cons, List.map_nil]
        exact hvk.append ⟨u, _, rfl, trivial, hk, rfl⟩
      · simp only [Array.toList_push, List.map_append, List.map_cons, List.map_nil]
        exact hvv.append ⟨uy, _, rfl, trivial, hy, rfl⟩
      · simp [hbs]
      · rw [List.nodup_append]
        refine ⟨hnd, by simp, fun a ha c hc => ?_⟩
        simp only [List.mem_singleton] at hc
        have := hlt a ha
        omega
      · intro n hnm
        simp only [List.mem_append, List.mem_singleton] at hnm
        rcases hnm with q | q
        · have := hlt n q; omega
        · omega
    · cases q1
  · cases h

theorem VReps.eraseIdx {q : Fl} {E : Env} : ∀ (n : Nat) {xs : List V} {us : List Value}, VReps q E xs us → VReps q E (xs.eraseIdx n) (us.eraseIdx n)
  | n, [], us, h => by simp [VReps] at h; subst h; simp [VReps]
  | 0, c :: cs, us, ⟨u, r, h1, h0, h2, h3⟩ => by subst h1; simpa using h3
  | n + 1, c :: cs, us, ⟨u, r, h1, h0, h2, h3⟩ => by subst h1; exact ⟨u, r.eraseIdx n, rfl, h0, h2, VReps.eraseIdx n h3⟩
theorem map_eraseIdx {α β : Type} (f : α → β) : ∀ (l : List α) (n : Nat), (l.eraseIdx n).map f = (l.map f).eraseIdx n
  | [], n => by simp
  | a :: l, 0 => by simp
  | a :: l, n + 1 => by simp [map_eraseIdx f l n]

theorem delete_sound (hT : TabOK P T) (hs : HSim Φ H ob w) {t t2 ty : Nat} {id : Nat} {k : V} {v u : Value} {es : List (V × V)} {bs : List Nat} {ck : Nat} {o' : Ob} (hx : VRep (mkE Φ H ob w) (.mp id) v) (hk : VRep (mkE Φ H ob w) k u)
    (ho : ob[id]? = some (.map es bs ck)) (hkt : vmapKey T t k = true) (h : vdel k es bs ck = some o') :
    ∃ w' H', (Builtin.delete_ #[t, t2] ty #[v, u]).run P w = .ok (.tuple #[]) w' ∧ HStep Φ H ob w Φ H' (ob.set id o') w' := by
  unfold vmapKey at hkt
  split at hkt
  case h_2 => cases hkt
  rename_i kt et _ _ _ ht
  split at hkt
  case h_2 => cases hkt
  rename_i ik hik
  obtain ⟨info, d, zq, f1, f2, f3, _⟩ := hT t _ ht
  obtain rfl := kindOf_map f3
  obtain ⟨infok, dk, zk, k1, k2, k3, _⟩ := hT kt _ hik
  rw [← k3] at hkt
  have hkey := isKey_of hkt hk
  obtain ⟨b, arr, rfl, hb, hw, hrep, hvk, hvv, hnt, hbs, hnd, hlt, hph⟩ := map_at hs hx ho
  have hg := MapKept.run_getObj_map (P := P) hw
  have hc := MapKept.run_checkKey (P := P) (w := w) k2 hkey arr.isEmpty 9999
  have hset := fun o => MapKept.run_setObj_map (P := P) o hw
  unfold vdel at h
  split at h
  · rename_i i z hfnd
    simp only [Option.some.injEq] at h; subst h
    rcases vfindK_sound hkt hk 0 hvk hvv hfnd with ⟨q, _⟩ | ⟨j, x', v', q1, q2, q3, q4, e', q5, q6⟩
    · cases q
    · simp only [Option.some.injEq, Prod.mk.injEq, Nat.zero_add] at q1 q2
      obtain ⟨rfl, rfl⟩ := q1
      have hf := MapKept.run_findKey (P := P) (w := w) k2 q2
      have he : (arr.eraseIdxIfInBounds i).toList = arr.toList.eraseIdx i := Array.toList_eraseIdxIfInBounds
      refine ⟨_, _, ?_, map_step (arr' := arr.eraseIdxIfInBounds i) hs ho hb hw hph ?_ ?_ ?_ ?_ ?_ ?_⟩
      · simp [Builtin.delete_, run_underlying f2, hg, hc, hf, hset]
      · rw [List.all_eq_true] at hnt ⊢
        exact fun e he => hnt e (List.mem_of_mem_eraseIdx he)
      · rw [map_eraseIdx, he, map_eraseIdx]; exact VReps.eraseIdx i hvk
      · rw [map_eraseIdx, he, map_eraseIdx]; exact VReps.eraseIdx i hvv
      · rw [he, map_eraseIdx, hbs]
      · exact hnd.sublist (List.eraseIdx_sublist _ _)
      · exact fun n hn => hlt n (List.mem_of_mem_eraseIdx hn)
  · rename_i hfnd
    simp only [Option.some.injEq] at h; subst h
    rcases vfindK_sound hkt hk 0 hvk hvv hfnd with ⟨_, q2⟩ | ⟨j, x', v', q1, _⟩
    · have hf := MapKept.run_findKey (P := P) (w := w) k2 q2
      refine ⟨_, _, ?_, map_step (arr' := arr) hs ho hb hw hph hnt hvk hvv hbs hnd hlt⟩
      simp [Builtin.delete_, run_underlying f2, hg, hc, hf, hset]
    · cases q1
  · cases h
end
end Go.VX
