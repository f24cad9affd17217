/- Copy, and texts made of bytes and back. -/
import Derived.Test.YthjpaongoflgiaaVXOp7
namespace Go.VX
open Go.RowKit
set_option linter.unusedVariables false
set_option linter.unusedSimpArgs false

def vcopy (T : Nat → Option TI) (ob : List Ob) (t : Nat) (x y : V) : Option (Prop × V × List Ob) :=
  match T t with
  | some ⟨.slice e, _, _, _⟩ => match T e, rdX ob y with
    | some ie, some (p, m, ys) => match x with
      | .sl id tot esz off n => match ob[id]? with
        | some (.live cs) => if esz = ie.size then
            some (p ∧ ys.length = m * ie.size ∧ cs.length = tot, .int .i64 ((min m n : Nat) : Int), ob.set id (.live (spl cs off (ys.take (min m n * ie.size)))))
          else none
        | _ => none
      | _ => none
    | _, _ => none
  | _ => none

def strOfV (ys : List V) : ByteArray := ⟨(ys.map fun | .int .u8 n => UInt8.ofNat n.toNat | _ => 0).toArray⟩

section
variable {P : Program} {T : Nat → Option TI} {w : World} {Φ : Nat → Prop} {H : Nat → Option Nat} {ob : List Ob}

theorem set_same {i : Nat} {o : Ob} (h : ob[i]? = some o) : ob.set i o = ob := by
  have hlt := (List.getElem?_eq_some_iff.1 h).1
  apply List.ext_getElem?
  intro j
  by_cases hj : i = j
  · subst hj; rw [h]; simp [hlt]
  · simp [List.getElem?_set_ne hj]

theorem copy_sound (hT : TabOK P T) (hs : HSim Φ H ob w) {t t2 ty : Nat} {x y : V} {v u : Value} (hx : VRep (mkE Φ H ob w) x v) (hy : VRep (mkE Φ H ob w) y u)
    {p : Prop} {r : V} {ob' : List Ob} (h : vcopy T ob t x y = some (p, r, ob')) (hp : p) :
    ∃ q w' H', (Builtin.copy_ #[t, t2] ty #[v, u]).run P w = .ok q w' ∧ HStep Φ H ob w Φ H' ob' w' ∧ VRep (mkE Φ H' ob' w') r q := by
  unfold vcopy at h
  split at h
  case h_2 => cases h
  rename_i e _ _ _ ht
  split at h
  case h_2 => cases h
  rename_i ie p' m ys hte hrd
  split at h
  case h_2 => cases h
  rename_i id tot esz off n
  split at h
  case h_2 => cases h
  rename_i cs ho
  split at h
  case isFalse => cases h
  rename_i hesz
  simp only [Option.some.injEq, Prod.mk.injEq] at h
  obtain ⟨rfl, rfl, rfl⟩ := h
  obtain ⟨hp', hl, hct⟩ := hp
  subst hesz
  obtain ⟨info, d, zq, f1, f2, f3, f4, _⟩ := hT t _ ht
  obtain rfl := kindOf_slice f3
  obtain ⟨info2, d2, zq2, g1, g2, g3, g4, g5, _⟩ := hT e ie hte
  obtain ⟨us, hv, hlen, _, hfk⟩ := rdX_run (P := P) hs hy hrd hp' ie.size hl
  have hidlt : id < ob.length := (List.getElem?_eq_some_iff.1 ho).1
  obtain ⟨k0, k1, k2⟩ := hx
  obtain ⟨_, hh⟩ := k2 cs.length (by simp [mkE, Lof, ho, Ob.len])
  have hsl := hh hct.symm
  simp only [mkE] at hsl
  have hob := hs.rep id _ ho
  have hsz := run_sizeOf_tab (P := P) (w := w) g1
  rw [g4] at hsz
  have hmin : (Nat.min m n) ≤ m := Nat.min_le_left m n
  have hfn := hfk (Nat.min m n) hmin w rfl
  cases hH : H id with
  | none =>
    rw [hH] at hsl hob
    obtain ⟨e1, e2, e3, rfl⟩ := hsl
    subst e2 e3
    simp only [ObRep] at hob
    subst hob
    have e : spl ([] : List V) 0 (ys.take (min m 0 * ie.size)) = [] := by simp [spl]
    rw [e, set_same ho]
    refine ⟨goInt 0, w, H, ?_, HStep.refl hs, by simp [VRep, goInt]⟩
    have hmin0 : Nat.min m 0 = 0 := Nat.min_zero m
    rw [hmin0] at hfn
    simp only [Nat.zero_mul, List.take_zero] at hfn
    simp [Builtin.copy_, run_underlying f2, hsz, hlen, hmin0, hfn]
  | some b =>
    rw [hH] at hsl
    obtain ⟨cap, rfl, e2, e3, e4⟩ := hsl
    have hle : min m n * ie.size ≤ n * ie.size := Nat.mul_le_mul_right _ (Nat.min_le_right m n)
    have hyl : (ys.take (min m n * ie.size)).length = min m n * ie.size := by
      rw [List.length_take, hl]
      exact Nat.min_eq_left (Nat.mul_le_mul_right _ hmin)
    obtain ⟨cur, el, q1, q2, q3⟩ := HStep.write hs ho hH (off := off) (hv.take (min m n * ie.size)) (by rw [hyl]; omega)
    have hst := run_storeCells_at P b off el (us.take (min m n * ie.size)) 0 cur w q1 (by simpa using q2) (VReps.one (hv.take _))
    simp only [Nat.add_zero] at hst
    refine ⟨goInt (min m n : Nat), _, _, ?_, q3, by simp [VRep, goInt]⟩
    simp [Builtin.copy_, run_underlying f2, hsz, hlen, hfn, hst]

/-- Memory that has just come, and is never written. -/
theorem HStep.frozenNew (hs : HSim Φ H ob w) {w' : World} (h1 : w'.os = w.os) (h2 : w'.tape = w.tape) (h3 : w'.output = w.output)
    (hkeep : ∀ k, k < w.heap.size → w'.heap[k]? = w.heap[k]?) (hsz : w'.heap.size = w.heap.size + 1) :
    HStep Φ H ob w (fun b => Φ b ∨ b = w.heap.size) H ob w' := by
  have hE : Ext (mkE Φ H ob w) (mkE (fun b => Φ b ∨ b = w.heap.size) H ob w') := by
    refine ⟨fun b hb => .inl hb, fun b hb => hkeep b (hs.phi b hb), Nat.le_refl _, fun i hi T' hT => ⟨T', hT, Nat.le_refl _, fun _ => ⟨rfl, fun b hb => ?_⟩⟩⟩
    simp only [mkE, bsize]
    rcases Nat.lt_or_ge b w.heap.size with hlt | hge
    · rw [hkeep b hlt]
    · exfalso
      have hi' : i < ob.length := hi
      obtain ⟨o', ho'⟩ : ∃ o', ob[i]? = some o' := ⟨ob[i], by simp [List.getElem?_eq_getElem hi']⟩
      have hr := hs.rep i o' ho'
      have hb' : H i = some b := hb
      cases o' with
      | live cs => rw [hb'] at hr; obtain ⟨c, el, g1, _⟩ := hr; exact absurd (lt_of_heap g1) (Nat.not_lt.2 hge)
      | frz cs => rw [hb'] at hr; exact absurd (hs.phi b hr.1) (by omega)
      | map es bs ck => obtain ⟨_, b', arr, e1, g1, _⟩ := hr; obtain rfl : b = b' := by simpa [hb'] using e1
                        exact absurd (lt_of_heap g1) (Nat.not_lt.2 hge)
      | iter m s sn l => obtain ⟨_, b', r, e1, g1, _⟩ := hr; obtain rfl : b = b' := by simpa [hb'] using e1
                         exact absurd (lt_of_heap g1) (Nat.not_lt.2 hge)
      | dead => have hT' : Lof ob i = some T' := hT; simp [Lof, ho', Ob.len] at hT'
  refine ⟨h1, h2, h3, by omega, fun b hb _ => hkeep b hb, ⟨fun b hb => ?_, fun i o hi => ?_, hs.inj⟩, hE, fun b hb => ?_, fun i o b k1 k2 k3 => .inl ⟨i, o, k1, k2, k3⟩⟩
  · rcases hb with hb | hb
    · have := hs.phi b hb; omega
    · omega
  · refine ObRep.ext hE rfl (fun hm b hb => ?_) (hs.rep i o hi)
    obtain ⟨q1, q2⟩ := hs.mutb hi hm hb
    refine ⟨hkeep b q1, fun hp => ?_⟩
    rcases hp with hp | hp
    · exact q2 hp
    · omega
  · rcases hb with hb | hb
    · exact .inl hb
    · exact .inr (.inr (by omega))

theorem bytes_sound (hT : TabOK P T) (hs : HSim Φ H ob w) {src dst e : Nat} {it ie is_ : TI} (ht : T dst = some it) (hk : it.k = .slice e) (he : T e = some ie) (hke : ie.k = .int .u8) (hsr : T src = some is_) (hks : is_.k = .string) (s : ByteArray) :
    ∃ u w' Φ', (convert src dst (.string s)).run P w = .ok u w' ∧ HStep Φ H ob w Φ' H ob w' ∧ VRep (mkE Φ' H ob w') (.fs s.size (bytesV s)) u := by
  obtain ⟨i1, d1, z1, f1, f2, f3, _⟩ := hT dst it ht
  obtain rfl := kindOf_slice (f3.trans hk)
  obtain ⟨i2, d2, z2, g1, g2, g3, _⟩ := hT e ie he
  obtain rfl := kindOf_int (g3.trans hke)
  obtain ⟨i3, d3, z3, k1, k2, k3, _⟩ := hT src is_ hsr
  obtain rfl := kindOf_string (k3.trans hks)
  let cap := (Question.appendCap s.size 0 e).cut (w.tape w.drawn (.appendCap s.size 0 e))
  have hcap : s.size ≤ cap := by simp [cap, Question.cut]
  let c : Array Value := (s.data.map fun b => Value.int .u8 (b.toNat : Int)) ++ Array.replicate (cap - s.size) (.int .u8 0)
  let w1 := w.drew.alloc (.cells c e)
  let w2 := w1.freeze { block := w.heap.size, off := c.size } 1
  have hw2 : w2.heap[w.heap.size]? = some (.cells c e (c.size, c.size + 1)) := by
    have h1 : w1.heap[w.heap.size]? = some (.cells c e) := heap_alloc_new w.drew _
    have hlt : w.heap.size < w1.heap.size := lt_of_heap h1
    have h1' : w1.heap[w.heap.size] = .cells c e := by simpa [Array.getElem?_eq_getElem hlt] using h1
    simp only [w2, World.freeze]
    rw [if_neg (by decide)]
    simp only
    rw [Array.getElem?_eq_getElem (by simpa using hlt), Array.getElem_modify_self, h1']
    rfl
  have hkeep : ∀ k, k < w.heap.size → w2.heap[k]? = w.heap[k]? := fun k hk => by
    have h1 : w1.heap[k]? = w.heap[k]? := Below.heap_alloc w.drew _ k hk
    rw [← h1]
    simp only [w2, World.freeze]
    rw [if_neg (by decide)]
    simp only [Array.getElem?_modify]
    rw [if_neg (by omega)]
  have hsize : w2.heap.size = w.heap.size + 1 := by
    simp only [w2, World.freeze]
    rw [if_neg (by decide)]
    simp [w1]
  refine ⟨.slice (some ⟨w.heap.size, 0, none⟩) s.size cap, w2, _, ?_, HStep.frozenNew hs ?_ ?_ ?_ hkeep hsize, ?_⟩
  · have hsh : ∀ c : Array Value, (w.drew.alloc (.cells c e)).shape? w.heap.size = some (e, c.size) := fun c => by
      unfold World.shape?
      have h1 : (w.drew.alloc (.cells c e)).heap[w.heap.size]? = some (.cells c e) := heap_alloc_new w.drew _
      rw [h1]
    simp [convert, run_underlying f2, run_underlying g2, run_underlying k2, Conv.stringToBytes, Question.forced, newRow, markStringish, hsh]
    refine ⟨rfl, ?_⟩
    have hcs : c.size = s.size + ((Question.appendCap s.size 0 e).cut (w.tape w.drawn (Question.appendCap s.size 0 e)) - s.size) := by
      simp [c, cap]
    simp only [w2, w1, hcs]
    rfl
  · simp only [w2, World.freeze]; rw [if_neg (by decide)]; rfl
  · simp only [w2, World.freeze]; rw [if_neg (by decide)]; rfl
  · simp only [w2, World.freeze]; rw [if_neg (by decide)]; rfl
  · refine ⟨_, cap, s.data.toList.map fun b => Value.int .u8 (b.toNat : Int), rfl, hcap, VReps.toFrz (fun c hc => by simp only [bytesV, List.mem_map] at hc; obtain ⟨b, _, rfl⟩ := hc; rfl) (bytes_rep _ s), fun _ => ⟨w.heap.size, 0, rfl, .inr rfl, fun i hi => ?_⟩⟩
    have hi' : i < s.size := by simpa using hi
    simp only [World.cell?, mkE, hw2, Nat.zero_add, Option.isSome_none, Bool.false_eq_true, if_false]
    have hlt : i < (s.data.map fun b => Value.int .u8 (b.toNat : Int)).size := by simpa using hi'
    simp only [c]
    rw [Array.getElem?_append_left hlt]
    simp

def byteQ : V → Bool
  | .int .u8 _ => true
  | _ => false

theorem foldl_push (ns : List Int) (s : ByteArray) : ns.foldl (fun r n => r.push (UInt8.ofNat n.toNat)) s = s ++ ⟨(ns.map fun n => UInt8.ofNat n.toNat).toArray⟩ := by
  induction ns generalizing s with
  | nil => apply ByteArray.ext; simp
  | cons n r ih =>
    rw [List.foldl_cons, ih]
    apply ByteArray.ext
    simp [ByteArray.data_append, ByteArray.data_push]

theorem bytes_of_rep {E : Env} : ∀ {ys : List V} {us : List Value}, VReps .cell E ys us → ys.all byteQ = true → ∃ ns : List Int, us = ns.map (Value.int .u8) ∧ ys = ns.map (V.int .u8)
  | [], us, h, _ => ⟨[], by simp [VReps] at h; simp [h], rfl⟩
  | c :: cs, us, ⟨u, r, h1, h0, h2, h3⟩, hq => by
    subst h1
    simp only [List.all_cons, Bool.and_eq_true] at hq
    obtain ⟨ns, e1, e2⟩ := bytes_of_rep h3 hq.2
    cases c <;> simp [byteQ] at hq
    rename_i k n
    obtain rfl : k = .u8 := by
      have := hq.1
      cases k <;> simp_all
    simp only [VRep] at h2
    exact ⟨n :: ns, by simp [h2, e1], by simp [e2]⟩

theorem str_sound (hT : TabOK P T) (hs : HSim Φ H ob w) {src dst e : Nat} {is_ it ie : TI} (hsr : T src = some is_) (hks : is_.k = .slice e) (he : T e = some ie) (hke : ie.k = .int .u8) (ht : T dst = some it) (hk : it.k = .string)
    {x : V} {v : Value} (hx : VRep (mkE Φ H ob w) x v) {p : Prop} {n : Nat} {ys : List V} (h : rdS ob x = some (p, n, ys)) (hp : p) (hl : ys.length = n) (hq : ys.all byteQ = true) :
    (convert src dst v).run P w = .ok (.string (strOfV ys)) w := by
  obtain ⟨i1, d1, z1, f1, f2, f3, _⟩ := hT dst it ht
  obtain rfl := kindOf_string (f3.trans hk)
  obtain ⟨i2, d2, z2, g1, g2, g3, _⟩ := hT e ie he
  obtain rfl := kindOf_int (g3.trans hke)
  obtain ⟨i3, d3, z3, k1, k2, k3, _⟩ := hT src is_ hsr
  obtain rfl := kindOf_slice (k3.trans hks)
  obtain ⟨ad, cap, us, rfl, hc, hv, hu⟩ := rdS_sound hs hx h hp
  obtain ⟨ns, rfl, rfl⟩ := bytes_of_rep hv hq
  rw [run_convert_bytes_string w src dst e ad n cap k2 g2 f2]
  have hso : strOfV (ns.map (V.int .u8)) = ns.foldl (fun r n => r.push (UInt8.ofNat n.toNat)) ByteArray.empty := by
    rw [foldl_push]
    apply ByteArray.ext
    simp [strOfV, Function.comp_def]
  cases ad with
  | none =>
    have h0 : ns.length = 0 := by
      rcases Nat.eq_zero_or_pos ns.length with q | q
      · exact q
      · obtain ⟨b, o, e, _⟩ := hu (by simpa using q); cases e
    obtain rfl : ns = [] := List.length_eq_zero_iff.1 h0
    simp [Conv.bytesToString, hso]
    rfl
  | some a =>
    rw [hso]
    refine run_bytesToString w a n cap ns ?_
    have hn : ns.length = n := by simpa using hl
    subst hn
    have := run_loadCells_list (P := P) w a (ns.map (Value.int .u8)) fun j u hj => by
      have hlt : j < (ns.map (Value.int .u8)).length := (List.getElem?_eq_some_iff.1 hj).1
      obtain ⟨b, o, e, hr⟩ := hu (by omega)
      cases e
      rw [← hj, addr_add]
      exact hr j hlt
    simpa using this

/-- Bytes that are marked, and so never written any more. -/
def vmark (T : Nat → Option TI) (ob : List Ob) (src dst : Nat) (x : V) : Option (Prop × V × List Ob) :=
  if src = dst then match T src, x with
    | some ⟨.slice e, _, _, _⟩, .sl id tot esz off n => match T e, ob[id]? with
      | some ⟨.int .u8, _, _, _⟩, some (.live cs) => some (cs.length = tot ∧ 0 < cs.length ∧ cs.all V.noId = true, .sl id tot esz off n, ob.set id (.frz cs))
      | _, _ => none
    | _, _ => none
  else none

theorem mark_sound (hT : TabOK P T) (hs : HSim Φ H ob w) {src dst : Nat} {x : V} {v : Value} (hx : VRep (mkE Φ H ob w) x v) {p : Prop} {r : V} {ob' : List Ob} (h : vmark T ob src dst x = some (p, r, ob')) (hp : p) :
    ∃ u w' Φ' H', (convert src dst v).run P w = .ok u w' ∧ HStep Φ H ob w Φ' H' ob' w' ∧ VRep (mkE Φ' H' ob' w') r u := by
  unfold vmark at h
  split at h
  case isFalse => cases h
  rename_i hsd
  subst hsd
  split at h
  case h_2 => cases h
  rename_i e _ _ _ idn tot esz off n ht
  split at h
  case h_2 => cases h
  rename_i _ _ _ cs hte ho
  simp only [Option.some.injEq, Prod.mk.injEq] at h
  obtain ⟨rfl, rfl, rfl⟩ := h
  obtain ⟨q1, q2, q3⟩ := hp
  have hn : ∀ c ∈ cs, c.noId = true := List.all_eq_true.1 q3
  obtain ⟨i1, d1, z1, f1, f2, f3, _⟩ := hT _ _ ht
  obtain rfl := kindOf_slice f3
  obtain ⟨i2, d2, z2, g1, g2, g3, _⟩ := hT e _ hte
  obtain rfl := kindOf_int g3
  have hx' := hx
  obtain ⟨k0, k1, k2⟩ := hx'
  obtain ⟨_, hh⟩ := k2 cs.length (by simp [mkE, Lof, ho, Ob.len])
  have hsl := hh q1.symm
  simp only [mkE] at hsl
  have hr := hs.rep _ _ ho
  cases hH : H idn with
  | none =>
    rw [hH] at hr
    simp only [ObRep] at hr
    subst hr
    simp at q2
  | some b =>
    rw [hH] at hr hsl
    obtain ⟨cap, rfl, e2, e3, e4⟩ := hsl
    obtain ⟨c, el, g1', g2', g3', g4'⟩ := hr
    have g1 : w.heap[b]? = some (.cells c el (0, 0)) := g1'
    have hblt : b < w.heap.size := lt_of_heap g1
    let w' := w.freeze { block := b, off := c.size } 1
    have hw1 : w'.heap[b]? = some (.cells c el (c.size, c.size + 1)) := by
      have hb' : w.heap[b] = .cells c el (0, 0) := by simpa [Array.getElem?_eq_getElem hblt] using g1
      simp only [w', World.freeze]
      rw [if_neg (by decide)]
      simp only
      rw [Array.getElem?_eq_getElem (by simpa using hblt), Array.getElem_modify_self, hb']
      rfl
    have hkeep : ∀ k, k ≠ b → w'.heap[k]? = w.heap[k]? := fun k hk => by
      simp only [w', World.freeze]
      rw [if_neg (by decide)]
      simp only [Array.getElem?_modify]
      rw [if_neg (Ne.symm hk)]
    have hsize : w'.heap.size = w.heap.size := by
      simp only [w', World.freeze]
      rw [if_neg (by decide)]
      simp
    have hbs : ∀ b', bsize w' b' = bsize w b' := fun b' => by
      by_cases hb' : b' = b
      · subst hb'; simp only [bsize, hw1, g1]
      · simp only [bsize, hkeep b' hb']
    let Φ' : Nat → Prop := fun x => Φ x ∨ H idn = some x
    have hst : HStep Φ H ob w Φ' (upd H idn (H idn)) (ob.set idn (.frz cs)) w' := by
      refine HStep.ofChange hs ho rfl ?_ ?_ ?_ (fun k _ hne => hkeep k (fun e => hne (by rw [e]; exact hH))) (by omega) (fun b hb => .inl hb) (fun b hb => ?_) (fun b hb => .inl hb) (fun T' hT' => ?_) (fun E' hE hw hΦ => ?_)
      · simp only [w', World.freeze]; rw [if_neg (by decide)]
      · simp only [w', World.freeze]; rw [if_neg (by decide)]
      · simp only [w', World.freeze]; rw [if_neg (by decide)]
      · rcases hb with hb | hb
        · exact .inl hb
        · exact .inr ⟨hb, rfl⟩
      · exact ⟨cs.length, rfl, by simp [Ob.len] at hT'; omega, fun _ => ⟨rfl, fun b' _ => hbs b'⟩⟩
      · rw [hH]
        refine ⟨by rw [hΦ]; exact .inr hH, c.toList.take cs.length, ?_, VReps.ext hE _ _ (g4'.toFrz hn)⟩
        rw [hw]
        have hrr := reads_row hw1 0 cs.length
        rwa [List.drop_zero] at hrr
    refine ⟨_, w', Φ', _, ?_, hst, VRep.ext hst.ext _ _ hx⟩
    have hsh : w.shape? b = some (el, c.size) := by
      unfold World.shape?
      rw [g1]
    simp [convert, run_underlying f2, run_underlying g2, markStringish, hsh]
    rfl

end
end Go.VX
