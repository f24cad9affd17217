/- Slice literals, make, append, copy, texts and bytes. -/
import Derived.Test.YthjpaongoflgiaaVXOp6
import Derived.Laws.MakeOwn
namespace Go.VX
open Go.RowKit
set_option linter.unusedVariables false
set_option linter.unusedSimpArgs false

def bytesV (s : ByteArray) : List V := s.data.toList.map fun b => .int .u8 (b.toNat : Int)

/-- What is appended or copied: how many, and the cells. -/
def rdX (ob : List Ob) : V → Option (Prop × Nat × List V)
  | .str s => some (True, s.size, bytesV s)
  | x => rdS ob x

section
variable {P : Program} {T : Nat → Option TI} {w : World} {Φ : Nat → Prop} {H : Nat → Option Nat} {ob : List Ob}

theorem VReps.replicate {q : Fl} {E : Env} {zc : List V} {zs : List Value} (h : VReps q E zc zs) : ∀ n, VReps q E (List.replicate n zc).flatten (List.replicate n zs).flatten
  | 0 => by simp [VReps]
  | n + 1 => by
    simp only [List.replicate_succ, List.flatten_cons]
    exact h.append (VReps.replicate h n)

theorem zeros_rep {E : Env} {zc : List V} {z : Array Value} (h : VReps .cell E zc z.toList) (n : Nat) : VReps .cell E (zerosV zc n) (madeCells z (n * z.size)).toList := by
  rw [zerosV_eq]
  have e : (madeCells z (n * z.size)).toList = (List.replicate n z.toList).flatten := by
    apply List.ext_getElem?
    intro j
    have hlen : (madeCells z (n * z.size)).size = n * z.size := size_madeCells z _
    have hfl : ∀ n, ((List.replicate n z.toList).flatten).length = n * z.size := fun n => by simp
    rcases Nat.lt_or_ge j (n * z.size) with hj | hj
    · have hz : 0 < z.size := by
        rcases Nat.eq_zero_or_pos z.size with q | q
        · rw [q] at hj; simp at hj
        · exact q
      have hr : ∀ n j, j < n * z.size → ((List.replicate n z.toList).flatten)[j]? = z.toList[j % z.size]? := by
        intro n
        induction n with
        | zero => intro j hj; simp at hj
        | succ n ih =>
          intro j hj
          simp only [List.replicate_succ, List.flatten_cons]
          rcases Nat.lt_or_ge j z.size with q | q
          · rw [List.getElem?_append_left (by simpa using q), Nat.mod_eq_of_lt q]
          · rw [List.getElem?_append_right (by simpa using q)]
            simp only [Array.length_toList]
            have hq : j - z.size < n * z.size := by rw [Nat.succ_mul] at hj; omega
            rw [ih _ hq]
            congr 1
            exact (Nat.mod_eq_sub_mod q).symm
      rw [hr n j hj]
      have hm : j % z.size < z.size := Nat.mod_lt _ hz
      simp [madeCells, hj, hm]
    · rw [List.getElem?_eq_none (by simp only [Array.length_toList]; omega), List.getElem?_eq_none (by rw [hfl]; omega)]
  rw [e]
  exact h.replicate n

theorem buildSlice_sound (hT : TabOK P T) (hs : HSim Φ H ob w) {t e : Nat} {it ie : TI} (ht : T t = some it) (hk : it.k = .slice e) (he : T e = some ie) {n : Nat} {parts : List (Nat × V)} {vals : Array (Nat × Value)}
    (h1 : parts.map (·.1) = vals.toList.map (·.1)) (h2 : VReps .any (mkE Φ H ob w) (parts.map (·.2)) (vals.toList.map (·.2))) {p : Prop} {cs : List V}
    (h : vfill (fun i => some (i * ie.size, ie.size)) (zerosV ie.zero.cells n) parts = some (p, cs)) (hp : p) (hbig : n * ie.size ≤ 16777216) (hcl : cs.length = n * ie.size) :
    ∃ u w' H', (Instr.buildSlice t n vals).run P w = .ok u w' ∧ HStep Φ H ob w Φ H' (ob ++ [.live cs]) w' ∧ VRep (mkE Φ H' (ob ++ [.live cs]) w') (.sl ob.length cs.length ie.size 0 n) u := by
  obtain ⟨info, d, zq, f1, f2, f3, f4, _⟩ := hT t it ht
  obtain rfl := kindOf_slice (f3.trans hk)
  obtain ⟨info2, d2, zq2, g1, g2, g3, g4, _⟩ := hT e ie he
  obtain ⟨info', z, e1, e2, e3, e4, e5⟩ := zero_rep hT he (mkE Φ H ob w)
  have hz := zeros_rep e3 n
  rw [e4] at hz
  obtain ⟨arr', k1, k2⟩ := fill_sound h1 h2 hz h hp
  have hl := k2.length
  simp only [Array.length_toList] at hl
  have hsz := run_sizeOf_tab (P := P) (w := w) g1
  rw [g4] at hsz
  refine ⟨.slice (some ⟨w.heap.size, 0, none⟩) n n, _, _, ?_, HStep.alloc hs arr' e (by omega) (by rw [List.take_of_length_le (by simp; omega)]; exact k2), sl_new _ _ _ _ _ _ (by omega) (Nat.le_refl _) (by rw [bsize_alloc]; omega)⟩
  have hn : ¬ (n * ie.size > 2 ^ 24) := by omega
  by_cases h0 : n * ie.size = 0
  · have k1' : Instr.fill (fun i => some (i * ie.size, ie.size)) #[] vals.toList = some arr' := by
      rw [h0] at k1
      have hm : madeCells z.cells 0 = #[] := by simp [madeCells, Array.range_zero']
      rwa [hm] at k1
    simp [Instr.buildSlice, run_underlying f2, hsz, hn, h0, Array.range_zero', k1', newRow]
  · have k1' : Instr.fill (fun i => some (i * ie.size, ie.size)) ((Array.range (n * ie.size)).map (z.cells[· % z.cells.size]!)) vals.toList = some arr' := k1
    simp [Instr.buildSlice, run_underlying f2, hsz, hn, h0, zeroValue, typeInfo, e1, e2, k1', newRow]

theorem makeSlice_sound (hT : TabOK P T) (hs : HSim Φ H ob w) {t e : Nat} {it ie : TI} (ht : T t = some it) (hk : it.k = .slice e) (he : T e = some ie) {kl kc : IntKind} {l c : Int}
    (h0 : 0 ≤ l) (h1 : l ≤ c) (h2 : (ie.bytes : Int) * c ≤ 140737488355328) (h3 : c ≤ 140737488355328) :
    ∃ u w' H', (Instr.makeSlice t (.int kl l) (.int kc c)).run P w = .ok u w' ∧ HStep Φ H ob w Φ H' (ob ++ [.live (zerosV ie.zero.cells l.toNat)]) w' ∧
      VRep (mkE Φ H' (ob ++ [.live (zerosV ie.zero.cells l.toNat)]) w') (.sl ob.length (zerosV ie.zero.cells l.toNat).length ie.size 0 l.toNat) u := by
  obtain ⟨info, d, zq, f1, f2, f3, f4, _⟩ := hT t it ht
  obtain rfl := kindOf_slice (f3.trans hk)
  obtain ⟨info2, d2, zq2, g1, g2, g3, g4, g5, _⟩ := hT e ie he
  obtain ⟨info', z, e1, e2, e3, e4, e5⟩ := zero_rep hT he (mkE Φ H ob w)
  obtain rfl : info2 = info' := by rw [g1] at e1; exact Option.some.inj e1
  have hr := run_make (P := P) w t e info2 z f2 g1 e2 kl kc l c h0 h1 (by rw [g5]; omega) (by omega)
  have hz := zeros_rep e3 c.toNat
  have hlen : (zerosV ie.zero.cells l.toNat).length = l.toNat * ie.size := by rw [zerosV_eq]; simp [e5]
  have hle : l.toNat * ie.size ≤ c.toNat * ie.size := Nat.mul_le_mul_right _ (by omega)
  rw [e4] at hz
  rw [g4] at hr
  refine ⟨_, _, _, hr, HStep.alloc hs _ e (by rw [size_madeCells, hlen]; exact hle) ?_, sl_new _ _ _ _ _ _ hlen.symm (by omega) (by rw [bsize_alloc, size_madeCells]; exact Nat.le_refl _)⟩
  have := hz.take (l.toNat * ie.size)
  rw [hlen]
  have e : (zerosV ie.zero.cells c.toNat).take (l.toNat * ie.size) = zerosV ie.zero.cells l.toNat := by
    rw [zerosV_eq, zerosV_eq]
    obtain ⟨k, hk⟩ : ∃ k, c.toNat = l.toNat + k := ⟨c.toNat - l.toNat, by omega⟩
    rw [hk, ← List.replicate_append_replicate, List.flatten_append, List.take_append_of_le_length (by simp [e5]), List.take_of_length_le (by simp [e5])]
  rwa [e] at this

theorem bytes_rep (E : Env) (s : ByteArray) : VReps .cell E (bytesV s) (s.data.toList.map fun b => Value.int .u8 (b.toNat : Int)) := by
  unfold bytesV
  induction s.data.toList with
  | nil => simp [VReps]
  | cons b l ih => exact ⟨_, _, rfl, rfl, rfl, ih⟩

/-- What is appended: how long it is, and its cells. -/
theorem rdX_run (hs : HSim Φ H ob w) {y : V} {v : Value} (hy : VRep (mkE Φ H ob w) y v) {p : Prop} {m : Nat} {ys : List V} (h : rdX ob y = some (p, m, ys)) (hp : p) (size : Nat) (hl : ys.length = m * size) :
    ∃ us, VReps .cell (mkE Φ H ob w) ys us ∧ (∀ w' : World, (Builtin.lenOf v).run P w' = .ok m w') ∧ (∀ (w' : World), w'.heap = w.heap → (Builtin.firstCells size m v).run P w' = .ok us.toArray w') ∧
      (∀ k, k ≤ m → ∀ (w' : World), w'.heap = w.heap → (Builtin.firstCells size k v).run P w' = .ok (us.take (k * size)).toArray w') := by
  by_cases hstr : ∃ s, y = .str s
  · obtain ⟨s, rfl⟩ := hstr
    simp only [VRep] at hy; subst hy
    simp only [rdX, Option.some.injEq, Prod.mk.injEq] at h
    obtain ⟨_, rfl, rfl⟩ := h
    have hb := bytes_rep (mkE Φ H ob w) s
    have hlen : (bytesV s).length = s.size := by simp [bytesV]
    have key : ∀ k, k ≤ s.size → ∀ w' : World, (Builtin.firstCells size k (.string s)).run P w' = .ok (((s.data.toList.map fun b => Value.int .u8 (b.toNat : Int)).take (k * size)).toArray) w' := by
      intro k hk w'
      have hsz : size = 1 ∨ s.size = 0 := by
        rw [hlen] at hl
        rcases Nat.eq_zero_or_pos s.size with q | q
        · exact .inr q
        · left
          have : s.size * size = s.size * 1 := by omega
          exact Nat.eq_of_mul_eq_mul_left q this
      simp only [Builtin.firstCells, Sem.run_pure]
      congr 1
      apply Array.ext'
      simp only [Array.toList_map]
      rcases hsz with rfl | h0
      · simp [ByteArray.data_extract, List.extract_eq_take_drop]
      · have : s.data.toList = [] := by
          have : s.data.size = 0 := h0
          rw [← Array.length_toList] at this
          exact List.eq_nil_of_length_eq_zero this
        simp [ByteArray.data_extract, this]
    refine ⟨_, hb, fun w' => rfl, fun w' _ => ?_, fun k hk w' _ => key k hk w'⟩
    have := key s.size (Nat.le_refl _) w'
    rw [List.take_of_length_le] at this
    · exact this
    · rw [List.length_map, ← hl, hlen]; exact Nat.le_refl _
  · have h' : rdS ob y = some (p, m, ys) := by
      cases y <;> first | exact h | exact absurd ⟨_, rfl⟩ hstr
    obtain ⟨ad, cap, us, rfl, hc, hv, hu⟩ := rdS_sound hs hy h' hp
    have hul := hv.length
    have key : ∀ k, k ≤ m → ∀ w' : World, w'.heap = w.heap → (Builtin.firstCells size k (.slice ad m cap)).run P w' = .ok (us.take (k * size)).toArray w' := by
      intro k hk w' hw
      cases ad with
      | none =>
        have : us = [] := by
          rcases Nat.eq_zero_or_pos us.length with q | q
          · exact List.eq_nil_of_length_eq_zero q
          · obtain ⟨b, o, e, _⟩ := hu q; cases e
        subst this
        simp [Builtin.firstCells]
      | some a =>
        have hle : k * size ≤ us.length := by rw [← hul, hl]; exact Nat.mul_le_mul_right _ hk
        have := run_firstCells_some (P := P) w' size k a m cap (us.take (k * size)) (by simp; omega) fun j v hj => by
          have hj' : j < k * size ∧ us[j]? = some v := by
            rw [List.getElem?_take] at hj
            split at hj
            · exact ⟨by assumption, hj⟩
            · simp at hj
          have hlt : j < us.length := by omega
          obtain ⟨b, o, e, hr⟩ := hu (by omega)
          obtain rfl := Option.some.inj e
          rw [addr_add, cell?_of_heap (w := w) (by rw [hw]), hr j hlt]
          exact hj'.2
        exact this
    refine ⟨us, hv, fun w' => rfl, fun w' hw => ?_, key⟩
    have := key m (Nat.le_refl _) w' hw
    rwa [List.take_of_length_le (by omega)] at this


/-- Behind a growth: the new row. -/
theorem grown_row (hs : HSim Φ H ob w) {zs xs us : List Value} {cs ys : List V} {e : TypeId} {need cap size : Nat} {z : Array Value} (hx : VReps .cell (mkE Φ H ob w) cs xs) (hy : VReps .cell (mkE Φ H ob w) ys us)
    (hlen : cs.length + ys.length = need * size) (hz : z.size = size) (hcap : need ≤ cap) :
    (xs.toArray ++ us.toArray ++ Builtin.zeroCells z (cap - need)).size = cap * size ∧
    VReps .cell (mkE Φ H ob w) (cs ++ ys) ((xs.toArray ++ us.toArray ++ Builtin.zeroCells z (cap - need)).toList.take (cs ++ ys).length) := by
  have h1 := hx.length
  have h2 := hy.length
  refine ⟨?_, ?_⟩
  · simp only [Array.size_append, List.size_toArray, size_zeroCells, hz, ← h1, ← h2, hlen]
    rw [← Nat.add_mul]
    congr 1
    omega
  · have : (xs.toArray ++ us.toArray ++ Builtin.zeroCells z (cap - need)).toList.take (cs ++ ys).length = xs ++ us := by
      simp only [Array.toList_append, List.length_append]
      rw [List.take_append_of_le_length (by simp; omega), List.take_of_length_le (by simp; omega)]
    rw [this]
    exact hx.append hy

/-- What is behind an append, from what is put. -/
def vappendC (ie : TI) (ob : List Ob) (x : V) (p : Prop) (m : Nat) (ys : List V) : Option (Prop × V × List Ob) :=
  if 0 < ie.size ∧ 0 < ie.bytes then
    match x with
    | .nils => some (p ∧ ys.length = m * ie.size ∧ m * ie.bytes ≤ 140737488355328, .sl ob.length ys.length ie.size 0 m, ob ++ [.live ys])
    | .sl id tot esz 0 n => match ob[id]? with
      | some (.live cs) => if esz = ie.size then
          some (p ∧ ys.length = m * ie.size ∧ cs.length = tot ∧ tot = n * esz ∧ (n + m) * ie.bytes ≤ 140737488355328, .sl id (tot + ys.length) esz 0 (n + m), ob.set id (.live (cs ++ ys)))
        else none
      | _ => none
    | _ => none
  else none
def vappend (T : Nat → Option TI) (ob : List Ob) (t : Nat) (x y : V) : Option (Prop × V × List Ob) :=
  match T t with
  | some ⟨.slice e, _, _, _⟩ => match T e, rdX ob y with
    | some ie, some (p, m, ys) => vappendC ie ob x p m ys
    | _, _ => none
  | _ => none
/-- .. of so many zeros. -/
def vappendZ (T : Nat → Option TI) (ob : List Ob) (t : Nat) (x : V) (n : Int) : Option (Prop × V × List Ob) :=
  match T t with
  | some ⟨.slice e, _, _, _⟩ => match T e with
    | some ie => vappendC ie ob x (0 ≤ n ∧ n ≤ 140737488355328 ∧ n * ie.bytes ≤ 140737488355328) n.toNat (zerosV ie.zero.cells n.toNat)
    | none => none
  | _ => none

/-- The header of an object that has been changed. -/
theorem sl_set (w' : World) {i : Nat} (hi : i < ob.length) (cs : List V) (x : Option Nat) (esz n : Nat) (v : Value) (ho : v.oneCell' = true) (h : SlV w' x cs.length esz 0 n v) :
    VRep (mkE Φ (upd H i x) (ob.set i (.live cs)) w') (.sl i cs.length esz 0 n) v :=
  ⟨ho, by simpa [mkE] using hi, fun T' hT' => by
    have : T' = cs.length := by
      have h2 : Lof (ob.set i (Ob.live cs)) i = some cs.length := by simp [Lof, Ob.len, hi]
      rw [show (mkE Φ (upd H i x) (ob.set i (.live cs)) w').L i = Lof (ob.set i (Ob.live cs)) i from rfl, h2] at hT'
      exact (Option.some.inj hT').symm
    refine ⟨by omega, fun _ => ?_⟩
    simpa [mkE] using h⟩

set_option maxHeartbeats 2000000 in
theorem run_append_grow' {t t2 ty e : Nat} {d3 : TypeDesc} {info2 : TypeInfo} {z u : Value} {n old m : Nat} {ad : Option Addr} {xs us : List Value}
    (f2 : P.underlying t = some (.slice e)) (hd3 : P.underlying t2 = some d3) (hni : ∀ k, d3 ≠ .int k) (g1 : P.info? e = some info2) (e2 : info2.zero = some z)
    (hlen : (Builtin.lenOf u).run P w = .ok m w) (hfo : (Builtin.firstCells info2.size n (.slice ad n old)).run P w.drew = .ok xs.toArray w.drew) (hfn : (Builtin.firstCells info2.size m u).run P w.drew = .ok us.toArray w.drew)
    (hn' : ¬ (n + m ≤ old)) (h63 : ¬ (9223372036854775807 < ((n : Int) + (m : Int)))) (h48 : ¬ (281474976710656 < Builtin.nextslicecap (n + m) old * info2.bytes)) :
    (Builtin.append_ #[t, t2] ty #[.slice ad n old, u]).run P w = .ok (.slice (some ⟨w.heap.size, 0, none⟩) (n + m) (grownCap w (n + m) old e)) (w.drew.alloc (.cells (xs.toArray ++ us.toArray ++ Builtin.zeroCells z.cells (grownCap w (n + m) old e - (n + m))) e)) := by
  cases d3 <;> first
    | exact absurd rfl (hni _)
    | (simp [Builtin.append_, run_underlying f2, run_underlying hd3, sizeOf, typeInfo, zeroValue, g1, e2, hlen, hn', h63, h48, Question.forced, hfo, hfn, newRow, grownCap]
       congr 2
       apply Array.ext'
       simp [List.append_assoc])

set_option maxHeartbeats 2000000 in
theorem run_append_room' {t t2 ty e : Nat} {d3 : TypeDesc} {info2 : TypeInfo} {u : Value} {n cap m b : Nat} {us : List Value} {w' : World}
    (f2 : P.underlying t = some (.slice e)) (hd3 : P.underlying t2 = some d3) (hni : ∀ k, d3 ≠ .int k) (g1 : P.info? e = some info2)
    (hlen : (Builtin.lenOf u).run P w = .ok m w) (hfn : (Builtin.firstCells info2.size m u).run P w = .ok us.toArray w) (hroom : n + m ≤ cap)
    (hst : (storeCells ((⟨b, 0, none⟩ : Addr).add (n * info2.size)) us).run P w = .ok () w') :
    (Builtin.append_ #[t, t2] ty #[.slice (some ⟨b, 0, none⟩) n cap, u]).run P w = .ok (.slice (some ⟨b, 0, none⟩) (n + m) cap) w' := by
  cases d3 <;> first
    | exact absurd rfl (hni _)
    | simp [Builtin.append_, run_underlying f2, run_underlying hd3, sizeOf, typeInfo, g1, hlen, hroom, hfn, hst]

set_option maxHeartbeats 2000000 in
theorem run_append_none' {t t2 ty e : Nat} {d3 : TypeDesc} {info2 : TypeInfo} {u : Value}
    (f2 : P.underlying t = some (.slice e)) (hd3 : P.underlying t2 = some d3) (hni : ∀ k, d3 ≠ .int k) (g1 : P.info? e = some info2)
    (hlen : (Builtin.lenOf u).run P w = .ok 0 w) (hfn : (Builtin.firstCells info2.size 0 u).run P w = .ok #[] w) :
    (Builtin.append_ #[t, t2] ty #[.slice none 0 0, u]).run P w = .ok (.slice none 0 0) w := by
  cases d3 <;> first
    | exact absurd rfl (hni _)
    | simp [Builtin.append_, run_underlying f2, run_underlying hd3, sizeOf, typeInfo, g1, hlen, hfn]

theorem append_core (hs : HSim Φ H ob w) {t t2 ty e : Nat} {x : V} {v u : Value} {z : Value} (hx : VRep (mkE Φ H ob w) x v) {ie : TI} {p' : Prop} {m : Nat} {ys : List V} (e4 : z.cells.size = ie.size) {p : Prop} {r : V} {ob' : List Ob} (h : vappendC ie ob x p' m ys = some (p, r, ob')) (hp : p)
    (K : 0 < ie.size ∧ 0 < ie.bytes → p' → ys.length = m * ie.size → ∃ us : List Value, VReps .cell (mkE Φ H ob w) ys us ∧
      (∀ (n old : Nat) (xs : List Value) (cs : List V) (a : Option Addr), VReps .cell (mkE Φ H ob w) cs xs → cs.length = n * ie.size → (n + m) * ie.bytes ≤ 140737488355328 → old < n + m → (∀ w' : World, w'.heap = w.heap → (Builtin.firstCells ie.size n (.slice a n old)).run P w' = .ok xs.toArray w') →
        ∃ cap, n + m ≤ cap ∧ (Builtin.append_ #[t, t2] ty #[.slice a n old, u]).run P w = .ok (.slice (some ⟨w.heap.size, 0, none⟩) (n + m) cap) (w.drew.alloc (.cells (xs.toArray ++ us.toArray ++ Builtin.zeroCells z.cells (cap - (n + m))) e))) ∧
      (∀ (n cap b : Nat) (cur : Array Value) (el : TypeId), w.heap[b]? = some (.cells cur el (0, 0)) → n + m ≤ cap → cap * ie.size ≤ cur.size →
        (Builtin.append_ #[t, t2] ty #[.slice (some ⟨b, 0, none⟩) n cap, u]).run P w = .ok (.slice (some ⟨b, 0, none⟩) (n + m) cap) (w.setRow b (cur.toList.take (n * ie.size) ++ us ++ cur.toList.drop (n * ie.size + us.length)).toArray)) ∧
      (m = 0 → (Builtin.append_ #[t, t2] ty #[.slice none 0 0, u]).run P w = .ok (.slice none 0 0) w)) :
    ∃ q w' H', (Builtin.append_ #[t, t2] ty #[v, u]).run P w = .ok q w' ∧ HStep Φ H ob w Φ H' ob' w' ∧ VRep (mkE Φ H' ob' w') r q := by
  unfold vappendC at h
  split at h
  case isFalse => cases h
  rename_i hpos
  split at h
  · -- nil
    simp only [VRep] at hx; subst hx
    simp only [Option.some.injEq, Prod.mk.injEq] at h
    obtain ⟨rfl, rfl, rfl⟩ := h
    obtain ⟨hp', hl, hb⟩ := hp
    obtain ⟨us, hv, grow, room, hN⟩ := K hpos hp' hl
    rcases Nat.eq_zero_or_pos m with hm | hm
    · subst hm
      have hys : ys = [] := List.eq_nil_of_length_eq_zero (by omega)
      subst hys
      have hus : us = [] := List.eq_nil_of_length_eq_zero (by rw [← hv.length]; rfl)
      subst hus
      refine ⟨.slice none 0 0, w, upd H ob.length none, ?_, ?_, ?_⟩
      · exact hN rfl
      · exact HStep.ofPush hs rfl rfl rfl (fun _ _ => rfl) (Nat.le_refl _) (fun b hb => by cases hb) (fun E' _ _ _ => rfl)
      · refine ⟨rfl, by simp [mkE], fun T' hT' => ?_⟩
        have h2 : Lof (ob ++ [Ob.live ([] : List V)]) ob.length = some 0 := by simp [Lof, Ob.len]
        rw [show (mkE Φ (upd H ob.length none) (ob ++ [.live []]) w).L ob.length = Lof (ob ++ [Ob.live []]) ob.length from rfl, h2] at hT'
        exact ⟨by simp, fun _ => by simp [mkE, SlV]⟩
    · obtain ⟨cap, hcap, hr⟩ := grow 0 0 [] [] none (by simp [VReps]) (by simp) (by simpa using hb) (by omega) (fun w' _ => by simp [Builtin.firstCells])
      simp only [Nat.zero_add] at hcap hr
      have hs' := (hs.same (w' := w.drew) rfl).1
      obtain ⟨q1, q2⟩ := grown_row (need := m) (cap := cap) (size := ie.size) (z := z.cells) hs' (e := e) (zs := []) (show VReps .cell (mkE Φ H ob w.drew) [] [] by simp [VReps]) (VReps.ext (hs.same (w' := w.drew) rfl).2 _ _ hv) (by simpa using hl) e4 hcap
      refine ⟨_, _, _, hr, (HStep.same (w' := w.drew) hs rfl rfl rfl rfl).trans (HStep.alloc hs' _ e (cs := ys) (by rw [q1]; have := Nat.mul_le_mul_right ie.size hcap; omega) (by simpa using q2)), sl_new _ _ _ _ _ _ hl.symm hcap (by rw [bsize_alloc, q1]; exact Nat.le_refl _)⟩
  · rename_i id tot esz n
    split at h
    case h_2 => cases h
    rename_i cs ho
    split at h
    case isFalse => cases h
    rename_i hesz
    simp only [Option.some.injEq, Prod.mk.injEq] at h
    obtain ⟨rfl, rfl, rfl⟩ := h
    obtain ⟨hp', hl, hct, htn, hb⟩ := hp
    subst hesz
    obtain ⟨us, hv, grow, room, hN⟩ := K hpos hp' hl
    have hidlt : id < ob.length := (List.getElem?_eq_some_iff.1 ho).1
    obtain ⟨k0, k1, k2⟩ := hx
    obtain ⟨_, hh⟩ := k2 cs.length (by simp [mkE, Lof, ho, Ob.len])
    have hsl := hh hct.symm
    simp only [mkE] at hsl
    have hob := hs.rep id _ ho
    have hul := hv.length
    have hs' := (hs.same (w' := w.drew) rfl).1
    have hE' := (hs.same (w' := w.drew) rfl).2
    have hlen2 : (cs ++ ys).length = tot + ys.length := by simp [hct]
    -- what a growth makes of it
    have fin : ∀ (xs : List Value) (a : Option Addr) (old : Nat), VReps .cell (mkE Φ H ob w) cs xs → v = .slice a n old → old < n + m → (∀ w' : World, w'.heap = w.heap → (Builtin.firstCells ie.size n (.slice a n old)).run P w' = .ok xs.toArray w') →
        ∃ q w' H', (Builtin.append_ #[t, t2] ty #[v, u]).run P w = .ok q w' ∧ HStep Φ H ob w Φ H' (ob.set id (.live (cs ++ ys))) w' ∧ VRep (mkE Φ H' (ob.set id (.live (cs ++ ys))) w') (.sl id (tot + ys.length) ie.size 0 (n + m)) q := by
      intro xs a old hxs hva hold hfo
      subst hva
      obtain ⟨cap, hcap, hr⟩ := grow n old xs cs a hxs (by omega) hb hold hfo
      obtain ⟨q1, q2⟩ := grown_row (need := n + m) (cap := cap) (size := ie.size) (z := z.cells) hs' (e := e) (zs := []) (VReps.ext hE' _ _ hxs) (VReps.ext hE' _ _ hv) (by rw [hct, htn, hl, Nat.add_mul]) e4 hcap
      have hst : HStep Φ H ob w.drew Φ (upd H id (some w.heap.size)) (ob.set id (.live (cs ++ ys))) (w.drew.alloc (.cells (xs.toArray ++ us.toArray ++ Builtin.zeroCells z.cells (cap - (n + m))) e)) := by
        refine HStep.ofChange hs' ho rfl rfl rfl rfl (fun k hk _ => Below.heap_alloc w.drew _ k hk) (by simp) (fun _ h => h) (fun _ h => .inl h) (fun b hb => .inr (by simp at hb; simp [← hb])) (fun T' hT' => ?_) (fun E' hE hw hΦ => ?_)
        · simp only [Ob.len, Option.some.injEq] at hT'
          refine ⟨cs.length, rfl, by rw [← hT', hlen2, hct]; omega, fun e => ?_⟩
          exfalso
          rw [← hT', hlen2, hct, hl] at e
          have hm : 0 < m := by
            rcases Nat.eq_zero_or_pos m with q | q
            · exfalso
              subst q
              -- the room was there
              cases hH : H id with
              | none =>
                rw [hH] at hsl
                obtain ⟨_, _, rfl, _⟩ := hsl
                omega
              | some b =>
                rw [hH] at hsl
                obtain ⟨cap', e1, e2, _⟩ := hsl
                simp only [Value.slice.injEq] at e1
                omega
            · exact q
          have := Nat.mul_pos hm hpos.1
          omega
        · refine ⟨_, e, by rw [hw]; exact heap_alloc_new w.drew _, ?_, by rw [q1, hlen2, htn, hl, ← Nat.add_mul]; exact Nat.mul_le_mul_right _ hcap, VReps.ext hE _ _ q2⟩
          rw [hΦ]
          exact fun hp => absurd (hs.phi _ hp) (Nat.lt_irrefl _)
      refine ⟨_, _, _, hr, (HStep.same (w' := w.drew) hs rfl rfl rfl rfl).trans hst, ?_⟩
      rw [← hlen2]
      refine sl_set _ hidlt _ _ _ _ _ rfl ?_
      refine ⟨cap, rfl, hcap, by rw [hlen2, htn, hl, Nat.add_mul]; omega, ?_⟩
      rw [show w.heap.size = w.drew.heap.size from rfl, bsize_alloc, q1]
      omega
    cases hH : H id with
    | none =>
      rw [hH] at hsl hob
      obtain ⟨e1, _, e3, rfl⟩ := hsl
      simp only [ObRep] at hob
      subst hob
      subst e3
      rcases Nat.eq_zero_or_pos m with hm | hm
      · subst hm
        have hys : ys = [] := List.eq_nil_of_length_eq_zero (by omega)
        subst hys
        have hus : us = [] := List.eq_nil_of_length_eq_zero (by rw [← hul]; rfl)
        subst hus
        simp only [List.length_nil] at hct
        subst hct
        refine ⟨.slice none 0 0, w, H, ?_, ?_, ?_⟩
        · exact hN rfl
        · have : ob.set id (.live ([] ++ [])) = ob := by
            apply List.ext_getElem?
            intro j
            by_cases hj : id = j
            · subst hj; rw [ho]; simp [hidlt]
            · simp [List.getElem?_set_ne hj]
          rw [this]
          exact HStep.refl hs
        · have : ob.set id (.live ([] ++ [])) = ob := by
            apply List.ext_getElem?
            intro j
            by_cases hj : id = j
            · subst hj; rw [ho]; simp [hidlt]
            · simp [List.getElem?_set_ne hj]
          rw [this]
          refine ⟨rfl, k1, fun T' hT' => ⟨by simp, fun _ => ?_⟩⟩
          simp only [mkE, hH, SlV]
          simp
      · exact fin [] none 0 (by simp [VReps]) rfl (by omega) (fun w' _ => by simp [Builtin.firstCells])
    | some b =>
      rw [hH] at hsl hob
      obtain ⟨cap, rfl, e2, e3, e4'⟩ := hsl
      obtain ⟨c, el, b1, b2, b3, b4⟩ := hob
      have b1' : w.heap[b]? = some (.cells c el (0, 0)) := b1
      have hbs : cap * ie.size ≤ c.size := by simpa [bsize, b1'] using e4'
      by_cases hroom : n + m ≤ cap
      · have hr := room n cap b c el b1' hroom hbs
        have hfit : n * ie.size + us.length ≤ c.size := by rw [← hul, hl, ← Nat.add_mul]; exact Nat.le_trans (Nat.mul_le_mul_right _ hroom) hbs
        refine ⟨_, _, upd H id (some b), hr, ?_, ?_⟩
        · refine HStep.ofChange hs ho rfl rfl rfl rfl (fun k hk hn => setRow_other w b k _ (fun e => hn (by rw [e]; exact hH))) (by simp) (fun _ h => h) (fun _ h => .inl h) (fun b' hb' => .inl (by rw [hH]; exact hb')) (fun T' hT' => ?_) (fun E' hE hw hΦ => ?_)
          · simp only [Ob.len, Option.some.injEq] at hT'
            refine ⟨cs.length, rfl, by rw [← hT', hlen2, hct]; omega, fun _ => ⟨hH.symm, fun b' hb' => ?_⟩⟩
            rw [hH] at hb'
            obtain rfl := Option.some.inj hb'
            simp only [bsize, setRow_heap w b c _ el _ b1', b1']
            simp; omega
          · refine ⟨_, el, by rw [hw]; exact setRow_heap w b c _ el _ b1', by rw [hΦ]; exact b2, ?_, ?_⟩
            · simp only [List.size_toArray, List.length_append, List.length_take, List.length_drop, Array.length_toList]
              omega
            · have e : ((c.toList.take (n * ie.size) ++ us ++ c.toList.drop (n * ie.size + us.length)).toArray.toList).take (cs ++ ys).length = c.toList.take cs.length ++ us := by
                simp only [List.toList_toArray]
                rw [List.take_append_of_le_length (by simp; omega), List.take_of_length_le (by simp; omega), hct, htn]
              rw [e]
              exact VReps.ext hE _ _ (b4.append hv)
        · rw [← hlen2]
          refine sl_set _ hidlt _ _ _ _ _ rfl ?_
          refine ⟨cap, rfl, hroom, by rw [hlen2, htn, hl, Nat.add_mul]; omega, ?_⟩
          simp only [bsize, setRow_heap w b c _ el _ b1']
          simp; omega
      · refine fin (c.toList.take cs.length) (some ⟨b, 0, none⟩) cap b4 rfl (by omega) (fun w' hw => ?_)
        have := run_firstCells_some (P := P) w' ie.size n ⟨b, 0, none⟩ n cap (c.toList.take cs.length) (by simp; omega) fun j x hj => by
          rw [addr_add, cell?_of_heap (w := w) (by rw [hw])]
          have hrr := reads_row b1' 0 cs.length j (by
            have : j < (c.toList.take cs.length).length := (List.getElem?_eq_some_iff.1 hj).1
            simpa using this)
          rw [Nat.zero_add] at hrr ⊢
          rw [hrr]
          simpa using hj
        exact this
  · cases h

theorem append_sound (hT : TabOK P T) (hs : HSim Φ H ob w) {t t2 ty : Nat} {x y : V} {v u : Value} (hx : VRep (mkE Φ H ob w) x v) (hy : VRep (mkE Φ H ob w) y u)
    (ht2 : ∀ k, P.underlying t2 ≠ some (.int k)) (ht2' : (P.underlying t2).isSome = true) {p : Prop} {r : V} {ob' : List Ob} (h : vappend T ob t x y = some (p, r, ob')) (hp : p) :
    ∃ q w' H', (Builtin.append_ #[t, t2] ty #[v, u]).run P w = .ok q w' ∧ HStep Φ H ob w Φ H' ob' w' ∧ VRep (mkE Φ H' ob' w') r q := by
  unfold vappend at h
  split at h
  case h_2 => cases h
  rename_i e _ _ _ ht
  split at h
  case h_2 => cases h
  rename_i ie p' m ys hte hrd
  obtain ⟨info, d, zq, f1, f2, f3, f4, _⟩ := hT t _ ht
  obtain rfl := kindOf_slice f3
  obtain ⟨info2, d2, zq2, g1, g2, g3, g4, g5, _⟩ := hT e ie hte
  obtain ⟨info', z, e1, e2, e3, e4, e5⟩ := zero_rep hT hte (mkE Φ H ob w)
  obtain rfl : info2 = info' := by rw [g1] at e1; exact Option.some.inj e1
  obtain ⟨d3, hd3⟩ := Option.isSome_iff_exists.1 ht2'
  have hni : ∀ k, d3 ≠ .int k := fun k e => ht2 k (by rw [hd3, e])
  refine append_core (e := e) hs hx e4 h hp fun hpos hp' hl => ?_
  obtain ⟨us, hv, hlen, hfn, _⟩ := rdX_run (P := P) hs hy hrd hp' ie.size hl
  -- growth, from whatever was there
  have grow : ∀ (n old : Nat) (xs us : List Value) (cs : List V) (a : Option Addr), VReps .cell (mkE Φ H ob w) cs xs → VReps .cell (mkE Φ H ob w) ys us → cs.length = n * ie.size → ys.length = m * ie.size →
      (n + m) * ie.bytes ≤ 140737488355328 → old < n + m → (∀ w' : World, w'.heap = w.heap → (Builtin.firstCells ie.size n (.slice a n old)).run P w' = .ok xs.toArray w') →
      (∀ w' : World, (Builtin.lenOf u).run P w' = .ok m w') → (∀ w' : World, w'.heap = w.heap → (Builtin.firstCells ie.size m u).run P w' = .ok us.toArray w') →
      ∃ cap, n + m ≤ cap ∧ (Builtin.append_ #[t, t2] ty #[.slice a n old, u]).run P w = .ok (.slice (some ⟨w.heap.size, 0, none⟩) (n + m) cap) (w.drew.alloc (.cells (xs.toArray ++ us.toArray ++ Builtin.zeroCells z.cells (cap - (n + m))) e)) := by
    intro n old xs us cs a hcx hcy hl1 hl2 hb hold hfo hlen hfn
    refine ⟨grownCap w (n + m) old e, grownCap_ge _ _ _ _, ?_⟩
    have hnm : n + m ≤ 140737488355328 := Nat.le_trans (Nat.le_mul_of_pos_right _ hpos.2) hb
    have h63' : ¬ (9223372036854775807 < ((n : Int) + (m : Int))) := by omega
    have h48' : ¬ (281474976710656 < Builtin.nextslicecap (n + m) old * info2.bytes) := by rw [g5]; exact Nat.not_lt.2 (growslice_fits hold hb)
    have hn' : ¬ (n + m ≤ old) := by omega
    have hfo' := hfo w.drew rfl
    have hfn' := hfn w.drew rfl
    rw [← g4] at hfo' hfn'
    exact run_append_grow' f2 hd3 hni g1 e2 (hlen w) hfo' hfn' hn' h63' h48'
  have room : ∀ (n cap : Nat) (us : List Value) (b : Nat) (cur : Array Value) (el : TypeId), w.heap[b]? = some (.cells cur el (0, 0)) → VReps .cell (mkE Φ H ob w) ys us → ys.length = m * ie.size → n + m ≤ cap → cap * ie.size ≤ cur.size →
      (∀ w' : World, (Builtin.lenOf u).run P w' = .ok m w') → (∀ w' : World, w'.heap = w.heap → (Builtin.firstCells ie.size m u).run P w' = .ok us.toArray w') →
      (Builtin.append_ #[t, t2] ty #[.slice (some ⟨b, 0, none⟩) n cap, u]).run P w = .ok (.slice (some ⟨b, 0, none⟩) (n + m) cap) (w.setRow b (cur.toList.take (n * ie.size) ++ us ++ cur.toList.drop (n * ie.size + us.length)).toArray) := by
    intro n cap us b cur el hb hcy hl hroom hcs hlen hfn
    have hul := hcy.length
    have hfit : n * ie.size + us.length ≤ cur.size := by rw [← hul, hl, ← Nat.add_mul]; exact Nat.le_trans (Nat.mul_le_mul_right _ hroom) hcs
    have hfn' := hfn w rfl
    rw [← g4] at hfn'
    have hst := run_storeCells_at P b (n * ie.size) el us 0 cur w hb (by simpa using hfit) (VReps.one hcy)
    simp only [Nat.add_zero] at hst
    have hadd : (⟨b, 0, none⟩ : Addr).add (n * info2.size) = ⟨b, n * ie.size, none⟩ := by rw [addr_add, g4, Nat.zero_add]
    exact run_append_room' f2 hd3 hni g1 (hlen w) hfn' hroom (by rw [hadd]; exact hst)
  refine ⟨us, hv, fun n old xs cs a h1 h2 h3 h4 h5 => grow n old xs us cs a h1 hv h2 hl h3 h4 h5 hlen hfn, fun n cap b cur el h1 h2 h3 => room n cap us b cur el h1 hv hl h2 h3 hlen hfn, fun hm => ?_⟩
  have hfn' := hfn w rfl
  rw [← g4] at hfn'
  have hlw := hlen w
  rw [hm] at hlw hfn'
  have hus : us = [] := List.eq_nil_of_length_eq_zero (by rw [← hv.length, hl, hm, Nat.zero_mul])
  subst hus
  exact run_append_none' f2 hd3 hni g1 hlw hfn'

/-! ### Zeros put -/
set_option maxHeartbeats 2000000 in
theorem run_append_growZ {t t2 ty e : Nat} {k kk : IntKind} {info2 : TypeInfo} {z : Value} {n old m : Nat} {ad : Option Addr} {xs : List Value}
    (f2 : P.underlying t = some (.slice e)) (hd3 : P.underlying t2 = some (.int k)) (g1 : P.info? e = some info2) (e2 : info2.zero = some z) (hz : z.cells.size = info2.size) (hpos : 0 < info2.size)
    (hfo : (Builtin.firstCells info2.size n (.slice ad n old)).run P w.drew = .ok xs.toArray w.drew) (hm : m ≤ 140737488355328) (hmb : m * info2.bytes ≤ 140737488355328)
    (hn' : ¬ (n + m ≤ old)) (h63 : ¬ (9223372036854775807 < ((n : Int) + (m : Int)))) (h48 : ¬ (281474976710656 < Builtin.nextslicecap (n + m) old * info2.bytes)) :
    (Builtin.append_ #[t, t2] ty #[.slice ad n old, .int kk (m : Int)]).run P w = .ok (.slice (some ⟨w.heap.size, 0, none⟩) (n + m) (grownCap w (n + m) old e)) (w.drew.alloc (.cells (xs.toArray ++ Builtin.zeroCells z.cells m ++ Builtin.zeroCells z.cells (grownCap w (n + m) old e - (n + m))) e)) := by
  have hw : IntKind.i64.wrap (m : Int) = m := by rw [IntKind.wrap_i64]; omega
  have hneg : ¬ ((m : Int) < 0) := by omega
  have hbig : ¬ (281474976710656 < (m : Int) * (info2.bytes : Int)) := by
    have : ((m * info2.bytes : Nat) : Int) ≤ ((140737488355328 : Nat) : Int) := Int.ofNat_le.2 hmb
    rw [Int.natCast_mul] at this
    omega
  by_cases h0 : m = 0
  · subst h0
    have e0 : Builtin.zeroCells z.cells 0 = #[] := Array.eq_empty_of_size_eq_zero (by rw [size_zeroCells, Nat.zero_mul])
    have hw0 : IntKind.i64.wrap 0 = 0 := by simpa using hw
    have a1 : ¬ (n ≤ old) := by omega
    have a2 : ¬ (9223372036854775807 < (n : Int)) := by omega
    have a3 : ¬ (281474976710656 < Builtin.nextslicecap n old * info2.bytes) := by simpa using h48
    simp [Builtin.append_, run_underlying f2, run_underlying hd3, sizeOf, typeInfo, zeroValue, g1, e2, asInt, asIntOf, hw0, hfo, newRow, grownCap, e0, a1, a2, a3, Question.forced]
  · have h0' : ¬ (m * info2.size = 0) := Nat.mul_ne_zero h0 (by omega)
    simp [Builtin.append_, run_underlying f2, run_underlying hd3, sizeOf, typeInfo, zeroValue, g1, e2, asInt, asIntOf, hw, hneg, hbig, hn', h63, h48, Question.forced, hfo, newRow, grownCap, h0']

set_option maxHeartbeats 2000000 in
theorem run_append_roomZ {t t2 ty e : Nat} {k kk : IntKind} {info2 : TypeInfo} {z : Value} {n cap m b : Nat} {w' : World}
    (f2 : P.underlying t = some (.slice e)) (hd3 : P.underlying t2 = some (.int k)) (g1 : P.info? e = some info2) (e2 : info2.zero = some z) (hz : z.cells.size = info2.size) (hpos : 0 < info2.size)
    (hm : m ≤ 140737488355328) (hmb : m * info2.bytes ≤ 140737488355328) (hroom : n + m ≤ cap)
    (hst : (storeCells ((⟨b, 0, none⟩ : Addr).add (n * info2.size)) (Builtin.zeroCells z.cells m).toList).run P w = .ok () w') :
    (Builtin.append_ #[t, t2] ty #[.slice (some ⟨b, 0, none⟩) n cap, .int kk (m : Int)]).run P w = .ok (.slice (some ⟨b, 0, none⟩) (n + m) cap) w' := by
  have hw : IntKind.i64.wrap (m : Int) = m := by rw [IntKind.wrap_i64]; omega
  have hneg : ¬ ((m : Int) < 0) := by omega
  have hbig : ¬ (281474976710656 < (m : Int) * (info2.bytes : Int)) := by
    have : ((m * info2.bytes : Nat) : Int) ≤ ((140737488355328 : Nat) : Int) := Int.ofNat_le.2 hmb
    rw [Int.natCast_mul] at this
    omega
  by_cases h0 : m = 0
  · subst h0
    have e0 : Builtin.zeroCells z.cells 0 = #[] := Array.eq_empty_of_size_eq_zero (by rw [size_zeroCells, Nat.zero_mul])
    have hw0 : IntKind.i64.wrap 0 = 0 := by simpa using hw
    have hr0 : n ≤ cap := by omega
    have hst' : (storeCells ((⟨b, 0, none⟩ : Addr).add (n * info2.size)) []).run P w = .ok () w' := by simpa [e0] using hst
    simp [Builtin.append_, run_underlying f2, run_underlying hd3, sizeOf, typeInfo, g1, asInt, asIntOf, hw0, hr0, hst']
  · have h0' : ¬ (m * info2.size = 0) := Nat.mul_ne_zero h0 (by omega)
    simp [Builtin.append_, run_underlying f2, run_underlying hd3, sizeOf, typeInfo, zeroValue, g1, e2, asInt, asIntOf, hw, hneg, hbig, hroom, h0', hst]

theorem zeroCells_rep {E : Env} {zs : List V} {z : Array Value} (h : VReps .cell E zs z.toList) (m : Nat) : VReps .cell E (zerosV zs m) (Builtin.zeroCells z m).toList := zeros_rep h m

theorem append_zero_sound (hT : TabOK P T) (hs : HSim Φ H ob w) {t t2 ty : Nat} {x : V} {v : Value} {k kk : IntKind} {n : Int} (hx : VRep (mkE Φ H ob w) x v)
    (hd3 : P.underlying t2 = some (.int k)) {p : Prop} {r : V} {ob' : List Ob} (h : vappendZ T ob t x n = some (p, r, ob')) (hp : p) :
    ∃ q w' H', (Builtin.append_ #[t, t2] ty #[v, .int kk n]).run P w = .ok q w' ∧ HStep Φ H ob w Φ H' ob' w' ∧ VRep (mkE Φ H' ob' w') r q := by
  unfold vappendZ at h
  split at h
  case h_2 => cases h
  rename_i e _ _ _ ht
  split at h
  case h_2 => cases h
  rename_i ie hte
  obtain ⟨info, d, zq, f1, f2, f3, f4, _⟩ := hT t _ ht
  obtain rfl := kindOf_slice f3
  obtain ⟨info2, d2, zq2, g1, g2, g3, g4, g5, _⟩ := hT e ie hte
  obtain ⟨info', z, e1, e2, e3, e4, e5⟩ := zero_rep hT hte (mkE Φ H ob w)
  obtain rfl : info2 = info' := by rw [g1] at e1; exact Option.some.inj e1
  refine append_core (e := e) hs hx e4 h hp fun hpos hp' hl => ?_
  obtain ⟨h0, h1, h2⟩ := hp'
  obtain ⟨m, rfl⟩ : ∃ m : Nat, n = m := ⟨n.toNat, by omega⟩
  simp only [Int.toNat_natCast] at hl ⊢
  have hm : m ≤ 140737488355328 := by omega
  have hmb : m * info2.bytes ≤ 140737488355328 := by
    rw [g5]
    refine Int.ofNat_le.1 ?_
    rw [Int.natCast_mul]
    exact h2
  have hz : z.cells.size = info2.size := by rw [e4, g4]
  have hps : 0 < info2.size := by rw [g4]; exact hpos.1
  have hzr := zeroCells_rep e3 m
  refine ⟨(Builtin.zeroCells z.cells m).toList, hzr, fun n old xs cs a q1 q2 q3 q4 q5 => ⟨grownCap w (n + m) old e, grownCap_ge _ _ _ _, ?_⟩, fun n cap b cur el q1 q2 q3 => ?_, fun hm0 => ?_⟩
  · have hnm : n + m ≤ 140737488355328 := Nat.le_trans (Nat.le_mul_of_pos_right _ hpos.2) q3
    have h63' : ¬ (9223372036854775807 < ((n : Int) + (m : Int))) := by omega
    have h48' : ¬ (281474976710656 < Builtin.nextslicecap (n + m) old * info2.bytes) := by rw [g5]; exact Nat.not_lt.2 (growslice_fits q4 q3)
    have hfo' := q5 w.drew rfl
    rw [← g4] at hfo'
    exact run_append_growZ f2 hd3 g1 e2 hz hps hfo' hm hmb (by omega) h63' h48'
  · have hul := hzr.length
    have hfit : n * ie.size + (Builtin.zeroCells z.cells m).toList.length ≤ cur.size := by rw [← hul, hl, ← Nat.add_mul]; exact Nat.le_trans (Nat.mul_le_mul_right _ q2) q3
    have hst := run_storeCells_at P b (n * ie.size) el _ 0 cur w q1 (by simpa using hfit) (VReps.one hzr)
    simp only [Nat.add_zero] at hst
    have hadd : (⟨b, 0, none⟩ : Addr).add (n * info2.size) = ⟨b, n * ie.size, none⟩ := by rw [addr_add, g4, Nat.zero_add]
    exact run_append_roomZ f2 hd3 g1 e2 hz hps hm hmb q2 (by rw [hadd]; exact hst)
  · subst hm0
    have hw0 : IntKind.i64.wrap 0 = 0 := by rw [IntKind.wrap_i64]; omega
    simp [Builtin.append_, run_underlying f2, run_underlying hd3, sizeOf, typeInfo, g1, asInt, asIntOf, hw0]

end
end Go.VX
