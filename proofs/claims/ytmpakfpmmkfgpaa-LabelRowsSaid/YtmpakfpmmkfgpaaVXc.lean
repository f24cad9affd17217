/- A calculus over abstract values. -/
import Derived.Test.YtmpakfpmmkfgpaaVXb
import Derived.ProofKit
import Derived.SizedLaws
import Derived.ReadAgain
import Derived.OpenShut
import Derived.Carry
import Derived.Deep.Slices
import Derived.Sort.Grow
import Derived.RangeFuncCalls
/- The top: from what a row says of its arguments to values of ours; from a contract of a law to its row. -/
namespace Go.VX
open Go.RowKit Go.ChangeShapes
set_option linter.unusedVariables false
set_option linter.unusedSimpArgs false

/-- A type, as far as plain data go. -/
inductive Ty where
  | bool | int (k : IntKind) | str
  | slice (e : Ty)
  | arr (n : Nat) (e : Ty)
  | struct (fs : Ty)
  | nil
  | cons (a b : Ty)

def Ty.n : Ty → Nat
  | .bool | .int _ | .str | .slice _ => 1
  | .arr n e => n * e.n
  | .struct fs => fs.n
  | .nil => 0
  | .cons a b => a.n + b.n
def Ty.one : Ty → Bool
  | .bool | .int _ | .str | .slice _ => true
  | _ => false

mutual
def Ty.okT (P : Program) : Ty → TypeId → Bool
  | .bool, t => match P.underlying t with | some .bool => true | _ => false
  | .int k, t => match P.underlying t with | some (.int k') => decide (k' = k) | _ => false
  | .str, t => match P.underlying t with | some .string => true | _ => false
  | .slice e, t => match P.underlying t with | some (.slice u) => decide (1 ≤ P.bytesOf u) && (decide (P.cellsOf u = e.n) && e.okT P u) | _ => false
  | .arr n e, t => match P.underlying t with | some (.array m u) => decide (m = n) && (decide (P.cellsOf t = n * e.n) && (decide (P.cellsOf u = e.n) && e.okT P u)) | _ => false
  | .struct fs, t => match P.underlying t with | some (.struct F) => decide (P.cellsOf t = fs.n) && fs.okF P 0 F.toList | _ => false
  | .nil, _ => false
  | .cons _ _, _ => false
def Ty.okF (P : Program) : Ty → Nat → List Field → Bool
  | .nil, _, [] => true
  | .cons a b, off, f :: fs => decide (f.offset = off) && (decide (P.cellsOf f.type = a.n) && (a.okT P f.type && b.okF P (off + a.n) fs))
  | _, _, _ => false
end

/-- Cells that are of a type. -/
def Fits : Ty → List V → Prop
  | .bool, cs => ∃ b, cs = [.bool b]
  | .int k, cs => ∃ n, cs = [.int k n] ∧ k.min ≤ n ∧ n ≤ k.max
  | .str, cs => ∃ s : ByteArray, cs = [.str s] ∧ s.size ≤ reachBytes
  | .slice e, cs => ∃ l : List (List V), cs = [.fs l.length l.flatten] ∧ l.length ≤ reachBytes ∧ ∀ x ∈ l, Fits e x
  | .arr n e, cs => ∃ l : List (List V), cs = l.flatten ∧ l.length = n ∧ ∀ x ∈ l, Fits e x
  | .struct fs, cs => Fits fs cs
  | .nil, cs => cs = []
  | .cons a b, cs => ∃ x y, cs = x ++ y ∧ Fits a x ∧ Fits b y

mutual
def vb : V → Nat
  | .str s => s.size + 1
  | .fs _ cs => vbs cs + 1
  | _ => 1
def vbs : List V → Nat
  | [] => 0
  | c :: cs => vb c + vbs cs
end
theorem vbs_append : ∀ (a b : List V), vbs (a ++ b) = vbs a + vbs b
  | [], b => by simp [vbs]
  | c :: a, b => by simp [vbs, vbs_append a b]; omega

mutual
def bulkD {H : Type} : DataW H → Nat
  | .lit (.string bytes) => bytes.length + 1
  | .lit _ => 1
  | .nil => 1
  | .ptr d => bulkD d + 1
  | .slice elems spare => bulkDs elems + bulkDs spare + 1
  | .agg parts => bulkDs parts + 1
  | .iface _ d => bulkD d + 1
  | .map entries => bulkEs entries + 1
  | .held _ => 1
def bulkDs {H : Type} : List (DataW H) → Nat
  | [] => 0
  | d :: r => bulkD d + bulkDs r
def bulkEs {H : Type} : List (Lit × DataW H) → Nat
  | [] => 0
  | x :: r => bulkE x + bulkEs r
def bulkE {H : Type} : Lit × DataW H → Nat
  | (.string bytes, d) => bytes.length + bulkD d + 1
  | (_, d) => bulkD d + 1
end
theorem bulkDs_append {H : Type} : ∀ (a b : List (DataW H)), bulkDs (a ++ b) = bulkDs a + bulkDs b
  | [], b => by simp [bulkDs]
  | c :: a, b => by simp [bulkDs, bulkDs_append a b]; omega
theorem bulkD_agg {H : Type} (l : List (DataW H)) : bulkD (.agg l) = bulkDs l + 1 := by simp [bulkD]
theorem bulkD_slice {H : Type} (l m : List (DataW H)) : bulkD (.slice l m) = bulkDs l + bulkDs m + 1 := by simp [bulkD]

theorem VReps.len_eq {q : Fl} {E : Env} {a b : List V} {us : List Value} (h : VReps q E a us) (k : VReps q E b us) : a.length = b.length := h.length.trans k.length.symm

theorem spot_of_cell {w : World} {a : Addr} {v : Value} (h : w.cell? a = some v) : a = ⟨a.block, a.off, none⟩ ∧ a.block < w.heap.size := by
  unfold World.cell? at h
  split at h
  · rename_i c x y he
    split at h
    · cases h
    · rename_i hs
      refine ⟨?_, lt_of_heap he⟩
      obtain ⟨b, o, s⟩ := a
      cases s <;> simp_all
  · cases h

section
variable {H : Type} {enc : TypeId × Value → H} {P : Program} {w : World}

abbrev reach (P : Program) (t : TypeId) (d : DataW H) : Prop := (d.weights P t).all (· ≤ reachBytes) = true
abbrev reachs (P : Program) (ts : List TypeId) (ds : List (DataW H)) : Prop := (DataW.weightsEach P ts ds).all (· ≤ reachBytes) = true
abbrev reachA (P : Program) (t : TypeId) (ds : List (DataW H)) : Prop := (DataW.weightsAll P t ds).all (· ≤ reachBytes) = true

theorem reachA_get {t : TypeId} : ∀ {ds : List (DataW H)}, reachA P t ds → ∀ (i : Nat) (d : DataW H), ds[i]? = some d → reach P t d
  | [], _, i, d, h => by simp at h
  | x :: r, h, i, d, hd => by
    simp only [reachA, DataW.weightsAll, List.all_append, Bool.and_eq_true] at h
    cases i with
    | zero => simp at hd; subst hd; exact h.1
    | succ i => exact reachA_get h.2 i d (by simpa using hd)

/-- What is known of the cells of one value. -/
def Got (E : Env) (ty : Ty) (cs : List Value) (m : Nat) : Prop := ∃ vs, VReps .frz E vs cs ∧ Fits ty vs ∧ vbs vs ≤ m

/-- Row after row. -/
theorem got_rows {E : Env} {e : Ty} {rd : Nat → Option Value} {c : Nat} (D : Nat → Nat) : ∀ (n : Nat),
    (∀ i, i < n → ∃ cs : List Value, cs.length = c ∧ (∀ j, j < c → rd (i * c + j) = cs[j]?) ∧ Got E e cs (D i)) →
    ∃ (l : List (List V)) (us : List Value), l.length = n ∧ us.length = n * c ∧ (∀ j, j < us.length → rd j = us[j]?) ∧ VReps .frz E l.flatten us ∧ (∀ x ∈ l, Fits e x) ∧ vbs l.flatten ≤ ((List.range n).map D).sum
  | 0, h => ⟨[], [], rfl, by simp, by simp, by simp [VReps], by simp, by simp [vbs]⟩
  | n + 1, h => by
    obtain ⟨l, us, h1, h2, h3, h4, h5, h6⟩ := got_rows D n fun i hi => h i (by omega)
    obtain ⟨cs, k1, k2, vs, k3, k4, k5⟩ := h n (by omega)
    refine ⟨l ++ [vs], us ++ cs, by simp [h1], by simp [h2, k1, Nat.add_mul], fun j hj => ?_, by simpa using h4.append k3, fun x hx => ?_, ?_⟩
    · rcases Nat.lt_or_ge j us.length with hlt | hge
      · rw [List.getElem?_append_left hlt]; exact h3 j hlt
      · rw [List.getElem?_append_right hge, ← k2 (j - us.length) (by simp at hj; omega)]
        congr 1
        omega
    · simp only [List.mem_append, List.mem_singleton] at hx
      rcases hx with hx | rfl
      · exact h5 x hx
      · exact k4
    · simp only [List.flatten_append, List.flatten_cons, List.flatten_nil, List.append_nil, vbs_append, List.range_succ, List.map_append, List.sum_append, List.map_cons, List.map_nil, List.sum_cons, List.sum_nil]
      omega
theorem bulkDs_range : ∀ (ds : List (DataW H)), ((List.range ds.length).map fun i => bulkD ((ds[i]?).getD .nil)).sum = bulkDs ds
  | [] => by simp [bulkDs]
  | d :: ds => by
    have := bulkDs_range ds
    simp only [List.length_cons, List.range_succ_eq_map, List.map_cons, List.map_map, List.sum_cons, bulkDs]
    rw [← this]
    rfl

theorem trod_got {E : Env} (hw : E.w = w) (hΦ : ∀ b, b < w.heap.size → E.Φ b) : ∀ ty : Ty,
    (∀ (t : TypeId) (fuel : Nat) (cs : List Value) (x : DataW H × List MemPlace), ty.okT P t = true → DataW.trod enc P w 0 (fun _ => true) true fuel t cs = some x → reach P t x.1 → Got E ty cs (bulkD x.1)) ∧
    (∀ (off : Nat) (F : List Field) (fuel : Nat) (cs : List Value) (xs : List (DataW H × List MemPlace)), ty.okF P off F = true → xs.length = F.length →
      (∀ (i : Nat) (f : Field), F[i]? = some f → DataW.trod enc P w 0 (fun _ => true) true fuel f.type ((cs.drop f.offset).take (P.cellsOf f.type)) = xs[i]?) →
      reachs P (F.map (·.type)) (xs.map (·.1)) → cs.length = off + ty.n → Got E ty (cs.drop off) (bulkDs (xs.map (·.1)))) := by
  intro ty
  induction ty with
  | bool =>
    refine ⟨fun t fuel cs x ht h hr => ?_, fun off F fuel cs xs ht => by simp [Ty.okF] at ht⟩
    simp only [Ty.okT] at ht
    split at ht <;> simp at ht
    rename_i hu
    obtain ⟨b, rfl, rfl⟩ := DataW.trod_bool hu h
    exact ⟨[.bool b], ⟨_, _, rfl, ⟨rfl, rfl⟩, rfl, rfl⟩, ⟨b, rfl⟩, by simp [vbs, vb, bulkD]⟩
  | int k =>
    refine ⟨fun t fuel cs x ht h hr => ?_, fun off F fuel cs xs ht => by simp [Ty.okF] at ht⟩
    simp only [Ty.okT] at ht
    split at ht <;> simp at ht
    rename_i k' hu
    subst ht
    obtain ⟨n, rfl, rfl, hwf⟩ := DataW.trod_int hu h
    simp only [Lit.wf, Bool.and_eq_true, decide_eq_true_eq] at hwf
    exact ⟨[.int k' n], ⟨_, _, rfl, ⟨rfl, rfl⟩, rfl, rfl⟩, ⟨n, rfl, hwf⟩, by simp [vbs, vb, bulkD]⟩
  | str =>
    refine ⟨fun t fuel cs x ht h hr => ?_, fun off F fuel cs xs ht => by simp [Ty.okF] at ht⟩
    simp only [Ty.okT] at ht
    split at ht <;> simp at ht
    rename_i hu
    obtain ⟨s, rfl, rfl, hsz⟩ := DataW.trod_string hu h
    have e : s.data.toList.length = s.size := Array.length_toList
    refine ⟨[.str s], ⟨_, _, rfl, ⟨rfl, rfl⟩, rfl, rfl⟩, ⟨s, rfl, ?_⟩, by simp [vbs, vb, bulkD, e]⟩
    simpa [reach, DataW.weights, e] using hr
  | slice e ih =>
    refine ⟨fun t fuel cs x ht h hr => ?_, fun off F fuel cs xs ht => by simp [Ty.okF] at ht⟩
    simp only [Ty.okT] at ht
    split at ht <;> simp at ht
    rename_i u hu
    obtain ⟨hb1, hc, hte⟩ := ht
    rcases DataW.trod_slice hu h with ⟨rfl, rfl⟩ | ⟨a, len, cap, elems, rest, n, _, rfl, rfl, _, hl, hm, hlen, hel, hsp, _⟩
    · refine ⟨[.fs 0 []], ⟨_, _, rfl, ⟨rfl, rfl⟩, ⟨none, 0, [], rfl, Nat.le_refl _, rfl, fun h => by simp at h⟩, rfl⟩, ⟨[], rfl, by simp, by simp⟩, by simp [vbs, vb, bulkD]⟩
    · simp only [reach, DataW.weights, hu, List.all_cons, List.all_append, Bool.and_eq_true, decide_eq_true_eq, List.length_map] at hr
      obtain ⟨hr1, hr2, _⟩ := hr
      have hlr : len ≤ reachBytes := by
        have := Nat.mul_le_mul_left (elems.length + rest.length) hb1
        omega
      have hD : ∀ i, i < len → ∃ cs : List Value, cs.length = e.n ∧ (∀ j, j < e.n → w.cell? (a.add (i * e.n + j)) = cs[j]?) ∧ Got E e cs (bulkD (((elems.map (·.1))[i]?).getD .nil)) := by
        intro i hi
        have key := hel i hi
        rw [List.getElem?_eq_getElem (show i < elems.length by omega)] at key
        obtain ⟨cs', h1, h2⟩ := Option.bind_eq_some_iff.1 key
        obtain ⟨_, g1, g2⟩ := World.cells?_some h1
        refine ⟨cs', by rw [g1, hc], fun j hj => ?_, ?_⟩
        · rw [← g2 j (by omega), Go.Deep.add_add, hc]
        · have := ih.1 u n cs' _ hte h2 (reachA_get hr2 i _ (by simp [List.getElem?_eq_getElem (show i < elems.length by omega)]))
          simpa [List.getElem?_eq_getElem (show i < elems.length by omega)] using this
      obtain ⟨l, us, q1, q2, q3, q4, q5, q6⟩ := got_rows (E := E) (rd := fun j => w.cell? (a.add j)) _ len hD
      have e1 : len = (elems.map (·.1)).length := by simp [hlen]
      refine ⟨[.fs l.length l.flatten], ⟨_, _, rfl, ⟨rfl, rfl⟩, ⟨some a, cap, us, by rw [q1], by omega, q4, fun hu => ?_⟩, rfl⟩, ⟨l, rfl, by omega, q5⟩, ?_⟩
      · have h0 := q3 0 hu
        rw [List.getElem?_eq_getElem hu] at h0
        obtain ⟨s1, s2⟩ := spot_of_cell h0
        simp only [Addr.add, if_true] at s1 s2
        refine ⟨a.block, a.off, by rw [← s1], hΦ _ s2, fun j hj => ?_⟩
        rw [hw, ← q3 j hj]
        congr 1
        rw [s1]
        by_cases hj0 : j = 0 <;> simp [Addr.add, hj0]
      · rw [e1, bulkDs_range] at q6
        simp only [vbs, vb, bulkD_slice]
        omega
  | arr n e ih =>
    refine ⟨fun t fuel cs x ht h hr => ?_, fun off F fuel cs xs ht => by simp [Ty.okF] at ht⟩
    simp only [Ty.okT] at ht
    split at ht <;> simp at ht
    rename_i m u hu
    obtain ⟨rfl, hct, hc, hte⟩ := ht
    obtain ⟨xs, fu, _, rfl, hcl, hxl, hx⟩ := DataW.trod_array hu h
    simp only [reach, DataW.weights, hu] at hr
    have hD : ∀ i, i < m → ∃ cs' : List Value, cs'.length = e.n ∧ (∀ j, j < e.n → cs[i * e.n + j]? = cs'[j]?) ∧ Got E e cs' (bulkD (((xs.map (·.1))[i]?).getD .nil)) := by
      intro i hi
      have key := hx i hi
      rw [List.getElem?_eq_getElem (show i < xs.length by omega)] at key
      have hle : (i + 1) * e.n ≤ m * e.n := Nat.mul_le_mul_right _ hi
      have e3 : (i + 1) * e.n = i * e.n + e.n := by rw [Nat.add_mul]; omega
      refine ⟨(cs.drop (i * P.cellsOf u)).take (P.cellsOf u), by simp [hc]; omega, fun j hj => ?_, ?_⟩
      · rw [hc, List.getElem?_take, if_pos hj, List.getElem?_drop]
      · have := ih.1 u fu _ _ hte key (reachA_get hr i _ (by simp [List.getElem?_eq_getElem (show i < xs.length by omega)]))
        simpa [List.getElem?_eq_getElem (show i < xs.length by omega)] using this
    obtain ⟨l, us, q1, q2, q3, q4, q5, q6⟩ := got_rows (E := E) (rd := fun j => cs[j]?) _ m hD
    have e1 : m = (xs.map (·.1)).length := by simp [hxl]
    have hus : us = cs := by
      apply List.ext_getElem?
      intro j
      rcases Nat.lt_or_ge j us.length with hlt | hge
      · exact (q3 j hlt).symm
      · rw [List.getElem?_eq_none hge, List.getElem?_eq_none (by omega)]
    subst hus
    refine ⟨l.flatten, q4, ⟨l, rfl, q1, q5⟩, ?_⟩
    rw [e1, bulkDs_range] at q6
    simp only [bulkD_agg]
    omega
  | struct fs ih =>
    refine ⟨fun t fuel cs x ht h hr => ?_, fun off F fuel cs xs ht => by simp [Ty.okF] at ht⟩
    simp only [Ty.okT] at ht
    split at ht <;> simp at ht
    rename_i F hu
    obtain ⟨hct, htf⟩ := ht
    obtain ⟨xs, fu, _, rfl, hcl, hxl, hx⟩ := DataW.trod_struct hu h
    simp only [reach, DataW.weights, hu] at hr
    have := ih.2 0 F.toList fu cs xs htf (by simpa using hxl) (fun i f hf => hx i f (by simpa using hf)) hr (by omega)
    obtain ⟨vs, g1, g2, g3⟩ := this
    exact ⟨vs, by simpa using g1, g2, by simp only [bulkD_agg]; omega⟩
  | nil =>
    refine ⟨fun t fuel cs x ht => by simp [Ty.okT] at ht, fun off F fuel cs xs ht hl hx hr hcl => ?_⟩
    cases F with
    | cons f F => simp [Ty.okF] at ht
    | nil =>
      obtain rfl : xs = [] := by simpa using hl
      refine ⟨[], ?_, rfl, by simp [vbs]⟩
      rw [List.drop_eq_nil_of_le (by simp [hcl, Ty.n])]
      rfl
  | cons a b iha ihb =>
    refine ⟨fun t fuel cs x ht => by simp [Ty.okT] at ht, fun off F fuel cs xs ht hl hx hr hcl => ?_⟩
    cases F with
    | nil => simp [Ty.okF] at ht
    | cons f F =>
      simp only [Ty.okF, Bool.and_eq_true, decide_eq_true_eq] at ht
      obtain ⟨ho, hc, hta, htb⟩ := ht
      cases xs with
      | nil => simp at hl
      | cons x xs =>
        simp only [reachs, List.map_cons, DataW.weightsEach, List.all_append, Bool.and_eq_true] at hr
        obtain ⟨vs, g1, g2, g3⟩ := iha.1 f.type fuel _ x hta (hx 0 f rfl) hr.1
        obtain ⟨vs', g1', g2', g3'⟩ := ihb.2 (off + a.n) F fuel cs xs htb (by simpa using hl) (fun i f' hf => by simpa using hx (i + 1) f' (by simpa using hf)) hr.2 (by simp only [Ty.n] at hcl; omega)
        rw [ho, hc] at g1
        refine ⟨vs ++ vs', ?_, ⟨vs, vs', rfl, g2, g2'⟩, ?_⟩
        · have e : cs.drop off = (cs.drop off).take a.n ++ cs.drop (off + a.n) := by
            rw [← List.drop_drop, List.take_append_drop]
          rw [e]
          exact g1.append g1'
        · simp only [vbs_append, List.map_cons, bulkDs]
          omega
end

/-! ### Arguments -/
def ArgFits (ty : Ty) (x : V) : Prop := if ty.one = true then Fits ty [x] else ∃ cs, x = .agg cs ∧ Fits ty cs
def AllFit : List Ty → List V → Prop
  | [], [] => True
  | t :: ts, x :: xs => ArgFits t x ∧ AllFit ts xs
  | _, _ => False
def bulkV : V → Nat
  | .agg cs => vbs cs
  | x => vb x
def bulkVs (xs : List V) : Nat := (xs.map bulkV).sum
def argsOK (P : Program) : List Ty → List TypeId → Bool
  | [], [] => true
  | y :: ys, t :: ts => (y.okT P t && (P.readableRec t && decide (t < P.types.size))) && argsOK P ys ts
  | _, _ => false

section
variable {H : Type} {enc : TypeId × Value → H} {P : Program} {w : World}

theorem one_trod {ty : Ty} {t : TypeId} {v : Value} {r : Reach} {base : Nat} (h1 : ty.one = true) (ht : ty.okT P t = true) (hv : Value.okWide P w r base t v) : v.cells = #[v] := by
  cases v with
  | agg cs =>
    exfalso
    cases ty <;> simp [Ty.one] at h1 <;> simp only [Ty.okT] at ht <;> split at ht <;> simp at ht <;> rename_i hu <;> simp [Value.okWide, hu, Cell.okWide, Cell.ok] at hv
  | _ => rfl
theorem agg_trod {ty : Ty} {t : TypeId} {v : Value} {r : Reach} {base : Nat} (h1 : ¬ ty.one = true) (ht : ty.okT P t = true) (hv : Value.okWide P w r base t v) : ∃ cs, v = .agg cs := by
  cases ty <;> simp [Ty.one] at h1 <;> simp only [Ty.okT] at ht <;> first | (simp at ht; done) | skip
  all_goals
    split at ht <;> simp at ht
    rename_i hu
    simp only [Value.okWide, hu] at hv
    obtain ⟨cs, rfl, _⟩ := hv
    exact ⟨cs, rfl⟩

theorem arg_got {E : Env} (hw : E.w = w) (hΦ : ∀ b, b < w.heap.size → E.Φ b) {ty : Ty} {t : TypeId} {v : Value} {d : DataW H} {ps : List MemPlace} {r : Reach} {base : Nat}
    (ht : ty.okT P t = true) (hv : Value.okWide P w r base t v) (h : DataW.Trod enc P w 0 (fun _ => true) true t v d ps) (hr : reach P t d) : ∃ x, VRep E x v ∧ ArgFits ty x ∧ bulkV x ≤ bulkD d := by
  obtain ⟨fuel, hf⟩ := h
  obtain ⟨vs, h1, h2, h3⟩ := (trod_got hw hΦ ty).1 t fuel _ _ ht hf hr
  by_cases ho : ty.one = true
  · rw [one_trod ho ht hv] at h1
    match vs, h1 with
    | [], h1 => simp [VReps] at h1
    | x :: xs, ⟨u, us, e, _, hx, hxs⟩ =>
      simp at e
      obtain ⟨rfl, rfl⟩ := e
      match xs, hxs with
      | [], _ =>
        refine ⟨x, hx, by unfold ArgFits; rw [if_pos ho]; exact h2, ?_⟩
        cases x <;> simp_all [bulkV, vbs]
        exfalso
        rename_i cs
        cases ty <;> simp [Ty.one] at ho <;> simp [Fits] at h2
      | _ :: _, hxs => obtain ⟨_, _, e, _⟩ := hxs; simp at e
  · obtain ⟨cs, rfl⟩ := agg_trod ho ht hv
    exact ⟨.agg vs, ⟨cs, rfl, VReps.weak h1⟩, by unfold ArgFits; rw [if_neg ho]; exact ⟨vs, rfl, h2⟩, h3⟩

theorem args_got {E : Env} (hw : E.w = w) (hΦ : ∀ b, b < w.heap.size → E.Φ b) {r : Reach} {base : Nat} : ∀ {tys : List Ty} {ts : List TypeId} {vs : List Value} {ds : List (DataW H)} {ps : List MemPlace},
    argsOK P tys ts = true → (∀ (j : Nat) (t : TypeId) (v : Value), ts[j]? = some t → vs[j]? = some v → Value.okWide P w r base t v) →
    DataW.TrodAll enc P w 0 (fun _ => true) true ts vs ds ps → reachs P ts ds → ∃ xs, VReps .any E xs vs ∧ AllFit tys xs ∧ bulkVs xs ≤ bulkDs ds
  | [], [], vs, ds, ps, _, _, h, _ => by
    obtain ⟨rfl, rfl, _⟩ := trodAll_nil h
    exact ⟨[], rfl, trivial, by simp [bulkVs]⟩
  | y :: ys, [], _, _, _, h, _, _, _ => by simp [argsOK] at h
  | [], t :: ts, _, _, _, h, _, _, _ => by simp [argsOK] at h
  | y :: ys, t :: ts, vs, ds, ps, hok, hv, h, hr => by
    obtain ⟨v, vs', d, ds', p, q, rfl, rfl, rfl, h1, h2⟩ := trodAll_cons h
    simp only [argsOK, Bool.and_eq_true] at hok
    simp only [reachs, DataW.weightsEach, List.all_append, Bool.and_eq_true] at hr
    obtain ⟨x, g1, g2, g3⟩ := arg_got hw hΦ hok.1.1 (hv 0 t v rfl rfl) h1 hr.1
    obtain ⟨xs, k1, k2, k3⟩ := args_got hw hΦ hok.2 (fun j t v a b => hv (j + 1) t v (by simpa using a) (by simpa using b)) h2 hr.2
    exact ⟨x :: xs, ⟨v, vs', rfl, trivial, g1, k1⟩, ⟨g2, k2⟩, by simp only [bulkVs, List.map_cons, List.sum_cons, bulkDs] at k3 ⊢; omega⟩

theorem args_kept (hl : laidOutB P = true) {W W' : World} (hb : Below W.heap.size W W') : ∀ {tys : List Ty} {ts : List TypeId} {vs : List Value} {ds : List (DataW H)} {ps : List MemPlace},
    argsOK P tys ts = true → DataW.TrodAll enc P W 0 (fun _ => true) true ts vs ds ps → (∀ x ∈ ps, x.block < W.heap.size) → DataW.TrodAll enc P W' 0 (fun b => decide (b < W.heap.size)) true ts vs ds ps
  | [], [], vs, ds, ps, _, h, _ => by
    obtain ⟨rfl, rfl, rfl⟩ := trodAll_nil h
    exact trodAll_mk0
  | y :: ys, [], _, _, _, h, _, _ => by simp [argsOK] at h
  | [], t :: ts, _, _, _, h, _, _ => by simp [argsOK] at h
  | y :: ys, t :: ts, vs, ds, ps, hok, h, hlt => by
    obtain ⟨v, vs', d, ds', p, q, rfl, rfl, rfl, h1, h2⟩ := trodAll_cons h
    simp only [argsOK, Bool.and_eq_true, decide_eq_true_eq] at hok
    exact ⟨p, q, Below.trod hl hok.1.2.1 hok.1.2.2 h1 hb (fun x hx => hlt x (List.mem_append_left _ hx)), args_kept hl hb hok.2 h2 (fun x hx => hlt x (List.mem_append_right _ hx)), rfl⟩
end

theorem argsOK_len {P : Program} : ∀ {tys : List Ty} {ts : List TypeId}, argsOK P tys ts = true → ts.length = tys.length
  | [], [], _ => rfl
  | y :: ys, [], h => by simp [argsOK] at h
  | [], t :: ts, h => by simp [argsOK] at h
  | y :: ys, t :: ts, h => by simp only [argsOK, Bool.and_eq_true] at h; simp [argsOK_len h.2]
theorem trod_len {H : Type} {enc : TypeId × Value → H} {P : Program} {w : World} {b : Nat} {sp : Nat → Bool} {hd : Bool} : ∀ {ts : List TypeId} {vs : List Value} {ds : List (DataW H)} {ps : List MemPlace}, DataW.TrodAll enc P w b sp hd ts vs ds ps → ds.length = ts.length
  | [], vs, ds, ps, h => by obtain ⟨rfl, rfl, _⟩ := trodAll_nil h; rfl
  | t :: ts, vs, ds, ps, h => by
    obtain ⟨v, vs', d, ds', p, q, rfl, rfl, rfl, h1, h2⟩ := trodAll_cons h
    simp [trod_len h2]
/-- No object at all; all that is there is not to change. -/
theorem HSim.top (W : World) : HSim (fun b => b < W.heap.size) (fun _ => none) [] W := ⟨fun _ h => h, fun i o h => by simp at h, fun i j o o' b h => by simp at h⟩
theorem HS.below {W W' : World} {Φ Φ' : Nat → Prop} {H H' : Nat → Option Nat} {ob' : List Ob} {nt : Sh} (h : HS (ctx Φ H [] W nt) Φ' H' ob' W') : Below W.heap.size W W' :=
  ⟨h.os, h.tape, h.output.1, h.size, fun k hk => h.kept k hk (fun ⟨i, o, h1, _⟩ => by simp at h1)⟩
theorem keptBut_of_below {W W' : World} (h : Below W.heap.size W W') (may : MemPlace → Prop) : W.keptBut W' may := by
  refine ⟨h.os, h.output, fun i hi => ?_⟩
  rw [h.block i hi]
  cases W.heap[i]? with
  | none => simp
  | some o => cases o <;> simp

section
variable {H : Type} {enc : TypeId × Value → H}

/-- What a law's call comes to, out of its contract. -/
theorem law_calls {P : Program} {k : Nat} {fn : Func} {s : ChangeSpec} {tys : List Ty} {tb : TypeId} {apart fresh handsOn : Bool}
    (hl : laidOutB P = true) (hpar : argsOK P tys fn.params.toList = true) (hres : fn.resultTypes = #[tb]) (hb : P.underlying tb = some .bool) (hvars : s.vars = [])
    (hspec : ∀ (H : Type) (ds : List (DataW H)), ds.length = tys.length → s.fn H ds = { results := [.lit (.bool true)], args := ds })
    {W : World} {base : Nat} {args : Array Value} {ds gs : List (DataW H)} {before : List MemPlace}
    (hval : ∀ (j : Nat) t v, fn.params[j]? = some t → args[j]? = some v → Value.okWide P W .any base t v)
    (hW : DataW.Whole enc P fn.params.toList s.vars apart W args.toList ds gs before)
    (hsz : (DataW.weightsEach P (fn.params.toList ++ s.plain.varTypes P) (ds ++ gs)).all (· ≤ reachBytes) = true)
    (hVC : ∀ xs : List V, AllFit tys xs → bulkVs xs ≤ bulkDs ds → VC P k xs [] (fun r _ => r = .bool true)) :
    Calls P k args W fun e W' => ∃ v, e = .returned v ∧ s.post enc P fn apart fresh handsOn false W args v W' := by
  have hW0 := hW
  have hlt := hW.lt
  obtain ⟨p, q, hA, hV, rfl, hfz, hnd⟩ := hW
  rw [hvars] at hV
  obtain ⟨rfl, rfl⟩ := trodVars_none hV
  have hvt : s.plain.varTypes P = [] := by
    show DataSpec.varTypes P s.plain = []
    unfold DataSpec.varTypes ChangeSpec.plain
    simp [hvars]
  rw [hvt, List.append_nil, List.append_nil] at hsz
  rw [List.append_nil] at hlt
  obtain ⟨xs, h1, h2, h3⟩ := args_got (E := mkE (fun b => b < W.heap.size) (fun _ => none) [] W) rfl (fun _ h => h) hpar (fun j t v a b => hval j t v (by simpa using a) (by simpa using b)) hA hsz
  have hlen : ds.length = tys.length := by
    rw [trod_len hA]
    exact argsOK_len hpar
  refine ((hVC xs h2 h3).2 _ _ W args (HSim.top W) h1).mono fun e W' q => ?_
  cases e with
  | panicked c => exact q.elim
  | outgrown => exact q.elim
  | returned v =>
    obtain ⟨r, ob', Φ', H', q1, q2, rfl⟩ := q
    obtain rfl : v = .bool true := q2
    have hbel := q1.below
    refine ⟨_, rfl, ds, [], p ++ [], [], p, [], hW0, ?_, ?_, ?_, keptBut_of_below hbel _, fun h => by cases h⟩
    · rw [List.append_nil, hspec _ _ hlen, hres]
      exact trodAll_mk1 (shut_bool hb true)
    · rw [List.append_nil, hspec _ _ hlen]
      exact args_kept hl hbel hpar hA hlt
    · rw [hvars, List.append_nil, hspec _ _ hlen]
      rfl
end

/-! ### From cells to lists of ours -/
theorem list_of {α : Type} (f : α → List V) (p : α → Prop) : ∀ {l : List (List V)}, (∀ x ∈ l, ∃ a, x = f a ∧ p a) → ∃ as : List α, as.length = l.length ∧ l.flatten = as.flatMap f ∧ ∀ a ∈ as, p a
  | [], _ => ⟨[], rfl, rfl, by simp⟩
  | x :: l, h => by
    obtain ⟨a, rfl, ha⟩ := h x (by simp)
    obtain ⟨as, h1, h2, h3⟩ := list_of f p (l := l) fun y hy => h y (by simp [hy])
    exact ⟨a :: as, by simp [h1], by simp [h2], by simpa using ⟨ha, h3⟩⟩
/-- A slice of plain values, each of one cell or many. -/
theorem fits_slice {α : Type} (f : α → List V) (p : α → Prop) {e : Ty} (he : ∀ cs, Fits e cs → ∃ a, cs = f a ∧ p a) {cs : List V} (h : Fits (.slice e) cs) :
    ∃ as : List α, cs = [.fs as.length (as.flatMap f)] ∧ as.length ≤ reachBytes ∧ ∀ a ∈ as, p a := by
  obtain ⟨l, rfl, h1, h2⟩ := h
  obtain ⟨as, g1, g2, g3⟩ := list_of f p fun x hx => he x (h2 x hx)
  exact ⟨as, by rw [g1, g2], by omega, g3⟩
theorem flatMap_one {α : Type} (g : α → V) : ∀ l : List α, l.flatMap (fun n => [g n]) = l.map g
  | [] => rfl
  | a :: l => by simp [flatMap_one g l]
theorem fits_ints {k : IntKind} {cs : List V} (h : Fits (.slice (.int k)) cs) : ∃ l : List Int, cs = [.fs l.length (l.map (V.int k))] ∧ l.length ≤ reachBytes ∧ ∀ a ∈ l, k.min ≤ a ∧ a ≤ k.max := by
  obtain ⟨l, h1, h2, h3⟩ := fits_slice (fun n => [V.int k n]) (fun n => k.min ≤ n ∧ n ≤ k.max) (fun cs h => by simpa only [Fits] using h) h
  exact ⟨l, by rw [h1, flatMap_one], h2, h3⟩
theorem allFit_nil {xs : List V} (h : AllFit [] xs) : xs = [] := by
  cases xs with
  | nil => rfl
  | cons x xs => exact h.elim
theorem allFit_cons {t : Ty} {ts : List Ty} {xs : List V} (h : AllFit (t :: ts) xs) : ∃ x r, xs = x :: r ∧ ArgFits t x ∧ AllFit ts r := by
  cases xs with
  | nil => exact h.elim
  | cons x xs => exact ⟨x, xs, rfl, h.1, h.2⟩
theorem argFits_one {t : Ty} {x : V} (h1 : t.one = true) (h : ArgFits t x) : Fits t [x] := by
  unfold ArgFits at h
  rwa [if_pos h1] at h
theorem argFits_int {k : IntKind} {x : V} (h : ArgFits (.int k) x) : ∃ n, x = .int k n ∧ k.min ≤ n ∧ n ≤ k.max := by
  replace h := argFits_one rfl h
  simp only [Fits] at h
  obtain ⟨n, h1, h2⟩ := h
  simp at h1
  exact ⟨n, h1, h2⟩
theorem argFits_str {x : V} (h : ArgFits .str x) : ∃ s : ByteArray, x = .str s ∧ s.size ≤ reachBytes := by
  replace h := argFits_one rfl h
  simp only [Fits] at h
  obtain ⟨n, h1, h2⟩ := h
  simp at h1
  exact ⟨n, h1, h2⟩
theorem argFits_slice {α : Type} (f : α → List V) (p : α → Prop) {e : Ty} (he : ∀ cs, Fits e cs → ∃ a, cs = f a ∧ p a) {x : V} (h : ArgFits (.slice e) x) :
    ∃ as : List α, x = .fs as.length (as.flatMap f) ∧ as.length ≤ reachBytes ∧ ∀ a ∈ as, p a := by
  replace h := argFits_one rfl h
  obtain ⟨as, h1, h2⟩ := fits_slice f p he h
  simp at h1
  exact ⟨as, h1, h2⟩
theorem argFits_ints {k : IntKind} {x : V} (h : ArgFits (.slice (.int k)) x) : ∃ l : List Int, x = .fs l.length (l.map (V.int k)) ∧ l.length ≤ reachBytes ∧ ∀ a ∈ l, k.min ≤ a ∧ a ≤ k.max := by
  replace h := argFits_one rfl h
  obtain ⟨as, h1, h2⟩ := fits_ints h
  simp at h1
  exact ⟨as, h1, h2⟩
end Go.VX

/- Results that lie in memory. -/
namespace Go.VX
open Go.RowKit
set_option linter.unusedVariables false
set_option linter.unusedSimpArgs false

def vres (T : Nat → Option TI) (st : St) : ResultVar → Option (Prop × V)
  | .tmp t => some (True, getS st.sl t)
  | .cell c t => match vop T st.sl st.ob (.load t (.tmp c)) with
    | some (p, x, _) => some (p, x)
    | none => none
def vress (T : Nat → Option TI) (st : St) : List ResultVar → Option (Prop × List V)
  | [] => some (True, [])
  | r :: rs => match vres T st r, vress T st rs with
    | some (p, x), some (q, xs) => some (p ∧ q, x :: xs)
    | _, _ => none
def tupV : List V → V
  | [x] => x
  | xs => .tup xs
/-- Results, and what is still wanted of the objects. -/
def outQ (k0 : Nat) (Q : V → List Ob → Prop) (xs : List V) (ob : List Ob) : Prop :=
  ∃ xs' objs, xs'.length = xs.length ∧ (xs'.length = 1 ∨ xs'.all V.notTup = true) ∧ Gh ⟨xs.length, k0, false⟩ ⟨argSlots 0 xs, ob⟩ ⟨argSlots 0 xs', objs⟩ ∧ Q (tupV xs') objs
def retQc (T : Nat → Option TI) (fn : Func) (k0 : Nat) (Q : V → List Ob → Prop) : X → St → Prop
  | .norm, st => ∃ p xs, vress T st fn.results.toList = some (p, xs) ∧ p ∧ outQ k0 Q xs st.ob
  | .ret, st => ∃ p xs, vress T st fn.results.toList = some (p, xs) ∧ p ∧ outQ k0 Q xs st.ob
  | .ex _, _ => False

section
variable {P : Program} {T : Nat → Option TI}

def resOf (tmps : Array Value) : ResultVar → Sem Value
  | .tmp t => pure (tmps.getD t undef)
  | .cell a t => do loadVar t (← asAddr (tmps.getD a undef))
theorem results_eq (fn : Func) (tmps : Array Value) : results fn tmps = (do
    let vs ← fn.results.mapM (resOf tmps)
    pure (if h : vs.size = 1 then vs[0] else .tuple vs)) := by
  unfold results
  congr 1

theorem vres_sound (hT : TabOK P T) {C Φ H st a w} (s : SimE C Φ H st a w) {x : ResultVar} {p : Prop} {r : V} (h : vres T st x = some (p, r)) (hp : p) : ∃ v, (resOf a.tmps x).run P w = .ok v w ∧ VRep (mkE Φ H st.ob w) r v := by
  cases x with
  | tmp t =>
    simp only [vres, Option.some.injEq, Prod.mk.injEq] at h
    obtain ⟨_, rfl⟩ := h
    exact ⟨_, rfl, s.slots t⟩
  | cell c t =>
    simp only [vres, vop] at h
    split at h
    case h_2 => cases h
    rename_i p' x' ob' hv
    simp only [Option.some.injEq, Prod.mk.injEq] at h
    obtain ⟨rfl, rfl⟩ := h
    split at hv
    case h_2 => cases hv
    rename_i i p' cs off ht hr
    have hx := s.eval (.tmp c)
    have he : a.eval (.tmp c) = a.tmps.getD c undef := rfl
    rw [he] at hx
    have conv : ∀ (p'' : Prop) (h3 : p'') (e : p'' = p') (u : Value), (Instr.loadAt t (a.tmps.getD c undef)).run P w = .ok u w → (resOf a.tmps (.cell c t)).run P w = .ok u w := by
      intro p'' h3 e u h4
      obtain ⟨b, o, us, hv', _⟩ := rdV_sound s.hs.sim hx hr (e ▸ h3)
      show (do loadVar t (← asAddr (a.tmps.getD c undef)) : Sem Value).run P w = _
      rw [hv'] at h4 ⊢
      simpa [Instr.loadAt, Instr.sureAddr, asAddr] using h4
    split at hv
    · rename_i ha
      simp only [Option.some.injEq, Prod.mk.injEq] at hv; obtain ⟨rfl, rfl, rfl⟩ := hv
      obtain ⟨u, h1, h2⟩ := (load_sound (P := P) hT s.hs.sim ht hx hr hp.1).1 ha hp.2
      exact ⟨u, conv _ hp.1 rfl u h1, h2⟩
    · rename_i ha
      simp only [Option.some.injEq, Prod.mk.injEq] at hv; obtain ⟨rfl, rfl, rfl⟩ := hv
      obtain ⟨u, h1, h2, _⟩ := (load_sound (P := P) hT s.hs.sim ht hx hr hp.1).2 (by simpa using ha) (cs.getD off .junk) (by rw [List.getD_eq_getElem?_getD, List.getElem?_eq_getElem hp.2]; rfl)
      exact ⟨u, conv _ hp.1 rfl u h1, h2⟩

theorem vress_sound (hT : TabOK P T) {C Φ H st a w} (s : SimE C Φ H st a w) : ∀ {rs : List ResultVar} {p : Prop} {xs : List V}, vress T st rs = some (p, xs) → p →
    ∃ vs : List Value, (rs.mapM (resOf a.tmps)).run P w = .ok vs w ∧ VReps .any (mkE Φ H st.ob w) xs vs
  | [], p, xs, h, hp => by
    simp only [vress, Option.some.injEq, Prod.mk.injEq] at h
    obtain ⟨_, rfl⟩ := h
    exact ⟨[], by simp, rfl⟩
  | r :: rs, p, xs, h, hp => by
    simp only [vress] at h
    split at h
    case h_2 => cases h
    rename_i p1 x p2 ys h1 h2
    simp only [Option.some.injEq, Prod.mk.injEq] at h
    obtain ⟨rfl, rfl⟩ := h
    obtain ⟨v, g1, g2⟩ := vres_sound hT s h1 hp.1
    obtain ⟨vs, g3, g4⟩ := vress_sound hT s h2 hp.2
    refine ⟨v :: vs, ?_, v, vs, rfl, trivial, g2, g4⟩
    rw [List.mapM_cons]
    simp [g1, g3]

theorem results_run {fn : Func} {tmps : Array Value} {w : World} {vs : List Value} (hvs : (fn.results.toList.mapM (resOf tmps)).run P w = .ok vs w) : (results fn tmps).run P w = .ok (if h : vs.toArray.size = 1 then vs.toArray[0] else .tuple vs.toArray) w := by
  rw [results_eq]
  have hfr : fn.results = fn.results.toList.toArray := by simp
  rw [hfr, List.mapM_toArray]
  simp only [Sem.run_bind, Sem.run_map, hvs]
  simp only [Result.andThen_ok, Sem.run_pure]
theorem tupV_rep {E : Env} {xs : List V} {vs : List Value} (h : VReps .any E xs vs) (hn : xs.length = 1 ∨ xs.all V.notTup = true) : VRep E (tupV xs) (if h : vs.toArray.size = 1 then vs.toArray[0] else .tuple vs.toArray) := by
  have hl := h.length
  by_cases h1 : xs.length = 1
  · match xs, h1, h with
    | [x], _, ⟨v, r, e, _, g3, g4⟩ =>
      have g5 : r = [] := g4
      subst g5
      subst e
      simpa [tupV] using g3
  · rw [dif_neg (by simpa [← hl] using h1)]
    have hn' := hn.resolve_left h1
    have e : tupV xs = .tup xs := by
      match xs, h1 with
      | [], _ => rfl
      | _ :: _ :: _, _ => rfl
    rw [e]
    exact ⟨vs.toArray, hn', rfl, by simpa using h⟩
theorem reps_of_slots {E : Env} : ∀ {xs : List V} {vs : List Value}, xs.length = vs.length → (∀ i, VRep E (xs.getD i .junk) (vs.getD i undef)) → VReps .any E xs vs
  | [], [], _, _ => rfl
  | [], _ :: _, h, _ => by simp at h
  | _ :: _, [], h, _ => by simp at h
  | x :: xs, v :: vs, h, k => ⟨v, vs, rfl, trivial, by simpa using k 0, reps_of_slots (by simpa using h) fun i => by simpa using k (i + 1)⟩

theorem VC_of_vwp_c (hT : TabOK P T) {k : Nat} {fn : Func} {c : Code} {args : List V} {ob : List Ob} {Q : V → List Ob → Prop} (he : Ent P k) (hf : P.funcs[k]? = some fn) (hb : fn.body = some c) (hn : args.length ≤ fn.ntmps)
    (h : ∀ R : X → St → Prop, (∀ x st, (∃ st', Gh ⟨fn.ntmps, ob.length, false⟩ st st' ∧ retQc T fn ob.length Q x st') → R x st) → vwp P ⟨fn.ntmps, ob.length, false⟩ c R ⟨argSlots 0 args, ob⟩) : VC P k args ob Q := by
  replace h := vwp_post (h _ fun _ _ h => h)
  refine ⟨he, fun Φ H w vals hs hv => calls_of_gw hf hb ?_⟩
  have hl := hv.length
  simp only [Array.length_toList] at hl
  have s : SimE (ctx Φ H ob w ⟨fn.ntmps, ob.length, false⟩) Φ H ⟨argSlots 0 args, ob⟩ { tmps := vals ++ Array.replicate (fn.ntmps - vals.size) undef, defers := [] } w := by
    refine ⟨HS.refl hs, ⟨[], rfl, Marks.nil⟩, by simp [ctx]; omega, rfl, fun i => ?_⟩
    simp only [getS_argSlots, Nat.zero_le, if_true, Nat.sub_zero]
    rcases Nat.lt_or_ge i args.length with hi | hi
    · obtain ⟨u, hu, _, hr⟩ := hv.get i args[i] (List.getElem?_eq_getElem hi)
      have e1 : args.getD i .junk = args[i] := by simp [List.getD_eq_getElem?_getD, List.getElem?_eq_getElem hi]
      have e2 : (vals ++ Array.replicate (fn.ntmps - vals.size) undef).getD i undef = u := by
        have hu' : vals[i]? = some u := by simpa using hu
        rw [Array.getD_eq_getD_getElem?, Array.getElem?_append_left (by omega), hu']; rfl
      rw [e1, e2]; exact hr
    · have e1 : args.getD i .junk = .junk := by simp [List.getD_eq_getElem?_getD, List.getElem?_eq_none hi]
      rw [e1]; trivial
  refine gw_mono (h (ctx Φ H ob w ⟨fn.ntmps, ob.length, false⟩) rfl Φ H _ w s) fun e a w' q => ?_
  have key : ∀ Φ' H' st, SimE (ctx Φ H ob w ⟨fn.ntmps, ob.length, false⟩) Φ' H' st a w' → (∃ p xs, vress T st fn.results.toList = some (p, xs) ∧ p ∧ outQ ob.length Q xs st.ob) → ∃ w'' v, Shut P a.defers w' w'' ∧ (results fn a.tmps).run P w'' = .ok v w'' ∧ post Φ H ob w Q (.returned v) w'' := by
    rintro Φ' H' st s' ⟨p, xs, h1, h0, xs', objs, hle, hn', hg, h2⟩
    obtain ⟨w'', hsh, s'⟩ := s'.shut (P := P)
    obtain ⟨vs, k1, k2⟩ := vress_sound (P := P) hT s' h1 h0
    have q0 := s'.hs
    have hl2 := k2.length
    have s2 : SimE (ctx Φ H ob w ⟨xs.length, ob.length, false⟩) Φ' H' ⟨argSlots 0 xs, st.ob⟩ { tmps := vs.toArray, defers := [] } w'' := by
      refine ⟨⟨q0.os, q0.tape, q0.output, q0.size, q0.kept, q0.sim, q0.ext, q0.phi, q0.mine⟩, ⟨[], rfl, Marks.nil⟩, by simp [ctx, hl2], rfl, fun i => ?_⟩
      simp only [getS_argSlots, Nat.zero_le, if_true, Nat.sub_zero]
      rcases Nat.lt_or_ge i xs.length with hi | hi
      · obtain ⟨u, hu, _, hr⟩ := k2.get i xs[i] (List.getElem?_eq_getElem hi)
        have e1 : xs.getD i .junk = xs[i] := by simp [List.getD_eq_getElem?_getD, List.getElem?_eq_getElem hi]
        have e2 : vs.toArray.getD i undef = u := by rw [Array.getD_eq_getD_getElem?]; simp [hu]
        rw [e1, e2]; exact hr
      · have e1 : xs.getD i .junk = .junk := by simp [List.getD_eq_getElem?_getD, List.getElem?_eq_none hi]
        rw [e1]; trivial
    obtain ⟨Φ2, H2, s3⟩ := hg _ rfl _ _ _ _ s2
    have q := s3.hs
    have hr3 : VReps .any (mkE Φ2 H2 objs w'') xs' vs := reps_of_slots (by omega) fun i => by
      have := s3.slots i
      simp only [getS_argSlots, Nat.zero_le, if_true, Nat.sub_zero] at this
      rw [Array.getD_eq_getD_getElem?] at this
      simpa [List.getD_eq_getElem?_getD] using this
    exact ⟨w'', _, hsh, results_run k1, tupV xs', objs, Φ2, H2, ⟨q.os, q.tape, q.output, q.size, q.kept, q.sim, q.ext, q.phi, q.mine⟩, tupV_rep hr3 hn', h2⟩
  cases e <;> simp only [lft, retQc] at q
  · obtain ⟨Φ', H', st, s', q⟩ := q
    exact ⟨.inl rfl, key Φ' H' st s' q⟩
  · obtain ⟨_, _, _, _, q⟩ := q; exact q.elim
  · obtain ⟨Φ', H', st, s', q⟩ := q
    exact ⟨.inr rfl, key Φ' H' st s' q⟩
theorem retc_only {nt : Sh} {fn : Func} {k0 : Nat} {Q : V → List Ob → Prop} {sl : List (Nat × V)} {ob : List Ob} (ks : List Nat) (objs : List Ob) {p : Prop} {xs xs' : List V} (hr : vress T ⟨sl, ob⟩ fn.results.toList = some (p, xs)) (hp : p)
    (hn : ks.Nodup) (hh : hand ob (fOf ks ob.length) ks objs) (hk : pre k0 ks) (hs : slotsOK (vwAOK ob ks false) (argSlots 0 xs) (List.range xs.length)) (he : keepS ob ks (argSlots 0 xs) (List.range xs.length) = argSlots 0 xs')
    (hl : xs'.length = xs.length) (ht : xs'.length = 1 ∨ xs'.all V.notTup = true) (hq : Q (tupV xs') objs) : ∃ st', Gh nt ⟨sl, ob⟩ st' ∧ retQc T fn k0 Q .ret st' :=
  ⟨_, Gh.refl _ _, p, xs, hr, hp, xs', objs, hl, ht, Gh.to _ ks _ _ hn hh hk hs he, hq⟩
theorem normc_only {nt : Sh} {fn : Func} {k0 : Nat} {Q : V → List Ob → Prop} {sl : List (Nat × V)} {ob : List Ob} (ks : List Nat) (objs : List Ob) {p : Prop} {xs xs' : List V} (hr : vress T ⟨sl, ob⟩ fn.results.toList = some (p, xs)) (hp : p)
    (hn : ks.Nodup) (hh : hand ob (fOf ks ob.length) ks objs) (hk : pre k0 ks) (hs : slotsOK (vwAOK ob ks false) (argSlots 0 xs) (List.range xs.length)) (he : keepS ob ks (argSlots 0 xs) (List.range xs.length) = argSlots 0 xs')
    (hl : xs'.length = xs.length) (ht : xs'.length = 1 ∨ xs'.all V.notTup = true) (hq : Q (tupV xs') objs) : ∃ st', Gh nt ⟨sl, ob⟩ st' ∧ retQc T fn k0 Q .norm st' :=
  ⟨_, Gh.refl _ _, p, xs, hr, hp, xs', objs, hl, ht, Gh.to _ ks _ _ hn hh hk hs he, hq⟩
end
attribute [simp] vres vress tupV
@[simp] theorem range1 : List.range 1 = [0] := rfl
@[simp] theorem range2 : List.range 2 = [0, 1] := rfl
@[simp] theorem range3 : List.range 3 = [0, 1, 2] := rfl
@[simp] theorem range4 : List.range 4 = [0, 1, 2, 3] := rfl
end Go.VX

/- Which entries of a map have been gone through. -/
namespace Go.VX
open Go.RowKit
set_option linter.unusedVariables false
set_option linter.unusedSimpArgs false

/-- What is always so of a map. -/
theorem vwp_map {P : Program} {nt : Sh} {c : Code} {Q : X → St → Prop} {sl : List (Nat × V)} {ob : List Ob} (m : Nat) {es : List (V × V)} {bs : List Nat} {ck : Nat} (ho : ob[m]? = some (.map es bs ck))
    (h : es.length = bs.length → bs.Nodup → (∀ n ∈ bs, n < ck) → vwp P nt c Q ⟨sl, ob⟩) : vwp P nt c Q ⟨sl, ob⟩ := by
  intro C hC Φ H a w s
  have hr := s.hs.sim.rep m _ ho
  obtain ⟨q0, b, arr, g1, g2, g3, g4, g5, g6, g7, g8⟩ := hr
  refine h ?_ g7 g8 C hC Φ H a w s
  have := g4.length
  rw [← g6]
  simp at this ⊢
  omega

structure Seen (bs seen is : List Nat) : Prop where
  nd : is.Nodup
  lt : ∀ i ∈ is, i < bs.length
  eq : seen = is.map fun i => bs.getD i 0
theorem Seen.nil (bs : List Nat) : Seen bs [] [] := ⟨by simp, by simp, rfl⟩
theorem Seen.step {bs seen is : List Nat} (h : Seen bs seen is) {i n : Nat} (hi : bs[i]? = some n) (hn : n ∉ seen) : Seen bs (seen ++ [n]) (is ++ [i]) := by
  have hlt : i < bs.length := (List.getElem?_eq_some_iff.1 hi).1
  have hg : bs.getD i 0 = n := by simp [List.getD_eq_getElem?_getD, hi]
  refine ⟨?_, ?_, by rw [h.eq]; simp [hi]⟩
  · rw [List.nodup_append]
    refine ⟨h.nd, by simp, fun a ha b hb => ?_⟩
    simp only [List.mem_singleton] at hb
    subst hb
    intro e
    subst e
    exact hn (by rw [h.eq]; exact List.mem_map.2 ⟨a, ha, hg⟩)
  · intro j hj
    simp only [List.mem_append, List.mem_singleton] at hj
    rcases hj with q | q
    · exact h.lt j q
    · omega
theorem Seen.all {bs seen is : List Nat} (h : Seen bs seen is) (hb : bs.Nodup) (hall : ∀ n ∈ bs, n ∈ seen) : is.Perm (List.range bs.length) := by
  rw [List.perm_ext_iff_of_nodup h.nd List.nodup_range]
  intro i
  rw [List.mem_range]
  refine ⟨h.lt i, fun hi => ?_⟩
  have h1 := hall bs[i] (List.getElem_mem hi)
  rw [h.eq] at h1
  obtain ⟨j, hj, e⟩ := List.mem_map.1 h1
  have hjl := h.lt j hj
  have e2 : bs[j] = bs[i] := by simpa [List.getD_eq_getElem?_getD, List.getElem?_eq_getElem hjl] using e
  have : j = i := by
    have hp := List.pairwise_iff_getElem.1 hb
    rcases Nat.lt_trichotomy j i with q | q | q
    · exact absurd e2 (hp j i hjl hi q)
    · exact q
    · exact absurd e2.symm (hp i j hi hjl q)
  rwa [this] at hj
theorem Seen.fresh {bs seen is : List Nat} (h : Seen bs seen is) {i n : Nat} (hi : bs[i]? = some n) (hn : n ∉ seen) : i ∉ is := fun q => hn (by
  rw [h.eq]
  exact List.mem_map.2 ⟨i, q, by simp [List.getD_eq_getElem?_getD, hi]⟩)

/-- How many of those gone through are so. -/
def cntIs {α : Type} (p : α → Bool) (l : List α) (is : List Nat) : Nat := is.countP fun i => match l[i]? with
  | some a => p a
  | none => false
theorem cntIs_step {α : Type} (p : α → Bool) (l : List α) (is : List Nat) {i : Nat} {a : α} (h : l[i]? = some a) : cntIs p l (is ++ [i]) = cntIs p l is + (if p a = true then 1 else 0) := by
  simp [cntIs, List.countP_append, h, List.countP_cons]
theorem cntIs_range {α : Type} (p : α → Bool) : ∀ (l : List α), cntIs p l (List.range l.length) = l.countP p
  | [] => by simp [cntIs]
  | a :: l => by
    have := cntIs_range p l
    unfold cntIs at this ⊢
    simp only [List.length_cons, List.range_succ_eq_map, List.countP_cons, List.countP_map, Function.comp_def, List.getElem?_cons_succ, List.getElem?_cons_zero]
    rw [this]
theorem cntIs_all {α : Type} (p : α → Bool) {l : List α} {bs seen is : List Nat} (h : Seen bs seen is) (hb : bs.Nodup) (hl : l.length = bs.length) (hall : ∀ n ∈ bs, n ∈ seen) : cntIs p l is = l.countP p := by
  rw [← cntIs_range p l, hl]
  exact (h.all hb hall).countP_eq _
theorem cntIs_le {α : Type} (p : α → Bool) (l : List α) (is : List Nat) : cntIs p l is ≤ is.length := List.countP_le_length
theorem Seen.le {bs seen is : List Nat} (h : Seen bs seen is) : is.length ≤ bs.length := by
  have h1 : is.length = (List.filter (fun i => decide (i ∈ is)) (List.range bs.length)).length := by
    refine (List.Perm.length_eq ?_)
    rw [List.perm_ext_iff_of_nodup h.nd (List.nodup_range.filter _)]
    intro i
    simp only [List.mem_filter, List.mem_range, decide_eq_true_eq]
    exact ⟨fun q => ⟨h.lt i q, q⟩, fun q => q.2⟩
  rw [h1]
  exact Nat.le_trans (List.length_filter_le _ _) (by simp)

/-- A row that isn't there yet, in an object. -/
theorem Gh.virtC {nt : Sh} {sl : List (Nat × V)} {ob : List Ob} (id j esz : Nat) {cs : List V} (ho : ob[id]? = some (.live cs)) (hj : cs[j]? = some .nils) :
    Gh nt ⟨sl, ob⟩ ⟨sl, (ob ++ [Ob.live []]).set id (.live (cs.set j (.sl ob.length 0 esz 0 0)))⟩ := by
  intro C hC Φ H a w s
  have hst : HStep Φ H ob w Φ (upd H ob.length none) (ob ++ [Ob.live []]) w :=
    HStep.ofPush s.hs.sim rfl rfl rfl (fun _ _ => rfl) (Nat.le_refl _) (fun b hb => by cases hb) (fun E' _ _ _ => rfl)
  have s' := s.step hst
  have hid : id < ob.length := (List.getElem?_eq_some_iff.1 ho).1
  have ho' : (ob ++ [Ob.live []])[id]? = some (.live cs) := by rw [List.getElem?_append_left hid]; exact ho
  have hr := s'.hs.sim.rep id _ ho'
  have hst2 : HStep Φ (upd H ob.length none) (ob ++ [Ob.live []]) w Φ (upd (upd H ob.length none) id ((upd H ob.length none) id)) ((ob ++ [Ob.live []]).set id (.live (cs.set j (.sl ob.length 0 esz 0 0)))) w := by
    refine HStep.ofChange s'.hs.sim ho' rfl rfl rfl rfl (fun _ _ _ => rfl) (Nat.le_refl _) (fun b hb => hb) (fun b hb => .inl hb) (fun b hb => .inl hb) (fun T' hT' => ?_) (fun E' hE hw hΦ => ?_)
    · exact ⟨cs.length, rfl, by simp [Ob.len] at hT'; omega, fun _ => ⟨rfl, fun _ _ => rfl⟩⟩
    · cases hH : (upd H ob.length none) id with
      | none =>
        rw [hH] at hr
        have : cs = [] := hr
        subst this
        simp at hj
      | some b =>
        rw [hH] at hr
        obtain ⟨c, el, g1, g2, g3, g4⟩ := hr
        refine ⟨c, el, by rw [hw]; exact g1, by rw [hΦ]; exact g2, by simpa using g3, ?_⟩
        rw [List.length_set]
        obtain ⟨u, k1, _, k2⟩ := g4.get j _ hj
        simp only [VRep] at k2
        subst k2
        have hv : VRep (mkE Φ (upd H ob.length none) (ob ++ [Ob.live []]) w) (.sl ob.length 0 esz 0 0) (.slice none 0 0) := by
          refine ⟨rfl, by simp [mkE], fun T' hT' => ⟨by simp, fun _ => ?_⟩⟩
          simp only [mkE, upd_same, SlV]
          simp
        have := g4.set j (x := .sl ob.length 0 esz 0 0) rfl hv
        have e : (c.toList.take cs.length).set j (.slice none 0 0) = c.toList.take cs.length := by
          apply List.ext_getElem?
          intro i
          rw [List.getElem?_set]
          split
          · rename_i hij
            subst hij
            split
            · exact k1.symm
            · rename_i hlt; rw [List.getElem?_eq_none (by omega)]
          · rfl
        rw [e] at this
        exact VReps.ext hE _ _ this
  exact ⟨_, _, s'.step hst2⟩
end Go.VX

/- Rows of structs, as cells one behind the other. -/
namespace Go.VX
open Go.RowKit
set_option linter.unusedVariables false
set_option linter.unusedSimpArgs false

/-- A struct as cells, and how many they are. -/
class Row (α : Type) where
  cells : α → List V
  sz : Nat
  len : ∀ a, (cells a).length = sz
  rn : ∀ (f : Nat → Nat) a, (cells a).map (rn1 f) = cells a
def rowsV {α : Type} [Row α] (l : List α) : List V := l.flatMap Row.cells
section
variable {α : Type} [Row α]
@[simp] theorem rowsV_nil : rowsV ([] : List α) = [] := rfl
theorem rowsV_cons (a : α) (l : List α) : rowsV (a :: l) = Row.cells a ++ rowsV l := rfl
theorem rowsV_one (a : α) : rowsV [a] = Row.cells a := by simp [rowsV]
theorem rowsV_append (l m : List α) : rowsV (l ++ m) = rowsV l ++ rowsV m := by simp [rowsV]
theorem rowsV_snoc (l : List α) (a : α) : rowsV (l ++ [a]) = rowsV l ++ Row.cells a := by simp [rowsV]
theorem rowsV_length (l : List α) : (rowsV l).length = l.length * Row.sz α := by
  induction l with
  | nil => simp [rowsV]
  | cons x l ih => rw [rowsV_cons, List.length_append, ih, Row.len, List.length_cons, Nat.add_mul, Nat.one_mul, Nat.add_comm]
@[simp] theorem rowsV_rn (f : Nat → Nat) (l : List α) : (rowsV l).map (rn1 f) = rowsV l := by
  induction l with
  | nil => rfl
  | cons x l ih => rw [rowsV_cons, List.map_append, ih, Row.rn]
@[simp] theorem rowsV_rnL (f : Nat → Nat) (l : List α) : rnO f (.live (rowsV l)) = .live (rowsV l) := by
  simp
@[simp] theorem rowsV_rnF (f : Nat → Nat) (l : List α) : rnO f (.frz (rowsV l)) = .frz (rowsV l) := by
  simp
theorem rowsV_drop : ∀ {l : List α} {i : Nat} {x : α}, l[i]? = some x → List.drop (i * Row.sz α) (rowsV l) = Row.cells x ++ rowsV (l.drop (i + 1))
  | [], i, x, h => by simp at h
  | y :: l, 0, x, h => by simp at h; subst h; simp [rowsV]
  | y :: l, i + 1, x, h => by
    have e : (i + 1) * Row.sz α = Row.sz α + i * Row.sz α := by rw [Nat.add_mul]; omega
    rw [e, rowsV_cons, ← List.drop_drop]
    have e3 : List.drop (Row.sz α) (Row.cells y ++ rowsV l) = rowsV l := by
      rw [← Row.len y, List.drop_left]
    rw [e3, rowsV_drop (by simpa using h)]
    simp
theorem rowsV_take {l : List α} (i : Nat) (h : i ≤ l.length) : List.take (i * Row.sz α) (rowsV l) = rowsV (l.take i) := by
  have e : l = l.take i ++ l.drop i := (List.take_append_drop i l).symm
  have hl : (rowsV (l.take i)).length = i * Row.sz α := by rw [rowsV_length, List.length_take, Nat.min_eq_left h]
  calc List.take (i * Row.sz α) (rowsV l) = List.take (i * Row.sz α) (rowsV (l.take i ++ l.drop i)) := by rw [← e]
    _ = rowsV (l.take i) := by rw [rowsV_append, ← hl, List.take_left]
theorem rowsV_dropAll {l : List α} (i : Nat) (h : i ≤ l.length) : List.drop (i * Row.sz α) (rowsV l) = rowsV (l.drop i) := by
  have e : l = l.take i ++ l.drop i := (List.take_append_drop i l).symm
  have hl : (rowsV (l.take i)).length = i * Row.sz α := by rw [rowsV_length, List.length_take, Nat.min_eq_left h]
  calc List.drop (i * Row.sz α) (rowsV l) = List.drop (i * Row.sz α) (rowsV (l.take i ++ l.drop i)) := by rw [← e]
    _ = rowsV (l.drop i) := by rw [rowsV_append, ← hl, List.drop_left]
theorem rowsV_get {l : List α} {i j : Nat} {x : α} (h : l[i]? = some x) (hj : j < Row.sz α) : (rowsV l)[i * Row.sz α + j]? = (Row.cells x)[j]? := by
  rw [← List.getElem?_drop, rowsV_drop h, List.getElem?_append_left (by rw [Row.len]; exact hj)]
theorem rowsV_row {l : List α} {i : Nat} {x : α} (h : l[i]? = some x) : List.take (Row.sz α) (List.drop (i * Row.sz α) (rowsV l)) = Row.cells x := by
  rw [rowsV_drop h, ← Row.len x, List.take_left]
/-- A row put in the place of one. -/
theorem rowsV_put {l : List α} {i : Nat} (h : i < l.length) (y : α) : List.take (i * Row.sz α) (rowsV l) ++ (Row.cells y ++ List.drop (i * Row.sz α + Row.sz α) (rowsV l)) = rowsV (l.set i y) := by
  have e : i * Row.sz α + Row.sz α = (i + 1) * Row.sz α := by rw [Nat.add_mul]; omega
  rw [rowsV_take i (by omega), e, rowsV_dropAll (i + 1) (by omega), ← rowsV_cons, ← rowsV_append, List.set_eq_take_append_cons_drop, if_pos h]
/-- One cell put. -/
theorem rowsV_set {l : List α} {i j : Nat} {x y : α} {v : V} (h : l[i]? = some x) (hj : j < Row.sz α) (e : (Row.cells x).set j v = Row.cells y) : (rowsV l).set (i * Row.sz α + j) v = rowsV (l.set i y) := by
  have hi : i < l.length := (List.getElem?_eq_some_iff.1 h).1
  have hl : (rowsV (l.take i)).length = i * Row.sz α := by rw [rowsV_length, List.length_take, Nat.min_eq_left (by omega)]
  have e1 : l = l.take i ++ x :: l.drop (i + 1) := by
    have := List.take_append_drop i l
    rw [List.drop_eq_getElem_cons hi] at this
    rw [(List.getElem?_eq_some_iff.1 h).2] at this
    exact this.symm
  have e2 : l.set i y = l.take i ++ y :: l.drop (i + 1) := by rw [List.set_eq_take_append_cons_drop, if_pos hi]
  have e3 : rowsV l = rowsV (l.take i) ++ (Row.cells x ++ rowsV (l.drop (i + 1))) := by
    rw [← rowsV_cons, ← rowsV_append, ← e1]
  rw [e2, rowsV_append, rowsV_cons, e3, List.set_append, if_neg (by omega), hl, Nat.add_sub_cancel_left, List.set_append, if_pos (by rw [Row.len]; exact hj), e]
end

/-- Where the first one is that is so; -1: nowhere. -/
theorem findIdx_some {α : Type} {p : α → Bool} {l : List α} {i : Nat} {x : α} (hx : l[i]? = some x) (hp : p x = true) (hno : ∀ j y, j < i → l[j]? = some y → p y = false) : l.findIdx? p = some i := by
  obtain ⟨hi, e⟩ := List.getElem?_eq_some_iff.1 hx
  rw [List.findIdx?_eq_some_iff_getElem]
  refine ⟨hi, by rw [e]; exact hp, fun j hj => ?_⟩
  have := hno j _ hj (List.getElem?_eq_getElem (by omega))
  simp [this]
theorem findIdx_none {α : Type} {p : α → Bool} {l : List α} (hno : ∀ (j : Nat) y, j < l.length → l[j]? = some y → p y = false) : l.findIdx? p = none := by
  rw [List.findIdx?_eq_none_iff]
  intro x hx
  obtain ⟨j, hj, e⟩ := List.getElem_of_mem hx
  exact hno j x hj (by rw [List.getElem?_eq_getElem hj, e])
def oI (o : Option Nat) : Int := match o with
  | some i => i
  | none => -1
/-- The first rows and one more. -/
theorem take_snoc {α : Type} {l : List α} {i : Nat} {x : α} (h : l[i]? = some x) : l.take (i + 1) = l.take i ++ [x] := by
  rw [List.take_add_one, h]; rfl
end Go.VX

/- Operations one by one, each guard's way by itself: for groups that can be looked at only where the guard is met. -/
namespace Go.VX
open Go.RowKit
set_option linter.unusedVariables false

def vrunI (P : Program) (T : Nat → Option TI) (nt : Sh) (ops : List Oper) : List Oper → (St → Prop) → St → Prop
  | [], Q, st => Q st
  | o :: rest, Q, st => match o.guard with
    | none => vstep P T nt o st (vrunI P T nt ops rest Q)
    | some g => match gslot ops g with
      | some s => match getS st.sl s.1 with
        | .bool b => if b = s.2 then vstep P T nt o ⟨setS st.sl s.1 (.bool s.2), st.ob⟩ (vrunI P T nt ops rest Q)
              else okd nt o.dst ∧ vrunI P T nt ops rest Q ⟨putD (setS st.sl s.1 (.bool (!s.2))) o.dst .junk, st.ob⟩
        | _ => False
      | none => False
section
variable {P : Program} {T : Nat → Option TI} {nt : Sh}
theorem vrunI_sound (hT : TabOK P T) {ops : List Oper} : ∀ (l : List Oper) (Q : St → Prop) (st : St), vrunI P T nt ops l Q st → ∀ (C : Ctx), C.nt = nt → ∀ Φ H a w, SimE C Φ H st a w → ∀ Qx : Exit → Act → World → Prop,
    (∀ Φ' H' st' a' w', SimE C Φ' H' st' a' w' → Q st' → Qx .normal a' w') → wpList P ops.toArray Qx l a w
  | [], Q, st, h, C, hC, Φ, H, a, w, s, Qx, hq => by
    simp only [vrunI] at h
    exact hq _ _ _ _ _ s h
  | o :: rest, Q, st, h, C, hC, Φ, H, a, w, s, Qx, hq => by
    simp only [vrunI] at h
    have go : ∀ st' a' w' Φ' H', SimE C Φ' H' st' a' w' → vrunI P T nt ops rest Q st' → wpList P ops.toArray Qx rest a' w' := fun st' a' w' Φ' H' s' k =>
      vrunI_sound hT rest Q st' k C hC Φ' H' a' w' s' Qx hq
    split at h
    · rename_i hg
      unfold wpList
      rw [if_pos (by simp [Region.wanted, hg])]
      exact .inl (vstep_sound hT h hC s (fun Φ' H' st' a' w' s' k => go _ _ _ _ _ s' k) trivial)
    · rename_i g hg
      split at h
      case h_2 => exact h.elim
      rename_i sg hsg
      split at h
      case h_2 => exact h.elim
      rename_i b hb
      unfold wpList
      by_cases hbw : b = sg.2
      · rw [if_pos hbw] at h
        rw [if_pos (wanted_of hg hsg (by rw [s.boolAt hb, hbw]))]
        exact .inl (vstep_sound hT h hC (s.known hb hbw) (fun Φ' H' st' a' w' s' k => go _ _ _ _ _ s' k) trivial)
      · have hnw := not_wanted (ops := ops) (a := a) hg hsg (by rw [s.boolAt hb]; intro e; exact hbw (by simpa using e))
        rw [hnw]
        rw [if_neg hbw] at h
        obtain ⟨h1, h2⟩ := h
        simp only [Bool.false_eq_true, if_false]
        refine go _ _ _ _ _ ((s.known hb (b' := !sg.2) (by cases b <;> cases hq2 : sg.2 <;> simp_all)).put (x := .junk) trivial ?_) h2
        intro i e
        rw [e] at h1
        rw [hC]; exact h1
theorem vwp_regionI (hT : TabOK P T) {id : Nat} {ops : List Oper} {Q : X → St → Prop} {st : St} (h : vrunI P T nt ops ops (Q .norm) st) (hd : nt.rd = true → ops.all nd = true := by first | (intro h; cases h; done) | (intro _; simp [nd])) : vwp P nt (.region id ops.toArray false) Q st := by
  intro C hC Φ H a w s
  exact gw_region_lit (fun ⟨_, _, h⟩ => h) hd (vrunI_sound hT ops _ st h C hC Φ H a w s _ (fun Φ' H' st' a' w' s' q => ⟨Φ', H', st', s', q⟩))
end
section
variable {P : Program} {T : Nat → Option TI} {nt : Sh} {ops rest : List Oper} {Q K : St → Prop} {sl : List (Nat × V)} {ob : List Ob} {d : Option Nat} {o : Oper}
@[simp] theorem vrunI_nil : vrunI P T nt ops [] Q ⟨sl, ob⟩ = Q ⟨sl, ob⟩ := by simp only [vrunI]
@[simp] theorem vrunI_cons : vrunI P T nt ops (o :: rest) Q ⟨sl, ob⟩ = match o.guard with
    | none => vstep P T nt o ⟨sl, ob⟩ (vrunI P T nt ops rest Q)
    | some g => match gslot ops g with
      | some s => match getS sl s.1 with
        | .bool b => if b = s.2 then vstep P T nt o ⟨setS sl s.1 (.bool s.2), ob⟩ (vrunI P T nt ops rest Q)
              else okd nt o.dst ∧ vrunI P T nt ops rest Q ⟨putD (setS sl s.1 (.bool (!s.2))) o.dst .junk, ob⟩
        | _ => False
      | none => False := by rw [vrunI.eq_2]
end
end Go.VX

/- Short forms for walks: what is asked is settled by default. -/
namespace Go.VX
open Go.RowKit
set_option linter.unusedVariables false
set_option linter.unusedSimpArgs false

@[simp] theorem toNat_cc (a b : Nat) : ((a : Int) + (b : Int)).toNat = a + b := by omega
@[simp] theorem toNat_c1 (a : Nat) : ((a : Int) + 1).toNat = a + 1 := by omega
@[simp] theorem toNat_ccc (a b c : Nat) : ((a : Int) + (b : Int) + (c : Int)).toNat = a + b + c := by omega
@[simp] theorem toNat_cc1 (a b : Nat) : ((a : Int) + (b : Int) + 1).toNat = a + b + 1 := by omega
@[simp] theorem bits_i64 : IntKind.i64.bits = 64 := rfl
@[simp] theorem bits_u64 : IntKind.u64.bits = 64 := rfl
@[simp] theorem bits_u32 : IntKind.u32.bits = 32 := rfl
@[simp] theorem bits_u8 : IntKind.u8.bits = 8 := rfl
@[simp] theorem take_map_len {α β : Type} (f : α → β) (l : List α) : List.take l.length (List.map f l) = List.map f l := List.take_of_length_le (by simp)
@[simp] theorem rn1_int_comp {α : Type} (f : Nat → Nat) (k : IntKind) (g : α → Int) : rn1 f ∘ V.int k ∘ g = V.int k ∘ g := rfl
section
variable {P : Program} {nt : Sh} {Q : X → St → Prop} {st : St}
/-- A loop: the states at its head, by what they hang on; what falls. -/
theorem vwp_loop_s {α : Type} {c : Code} (S : α → St) (I : α → Prop) (μ : α → Nat) (a : α) (g : Gh nt st (S a)) (h0 : I a)
    (round : ∀ a, I a → ∀ K : St → Prop, (∀ a' st', Gh nt st' (S a') → I a' → μ a' < μ a → K st') → vwp P nt c (thenQ K Q) (S a)) : vwp P nt (.loop c) Q st :=
  vwp_gh g (vwp_loop_k (fun m st => ∃ a, I a ∧ m = μ a ∧ st = S a) (μ a) ⟨a, h0, rfl, rfl⟩ fun n st hI K hK => by
    obtain ⟨a, h1, rfl, rfl⟩ := hI
    exact round a h1 K fun a' st' g' h2 h3 => hK st' ⟨S a', g', μ a', h3, a', h2, rfl, rfl⟩)
/-- A sequence through a middle: the states there, by what they hang on. -/
theorem vwp_cut_s {α : Type} {x y : Code} (S : α → St) (I : α → Prop) (h : ∀ K : St → Prop, (∀ a st', Gh nt st' (S a) → I a → K st') → vwp P nt x (thenQ K Q) st)
    (k : ∀ a, I a → vwp P nt y Q (S a)) : vwp P nt (.seq x y) Q st :=
  vwp_cut_k (fun st' => ∃ a, Gh nt st' (S a) ∧ I a) (fun K hK => h K fun a st' g hI => hK st' ⟨a, g, hI⟩) fun st' ⟨a, g, hI⟩ => vwp_gh g (k a hI)

theorem Gh.to_k {nt : Sh} {sl : List (Nat × V)} {ob : List Ob} (ts : List Nat) (ks : List Nat) {sl' : List (Nat × V)} {objs : List Ob}
    (he : keepS ob ks sl ts = sl' := by simp) (hh : hand ob (fOf ks ob.length) ks objs := by simp) (hs : slotsOK (vwAOK ob ks false) sl ts := by simp) (hn : ks.Nodup := by simp) (hk : pre nt.k0 ks := by rfl) : Gh nt ⟨sl, ob⟩ ⟨sl', objs⟩ :=
  Gh.to ts ks sl' objs hn hh hk hs he
theorem ret_k {nt : Sh} {fn : Func} {Q : V → List Ob → Prop} {sl : List (Nat × V)} {ob : List Ob} (ts : List Nat) (ks : List Nat) (objs : List Ob) (r : V) (hq : Q r objs)
    (hh : hand ob (fOf ks ob.length) ks objs := by simp) (hs : slotsOK (vwAOK ob ks false) sl ts := by simp) (hr : retV (keepS ob ks sl ts) fn.results.toList = some r := by simp) (hn : ks.Nodup := by simp) (hk : pre nt.k0 ks := by rfl) : ∃ st', Gh nt ⟨sl, ob⟩ st' ∧ retQ fn Q .ret st' :=
  ret_only ts ks objs hn hh hk hs hr hq
theorem norm_k {nt : Sh} {fn : Func} {Q : V → List Ob → Prop} {sl : List (Nat × V)} {ob : List Ob} (ts : List Nat) (ks : List Nat) (objs : List Ob) (r : V) (hq : Q r objs)
    (hh : hand ob (fOf ks ob.length) ks objs := by simp) (hs : slotsOK (vwAOK ob ks false) sl ts := by simp) (hr : retV (keepS ob ks sl ts) fn.results.toList = some r := by simp) (hn : ks.Nodup := by simp) (hk : pre nt.k0 ks := by rfl) : ∃ st', Gh nt ⟨sl, ob⟩ st' ∧ retQ fn Q .norm st' :=
  norm_only ts ks objs hn hh hk hs hr hq
/-- A call. -/
theorem vcall_k {P : Program} {nt : Sh} {st : St} {k : Nat} {args : List V} {K : V → List Ob → Prop} (ρ : List Nat) {args' : List V} {objs : List Ob} {Q : V → List Ob → Prop}
    (hv : VC P k args' objs Q) (hK : ∀ r ob', Q r ob' → K (rnV (fOf ρ st.ob.length) r) (back st.ob ρ ob')) (hh : hand st.ob (fOf ρ st.ob.length) ρ objs := by simp) (ha : args.map (vwA st.ob ρ false) = args' := by simp) (hok : allOK (vwAOK st.ob ρ false) args := by simp) (hn : ρ.Nodup := by simp) : vcall P nt st k args K :=
  vcall_by0 ρ hv hn hh ha hok hK
/-- .. whose callee takes what isn't handed over for frozen, and keeps nothing of it. -/
theorem vcall_z {P : Program} {nt : Sh} {st : St} {k : Nat} {args : List V} {K : V → List Ob → Prop} (ρ : List Nat) {args' : List V} {objs : List Ob} {Q : V → List Ob → Prop}
    (hv : VC P k args' objs Q) (hz : ∀ r ob', Q r ob' → r.nofz = true ∧ ∀ o ∈ ob', o.nofz = true) (hK : ∀ r ob', Q r ob' → K (rnV (fOf ρ st.ob.length) r) (back st.ob ρ ob')) (hh : hand st.ob (fOf ρ st.ob.length) ρ objs := by simp) (ha : args.map (vwA st.ob ρ true) = args' := by simp) (hok : allOK (vwAOK st.ob ρ true) args := by simp) (hn : ρ.Nodup := by simp) : vcall P nt st k args K :=
  vcall_by ρ true hv hn hh ha hok fun r ob' q => ⟨fun _ => hz r ob' q, hK r ob' q⟩
theorem getI {α : Type} {l : List α} {i : Nat} (h : i < l.length) : ∃ v, l[i]? = some v := ⟨_, List.getElem?_eq_getElem h⟩
end
end Go.VX

/- Go's sort of ints in place, as a contract over abstract values. -/
namespace Go.VX
open Go.RowKit
set_option linter.unusedVariables false
set_option linter.unusedSimpArgs false

theorem reps_ints {E : Env} {q : Fl} {k : IntKind} : ∀ {l : List Int} {us : List Value}, VReps q E (l.map (V.int k)) us → us = l.map (Value.int k)
  | [], us, h => by simpa [VReps] using h
  | x :: l, us, ⟨u, r, h1, _, h2, h3⟩ => by
    subst h1
    simp only [VRep] at h2
    rw [List.map_cons, h2, reps_ints h3]
theorem ints_reps {E : Env} {k : IntKind} : ∀ (l : List Int), VReps .cell E (l.map (V.int k)) (l.map (Value.int k))
  | [] => rfl
  | x :: l => ⟨_, _, rfl, rfl, rfl, ints_reps l⟩

theorem HS.ofStep {Φ H ob w nt Φ' H' ob' w'} (hs : HSim Φ H ob w) (h : HStep Φ H ob w Φ' H' ob' w') : HS (ctx Φ H ob w nt) Φ' H' ob' w' := (HS.refl hs).step h

/-- What a row's cells become is told of the whole row. -/
theorem VC_inplace {P : Program} {k : Nat} {L M : List Int} (hl : M.length = L.length) (he : Ent P k)
    (hs : ∀ (b cap : Nat) (w : World), (∀ j, j < L.length → w.cell? ⟨b, 0 + j, none⟩ = some (.int .i64 L[j]!) ∧ w.frozen? ⟨b, 0 + j, none⟩ = false) → b < w.heap.size →
      Calls P k #[.slice (some ⟨b, 0, none⟩) L.length cap] w fun e w' => e = .returned (.tuple #[]) ∧ ∃ n os, w' = Sort.grow (Sort.putRow (Value.int .i64) (Sort.ahead w n) b 0 M.toArray) os)
    (h0 : L = [] → ∀ p cap w, Calls P k #[.slice p 0 cap] w fun e w' => e = .returned (.tuple #[]) ∧ w' = w) :
    VC P k [.sl 0 L.length 1 0 L.length] [.live (L.map (.int .i64))] (fun r ob' => r = .tup [] ∧ ob' = [.live (M.map (.int .i64))]) := by
  refine ⟨he, fun Φ H w vals hsim hv => ?_⟩
  obtain ⟨u, r, h1, _, h2, h3⟩ := hv
  simp only [VReps] at h3
  subst h3
  have hvals : vals = #[u] := by apply Array.ext'; simpa using h1
  subst hvals
  obtain ⟨_, _, h2⟩ := h2
  obtain ⟨_, h2⟩ := h2 L.length (by simp [mkE, Lof, Ob.len])
  replace h2 := h2 rfl
  have hr := hsim.rep 0 _ (by rfl)
  simp only [mkE] at h2 hr
  cases hH : H 0 with
  | none =>
    rw [hH] at h2 hr
    obtain ⟨e1, _, _, rfl⟩ := h2
    have hL : L = [] := List.length_eq_zero_iff.1 e1
    have hM : M = [] := List.length_eq_zero_iff.1 (by omega)
    refine (h0 hL none 0 w).mono ?_
    rintro e w' ⟨rfl, rfl⟩
    exact ⟨.tup [], _, Φ, H, HS.refl hsim, ⟨#[], rfl, rfl, rfl⟩, rfl, by rw [hL, hM]⟩
  | some b =>
    rw [hH] at h2 hr
    obtain ⟨cap, rfl, e2, e3, e4⟩ := h2
    obtain ⟨c, el, g1, g2, g3, g4⟩ := hr
    simp only [List.length_map] at g3 g4
    have g1' : w.heap[b]? = some (.cells c el (0, 0)) := g1
    have hc := reps_ints g4
    have hcell : ∀ j, j < L.length → w.cell? ⟨b, 0 + j, none⟩ = some (.int .i64 L[j]!) ∧ w.frozen? ⟨b, 0 + j, none⟩ = false := by
      intro j hj
      have q : (c.toList.take L.length)[j]? = some (.int .i64 L[j]!) := by
        rw [hc, List.getElem?_map, List.getElem?_eq_getElem hj]
        simp [hj]
      rw [List.getElem?_take, if_pos hj] at q
      refine ⟨?_, by simp [World.frozen?, g1']⟩
      simp only [World.cell?, g1', Nat.zero_add]
      simpa using q
    refine (hs b cap w hcell (lt_of_heap g1')).mono ?_
    rintro e w' ⟨rfl, n, os, rfl⟩
    have hlt := lt_of_heap g1'
    obtain ⟨W, hW⟩ : ∃ W, Sort.putRow (Value.int .i64) (Sort.ahead w n) b 0 M.toArray = W := ⟨_, rfl⟩
    rw [hW]
    have hWs : W.heap.size = w.heap.size := by rw [← hW]; simp [Sort.putRow, Sort.mapBlock, Sort.ahead]
    have hWb : W.heap[b]? = some (.cells (Sort.putCells (Value.int .i64) 0 M.toArray c) el (0, 0)) := by
      rw [← hW]
      simp [Sort.putRow, Sort.mapBlock, Sort.ahead, Array.getElem?_modify, g1', Sort.onCells]
    have hWo : ∀ i, i ≠ b → W.heap[i]? = w.heap[i]? := fun i hi => by
      rw [← hW]
      simp [Sort.putRow, Sort.mapBlock, Sort.ahead, Array.getElem?_modify, Ne.symm hi]
    have hGs : (Sort.grow W os).heap.size = w.heap.size + os.size := by simp [hWs]
    have hG : ∀ i, i < w.heap.size → (Sort.grow W os).heap[i]? = W.heap[i]? := fun i hi => by
      simp only [Sort.grow]
      rw [Array.getElem?_append_left (by omega)]
    have hpc : (Sort.putCells (Value.int .i64) 0 M.toArray c).size = c.size := by simp [Sort.putCells]
    have hdr : w.drawn ≤ (Sort.grow W os).drawn := by rw [← hW]; exact Nat.le_add_right _ _
    have hst := HStep.ofChange (Φ' := Φ) (x := some b) (o' := .live (M.map (.int .i64))) (w' := Sort.grow W os) hsim (i := 0) (o := .live (L.map (.int .i64))) rfl rfl (by rw [← hW]; rfl) (by rw [← hW]; rfl) (by rw [← hW]; rfl)
      (fun i hi hn => (hG i hi).trans (hWo i fun e => hn (e ▸ hH))) (by omega) (fun _ h => h) (fun _ h => .inl h) (fun b' hb' => .inl (hH.trans hb'))
      (fun T' hT' => ⟨T', by simpa [Ob.len, hl] using hT', Nat.le_refl _, fun _ => ⟨hH.symm, fun b' hb' => by
        obtain rfl : b = b' := Option.some.inj (hH.symm.trans hb')
        simp [bsize, hG _ hlt, hWb, g1', hpc]⟩⟩)
      (fun E' hE hw hΦ => by
        refine ⟨Sort.putCells (Value.int .i64) 0 M.toArray c, el, by rw [hw, hG _ hlt]; exact hWb, by rw [hΦ]; exact g2, by simp [hpc, hl, g3], ?_⟩
        have : (Sort.putCells (Value.int .i64) 0 M.toArray c).toList.take (M.map (V.int .i64)).length = M.map (Value.int .i64) := by
          apply List.ext_getElem?
          intro j
          simp only [List.length_map, List.getElem?_take, List.getElem?_map]
          by_cases hj : j < M.length
          · rw [if_pos hj]
            have hjc : j < c.size := by omega
            simp [Sort.putCells, hjc, hj]
          · rw [if_neg hj, List.getElem?_eq_none (by omega)]
            rfl
        rw [this]
        exact ints_reps M)
    exact ⟨.tup [], _, Φ, _, HS.ofStep hsim hst, ⟨#[], rfl, rfl, rfl⟩, rfl, rfl⟩
end Go.VX

/- An ordered region that asks of a slice of which it isn't known whether it is nil: both ways. -/
namespace Go.VX
open Go.RowKit
set_option linter.unusedVariables false

def isSl : V → Bool
  | .fs _ _ | .nils => true
  | _ => false
def askQ (T : Nat → Option TI) (sl : List (Nat × V)) : Op → Bool
  | .binOp .eql t x y _ => (match T t with
    | some ⟨.slice _, _, _, _⟩ => true
    | _ => false) && (isSl (evV sl x) && (match evV sl y with
    | .nils => true
    | _ => false))
  | _ => false
def vrunA (P : Program) (T : Nat → Option TI) (nt : Sh) : List Oper → (St → Prop) → St → Prop
  | [], Q, st => Q st
  | o :: rest, Q, st => o.guard = none ∧ (if askQ T st.sl o.op = true then okd nt o.dst ∧ ∀ b, vrunA P T nt rest Q ⟨putD st.sl o.dst (.bool b), st.ob⟩ else vstep P T nt o st (vrunA P T nt rest Q))
section
variable {P : Program} {T : Nat → Option TI} {nt : Sh}
theorem isSl_sound {E : Env} {x : V} {v : Value} (h : isSl x = true) (hx : VRep E x v) : ∃ a l c, v = .slice a l c := by
  cases x <;> simp [isSl] at h <;> simp only [VRep] at hx
  · exact ⟨_, _, _, hx⟩
  · obtain ⟨ad, cap, us, h1, _⟩ := hx; exact ⟨_, _, _, h1⟩
theorem vrunA_sound (hT : TabOK P T) {ops : Array Oper} : ∀ (l : List Oper) (Q : St → Prop) (st : St), vrunA P T nt l Q st → ∀ (C : Ctx), C.nt = nt → ∀ Φ H a w, SimE C Φ H st a w → ∀ Qx : Exit → Act → World → Prop,
    (∀ Φ' H' st' a' w', SimE C Φ' H' st' a' w' → Q st' → Qx .normal a' w') → wpList P ops Qx l a w
  | [], Q, st, h, C, hC, Φ, H, a, w, s, Qx, hq => by
    simp only [vrunA] at h
    exact hq _ _ _ _ _ s h
  | o :: rest, Q, st, h, C, hC, Φ, H, a, w, s, Qx, hq => by
    simp only [vrunA] at h
    obtain ⟨hg, h⟩ := h
    have go : ∀ st' a' w' Φ' H', SimE C Φ' H' st' a' w' → vrunA P T nt rest Q st' → wpList P ops Qx rest a' w' := fun st' a' w' Φ' H' s' k =>
      vrunA_sound hT rest Q st' k C hC Φ' H' a' w' s' Qx hq
    unfold wpList
    rw [if_pos (by simp [Region.wanted, hg])]
    refine .inl ?_
    split at h
    · rename_i hask
      obtain ⟨hd, h⟩ := h
      obtain ⟨dst, op, ty, pos, aft, gd⟩ := o
      dsimp only at h hd hask
      unfold askQ at hask
      split at hask
      case h_2 => cases hask
      rename_i t x y t2
      simp only [Bool.and_eq_true] at hask
      obtain ⟨k1, k2, k3⟩ := hask
      split at k1
      case h_2 => cases k1
      rename_i e z1 z2 z3 ht
      obtain ⟨info, d, zz, e1, e2, e3, _⟩ := hT t _ ht
      obtain rfl := kindOf_slice e3
      have hx := s.eval x
      have hy := s.eval y
      split at k3
      case h_2 => cases k3
      rename_i hyn
      rw [hyn] at hy
      obtain ⟨ad, l, c, hxs⟩ := isSl_sound k2 hx
      have hys : a.eval y = .slice none 0 0 := hy
      have hr : (execOp a.eval ⟨dst, .binOp .eql t x y t2, ty, pos, aft, gd⟩).run P w = .ok (.value (.bool ad.isNone)) w := by
        have h1 : (do eqGuard .eql t x y (a.eval x) (a.eval y); binOp .eql t (a.eval x) (a.eval y) : Sem Value).run P w = .ok (.bool ad.isNone) w := by
          rw [hxs, hys]
          simp [eqG_slice, run_eql_slice_nil (w := w) t _ ad l c e2]
        simp only [execOp, Sem.run_bind] at h1 ⊢
        simp [h1]
      unfold Oper.wp
      rw [hr]
      exact go _ _ _ _ _ (s.put (d := dst) (x := .bool ad.isNone) rfl (fun i e => by subst e; rw [hC]; exact hd)) (h _)
    · exact vstep_sound hT h hC s (fun Φ' H' st' a' w' s' k => go _ _ _ _ _ s' k) trivial
theorem vwp_regionA (hT : TabOK P T) {id : Nat} {ops : List Oper} {Q : X → St → Prop} {st : St} (h : vrunA P T nt ops (Q .norm) st) (hd : nt.rd = true → ops.all nd = true := by first | (intro h; cases h; done) | (intro _; simp [nd])) : vwp P nt (.region id ops.toArray false) Q st := by
  intro C hC Φ H a w s
  exact gw_region_lit (fun ⟨_, _, h⟩ => h) hd (vrunA_sound hT _ _ st h C hC Φ H a w s _ (fun Φ' H' st' a' w' s' q => ⟨Φ', H', st', s', q⟩))
end
section
variable {P : Program} {T : Nat → Option TI} {nt : Sh} {rest : List Oper} {Q K : St → Prop} {sl : List (Nat × V)} {ob : List Ob} {o : Oper}
@[simp] theorem vrunA_nil : vrunA P T nt [] Q ⟨sl, ob⟩ = Q ⟨sl, ob⟩ := by simp only [vrunA]
@[simp] theorem vrunA_cons : vrunA P T nt (o :: rest) Q ⟨sl, ob⟩ = (o.guard = none ∧ (if askQ T sl o.op = true then okd nt o.dst ∧ ∀ b, vrunA P T nt rest Q ⟨putD sl o.dst (.bool b), ob⟩ else vstep P T nt o ⟨sl, ob⟩ (vrunA P T nt rest Q))) := by rw [vrunA]
end
attribute [simp] askQ isSl
end Go.VX

/- Ranges over functions: a call of yield, a round, the statement. -/
namespace Go.VX
open Go.RowKit
set_option linter.unusedVariables false
set_option linter.unusedSimpArgs false
set_option linter.unusedSectionVars false

/-! ### A call of yield -/
/-- What a call of yield comes to. -/
def YC (P : Program) (id : Nat) (args : List V) (ob : List Ob) (Q : V → List Ob → Prop) : Prop :=
  ∀ Φ H w (vals : Array Value) b, HSim Φ H ob w → H id = some b → VReps .any (mkE Φ H ob w) args vals.toList → YieldAt Fence.wide 0 P b vals w (post Φ H ob w Q)
theorem YC.mono {P id args ob Q Q'} (h : YC P id args ob Q) (hq : ∀ r ob', Q r ob' → Q' r ob') : YC P id args ob Q' := fun Φ H w vals b h1 h2 h3 => by
  obtain ⟨fn, tmps, as, bd, g1, g2⟩ := h Φ H w vals b h1 h2 h3
  refine ⟨fn, tmps, as, bd, g1, g2.mono fun e w' q => ?_⟩
  cases e <;> simp only [post] at q ⊢
  · obtain ⟨r, ob', Φ', H', h1, h2, h3⟩ := q
    exact ⟨r, ob', Φ', H', h1, h2, hq _ _ h3⟩
def ycall (P : Program) (nt : Sh) (st : St) (id : Nat) (args : List V) (K : V → List Ob → Prop) : Prop :=
  ∀ C : Ctx, C.nt = nt → ∀ Φ H a w, SimE C Φ H st a w → ∀ (vals : Array Value) b, H id = some b → VReps .any (mkE Φ H st.ob w) args vals.toList →
    YieldAt Fence.wide 0 P b vals w fun e w' => match e with
      | .returned v => ∃ Φ' H' ob' r, SimE C Φ' H' ⟨st.sl, ob'⟩ a w' ∧ VRep (mkE Φ' H' ob' w') r v ∧ K r ob'
      | .outgrown => False
      | .panicked _ => False
theorem ycall_of_YC {P : Program} {nt : Sh} {st : St} {id : Nat} {args : List V} {K : V → List Ob → Prop} (ρ : List Nat) (j : Nat) {args' : List V} {objs : List Ob} {Q : V → List Ob → Prop}
    (hy : YC P j args' objs Q) (hK : ∀ r ob', Q r ob' → K (rnV (fOf ρ st.ob.length) r) (back st.ob ρ ob')) (hj : ρ[j]? = some id := by rfl)
    (hh : hand st.ob (fOf ρ st.ob.length) ρ objs := by simp) (ha : args.map (vwA st.ob ρ false) = args' := by simp) (hok : allOK (vwAOK st.ob ρ false) args := by simp) (hn : ρ.Nodup := by simp) : ycall P nt st id args K := by
  intro C hC Φ H a w s vals b hb hvals
  have hp : Passed Φ H st.ob w ρ false objs := Passed.of s.hs.sim (handed_of hn hh)
  have hargs : VReps .any (mkE (phiC Φ H st.ob ρ false) (VX.hC H ρ) objs w) args' vals.toList := by
    rw [← ha]
    exact VReps.mapW (q := .any) args _ (fun x _ v hq hx => vwA_sound hp hx hq) (fun _ _ _ _ => trivial) (allOK_mem hok) hvals
  have hHj : VX.hC H ρ j = some b := by
    obtain ⟨h1, h2⟩ := List.getElem?_eq_some_iff.1 hj
    simp [VX.hC, h1, List.getD_eq_getElem?_getD, h2, hb]
  obtain ⟨fn, tmps, as, bd, g1, g2⟩ := hy _ _ w vals b hp.hsim hHj hargs
  refine ⟨fn, tmps, as, bd, g1, g2.mono fun e w' q => ?_⟩
  cases e with
  | returned v =>
    obtain ⟨r, ob', Φ', H', q1, q2, q3⟩ := q
    have k2 := hK r ob' q3
    obtain ⟨Φ2, g1, g2⟩ := call_step hp q1 (fun hb => by cases hb)
    exact ⟨Φ2, _, _, _, s.step g1, g2 r v (fun hb => by cases hb) q2, k2⟩
  | panicked c => exact q
  | outgrown => exact q

section
variable {P : Program} {T : Nat → Option TI} {nt : Sh}

def isLoop : Option Ob → Bool
  | some (.loop ..) => true
  | _ => false
def vstepY (P : Program) (T : Nat → Option TI) (nt : Sh) (o : Oper) (st : St) (K : St → Prop) : Prop :=
  match o.op with
  | .call ⟨.value f, args, ts⟩ => match evV st.sl f with
    | .yld id => okd nt o.dst ∧ isLoop st.ob[id]? = true ∧ ycall P nt st id (args.toList.map (evV st.sl)) (vcont K st.sl o.dst)
    | _ => vstep P T nt o st K
  | _ => vstep P T nt o st K
def vrunY (P : Program) (T : Nat → Option TI) (nt : Sh) (ops : List Oper) : List Oper → (St → Prop) → St → Prop
  | [], Q, st => Q st
  | o :: rest, Q, st => match o.guard with
    | none => vstepY P T nt o st (vrunY P T nt ops rest Q)
    | some g => match gslot ops g with
      | some s => match getS st.sl s.1 with
        | .bool b => if b = s.2 then vstepY P T nt o ⟨setS st.sl s.1 (.bool s.2), st.ob⟩ (vrunY P T nt ops rest Q)
              else okd nt o.dst ∧ vrunY P T nt ops rest Q ⟨putD (setS st.sl s.1 (.bool (!s.2))) o.dst .junk, st.ob⟩
        | _ => False
      | none => False

theorem wp_wide {o : Oper} {a : Act} {w : World} {next : Act → World → Prop} {Q : Exit → Act → World → Prop} (h : o.wp P a w next Q) : o.wpIn Fence.wide 0 P a w next Q := by
  refine ⟨fun f _ => trivial, ?_⟩
  have e : o.semAt Fence.wide.round a.eval = execOp a.eval o := rfl
  rw [e]
  unfold Oper.wp at h
  generalize (execOp a.eval o).run P w = r at h ⊢
  have hdep : Fence.wide.depth.isSome = true → 1 ≤ 0 := by intro k; cases k
  cases r with
  | ok x w' =>
    cases x <;> simp only [Oper.upon, Oper.uponIn] at h ⊢
    case enter f args => exact ⟨hdep, callsIn_wide.2 h⟩
    case row row args => exact ⟨hdep, fun c cs _ => let ⟨v, w', r, s⟩ := h c cs; ⟨v, w', r, stepsIn_wide.2 s⟩⟩
    all_goals exact h
  | halt x w' => cases x <;> simp only [Oper.upon, Oper.uponIn] at h ⊢ <;> exact h

theorem yield_run {w w' : World} {a : Act} {f : Operand} {args : Array Operand} {ts : Array TypeId} {ty : TypeId} {dst : Option Tmp} {pos aft gd} {b : Nat} {x : Next} (hf : a.eval f = .func (.yield b) #[] #[]) (h : (Instr.yield b (args.map a.eval)).run P w = .ok x w') :
    (execOp a.eval ⟨dst, .call ⟨.value f, args, ts⟩, ty, pos, aft, gd⟩).run P w = .ok x w' := by
  simp [execOp, resolve, hf, Deferred.ofValue, invoke, h]

theorem vstepY_sound (hT : TabOK P T) {o : Oper} {st : St} {K : St → Prop} (h : vstepY P T nt o st K) {C : Ctx} (hC : C.nt = nt) {Φ H a w} (s : SimE C Φ H st a w) {next : Act → World → Prop} {Qx : Exit → Act → World → Prop}
    (hn : ∀ Φ' H' st' a' w', SimE C Φ' H' st' a' w' → K st' → next a' w') : o.wpIn Fence.wide 0 P a w next Qx := by
  unfold vstepY at h
  split at h
  case h_2 => exact wp_wide (vstep_sound hT h hC s hn trivial)
  rename_i f args ts hop
  split at h
  case h_2 => exact wp_wide (vstep_sound hT h hC s hn trivial)
  rename_i id hf
  obtain ⟨hd, hl, hy⟩ := h
  have hfe := s.eval f
  rw [hf] at hfe
  obtain ⟨_, hid, hv⟩ := hfe
  have hL : Lof st.ob id = some 0 := by
    unfold isLoop at hl
    split at hl
    · rename_i h1; simp [Lof, h1, Ob.len]
    · cases hl
  obtain ⟨b, hb, hv⟩ := hv hL
  have hargs : VReps .any (mkE Φ H st.ob w) (args.toList.map (evV st.sl)) (args.map a.eval).toList := by
    rw [Array.toList_map]
    exact evals_rep' (sl := st.sl) (ob := st.ob) s args.toList
  obtain ⟨fn, tmps, as, bd, g1, g2⟩ := hy C hC Φ H a w s _ b hb hargs
  obtain ⟨dst, op, ty, pos, aft, gd⟩ := o
  simp only at hop hd; subst hop
  refine ⟨fun f _ => trivial, ?_⟩
  have e : (Oper.semAt Fence.wide.round a.eval ⟨dst, .call ⟨.value f, args, ts⟩, ty, pos, aft, gd⟩) = execOp a.eval ⟨dst, .call ⟨.value f, args, ts⟩, ty, pos, aft, gd⟩ := rfl
  rw [e, yield_run hv g1]
  refine ⟨fun k => (by cases k), g2.mono fun e w' q => ?_⟩
  cases e with
  | returned v =>
    obtain ⟨Φ', H', ob', r, q1, q2, q3⟩ := q
    exact hn _ _ _ _ _ (q1.put (d := dst) q2 (fun i e => by subst e; rw [hC]; exact hd)) q3
  | panicked c => exact q.elim
  | outgrown => exact q.elim

theorem vrunY_sound (hT : TabOK P T) {ops : List Oper} : ∀ (l : List Oper) (Q : St → Prop) (st : St), vrunY P T nt ops l Q st → ∀ (C : Ctx), C.nt = nt → ∀ Φ H a w, SimE C Φ H st a w → ∀ Qx : Exit → Act → World → Prop,
    (∀ Φ' H' st' a' w', SimE C Φ' H' st' a' w' → Q st' → Qx .normal a' w') → wpListIn Fence.wide 0 P ops.toArray Qx l a w
  | [], Q, st, h, C, hC, Φ, H, a, w, s, Qx, hq => by
    simp only [vrunY] at h
    exact hq _ _ _ _ _ s h
  | o :: rest, Q, st, h, C, hC, Φ, H, a, w, s, Qx, hq => by
    simp only [vrunY] at h
    have go : ∀ st' a' w' Φ' H', SimE C Φ' H' st' a' w' → vrunY P T nt ops rest Q st' → wpListIn Fence.wide 0 P ops.toArray Qx rest a' w' := fun st' a' w' Φ' H' s' k =>
      vrunY_sound hT rest Q st' k C hC Φ' H' a' w' s' Qx hq
    split at h
    · rename_i hg
      unfold wpListIn
      rw [if_pos (by simp [Region.wanted, hg])]
      exact vstepY_sound hT h hC s (fun Φ' H' st' a' w' s' k => go _ _ _ _ _ s' k)
    · rename_i g hg
      split at h
      case h_2 => exact h.elim
      rename_i sg hsg
      split at h
      case h_2 => exact h.elim
      rename_i b hb
      unfold wpListIn
      by_cases hbw : b = sg.2
      · rw [if_pos hbw] at h
        rw [if_pos (wanted_of hg hsg (by rw [s.boolAt hb, hbw]))]
        exact vstepY_sound hT h hC (s.known hb hbw) (fun Φ' H' st' a' w' s' k => go _ _ _ _ _ s' k)
      · have hnw := not_wanted (ops := ops) (a := a) hg hsg (by rw [s.boolAt hb]; intro e; exact hbw (by simpa using e))
        rw [hnw]
        rw [if_neg hbw] at h
        obtain ⟨h1, h2⟩ := h
        simp only [Bool.false_eq_true, if_false]
        refine ⟨fun _ _ => trivial, go _ _ _ _ _ ((s.known hb (b' := !sg.2) (by cases b <;> cases hq2 : sg.2 <;> simp_all)).put (x := .junk) trivial ?_) h2⟩
        intro i e
        rw [e] at h1
        rw [hC]; exact h1
/-- A region with calls of yield. -/
theorem vwp_regionY (hT : TabOK P T) {id : Nat} {ops : List Oper} {Q : X → St → Prop} {st : St} (h : vrunY P T nt ops ops (Q .norm) st) (hr : nt.rd = false := by rfl) : vwp P nt (.region id ops.toArray false) Q st := by
  intro C hC Φ H a w s
  rw [hr]
  exact wpIn_wide.1 (wpIn_region_lit (n := 0) (vrunY_sound hT ops _ st h C hC Φ H a w s _ (fun Φ' H' st' a' w' s' q => ⟨Φ', H', st', s', q⟩)))
end

/-! ### A round -/
section
variable {P : Program}

def putL (sl : List (Nat × V)) : List Nat → List V → List (Nat × V)
  | p :: ps, x :: xs => putL (setS sl p x) ps xs
  | _, _ => sl

/-- How a round may end. -/
def rndQ (id : Nat) (Q : V → List Ob → Prop) : X → St → Prop
  | .norm, st => ∃ pd n ks vs ps as bd, st.ob[id]? = some (.loop .busy pd n ks vs ps as bd) ∧ Q (.bool true) (st.ob.set id (.loop .ready none n ks vs ps as bd))
  | .ex j, st => ∃ pd n ks vs ps as bd, st.ob[id]? = some (.loop .busy pd n ks vs ps as bd) ∧ Q (.bool false) (st.ob.set id (.loop .done (some (.exit j)) n ks vs ps as bd))
  | .ret, st => ∃ pd n ks vs ps as bd, st.ob[id]? = some (.loop .busy pd n ks vs ps as bd) ∧ Q (.bool false) (st.ob.set id (.loop .done (some .ret) n ks vs ps as bd))

theorem zip_slots {E : Env} {tmps : Array Value} : ∀ {ks : List Nat} {vs : List V}, VReps .any E vs (ks.map fun k => tmps.getD k undef) → ∀ t, VRep E (getS (ks.zip vs) t) (tmps.getD t undef)
  | [], vs, h, t => by simp [getS, VRep]
  | k :: ks, [], h, t => by simp [getS, VRep]
  | k :: ks, v :: vs, ⟨u, r, h1, _, h2, h3⟩, t => by
    simp only [List.map_cons, List.cons.injEq] at h1
    obtain ⟨rfl, rfl⟩ := h1
    simp only [List.zip_cons_cons, getS]
    split
    · rename_i e; subst e; exact h2
    · exact zip_slots h3 t

/-- The loop's record is turned. -/
theorem SimE.turn {C : Ctx} {Φ H st a w} (s : SimE C Φ H st a w) {id b : Nat} {st0 pd n ks vs ps as bd} (ho : st.ob[id]? = some (.loop st0 pd n ks vs ps as bd)) (hb : H id = some b) :
    ∃ r : Loop, w.heap[b]? = some (.loop r) ∧ r.state = st0 ∧ r.pending = pd ∧ ∀ st1 pd1, SimE C Φ H ⟨st.sl, st.ob.set id (.loop st1 pd1 n ks vs ps as bd)⟩ a (w.putObj b (.loop { r with state := st1, pending := pd1 })) := by
  have hr := s.hs.sim.rep id _ ho
  obtain ⟨b', r, e, h1, h2, ⟨h3, h4, h5, h6, h7, h8⟩, h9⟩ := hr
  obtain rfl : b = b' := Option.some.inj (hb.symm.trans e)
  refine ⟨r, h1, h3, h4, fun st1 pd1 => ?_⟩
  have hlt := lt_of_heap h1
  have e1 : ∀ (o : Obj), (w.putObj b o).heap[b]? = some o := fun o => World.putObj_heap_same hlt
  have e2 : ∀ (o : Obj) k, k ≠ b → (w.putObj b o).heap[k]? = w.heap[k]? := fun o k hk => World.putObj_heap_other hk
  have hst := HStep.ofChange (Φ' := Φ) (x := H id) (o' := .loop st1 pd1 n ks vs ps as bd) (w' := w.putObj b (.loop { r with state := st1, pending := pd1 })) s.hs.sim ho rfl rfl rfl rfl
    (fun k _ hk => e2 _ k fun e => hk (e ▸ hb)) (by simp [World.putObj]) (fun _ h => h) (fun _ h => .inl h) (fun _ h => .inl h)
    (fun T' hT' => ⟨T', hT', Nat.le_refl _, fun _ => ⟨rfl, fun b' hb' => by
      obtain rfl : b = b' := Option.some.inj (hb.symm.trans hb')
      have h1' : w.heap[b]? = some (.loop r) := h1
      simp [bsize, e1, h1']⟩⟩)
    (fun E' hE hw hΦ => ⟨b, { r with state := st1, pending := pd1 }, hb, by rw [hw]; exact e1 _, by rw [hΦ]; exact h2, ⟨rfl, rfl, h5, h6, h7, h8⟩, VReps.ext hE _ _ h9⟩)
  have hu : upd H id (H id) = H := by
    funext k
    by_cases e : k = id
    · subst e; simp
    · exact upd_other _ _ e
  rw [hu] at hst
  exact s.step hst

theorem SimE.putL {C : Ctx} {Φ H w} {ob : List Ob} : ∀ {ps : List Nat} {xs : List V} {sl : List (Nat × V)} {a : Act} {vals : List Value}, SimE C Φ H ⟨sl, ob⟩ a w → VReps .any (mkE Φ H ob w) xs vals → (∀ p ∈ ps, p < C.nt.nt) → ps.length = xs.length →
    SimE C Φ H ⟨VX.putL sl ps xs, ob⟩ { a with tmps := (ps.zip vals).foldl (fun t p => t.setIfInBounds p.1 p.2) a.tmps } w
  | [], xs, sl, a, vals, s, _, _, _ => by cases xs <;> exact s
  | p :: ps, [], sl, a, vals, s, _, _, h => by simp at h
  | p :: ps, x :: xs, sl, a, vals, s, ⟨u, r, h1, _, h2, h3⟩, hp, hl => by
    subst h1
    have := SimE.putL (a := a.put (some p) u) (s.put (d := some p) h2 fun i e => by cases e; exact hp p (by simp)) h3 (fun q hq => hp q (List.mem_cons_of_mem _ hq)) (by simpa using hl)
    exact this

/-- A round, by its body's walk. -/
theorem YC_of_body {id : Nat} {args : List V} {ob : List Ob} {Q : V → List Ob → Prop} {n : Nat} {ks : List Nat} {vs : List V} {ps : Array Tmp} {as bd : Code} (ho : ob[id]? = some (.loop .ready none n ks vs ps as bd))
    (hps : ps.toList.length = args.length) (hp : ∀ p ∈ ps.toList, p < n)
    (h : vwp P ⟨n, ob.length, true⟩ as (thenQ (fun st1 => st1.ob[id]? = some (.loop .ready none n ks vs ps as bd) ∧
      vwp P ⟨n, ob.length, true⟩ bd (fun x st => ∃ st', Gh ⟨n, ob.length, true⟩ st st' ∧ rndQ id Q x st') ⟨st1.sl, st1.ob.set id (.loop .busy none n ks vs ps as bd)⟩) (fun _ _ => False)) ⟨putL (ks.zip vs) ps.toList args, ob⟩) : YC P id args ob Q := by
  intro Φ H w vals b hs hb hv
  have hr := hs.rep id _ ho
  obtain ⟨b', r, e, h1, h2, ⟨h3, h4, h5, h6, h7, h8⟩, h9⟩ := hr
  obtain rfl : b = b' := Option.some.inj (hb.symm.trans e)
  have hl := hv.length
  simp only [Array.length_toList] at hl
  have hy := run_yield (P := P) (args := vals) h1 (by rw [h6]; simp only [Array.length_toList] at hps; omega)
  rw [h6, h7, h8] at hy
  refine ⟨r.fn, _, as, bd, hy, roundIn_of_wpIn trivial ?_⟩
  have s0 : SimE (ctx Φ H ob w ⟨n, ob.length, true⟩) Φ H ⟨ks.zip vs, ob⟩ { tmps := r.tmps, defers := [] } w :=
    ⟨HS.refl hs, ⟨[], rfl, Marks.nil⟩, h5, rfl, fun t => zip_slots h9 t⟩
  have s1 := SimE.putL s0 hv hp hps
  have etm : (ps.zip vals).foldl (fun (tmps : Array Value) (x : Tmp × Value) => tmps.setIfInBounds x.1 x.2) r.tmps = (ps.toList.zip vals.toList).foldl (fun t p => t.setIfInBounds p.1 p.2) r.tmps := by
    rw [← Array.foldl_toList, Array.toList_zip]
  have h' := h _ rfl Φ H _ w s1 b
  simp only at h'
  rw [← etm] at h'
  refine wpIn_mono h' fun x a1 w1 q => ?_
  cases x <;> simp only [lft, thenQ, Exit.then] at q ⊢ <;> (try exact q.elim) <;> (try (obtain ⟨_, _, _, _, q⟩ := q; exact q.elim))
  obtain ⟨Φ1, H1, st1, s1, q1, q2⟩ := q
  -- the record's block is the same one
  have hH : ∀ {Φ2 H2 st2 a2 w2} {s0 pd0}, SimE (ctx Φ H ob w ⟨n, ob.length, true⟩) Φ2 H2 st2 a2 w2 → (∃ m ks' vs' ps' as' bd', st2.ob[id]? = some (.loop s0 pd0 m ks' vs' ps' as' bd')) → H2 id = some b := by
    rintro Φ2 H2 st2 a2 w2 s0 pd0 s2 ⟨m, ks', vs', ps', as', bd', ho2⟩
    have hid : id < ob.length := (List.getElem?_eq_some_iff.1 ho).1
    obtain ⟨T, g1, g2, g3⟩ := s2.hs.ext.l id hid 0 (by simp [mkE, Lof, ho2, Ob.len])
    obtain rfl : T = 0 := by omega
    exact (g3 rfl).1.trans hb
  have hb1 := hH s1 ⟨_, _, _, _, _, _, q1⟩
  obtain ⟨r1, k1, k2, k3, k4⟩ := s1.turn q1 hb1
  refine ⟨_, run_beginRound k1 k2, ?_⟩
  have hbz : ({ r1 with state := .busy } : Loop) = { r1 with state := .busy, pending := none } := by rw [← k3]
  rw [hbz]
  refine wpIn_mono (q2 _ rfl _ _ _ _ (k4 .busy none) b) fun x a2 w2 q => ?_
  have fin : ∀ (jump : Option Code) (st2 st3 : St) Φ2 H2, SimE (ctx Φ H ob w ⟨n, ob.length, true⟩) Φ2 H2 st2 a2 w2 → Gh ⟨n, ob.length, true⟩ st2 st3 → (∃ pd n ks vs ps as bd, st3.ob[id]? = some (.loop .busy pd n ks vs ps as bd) ∧
      Q (.bool jump.isNone) (st3.ob.set id (.loop (if jump.isNone then .ready else .done) jump n ks vs ps as bd))) →
      ∃ v w', (Instr.endRound b jump).run P w2 = .ok v w' ∧ post Φ H ob w Q (.returned v) w' := by
    rintro jump st2 st3 Φ2 H2 s2 g ⟨pd, n', ks', vs', ps', as', bd', ho3, hq⟩
    obtain ⟨Φ3, H3, s3⟩ := g _ rfl _ _ _ _ s2
    have hb3 := hH s3 ⟨_, _, _, _, _, _, ho3⟩
    obtain ⟨r3, m1, m2, m3, m4⟩ := s3.turn ho3 hb3
    have s4 := (m4 (if jump.isNone then .ready else .done) jump).hs
    refine ⟨_, _, run_endRound jump m1, .bool jump.isNone, _, Φ3, H3, ⟨s4.os, s4.tape, s4.output, s4.size, s4.kept, s4.sim, s4.ext, s4.phi, s4.mine⟩, rfl, hq⟩
  cases x <;> simp only [lft, rndQ, roundPost] at q ⊢
  · obtain ⟨Φ2, H2, st2, s2, st3, g, q⟩ := q
    exact fin none st2 st3 Φ2 H2 s2 g (by simpa using q)
  · obtain ⟨Φ2, H2, st2, s2, st3, g, q⟩ := q
    exact fin (some (.exit _)) st2 st3 Φ2 H2 s2 g (by simpa using q)
  · obtain ⟨Φ2, H2, st2, s2, st3, g, q⟩ := q
    exact fin (some .ret) st2 st3 Φ2 H2 s2 g (by simpa using q)
end

theorem HStep.ofHS {Φ H ob w nt Φ' H' ob' w'} (h : HS (ctx Φ H ob w nt) Φ' H' ob' w') : HStep Φ H ob w Φ' H' ob' w' :=
  ⟨h.os, h.tape, h.output, h.size, fun b hb hn => h.kept b hb fun ⟨i, o, h1, h2, h3⟩ => hn i o h1 h2 h3, h.sim, h.ext, h.phi, h.mine⟩

/-! ### The statement -/
section
variable {P : Program} {nt : Sh} {Q : X → St → Prop} {st : St}

/-- Behind the function that was ranged over: the pending jump. -/
def behind (P : Program) (nt : Sh) (Q : X → St → Prop) (sl : List (Nat × V)) (N : Nat) (ob' : List Ob) : Prop :=
  ∃ s pd n ks vs ps as bd, ob'[N]? = some (.loop s pd n ks vs ps as bd) ∧ s ≠ .busy ∧
    match pd with
    | none => Q .norm ⟨sl, ob'.set N .dead⟩
    | some c => vwp P nt c Q ⟨sl, ob'.set N .dead⟩
theorem vwp_rangeFunc {g : Operand} {ps : Array Tmp} {as bd : Code} {gf : FuncId} {caps : List V} (ks : List Nat) (hg : evV st.sl g = .fn gf caps)
    (h : vcall P ⟨nt.nt, st.ob.length + 1, false⟩ ⟨st.sl, st.ob ++ [.loop .ready none nt.nt ks (ks.map (getS st.sl)) ps as bd]⟩ gf (.yld st.ob.length :: caps) (fun r ob' => behind P nt Q st.sl st.ob.length ob')) (hr : nt.rd = false := by rfl) : vwp P nt (.rangeFunc g ps as bd) Q st := by
  intro C hC Φ H a w s
  rw [hr]
  refine (wpIn_wide (n := 0)).1 (wpIn_rangeFunc fun fn _ => ?_)
  have hge := s.eval g
  rw [hg] at hge
  obtain ⟨cv, _, e1, e2⟩ := hge
  obtain ⟨rec, hrec⟩ : ∃ rec : Loop, rec = { state := .ready, pending := none, fn, tmps := a.tmps, params := ps, assign := as, body := bd, defers := w.heap.size } := ⟨_, rfl⟩
  obtain ⟨W1, hW1⟩ : ∃ W1, (w.alloc (.deferred (some []))).alloc (.loop rec) = W1 := ⟨_, rfl⟩
  have hL1 : W1.heap[w.heap.size + 1]? = some (.loop rec) := by
    rw [← hW1]; have := World.alloc_heap_new (w.alloc (.deferred (some []))) (.loop rec); rwa [World.size_alloc] at this
  have hK1 : W1.heap[w.heap.size]? = some (.deferred (some [])) := by
    rw [← hW1]; exact (Below.heap_alloc _ _ _ (by simp)).trans (World.alloc_heap_new w _)
  have hkeep : ∀ k, k < w.heap.size → W1.heap[k]? = w.heap[k]? := fun k hk => by
    rw [← hW1]
    exact (Below.heap_alloc _ _ _ (by simp; omega)).trans (Below.heap_alloc _ _ _ hk)
  have hsz : W1.heap.size = w.heap.size + 2 := by rw [← hW1]; simp
  have hdr : w.drawn ≤ W1.drawn := by rw [← hW1]; exact Nat.le_refl _
  have hst : HStep Φ H st.ob w Φ (upd H st.ob.length (some (w.heap.size + 1))) (st.ob ++ [.loop .ready none nt.nt ks (ks.map (getS st.sl)) ps as bd]) W1 := by
    refine HStep.ofPush s.hs.sim (by rw [← hW1]; rfl) (by rw [← hW1]; rfl) (by rw [← hW1]; rfl) hkeep (by omega) (fun b hb => by cases hb; omega) fun E' hE hw hΦ => ?_
    refine ⟨_, rec, rfl, by rw [hw]; exact hL1, fun hp => ?_, ⟨by rw [hrec], by rw [hrec], by rw [hrec]; show a.tmps.size = nt.nt; rw [s.nt, hC], by rw [hrec], by rw [hrec], by rw [hrec]⟩, VReps.ext hE _ _ ?_⟩
    · rw [hΦ] at hp
      have := s.hs.sim.phi _ hp
      omega
    · rw [hrec]
      have : ∀ ks : List Nat, VReps .any (mkE Φ H st.ob w) (ks.map (getS st.sl)) (ks.map fun k => a.tmps.getD k undef) := by
        intro ks
        induction ks with
        | nil => simp [VReps]
        | cons k ks ih => exact ⟨_, _, rfl, trivial, s.slots k, ih⟩
      exact this ks
  have s1 := s.step hst
  have s2 : SimE C Φ (upd H st.ob.length (some (w.heap.size + 1))) ⟨st.sl, st.ob ++ [.loop .ready none nt.nt ks (ks.map (getS st.sl)) ps as bd]⟩ { a with defers := [{ target := .collected w.heap.size, args := #[] }] ++ a.defers } W1 := by
    refine ⟨s1.hs, ?_, s1.nt, s1.k0, s1.slots⟩
    obtain ⟨d1, q0, Ds, q1, q2, q3⟩ := s1.defers
    obtain ⟨d0, p0, Ds0, p1, p2, p3⟩ := s.defers
    obtain rfl : d1 = d0 := List.append_cancel_right (q0.symm.trans p0)
    have hDs : Ds = Ds0 := by
      have hh : Ds.map (fun D => ({ target := .collected D, args := #[] } : Deferred)) = Ds0.map (fun D => ({ target := .collected D, args := #[] } : Deferred)) := q1.symm.trans p1
      exact (List.map_inj_right fun x y h => by injection h with h; injection h).1 hh
    refine ⟨{ target := .collected w.heap.size, args := #[] } :: d1, by rw [q0]; rfl, w.heap.size :: Ds, by rw [q1]; rfl, List.nodup_cons.2 ⟨fun hm => ?_, q2⟩, fun D hD => ?_⟩
    · rw [hDs] at hm
      have := lt_of_heap (p3 _ hm).2.2
      omega
    · rcases List.mem_cons.1 hD with rfl | hD
      · exact ⟨s.hs.size, fun hp => by have := s.hs.sim.phi _ hp; omega, hK1⟩
      · exact q3 D hD
  have hN : (st.ob ++ [Ob.loop .ready none nt.nt ks (ks.map (getS st.sl)) ps as bd])[st.ob.length]? = some (.loop .ready none nt.nt ks (ks.map (getS st.sl)) ps as bd) := by simp
  obtain ⟨hent, hcall⟩ := h
  have hcr : ∀ (args : Array Value), (callFunc gf args).run P W1 = .ok (.enter gf args) W1 := by
    intro args
    unfold Ent at hent
    cases hfn : P.funcs[gf]? with
    | none => simp [hfn] at hent
    | some fn =>
      simp only [hfn, Option.map_some, Option.some.injEq, Bool.and_eq_true, bne_iff_ne, ne_eq] at hent
      obtain ⟨h1, h2⟩ := hent
      have h3 : fn.body ≠ none := by intro e; simp [e] at h2
      simp [callFunc, hfn, h1, h3]
  refine ⟨w.heap.size + 1, [{ target := .collected w.heap.size, args := #[] }], W1, { target := .fn (.func gf) cv, args := #[.func (.yield (w.heap.size + 1)) #[] #[]] }, W1, gf,
    #[.func (.yield (w.heap.size + 1)) #[] #[]] ++ cv, W1, ?_, ?_, fun _ _ => trivial, ?_, fun k => (by cases k), ?_⟩
  · rw [← hW1, hrec]; exact run_enterLoop_outer _ _ _ _ _
  · simp only [resolve, e1]
    simp [Deferred.ofValue]
    rfl
  · simp [invoke, hcr]
  · have s5 : SimE (ctx Φ (upd H st.ob.length (some (w.heap.size + 1))) (st.ob ++ [.loop .ready none nt.nt ks (ks.map (getS st.sl)) ps as bd]) W1 ⟨nt.nt, st.ob.length + 1, false⟩) Φ (upd H st.ob.length (some (w.heap.size + 1)))
        ⟨st.sl, st.ob ++ [.loop .ready none nt.nt ks (ks.map (getS st.sl)) ps as bd]⟩ { a with defers := [] } W1 :=
      ⟨HS.refl hst.sim, ⟨[], rfl, Marks.nil⟩, by rw [s.nt, hC]; rfl, by simp [ctx, mkE], s1.slots⟩
    refine callsIn_wide.2 ((hcall _ rfl _ _ _ W1 s5 _ ?_).mono fun e w' q => ?_)
    · rw [Array.toList_append]
      refine VReps.append (xs := [.yld st.ob.length]) ⟨_, [], rfl, trivial, ⟨rfl, by simp [mkE], fun _ => ⟨w.heap.size + 1, by simp [mkE], rfl⟩⟩, rfl⟩ ?_
      exact VReps.ext hst.ext _ _ e2
    · cases e with
      | panicked c => exact q.elim
      | outgrown => exact q.elim
      | returned v =>
        obtain ⟨Φ', H', ob', r, s3, _, stt, pd, n', ks', vs', ps', as', bd', ho', hnb, hq⟩ := q
        have hr' := s3.hs.sim.rep _ _ ho'
        obtain ⟨b', r', e', k1, k2, ⟨k3, k4, _⟩, _⟩ := hr'
        have hb' : b' = w.heap.size + 1 := by
          obtain ⟨T, g1, g2, g3⟩ := s3.hs.ext.l st.ob.length (by simp [ctx, mkE]) 0 (by simp [mkE, Lof, ho', Ob.len])
          obtain rfl : T = 0 := by omega
          have := (g3 rfl).1
          simp only [ctx, mkE, upd_same] at this
          rw [this] at e'
          exact (Option.some.inj e').symm
        subst hb'
        refine ⟨pd, w'.putObj (w.heap.size + 1) (.loop { r' with state := .exhausted }), by rw [← k4]; exact run_endLoop k1 (by rw [k3]; exact hnb), ?_⟩
        have hlt := lt_of_heap k1
        have s6 := s2.step (HStep.ofHS s3.hs)
        have hst2 : HStep Φ' H' ob' w' Φ' (upd H' st.ob.length none) (ob'.set st.ob.length .dead) (w'.putObj (w.heap.size + 1) (.loop { r' with state := .exhausted })) :=
          HStep.ofChange s3.hs.sim ho' rfl rfl rfl rfl (fun k _ hk => World.putObj_heap_other fun e => hk (e ▸ e')) (by simp [World.putObj]) (fun _ h => h) (fun _ h => .inl h) (fun _ h => by cases h)
            (fun T' hT' => by cases hT') (fun _ _ _ _ => trivial)
        have s4 := s6.step hst2
        cases pd with
        | none => exact ⟨_, _, _, s4, hq⟩
        | some c =>
          have := hq C hC _ _ _ _ s4
          rw [hr] at this
          exact wpIn_wide.2 this
end
end Go.VX
namespace Go.VX
open Go.RowKit
section
variable {P : Program} {T : Nat → Option TI} {nt : Sh} {ops rest : List Oper} {Q K : St → Prop} {sl : List (Nat × V)} {ob : List Ob} {o : Oper}
@[simp] theorem vrunY_nil : vrunY P T nt ops [] Q ⟨sl, ob⟩ = Q ⟨sl, ob⟩ := by simp only [vrunY]
@[simp] theorem vrunY_cons : vrunY P T nt ops (o :: rest) Q ⟨sl, ob⟩ = match o.guard with
    | none => vstepY P T nt o ⟨sl, ob⟩ (vrunY P T nt ops rest Q)
    | some g => match gslot ops g with
      | some s => match getS sl s.1 with
        | .bool b => if b = s.2 then vstepY P T nt o ⟨setS sl s.1 (.bool s.2), ob⟩ (vrunY P T nt ops rest Q)
              else okd nt o.dst ∧ vrunY P T nt ops rest Q ⟨putD (setS sl s.1 (.bool (!s.2))) o.dst .junk, ob⟩
        | _ => False
      | none => False := by rw [vrunY.eq_2]
@[simp] theorem vstepY_mk : vstepY P T nt o ⟨sl, ob⟩ K = match o.op with
  | .call ⟨.value f, args, _⟩ => match evV sl f with
    | .yld id => okd nt o.dst ∧ isLoop ob[id]? = true ∧ ycall P nt ⟨sl, ob⟩ id (args.toList.map (evV sl)) (vcont K sl o.dst)
    | _ => vstep P T nt o ⟨sl, ob⟩ K
  | _ => vstep P T nt o ⟨sl, ob⟩ K := rfl
attribute [simp] isLoop putL
end
section
variable {P : Program} {nt : Sh} {Q : X → St → Prop} {st : St}
/-- A call of yield that hands over all there is. -/
theorem ycall_id {id : Nat} {args : List V} {K : V → List Ob → Prop} {Q : V → List Ob → Prop} (hy : YC P id args st.ob Q) (hK : ∀ r ob', Q r ob' → K r ob') : ycall P nt st id args K := by
  intro C hC Φ H a w s vals b hb hvals
  obtain ⟨fn, tmps, as, bd, g1, g2⟩ := hy Φ H w vals b s.hs.sim hb hvals
  refine ⟨fn, tmps, as, bd, g1, g2.mono fun e w' q => ?_⟩
  cases e with
  | returned v =>
    obtain ⟨r, ob', Φ', H', q1, q2, q3⟩ := q
    exact ⟨Φ', H', ob', r, s.step (HStep.ofHS q1), q2, hK r ob' q3⟩
  | panicked c => exact q
  | outgrown => exact q
/-- Slots that are kept; the objects stay. -/
theorem Gh.pick {sl sl' : List (Nat × V)} {ob : List Ob} (ts : List Nat) (he : ts.map (fun t => (t, getS sl t)) = sl' := by simp) : Gh nt ⟨sl, ob⟩ ⟨sl', ob⟩ := by
  subst he
  refine Gh.less fun i => ?_
  induction ts with
  | nil => exact .inr rfl
  | cons t ts ih =>
    simp only [List.map_cons, getS]
    split
    · rename_i e; subst e; exact .inl rfl
    · exact ih
theorem vwp_range {g : Operand} {ps : Array Tmp} {as bd : Code} {gf : FuncId} {caps : List V} (ks : List Nat) (hg : evV st.sl g = .fn gf caps)
    (h : ∀ as' bd', as' = as → bd' = bd → vcall P ⟨nt.nt, st.ob.length + 1, false⟩ ⟨st.sl, st.ob ++ [.loop .ready none nt.nt ks (ks.map (getS st.sl)) ps as' bd']⟩ gf (.yld st.ob.length :: caps) (fun _ ob' => behind P nt Q st.sl st.ob.length ob')) (hr : nt.rd = false := by rfl) : vwp P nt (.rangeFunc g ps as bd) Q st :=
  vwp_rangeFunc ks hg (h _ _ rfl rfl) hr
/-- A round, by its body's walk; what the record holds of the code is kept short. -/
theorem YC_of_round {id : Nat} {args : List V} {ob : List Ob} {Q : V → List Ob → Prop} {n : Nat} {ks : List Nat} {vs : List V} {ps : Array Tmp} {ac bd ac' bd' : Code} (hac : ac' = ac) (hbd : bd' = bd) (ho : ob[id]? = some (.loop .ready none n ks vs ps ac' bd'))
    (hps : ps.toList.length = args.length) (hp : ∀ p ∈ ps.toList, p < n)
    (h : vwp P ⟨n, ob.length, true⟩ ac (thenQ (fun st1 => st1.ob[id]? = some (.loop .ready none n ks vs ps ac' bd') ∧
      vwp P ⟨n, ob.length, true⟩ bd (fun x st => ∃ st', Gh ⟨n, ob.length, true⟩ st st' ∧ rndQ id Q x st') ⟨st1.sl, st1.ob.set id (.loop .busy none n ks vs ps ac' bd')⟩) (fun _ _ => False)) ⟨putL (ks.zip vs) ps.toList args, ob⟩) : YC P id args ob Q := by
  subst hac hbd
  exact YC_of_body ho hps hp h
end
end Go.VX

/- A call before which an object of the caller's is frozen. -/
namespace Go.VX
open Go.RowKit
set_option linter.unusedVariables false
set_option linter.unusedSimpArgs false
/-- An object that is never written any more, from a call on. -/
theorem vcall_freeze {P : Program} {nt : Sh} {sl : List (Nat × V)} {ob : List Ob} {k : Nat} {args : List V} {K : V → List Ob → Prop} (id : Nat) {cs : List V} (ho : ob[id]? = some (.live cs)) (hn : ∀ c ∈ cs, c.noId = true)
    (h : vcall P nt ⟨sl, ob.set id (.frz cs)⟩ k args K) : vcall P nt ⟨sl, ob⟩ k args K := by
  refine ⟨h.1, fun C hC Φ H a w s vals hv => ?_⟩
  have hr := s.hs.sim.rep id _ ho
  let Φ' : Nat → Prop := fun b => Φ b ∨ H id = some b
  have hst : HStep Φ H ob w Φ' (upd H id (H id)) (ob.set id (.frz cs)) w := by
    refine HStep.ofChange s.hs.sim ho rfl rfl rfl rfl (fun _ _ _ => rfl) (Nat.le_refl _) (fun b hb => .inl hb) (fun b hb => ?_) (fun b hb => .inl hb) (fun T' hT' => ?_) (fun E' hE hw hΦ => ?_)
    · rcases hb with hb | hb
      · exact .inl hb
      · exact .inr ⟨hb, rfl⟩
    · exact ⟨cs.length, rfl, by simp [Ob.len] at hT'; omega, fun _ => ⟨rfl, fun _ _ => rfl⟩⟩
    · cases hH : H id with
      | none => rw [hH] at hr; exact hr
      | some b =>
        rw [hH] at hr
        obtain ⟨c, el, g1, g2, g3, g4⟩ := hr
        refine ⟨by rw [hΦ]; exact .inr hH, c.toList.take cs.length, ?_, VReps.ext hE _ _ (g4.toFrz hn)⟩
        rw [hw]
        have hrr := reads_row g1 0 cs.length
        rwa [List.drop_zero] at hrr
  exact h.2 C hC _ _ a w (s.step hst) vals (VReps.ext hst.ext _ _ hv)
end Go.VX

/- Nil rows in cells: known as rows that are empty. -/
namespace Go.VX
open Go.RowKit
set_option linter.unusedVariables false
set_option linter.unusedSimpArgs false
theorem VReps.setTo {q : Fl} {E : Env} : ∀ {xs : List V} {us : List Value} (j : Nat) {x y : V}, xs[j]? = some x → (∀ v, VRep E x v → VRep E y v) → okq q y → VReps q E xs us → VReps q E (xs.set j y) us
  | [], _, j, x, y, h, _, _, _ => by simp at h
  | c :: xs, us, 0, x, y, h, hxy, hy, ⟨u, r, h1, h2, h3, h4⟩ => by
    simp only [List.getElem?_cons_zero, Option.some.injEq] at h
    subst h
    exact ⟨u, r, h1, hy, hxy u h3, h4⟩
  | c :: xs, us, j + 1, x, y, h, hxy, hy, ⟨u, r, h1, h2, h3, h4⟩ => by
    simp only [List.getElem?_cons_succ] at h
    exact ⟨u, r, h1, h2, h3, VReps.setTo j h hxy hy h4⟩
/-- A cell of which something else is said. -/
theorem HStep.cellTo {Φ : Nat → Prop} {H : Nat → Option Nat} {ob : List Ob} {w : World} (hs : HSim Φ H ob w) (id j : Nat) {cs : List V} {x y : V} (ho : ob[id]? = some (.live cs)) (hj : cs[j]? = some x) (hy : y.one = true)
    (hxy : ∀ E', Ext (mkE Φ H ob w) E' → ∀ v, VRep E' x v → VRep E' y v) : HStep Φ H ob w Φ (upd H id (H id)) (ob.set id (.live (cs.set j y))) w := by
  have hr := hs.rep id _ ho
  refine HStep.ofChange hs ho rfl rfl rfl rfl (fun _ _ _ => rfl) (Nat.le_refl _) (fun b hb => hb) (fun b hb => .inl hb) (fun b hb => .inl hb) (fun T' hT' => ?_) (fun E' hE hw hΦ => ?_)
  · exact ⟨cs.length, rfl, by simp [Ob.len] at hT'; omega, fun _ => ⟨rfl, fun _ _ => rfl⟩⟩
  · cases hH : H id with
    | none =>
      rw [hH] at hr
      have e : cs = [] := hr
      subst e
      rfl
    | some b =>
      rw [hH] at hr
      obtain ⟨c, el, g1, g2, g3, g4⟩ := hr
      refine ⟨c, el, by rw [hw]; exact g1, by rw [hΦ]; exact g2, by simpa using g3, ?_⟩
      rw [List.length_set]
      exact (VReps.ext hE _ _ g4).setTo j hj (hxy E' hE) hy
theorem Gh.nilFs {nt : Sh} {sl : List (Nat × V)} {ob : List Ob} (id j : Nat) {cs : List V} (ho : ob[id]? = some (.live cs)) (hj : cs[j]? = some .nils) : Gh nt ⟨sl, ob⟩ ⟨sl, ob.set id (.live (cs.set j (.fs 0 [])))⟩ := by
  intro C hC Φ H a w s
  exact ⟨Φ, _, s.step (HStep.cellTo s.hs.sim id j ho hj rfl fun E' _ v hv => by
    simp only [VRep] at hv
    subst hv
    exact ⟨none, 0, [], rfl, Nat.le_refl _, by simp [VReps], fun h => by simp at h⟩)⟩
/-- A row in a cell that isn't there yet. -/
theorem Gh.virtCell {nt : Sh} {sl : List (Nat × V)} {ob : List Ob} (id j esz : Nat) {cs : List V} (ho : ob[id]? = some (.live cs)) (hj : cs[j]? = some .nils) : Gh nt ⟨sl, ob⟩ ⟨sl, (ob ++ [Ob.live []]).set id (Ob.live (cs.set j (.sl ob.length 0 esz 0 0)))⟩ := by
  intro C hC Φ H a w s
  have hid : id < ob.length := (List.getElem?_eq_some_iff.1 ho).1
  have h1 : HStep Φ H ob w Φ (upd H ob.length none) (ob ++ [.live []]) w :=
    HStep.ofPush s.hs.sim rfl rfl rfl (fun _ _ => rfl) (Nat.le_refl _) (fun b hb => by cases hb) (fun E' _ _ _ => rfl)
  have s' := s.step h1
  refine ⟨Φ, _, s'.step (HStep.cellTo s'.hs.sim id j (by rw [List.getElem?_append_left hid]; exact ho) hj rfl fun E' hE v hv => ?_)⟩
  simp only [VRep] at hv
  subst hv
  refine ⟨rfl, Nat.lt_of_lt_of_le (by simp [mkE]) hE.n, fun T' hT' => ⟨by simp, fun e => ?_⟩⟩
  subst e
  obtain ⟨T, k1, k2, k3⟩ := hE.l ob.length (by simp [mkE]) 0 hT'
  have e0 : T = 0 := by omega
  obtain ⟨k4, _⟩ := k3 e0
  rw [k4]
  simp [mkE, SlV]
end Go.VX

/- Rows in cells that are frozen: known by what they hold. -/
namespace Go.VX
open Go.RowKit
set_option linter.unusedVariables false
set_option linter.unusedSimpArgs false
/-- A cell of which something else is said, by what is known now. -/
theorem HStep.cellTo2 {Φ : Nat → Prop} {H : Nat → Option Nat} {ob : List Ob} {w : World} (hs : HSim Φ H ob w) (id j : Nat) {cs : List V} {x y : V} (ho : ob[id]? = some (.live cs)) (hj : cs[j]? = some x) (hy : y.one = true)
    (hxy : ∀ v, VRep (mkE Φ H ob w) x v → VRep (mkE Φ H ob w) y v) : HStep Φ H ob w Φ (upd H id (H id)) (ob.set id (.live (cs.set j y))) w := by
  have hr := hs.rep id _ ho
  refine HStep.ofChange hs ho rfl rfl rfl rfl (fun _ _ _ => rfl) (Nat.le_refl _) (fun b hb => hb) (fun b hb => .inl hb) (fun b hb => .inl hb) (fun T' hT' => ?_) (fun E' hE hw hΦ => ?_)
  · exact ⟨cs.length, rfl, by simp [Ob.len] at hT'; omega, fun _ => ⟨rfl, fun _ _ => rfl⟩⟩
  · cases hH : H id with
    | none =>
      rw [hH] at hr
      have e : cs = [] := hr
      subst e
      rfl
    | some b =>
      rw [hH] at hr
      obtain ⟨c, el, g1, g2, g3, g4⟩ := hr
      refine ⟨c, el, by rw [hw]; exact g1, by rw [hΦ]; exact g2, by simpa using g3, ?_⟩
      rw [List.length_set]
      exact VReps.ext hE _ _ (g4.setTo j hj hxy hy)
theorem sl_frz {Φ : Nat → Prop} {H : Nat → Option Nat} {ob : List Ob} {w : World} (hs : HSim Φ H ob w) {id esz off n : Nat} {fs : List V} (ho : ob[id]? = some (.frz fs)) (v : Value)
    (hv : VRep (mkE Φ H ob w) (.sl id fs.length esz off n) v) : VRep (mkE Φ H ob w) (.fs n ((fs.drop off).take (n * esz))) v := by
  obtain ⟨_, _, h3⟩ := hv
  have hL : (mkE Φ H ob w).L id = some fs.length := by simp [mkE, Lof, ho, Ob.len]
  have hsl := (h3 _ hL).2 rfl
  have hr := hs.rep id _ ho
  simp only [mkE] at hsl
  cases hH : H id with
  | none =>
    rw [hH] at hsl hr
    obtain ⟨_, _, rfl, rfl⟩ := hsl
    have e : fs = [] := hr
    subst e
    exact ⟨none, 0, [], rfl, Nat.le_refl _, by simp [VReps], fun h => by simp at h⟩
  | some b =>
    rw [hH] at hsl hr
    obtain ⟨cap, rfl, g1, g2, _⟩ := hsl
    obtain ⟨k1, us, k2, k3⟩ := hr
    refine ⟨_, cap, (us.drop off).take (n * esz), rfl, g1, (k3.drop off).take (n * esz), fun _ => ⟨b, off, rfl, k1, ?_⟩⟩
    have := reads_take (n * esz) (reads_drop off k2)
    rwa [Nat.zero_add] at this
/-- Before a call: a row in a cell, of an object that is frozen. -/
theorem vcall_cellFs {P : Program} {nt : Sh} {sl : List (Nat × V)} {ob : List Ob} {k : Nat} {args : List V} {K : V → List Ob → Prop} (id j i : Nat) {cs fs : List V} {tot esz off n : Nat} (ho : ob[j]? = some (.live cs)) (hi : cs[i]? = some (.sl id tot esz off n)) (hf : ob[id]? = some (.frz fs)) (ht : fs.length = tot)
    (h : vcall P nt ⟨sl, ob.set j (.live (cs.set i (.fs n ((fs.drop off).take (n * esz)))))⟩ k args K) : vcall P nt ⟨sl, ob⟩ k args K := by
  subst ht
  refine ⟨h.1, fun C hC Φ H a w s vals hv => ?_⟩
  have hst := HStep.cellTo2 s.hs.sim j i ho hi rfl (y := .fs n ((fs.drop off).take (n * esz))) fun v hv => sl_frz s.hs.sim hf v hv
  exact h.2 C hC _ _ a w (s.step hst) vals (VReps.ext hst.ext _ _ hv)
/-- .. at rest. -/
theorem Gh.cellFs {nt : Sh} {sl : List (Nat × V)} {ob : List Ob} (id j i : Nat) {cs fs : List V} {tot esz off n : Nat} (ho : ob[j]? = some (.live cs)) (hi : cs[i]? = some (.sl id tot esz off n)) (hf : ob[id]? = some (.frz fs)) (ht : fs.length = tot) :
    Gh nt ⟨sl, ob⟩ ⟨sl, ob.set j (.live (cs.set i (.fs n ((fs.drop off).take (n * esz)))))⟩ := by
  subst ht
  intro C hC Φ H a w s
  exact ⟨Φ, _, s.step (HStep.cellTo2 s.hs.sim j i ho hi rfl fun v hv => sl_frz s.hs.sim hf v hv)⟩
theorem virt_rep {Φ : Nat → Prop} {H : Nat → Option Nat} {ob : List Ob} {w : World} (esz : Nat) {v : Value} (hv : v = .slice none 0 0) : VRep (mkE Φ (upd H ob.length none) (ob ++ [.live []]) w) (.sl ob.length 0 esz 0 0) v := by
  subst hv
  refine ⟨rfl, by simp [mkE], fun T' hT' => ⟨by simp, fun _ => ?_⟩⟩
  simp only [mkE, upd_same, SlV]
  simp
/-- What comes is a row, none where there is none: a row that is empty. -/
theorem VC.virt {P : Program} {k : Nat} {args : List V} {ob : List Ob} {Q Q' : V → List Ob → Prop} (h : VC P k args ob Q) (hq : ∀ r ob', Q r ob' → Q' r ob' ∨ (r = .nils ∧ Q' (.sl ob'.length 0 1 0 0) (ob' ++ [.live []])) ∨ ∃ rest, r = .tup (.nils :: rest) ∧ Q' (.tup (.sl ob'.length 0 1 0 0 :: rest)) (ob' ++ [.live []])) : VC P k args ob Q' :=
  ⟨h.1, fun Φ H w vals hs hv => (h.2 Φ H w vals hs hv).mono fun e w' q => by
    cases e <;> simp only [post] at q ⊢
    obtain ⟨r, ob', Φ', H', h1, h2, h3⟩ := q
    have hst : HStep Φ' H' ob' w' Φ' (upd H' ob'.length none) (ob' ++ [.live []]) w' :=
      HStep.ofPush h1.sim rfl rfl rfl (fun _ _ => rfl) (Nat.le_refl _) (fun b hb => by cases hb) (fun E' _ _ _ => rfl)
    rcases hq _ _ h3 with q | ⟨rfl, q⟩ | ⟨rest, rfl, q⟩
    · exact ⟨r, ob', Φ', H', h1, h2, q⟩
    · exact ⟨_, _, _, _, h1.step hst, virt_rep 1 h2, q⟩
    · obtain ⟨a, g1, rfl, g2⟩ := h2
      obtain ⟨u, us, e1, _, g3, g4⟩ := g2
      refine ⟨.tup (.sl ob'.length 0 1 0 0 :: rest), ob' ++ [.live []], Φ', upd H' ob'.length none, h1.step hst, ⟨a, ?_, rfl, u, us, e1, trivial, virt_rep 1 g3, VReps.ext hst.ext _ _ g4⟩, q⟩
      simpa [V.notTup] using g1⟩
end Go.VX

/- Bits of numbers. -/
namespace Go.VX
set_option linter.unusedVariables false
set_option linter.unusedSimpArgs false

theorem ofInt_toNat {x : Int} (h : 0 ≤ x) (h2 : x < 18446744073709551616) : (BitVec.ofInt 64 x).toNat = x.toNat := by
  rw [BitVec.toNat_ofInt]; simp only [Nat.reducePow]; rw [Int.emod_eq_of_lt h (by omega)]
theorem and64 {x y : Int} (hx : 0 ≤ x) (hx2 : x ≤ 9223372036854775807) (hy : 0 ≤ y) (hy2 : y ≤ 9223372036854775807) : ibits .and .i64 x y = ((x.toNat &&& y.toNat : Nat) : Int) := by
  unfold ibits
  show IntKind.i64.wrap _ = _
  simp only [BitVec.toNat_and]
  have e1 : IntKind.i64.bits = 64 := rfl
  rw [e1, ofInt_toNat hx (by omega), ofInt_toNat hy (by omega)]
  have := Nat.and_le_left (n := x.toNat) (m := y.toNat)
  exact w64 (by omega) (by omega)
theorem or64 {x y : Int} (hx : 0 ≤ x) (hx2 : x ≤ 9223372036854775807) (hy : 0 ≤ y) (hy2 : y ≤ 9223372036854775807) : ibits .or .i64 x y = ((x.toNat ||| y.toNat : Nat) : Int) := by
  unfold ibits
  show IntKind.i64.wrap _ = _
  simp only [BitVec.toNat_or]
  have e1 : IntKind.i64.bits = 64 := rfl
  rw [e1, ofInt_toNat hx (by omega), ofInt_toNat hy (by omega)]
  have : x.toNat ||| y.toNat < 2 ^ 63 := Nat.or_lt_two_pow (by omega) (by omega)
  exact w64 (by omega) (by omega)
theorem and1 {x : Int} (hx : 0 ≤ x) (hx2 : x ≤ 9223372036854775807) : ibits .and .i64 x 1 = x % 2 := by
  rw [and64 hx hx2 (by omega) (by omega)]
  have : (1 : Int).toNat = 1 := rfl
  rw [this, Nat.and_one_is_mod]
  omega
end Go.VX

/- A result whose new memory is never written any more. -/
namespace Go.VX
open Go.RowKit
set_option linter.unusedVariables false
set_option linter.unusedSimpArgs false
theorem VC.frzT {P : Program} {k : Nat} {args : List V} {Q Q' : V → List Ob → Prop} (h : VC P k args [] Q)
    (hq : ∀ r ob', Q r ob' → ∃ xs, r = .tup xs ∧ (∀ c ∈ xs, vwAOK ob' [] true c) ∧ (xs.map (vwA ob' [] true)).all V.notTup = true ∧ Q' (.tup (xs.map (vwA ob' [] true))) []) : VC P k args [] Q' := by
  refine ⟨h.1, fun Φ H w vals hs hv => (h.2 Φ H w vals hs hv).mono fun e w' q => ?_⟩
  cases e with
  | panicked c => exact q
  | outgrown => exact q
  | returned v =>
    obtain ⟨r, ob', Φ', H', h1, h2, h3⟩ := q
    obtain ⟨xs, rfl, h4, h5, h6⟩ := hq r ob' h3
    have hp : Passed Φ' H' ob' w' [] true [] := Passed.of h1.sim ⟨by simp, rfl, fun j i o h => by simp at h⟩
    obtain ⟨a, e0, e1, e2⟩ := h2
    refine ⟨.tup (xs.map (vwA ob' [] true)), [], phiC Φ' H' ob' [] true, VX.hC H' [], ⟨h1.os, h1.tape, h1.output, h1.size, h1.kept, hp.hsim, ⟨fun b hb => .inl (h1.ext.phi b hb), h1.ext.heap, Nat.le_refl _, fun i hi => absurd hi (by simp [ctx, mkE])⟩, fun b hb => ?_, fun i o b h => by simp at h⟩, ⟨a, h5, e1, ?_⟩, h6⟩
    · rcases hb with hb | ⟨_, i, o, g1, g2, _, g3⟩
      · exact h1.phi b hb
      · exact .inr (h1.mine i o b g1 g2 g3)
    · exact VReps.mapW (q := .any) xs _ (fun x _ v hq hx => vwA_sound hp hx hq) (fun _ _ _ _ => trivial) h4 e2
/-- Less may be said of a result. -/
theorem VC.wk {P : Program} {k : Nat} {args : List V} {ob : List Ob} {Q Q' : V → List Ob → Prop} (h : VC P k args ob Q)
    (hq : ∀ r ob', Q r ob' → ∃ r', (∀ E v, VRep E r v → VRep E r' v) ∧ Q' r' ob') : VC P k args ob Q' :=
  ⟨h.1, fun Φ H w vals hs hv => (h.2 Φ H w vals hs hv).mono fun e w' q => by
    cases e with
    | panicked c => exact q
    | outgrown => exact q
    | returned v =>
      obtain ⟨r, ob', Φ', H', h1, h2, h3⟩ := q
      obtain ⟨r', h4, h5⟩ := hq r ob' h3
      exact ⟨r', ob', Φ', H', h1, h4 _ _ h2, h5⟩⟩
end Go.VX
