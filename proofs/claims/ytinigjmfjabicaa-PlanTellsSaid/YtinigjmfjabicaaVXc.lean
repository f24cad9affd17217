/- A calculus over abstract values. -/
import Derived.Test.YtinigjmfjabicaaVXb
import Derived.ProofKit
import Derived.SizedLaws
import Derived.ReadAgain
import Derived.OpenShut
import Derived.Carry
import Derived.Deep.Slices
import Derived.WalkSmall
import Derived.RecoverIn
import Derived.RangeFuncCalls
import Derived.Sort.Grow
/- The top: from what a row says of its arguments to values of ours; from a contract of a law to its row. -/
namespace Go.VX
open Go.RowKit Go.ChangeShapes
set_option linter.unusedVariables false
set_option linter.unusedSimpArgs false

/-- A type, as far as plain data go. -/
inductive Ty where
  | bool | int (k : IntKind) | str
  | slice (e : Ty)
  | arr (n : Nat) (e : Ty)
  | struct (fs : Ty)
  | nil
  | cons (a b : Ty)

def Ty.n : Ty → Nat
  | .bool | .int _ | .str | .slice _ => 1
  | .arr n e => n * e.n
  | .struct fs => fs.n
  | .nil => 0
  | .cons a b => a.n + b.n
def Ty.one : Ty → Bool
  | .bool | .int _ | .str | .slice _ => true
  | _ => false

mutual
def Ty.okT (P : Program) : Ty → TypeId → Bool
  | .bool, t => match P.underlying t with | some .bool => true | _ => false
  | .int k, t => match P.underlying t with | some (.int k') => decide (k' = k) | _ => false
  | .str, t => match P.underlying t with | some .string => true | _ => false
  | .slice e, t => match P.underlying t with | some (.slice u) => decide (1 ≤ P.bytesOf u) && (decide (P.cellsOf u = e.n) && e.okT P u) | _ => false
  | .arr n e, t => match P.underlying t with | some (.array m u) => decide (m = n) && (decide (P.cellsOf t = n * e.n) && (decide (P.cellsOf u = e.n) && e.okT P u)) | _ => false
  | .struct fs, t => match P.underlying t with | some (.struct F) => decide (P.cellsOf t = fs.n) && fs.okF P 0 F.toList | _ => false
  | .nil, _ => false
  | .cons _ _, _ => false
def Ty.okF (P : Program) : Ty → Nat → List Field → Bool
  | .nil, _, [] => true
  | .cons a b, off, f :: fs => decide (f.offset = off) && (decide (P.cellsOf f.type = a.n) && (a.okT P f.type && b.okF P (off + a.n) fs))
  | _, _, _ => false
end

/-- Cells that are of a type. -/
def Fits : Ty → List V → Prop
  | .bool, cs => ∃ b, cs = [.bool b]
  | .int k, cs => ∃ n, cs = [.int k n] ∧ k.min ≤ n ∧ n ≤ k.max
  | .str, cs => ∃ s : ByteArray, cs = [.str s] ∧ s.size ≤ reachBytes
  | .slice e, cs => ∃ l : List (List V), cs = [.fs l.length l.flatten] ∧ l.length ≤ reachBytes ∧ ∀ x ∈ l, Fits e x
  | .arr n e, cs => ∃ l : List (List V), cs = l.flatten ∧ l.length = n ∧ ∀ x ∈ l, Fits e x
  | .struct fs, cs => Fits fs cs
  | .nil, cs => cs = []
  | .cons a b, cs => ∃ x y, cs = x ++ y ∧ Fits a x ∧ Fits b y

mutual
def vb : V → Nat
  | .str s => s.size + 1
  | .fs _ cs => vbs cs + 1
  | _ => 1
def vbs : List V → Nat
  | [] => 0
  | c :: cs => vb c + vbs cs
end
theorem vbs_append : ∀ (a b : List V), vbs (a ++ b) = vbs a + vbs b
  | [], b => by simp [vbs]
  | c :: a, b => by simp [vbs, vbs_append a b]; omega

mutual
def bulkD {H : Type} : DataW H → Nat
  | .lit (.string bytes) => bytes.length + 1
  | .lit _ => 1
  | .nil => 1
  | .ptr d => bulkD d + 1
  | .slice elems spare => bulkDs elems + bulkDs spare + 1
  | .agg parts => bulkDs parts + 1
  | .iface _ d => bulkD d + 1
  | .map entries => bulkEs entries + 1
  | .held _ => 1
def bulkDs {H : Type} : List (DataW H) → Nat
  | [] => 0
  | d :: r => bulkD d + bulkDs r
def bulkEs {H : Type} : List (Lit × DataW H) → Nat
  | [] => 0
  | x :: r => bulkE x + bulkEs r
def bulkE {H : Type} : Lit × DataW H → Nat
  | (.string bytes, d) => bytes.length + bulkD d + 1
  | (_, d) => bulkD d + 1
end
theorem bulkDs_append {H : Type} : ∀ (a b : List (DataW H)), bulkDs (a ++ b) = bulkDs a + bulkDs b
  | [], b => by simp [bulkDs]
  | c :: a, b => by simp [bulkDs, bulkDs_append a b]; omega
theorem bulkD_agg {H : Type} (l : List (DataW H)) : bulkD (.agg l) = bulkDs l + 1 := by simp [bulkD]
theorem bulkD_slice {H : Type} (l m : List (DataW H)) : bulkD (.slice l m) = bulkDs l + bulkDs m + 1 := by simp [bulkD]

theorem VReps.len_eq {q : Fl} {E : Env} {a b : List V} {us : List Value} (h : VReps q E a us) (k : VReps q E b us) : a.length = b.length := h.length.trans k.length.symm

theorem spot_of_cell {w : World} {a : Addr} {v : Value} (h : w.cell? a = some v) : a = ⟨a.block, a.off, none⟩ ∧ a.block < w.heap.size := by
  unfold World.cell? at h
  split at h
  · rename_i c x y he
    split at h
    · cases h
    · rename_i hs
      refine ⟨?_, lt_of_heap he⟩
      obtain ⟨b, o, s⟩ := a
      cases s <;> simp_all
  · cases h

section
variable {H : Type} {enc : TypeId × Value → H} {P : Program} {w : World}

abbrev reach (P : Program) (t : TypeId) (d : DataW H) : Prop := (d.weights P t).all (· ≤ reachBytes) = true
abbrev reachs (P : Program) (ts : List TypeId) (ds : List (DataW H)) : Prop := (DataW.weightsEach P ts ds).all (· ≤ reachBytes) = true
abbrev reachA (P : Program) (t : TypeId) (ds : List (DataW H)) : Prop := (DataW.weightsAll P t ds).all (· ≤ reachBytes) = true

theorem reachA_get {t : TypeId} : ∀ {ds : List (DataW H)}, reachA P t ds → ∀ (i : Nat) (d : DataW H), ds[i]? = some d → reach P t d
  | [], _, i, d, h => by simp at h
  | x :: r, h, i, d, hd => by
    simp only [reachA, DataW.weightsAll, List.all_append, Bool.and_eq_true] at h
    cases i with
    | zero => simp at hd; subst hd; exact h.1
    | succ i => exact reachA_get h.2 i d (by simpa using hd)

/-- What is known of the cells of one value. -/
def Got (E : Env) (ty : Ty) (cs : List Value) (m : Nat) : Prop := ∃ vs, VReps .frz E vs cs ∧ Fits ty vs ∧ vbs vs ≤ m

/-- Row after row. -/
theorem got_rows {E : Env} {e : Ty} {rd : Nat → Option Value} {c : Nat} (D : Nat → Nat) : ∀ (n : Nat),
    (∀ i, i < n → ∃ cs : List Value, cs.length = c ∧ (∀ j, j < c → rd (i * c + j) = cs[j]?) ∧ Got E e cs (D i)) →
    ∃ (l : List (List V)) (us : List Value), l.length = n ∧ us.length = n * c ∧ (∀ j, j < us.length → rd j = us[j]?) ∧ VReps .frz E l.flatten us ∧ (∀ x ∈ l, Fits e x) ∧ vbs l.flatten ≤ ((List.range n).map D).sum
  | 0, h => ⟨[], [], rfl, by simp, by simp, by simp [VReps], by simp, by simp [vbs]⟩
  | n + 1, h => by
    obtain ⟨l, us, h1, h2, h3, h4, h5, h6⟩ := got_rows D n fun i hi => h i (by omega)
    obtain ⟨cs, k1, k2, vs, k3, k4, k5⟩ := h n (by omega)
    refine ⟨l ++ [vs], us ++ cs, by simp [h1], by simp [h2, k1, Nat.add_mul], fun j hj => ?_, by simpa using h4.append k3, fun x hx => ?_, ?_⟩
    · rcases Nat.lt_or_ge j us.length with hlt | hge
      · rw [List.getElem?_append_left hlt]; exact h3 j hlt
      · rw [List.getElem?_append_right hge, ← k2 (j - us.length) (by simp at hj; omega)]
        congr 1
        omega
    · simp only [List.mem_append, List.mem_singleton] at hx
      rcases hx with hx | rfl
      · exact h5 x hx
      · exact k4
    · simp only [List.flatten_append, List.flatten_cons, List.flatten_nil, List.append_nil, vbs_append, List.range_succ, List.map_append, List.sum_append, List.map_cons, List.map_nil, List.sum_cons, List.sum_nil]
      omega
theorem bulkDs_range : ∀ (ds : List (DataW H)), ((List.range ds.length).map fun i => bulkD ((ds[i]?).getD .nil)).sum = bulkDs ds
  | [] => by simp [bulkDs]
  | d :: ds => by
    have := bulkDs_range ds
    simp only [List.length_cons, List.range_succ_eq_map, List.map_cons, List.map_map, List.sum_cons, bulkDs]
    rw [← this]
    rfl

theorem trod_got {E : Env} (hw : E.w = w) (hΦ : ∀ b, b < w.heap.size → E.Φ b) : ∀ ty : Ty,
    (∀ (t : TypeId) (fuel : Nat) (cs : List Value) (x : DataW H × List MemPlace), ty.okT P t = true → DataW.trod enc P w 0 (fun _ => true) true fuel t cs = some x → reach P t x.1 → Got E ty cs (bulkD x.1)) ∧
    (∀ (off : Nat) (F : List Field) (fuel : Nat) (cs : List Value) (xs : List (DataW H × List MemPlace)), ty.okF P off F = true → xs.length = F.length →
      (∀ (i : Nat) (f : Field), F[i]? = some f → DataW.trod enc P w 0 (fun _ => true) true fuel f.type ((cs.drop f.offset).take (P.cellsOf f.type)) = xs[i]?) →
      reachs P (F.map (·.type)) (xs.map (·.1)) → cs.length = off + ty.n → Got E ty (cs.drop off) (bulkDs (xs.map (·.1)))) := by
  intro ty
  induction ty with
  | bool =>
    refine ⟨fun t fuel cs x ht h hr => ?_, fun off F fuel cs xs ht => by simp [Ty.okF] at ht⟩
    simp only [Ty.okT] at ht
    split at ht <;> simp at ht
    rename_i hu
    obtain ⟨b, rfl, rfl⟩ := DataW.trod_bool hu h
    exact ⟨[.bool b], ⟨_, _, rfl, ⟨rfl, rfl⟩, rfl, rfl⟩, ⟨b, rfl⟩, by simp [vbs, vb, bulkD]⟩
  | int k =>
    refine ⟨fun t fuel cs x ht h hr => ?_, fun off F fuel cs xs ht => by simp [Ty.okF] at ht⟩
    simp only [Ty.okT] at ht
    split at ht <;> simp at ht
    rename_i k' hu
    subst ht
    obtain ⟨n, rfl, rfl, hwf⟩ := DataW.trod_int hu h
    simp only [Lit.wf, Bool.and_eq_true, decide_eq_true_eq] at hwf
    exact ⟨[.int k' n], ⟨_, _, rfl, ⟨rfl, rfl⟩, rfl, rfl⟩, ⟨n, rfl, hwf⟩, by simp [vbs, vb, bulkD]⟩
  | str =>
    refine ⟨fun t fuel cs x ht h hr => ?_, fun off F fuel cs xs ht => by simp [Ty.okF] at ht⟩
    simp only [Ty.okT] at ht
    split at ht <;> simp at ht
    rename_i hu
    obtain ⟨s, rfl, rfl, hsz⟩ := DataW.trod_string hu h
    have e : s.data.toList.length = s.size := Array.length_toList
    refine ⟨[.str s], ⟨_, _, rfl, ⟨rfl, rfl⟩, rfl, rfl⟩, ⟨s, rfl, ?_⟩, by simp [vbs, vb, bulkD, e]⟩
    simpa [reach, DataW.weights, e] using hr
  | slice e ih =>
    refine ⟨fun t fuel cs x ht h hr => ?_, fun off F fuel cs xs ht => by simp [Ty.okF] at ht⟩
    simp only [Ty.okT] at ht
    split at ht <;> simp at ht
    rename_i u hu
    obtain ⟨hb1, hc, hte⟩ := ht
    rcases DataW.trod_slice hu h with ⟨rfl, rfl⟩ | ⟨a, len, cap, elems, rest, n, _, rfl, rfl, _, hl, hm, hlen, hel, hsp, _⟩
    · refine ⟨[.fs 0 []], ⟨_, _, rfl, ⟨rfl, rfl⟩, ⟨none, 0, [], rfl, Nat.le_refl _, rfl, fun h => by simp at h⟩, rfl⟩, ⟨[], rfl, by simp, by simp⟩, by simp [vbs, vb, bulkD]⟩
    · simp only [reach, DataW.weights, hu, List.all_cons, List.all_append, Bool.and_eq_true, decide_eq_true_eq, List.length_map] at hr
      obtain ⟨hr1, hr2, _⟩ := hr
      have hlr : len ≤ reachBytes := by
        have := Nat.mul_le_mul_left (elems.length + rest.length) hb1
        omega
      have hD : ∀ i, i < len → ∃ cs : List Value, cs.length = e.n ∧ (∀ j, j < e.n → w.cell? (a.add (i * e.n + j)) = cs[j]?) ∧ Got E e cs (bulkD (((elems.map (·.1))[i]?).getD .nil)) := by
        intro i hi
        have key := hel i hi
        rw [List.getElem?_eq_getElem (show i < elems.length by omega)] at key
        obtain ⟨cs', h1, h2⟩ := Option.bind_eq_some_iff.1 key
        obtain ⟨_, g1, g2⟩ := World.cells?_some h1
        refine ⟨cs', by rw [g1, hc], fun j hj => ?_, ?_⟩
        · rw [← g2 j (by omega), Go.Deep.add_add, hc]
        · have := ih.1 u n cs' _ hte h2 (reachA_get hr2 i _ (by simp [List.getElem?_eq_getElem (show i < elems.length by omega)]))
          simpa [List.getElem?_eq_getElem (show i < elems.length by omega)] using this
      obtain ⟨l, us, q1, q2, q3, q4, q5, q6⟩ := got_rows (E := E) (rd := fun j => w.cell? (a.add j)) _ len hD
      have e1 : len = (elems.map (·.1)).length := by simp [hlen]
      refine ⟨[.fs l.length l.flatten], ⟨_, _, rfl, ⟨rfl, rfl⟩, ⟨some a, cap, us, by rw [q1], by omega, q4, fun hu => ?_⟩, rfl⟩, ⟨l, rfl, by omega, q5⟩, ?_⟩
      · have h0 := q3 0 hu
        rw [List.getElem?_eq_getElem hu] at h0
        obtain ⟨s1, s2⟩ := spot_of_cell h0
        simp only [Addr.add, if_true] at s1 s2
        refine ⟨a.block, a.off, by rw [← s1], hΦ _ s2, fun j hj => ?_⟩
        rw [hw, ← q3 j hj]
        congr 1
        rw [s1]
        by_cases hj0 : j = 0 <;> simp [Addr.add, hj0]
      · rw [e1, bulkDs_range] at q6
        simp only [vbs, vb, bulkD_slice]
        omega
  | arr n e ih =>
    refine ⟨fun t fuel cs x ht h hr => ?_, fun off F fuel cs xs ht => by simp [Ty.okF] at ht⟩
    simp only [Ty.okT] at ht
    split at ht <;> simp at ht
    rename_i m u hu
    obtain ⟨rfl, hct, hc, hte⟩ := ht
    obtain ⟨xs, fu, _, rfl, hcl, hxl, hx⟩ := DataW.trod_array hu h
    simp only [reach, DataW.weights, hu] at hr
    have hD : ∀ i, i < m → ∃ cs' : List Value, cs'.length = e.n ∧ (∀ j, j < e.n → cs[i * e.n + j]? = cs'[j]?) ∧ Got E e cs' (bulkD (((xs.map (·.1))[i]?).getD .nil)) := by
      intro i hi
      have key := hx i hi
      rw [List.getElem?_eq_getElem (show i < xs.length by omega)] at key
      have hle : (i + 1) * e.n ≤ m * e.n := Nat.mul_le_mul_right _ hi
      have e3 : (i + 1) * e.n = i * e.n + e.n := by rw [Nat.add_mul]; omega
      refine ⟨(cs.drop (i * P.cellsOf u)).take (P.cellsOf u), by simp [hc]; omega, fun j hj => ?_, ?_⟩
      · rw [hc, List.getElem?_take, if_pos hj, List.getElem?_drop]
      · have := ih.1 u fu _ _ hte key (reachA_get hr i _ (by simp [List.getElem?_eq_getElem (show i < xs.length by omega)]))
        simpa [List.getElem?_eq_getElem (show i < xs.length by omega)] using this
    obtain ⟨l, us, q1, q2, q3, q4, q5, q6⟩ := got_rows (E := E) (rd := fun j => cs[j]?) _ m hD
    have e1 : m = (xs.map (·.1)).length := by simp [hxl]
    have hus : us = cs := by
      apply List.ext_getElem?
      intro j
      rcases Nat.lt_or_ge j us.length with hlt | hge
      · exact (q3 j hlt).symm
      · rw [List.getElem?_eq_none hge, List.getElem?_eq_none (by omega)]
    subst hus
    refine ⟨l.flatten, q4, ⟨l, rfl, q1, q5⟩, ?_⟩
    rw [e1, bulkDs_range] at q6
    simp only [bulkD_agg]
    omega
  | struct fs ih =>
    refine ⟨fun t fuel cs x ht h hr => ?_, fun off F fuel cs xs ht => by simp [Ty.okF] at ht⟩
    simp only [Ty.okT] at ht
    split at ht <;> simp at ht
    rename_i F hu
    obtain ⟨hct, htf⟩ := ht
    obtain ⟨xs, fu, _, rfl, hcl, hxl, hx⟩ := DataW.trod_struct hu h
    simp only [reach, DataW.weights, hu] at hr
    have := ih.2 0 F.toList fu cs xs htf (by simpa using hxl) (fun i f hf => hx i f (by simpa using hf)) hr (by omega)
    obtain ⟨vs, g1, g2, g3⟩ := this
    exact ⟨vs, by simpa using g1, g2, by simp only [bulkD_agg]; omega⟩
  | nil =>
    refine ⟨fun t fuel cs x ht => by simp [Ty.okT] at ht, fun off F fuel cs xs ht hl hx hr hcl => ?_⟩
    cases F with
    | cons f F => simp [Ty.okF] at ht
    | nil =>
      obtain rfl : xs = [] := by simpa using hl
      refine ⟨[], ?_, rfl, by simp [vbs]⟩
      rw [List.drop_eq_nil_of_le (by simp [hcl, Ty.n])]
      rfl
  | cons a b iha ihb =>
    refine ⟨fun t fuel cs x ht => by simp [Ty.okT] at ht, fun off F fuel cs xs ht hl hx hr hcl => ?_⟩
    cases F with
    | nil => simp [Ty.okF] at ht
    | cons f F =>
      simp only [Ty.okF, Bool.and_eq_true, decide_eq_true_eq] at ht
      obtain ⟨ho, hc, hta, htb⟩ := ht
      cases xs with
      | nil => simp at hl
      | cons x xs =>
        simp only [reachs, List.map_cons, DataW.weightsEach, List.all_append, Bool.and_eq_true] at hr
        obtain ⟨vs, g1, g2, g3⟩ := iha.1 f.type fuel _ x hta (hx 0 f rfl) hr.1
        obtain ⟨vs', g1', g2', g3'⟩ := ihb.2 (off + a.n) F fuel cs xs htb (by simpa using hl) (fun i f' hf => by simpa using hx (i + 1) f' (by simpa using hf)) hr.2 (by simp only [Ty.n] at hcl; omega)
        rw [ho, hc] at g1
        refine ⟨vs ++ vs', ?_, ⟨vs, vs', rfl, g2, g2'⟩, ?_⟩
        · have e : cs.drop off = (cs.drop off).take a.n ++ cs.drop (off + a.n) := by
            rw [← List.drop_drop, List.take_append_drop]
          rw [e]
          exact g1.append g1'
        · simp only [vbs_append, List.map_cons, bulkDs]
          omega
end

/-! ### Arguments -/
def ArgFits (ty : Ty) (x : V) : Prop := if ty.one = true then Fits ty [x] else ∃ cs, x = .agg cs ∧ Fits ty cs
def AllFit : List Ty → List V → Prop
  | [], [] => True
  | t :: ts, x :: xs => ArgFits t x ∧ AllFit ts xs
  | _, _ => False
def bulkV : V → Nat
  | .agg cs => vbs cs
  | x => vb x
def bulkVs (xs : List V) : Nat := (xs.map bulkV).sum
def argsOK (P : Program) : List Ty → List TypeId → Bool
  | [], [] => true
  | y :: ys, t :: ts => (y.okT P t && (P.readableRec t && decide (t < P.types.size))) && argsOK P ys ts
  | _, _ => false

section
variable {H : Type} {enc : TypeId × Value → H} {P : Program} {w : World}

theorem one_trod {ty : Ty} {t : TypeId} {v : Value} {r : Reach} {base : Nat} (h1 : ty.one = true) (ht : ty.okT P t = true) (hv : Value.okWide P w r base t v) : v.cells = #[v] := by
  cases v with
  | agg cs =>
    exfalso
    cases ty <;> simp [Ty.one] at h1 <;> simp only [Ty.okT] at ht <;> split at ht <;> simp at ht <;> rename_i hu <;> simp [Value.okWide, hu, Cell.okWide, Cell.ok] at hv
  | _ => rfl
theorem agg_trod {ty : Ty} {t : TypeId} {v : Value} {r : Reach} {base : Nat} (h1 : ¬ ty.one = true) (ht : ty.okT P t = true) (hv : Value.okWide P w r base t v) : ∃ cs, v = .agg cs := by
  cases ty <;> simp [Ty.one] at h1 <;> simp only [Ty.okT] at ht <;> first | (simp at ht; done) | skip
  all_goals
    split at ht <;> simp at ht
    rename_i hu
    simp only [Value.okWide, hu] at hv
    obtain ⟨cs, rfl, _⟩ := hv
    exact ⟨cs, rfl⟩

theorem arg_got {E : Env} (hw : E.w = w) (hΦ : ∀ b, b < w.heap.size → E.Φ b) {ty : Ty} {t : TypeId} {v : Value} {d : DataW H} {ps : List MemPlace} {r : Reach} {base : Nat}
    (ht : ty.okT P t = true) (hv : Value.okWide P w r base t v) (h : DataW.Trod enc P w 0 (fun _ => true) true t v d ps) (hr : reach P t d) : ∃ x, VRep E x v ∧ ArgFits ty x ∧ bulkV x ≤ bulkD d := by
  obtain ⟨fuel, hf⟩ := h
  obtain ⟨vs, h1, h2, h3⟩ := (trod_got hw hΦ ty).1 t fuel _ _ ht hf hr
  by_cases ho : ty.one = true
  · rw [one_trod ho ht hv] at h1
    match vs, h1 with
    | [], h1 => simp [VReps] at h1
    | x :: xs, ⟨u, us, e, _, hx, hxs⟩ =>
      simp at e
      obtain ⟨rfl, rfl⟩ := e
      match xs, hxs with
      | [], _ =>
        refine ⟨x, hx, by unfold ArgFits; rw [if_pos ho]; exact h2, ?_⟩
        cases x <;> simp_all [bulkV, vbs]
        exfalso
        rename_i cs
        cases ty <;> simp [Ty.one] at ho <;> simp [Fits] at h2
      | _ :: _, hxs => obtain ⟨_, _, e, _⟩ := hxs; simp at e
  · obtain ⟨cs, rfl⟩ := agg_trod ho ht hv
    exact ⟨.agg vs, ⟨cs, rfl, VReps.weak h1⟩, by unfold ArgFits; rw [if_neg ho]; exact ⟨vs, rfl, h2⟩, h3⟩

theorem args_got {E : Env} (hw : E.w = w) (hΦ : ∀ b, b < w.heap.size → E.Φ b) {r : Reach} {base : Nat} : ∀ {tys : List Ty} {ts : List TypeId} {vs : List Value} {ds : List (DataW H)} {ps : List MemPlace},
    argsOK P tys ts = true → (∀ (j : Nat) (t : TypeId) (v : Value), ts[j]? = some t → vs[j]? = some v → Value.okWide P w r base t v) →
    DataW.TrodAll enc P w 0 (fun _ => true) true ts vs ds ps → reachs P ts ds → ∃ xs, VReps .any E xs vs ∧ AllFit tys xs ∧ bulkVs xs ≤ bulkDs ds
  | [], [], vs, ds, ps, _, _, h, _ => by
    obtain ⟨rfl, rfl, _⟩ := trodAll_nil h
    exact ⟨[], rfl, trivial, by simp [bulkVs]⟩
  | y :: ys, [], _, _, _, h, _, _, _ => by simp [argsOK] at h
  | [], t :: ts, _, _, _, h, _, _, _ => by simp [argsOK] at h
  | y :: ys, t :: ts, vs, ds, ps, hok, hv, h, hr => by
    obtain ⟨v, vs', d, ds', p, q, rfl, rfl, rfl, h1, h2⟩ := trodAll_cons h
    simp only [argsOK, Bool.and_eq_true] at hok
    simp only [reachs, DataW.weightsEach, List.all_append, Bool.and_eq_true] at hr
    obtain ⟨x, g1, g2, g3⟩ := arg_got hw hΦ hok.1.1 (hv 0 t v rfl rfl) h1 hr.1
    obtain ⟨xs, k1, k2, k3⟩ := args_got hw hΦ hok.2 (fun j t v a b => hv (j + 1) t v (by simpa using a) (by simpa using b)) h2 hr.2
    exact ⟨x :: xs, ⟨v, vs', rfl, trivial, g1, k1⟩, ⟨g2, k2⟩, by simp only [bulkVs, List.map_cons, List.sum_cons, bulkDs] at k3 ⊢; omega⟩

theorem args_kept (hl : laidOutB P = true) {W W' : World} (hb : Below W.heap.size W W') : ∀ {tys : List Ty} {ts : List TypeId} {vs : List Value} {ds : List (DataW H)} {ps : List MemPlace},
    argsOK P tys ts = true → DataW.TrodAll enc P W 0 (fun _ => true) true ts vs ds ps → (∀ x ∈ ps, x.block < W.heap.size) → DataW.TrodAll enc P W' 0 (fun b => decide (b < W.heap.size)) true ts vs ds ps
  | [], [], vs, ds, ps, _, h, _ => by
    obtain ⟨rfl, rfl, rfl⟩ := trodAll_nil h
    exact trodAll_mk0
  | y :: ys, [], _, _, _, h, _, _ => by simp [argsOK] at h
  | [], t :: ts, _, _, _, h, _, _ => by simp [argsOK] at h
  | y :: ys, t :: ts, vs, ds, ps, hok, h, hlt => by
    obtain ⟨v, vs', d, ds', p, q, rfl, rfl, rfl, h1, h2⟩ := trodAll_cons h
    simp only [argsOK, Bool.and_eq_true, decide_eq_true_eq] at hok
    exact ⟨p, q, Below.trod hl hok.1.2.1 hok.1.2.2 h1 hb (fun x hx => hlt x (List.mem_append_left _ hx)), args_kept hl hb hok.2 h2 (fun x hx => hlt x (List.mem_append_right _ hx)), rfl⟩
end

theorem argsOK_len {P : Program} : ∀ {tys : List Ty} {ts : List TypeId}, argsOK P tys ts = true → ts.length = tys.length
  | [], [], _ => rfl
  | y :: ys, [], h => by simp [argsOK] at h
  | [], t :: ts, h => by simp [argsOK] at h
  | y :: ys, t :: ts, h => by simp only [argsOK, Bool.and_eq_true] at h; simp [argsOK_len h.2]
theorem trod_len {H : Type} {enc : TypeId × Value → H} {P : Program} {w : World} {b : Nat} {sp : Nat → Bool} {hd : Bool} : ∀ {ts : List TypeId} {vs : List Value} {ds : List (DataW H)} {ps : List MemPlace}, DataW.TrodAll enc P w b sp hd ts vs ds ps → ds.length = ts.length
  | [], vs, ds, ps, h => by obtain ⟨rfl, rfl, _⟩ := trodAll_nil h; rfl
  | t :: ts, vs, ds, ps, h => by
    obtain ⟨v, vs', d, ds', p, q, rfl, rfl, rfl, h1, h2⟩ := trodAll_cons h
    simp [trod_len h2]
/-- No object at all; all that is there is not to change. -/
theorem HSim.top (W : World) : HSim (fun b => b < W.heap.size) (fun _ => none) [] W := ⟨fun _ h => h, fun i o h => by simp at h, fun i j o o' b h => by simp at h⟩
theorem HS.below {W W' : World} {Φ Φ' : Nat → Prop} {H H' : Nat → Option Nat} {ob' : List Ob} {nt : Sh} (h : HS (ctx Φ H [] W nt) Φ' H' ob' W') : Below W.heap.size W W' :=
  ⟨h.os, h.tape, h.output.1, h.size, fun k hk => h.kept k hk (fun ⟨i, o, h1, _⟩ => by simp at h1)⟩
theorem keptBut_of_below {W W' : World} (h : Below W.heap.size W W') (may : MemPlace → Prop) : W.keptBut W' may := by
  refine ⟨h.os, h.output, fun i hi => ?_⟩
  rw [h.block i hi]
  cases W.heap[i]? with
  | none => simp
  | some o => cases o <;> simp

section
variable {H : Type} {enc : TypeId × Value → H}

/-- What a law's call comes to, out of its contract. -/
theorem law_calls {P : Program} {k : Nat} {fn : Func} {s : ChangeSpec} {tys : List Ty} {tb : TypeId} {apart fresh handsOn : Bool}
    (hl : laidOutB P = true) (hpar : argsOK P tys fn.params.toList = true) (hres : fn.resultTypes = #[tb]) (hb : P.underlying tb = some .bool) (hvars : s.vars = [])
    (hspec : ∀ (H : Type) (ds : List (DataW H)), ds.length = tys.length → s.fn H ds = { results := [.lit (.bool true)], args := ds })
    {W : World} {base : Nat} {args : Array Value} {ds gs : List (DataW H)} {before : List MemPlace}
    (hval : ∀ (j : Nat) t v, fn.params[j]? = some t → args[j]? = some v → Value.okWide P W .any base t v)
    (hW : DataW.Whole enc P fn.params.toList s.vars apart W args.toList ds gs before)
    (hsz : (DataW.weightsEach P (fn.params.toList ++ s.plain.varTypes P) (ds ++ gs)).all (· ≤ reachBytes) = true)
    (hVC : ∀ xs : List V, AllFit tys xs → bulkVs xs ≤ bulkDs ds → VC P k xs [] (fun r _ => r = .bool true)) :
    Calls P k args W fun e W' => ∃ v, e = .returned v ∧ s.post enc P fn apart fresh handsOn false W args v W' := by
  have hW0 := hW
  have hlt := hW.lt
  obtain ⟨p, q, hA, hV, rfl, hfz, hnd⟩ := hW
  rw [hvars] at hV
  obtain ⟨rfl, rfl⟩ := trodVars_none hV
  have hvt : s.plain.varTypes P = [] := by
    show DataSpec.varTypes P s.plain = []
    unfold DataSpec.varTypes ChangeSpec.plain
    simp [hvars]
  rw [hvt, List.append_nil, List.append_nil] at hsz
  rw [List.append_nil] at hlt
  obtain ⟨xs, h1, h2, h3⟩ := args_got (E := mkE (fun b => b < W.heap.size) (fun _ => none) [] W) rfl (fun _ h => h) hpar (fun j t v a b => hval j t v (by simpa using a) (by simpa using b)) hA hsz
  have hlen : ds.length = tys.length := by
    rw [trod_len hA]
    exact argsOK_len hpar
  refine ((hVC xs h2 h3).2 _ _ W args (HSim.top W) h1).mono fun e W' q => ?_
  cases e with
  | panicked c => exact q.elim
  | outgrown => exact q.elim
  | returned v =>
    obtain ⟨r, ob', Φ', H', q1, q2, rfl⟩ := q
    obtain rfl : v = .bool true := q2
    have hbel := q1.below
    refine ⟨_, rfl, ds, [], p ++ [], [], p, [], hW0, ?_, ?_, ?_, keptBut_of_below hbel _, fun h => by cases h⟩
    · rw [List.append_nil, hspec _ _ hlen, hres]
      exact trodAll_mk1 (shut_bool hb true)
    · rw [List.append_nil, hspec _ _ hlen]
      exact args_kept hl hbel hpar hA hlt
    · rw [hvars, List.append_nil, hspec _ _ hlen]
      rfl
end

/-! ### From cells to lists of ours -/
theorem list_of {α : Type} (f : α → List V) (p : α → Prop) : ∀ {l : List (List V)}, (∀ x ∈ l, ∃ a, x = f a ∧ p a) → ∃ as : List α, as.length = l.length ∧ l.flatten = as.flatMap f ∧ ∀ a ∈ as, p a
  | [], _ => ⟨[], rfl, rfl, by simp⟩
  | x :: l, h => by
    obtain ⟨a, rfl, ha⟩ := h x (by simp)
    obtain ⟨as, h1, h2, h3⟩ := list_of f p (l := l) fun y hy => h y (by simp [hy])
    exact ⟨a :: as, by simp [h1], by simp [h2], by simpa using ⟨ha, h3⟩⟩
/-- A slice of plain values, each of one cell or many. -/
theorem fits_slice {α : Type} (f : α → List V) (p : α → Prop) {e : Ty} (he : ∀ cs, Fits e cs → ∃ a, cs = f a ∧ p a) {cs : List V} (h : Fits (.slice e) cs) :
    ∃ as : List α, cs = [.fs as.length (as.flatMap f)] ∧ as.length ≤ reachBytes ∧ ∀ a ∈ as, p a := by
  obtain ⟨l, rfl, h1, h2⟩ := h
  obtain ⟨as, g1, g2, g3⟩ := list_of f p fun x hx => he x (h2 x hx)
  exact ⟨as, by rw [g1, g2], by omega, g3⟩
theorem flatMap_one {α : Type} (g : α → V) : ∀ l : List α, l.flatMap (fun n => [g n]) = l.map g
  | [] => rfl
  | a :: l => by simp [flatMap_one g l]
theorem fits_ints {k : IntKind} {cs : List V} (h : Fits (.slice (.int k)) cs) : ∃ l : List Int, cs = [.fs l.length (l.map (V.int k))] ∧ l.length ≤ reachBytes ∧ ∀ a ∈ l, k.min ≤ a ∧ a ≤ k.max := by
  obtain ⟨l, h1, h2, h3⟩ := fits_slice (fun n => [V.int k n]) (fun n => k.min ≤ n ∧ n ≤ k.max) (fun cs h => by simpa only [Fits] using h) h
  exact ⟨l, by rw [h1, flatMap_one], h2, h3⟩
theorem allFit_nil {xs : List V} (h : AllFit [] xs) : xs = [] := by
  cases xs with
  | nil => rfl
  | cons x xs => exact h.elim
theorem allFit_cons {t : Ty} {ts : List Ty} {xs : List V} (h : AllFit (t :: ts) xs) : ∃ x r, xs = x :: r ∧ ArgFits t x ∧ AllFit ts r := by
  cases xs with
  | nil => exact h.elim
  | cons x xs => exact ⟨x, xs, rfl, h.1, h.2⟩
theorem argFits_one {t : Ty} {x : V} (h1 : t.one = true) (h : ArgFits t x) : Fits t [x] := by
  unfold ArgFits at h
  rwa [if_pos h1] at h
theorem argFits_int {k : IntKind} {x : V} (h : ArgFits (.int k) x) : ∃ n, x = .int k n ∧ k.min ≤ n ∧ n ≤ k.max := by
  replace h := argFits_one rfl h
  simp only [Fits] at h
  obtain ⟨n, h1, h2⟩ := h
  simp at h1
  exact ⟨n, h1, h2⟩
theorem argFits_str {x : V} (h : ArgFits .str x) : ∃ s : ByteArray, x = .str s ∧ s.size ≤ reachBytes := by
  replace h := argFits_one rfl h
  simp only [Fits] at h
  obtain ⟨n, h1, h2⟩ := h
  simp at h1
  exact ⟨n, h1, h2⟩
theorem argFits_slice {α : Type} (f : α → List V) (p : α → Prop) {e : Ty} (he : ∀ cs, Fits e cs → ∃ a, cs = f a ∧ p a) {x : V} (h : ArgFits (.slice e) x) :
    ∃ as : List α, x = .fs as.length (as.flatMap f) ∧ as.length ≤ reachBytes ∧ ∀ a ∈ as, p a := by
  replace h := argFits_one rfl h
  obtain ⟨as, h1, h2⟩ := fits_slice f p he h
  simp at h1
  exact ⟨as, h1, h2⟩
theorem argFits_ints {k : IntKind} {x : V} (h : ArgFits (.slice (.int k)) x) : ∃ l : List Int, x = .fs l.length (l.map (V.int k)) ∧ l.length ≤ reachBytes ∧ ∀ a ∈ l, k.min ≤ a ∧ a ≤ k.max := by
  replace h := argFits_one rfl h
  obtain ⟨as, h1, h2⟩ := fits_ints h
  simp at h1
  exact ⟨as, h1, h2⟩
end Go.VX

/- Results that lie in memory. -/
namespace Go.VX
open Go.RowKit
set_option linter.unusedVariables false
set_option linter.unusedSimpArgs false

def vres (T : Nat → Option TI) (st : St) : ResultVar → Option (Prop × V)
  | .tmp t => some (True, getS st.sl t)
  | .cell c t => match vop T st.sl st.ob (.load t (.tmp c)) with
    | some (p, x, _) => some (p, x)
    | none => none
def vress (T : Nat → Option TI) (st : St) : List ResultVar → Option (Prop × List V)
  | [] => some (True, [])
  | r :: rs => match vres T st r, vress T st rs with
    | some (p, x), some (q, xs) => some (p ∧ q, x :: xs)
    | _, _ => none
def tupV : List V → V
  | [x] => x
  | xs => .tup xs
/-- Results, and what is still wanted of the objects. -/
def outQ (k0 : Nat) (Q : V → List Ob → Prop) (xs : List V) (ob : List Ob) : Prop :=
  ∃ xs' objs, xs'.length = xs.length ∧ (xs'.length = 1 ∨ xs'.all V.notTup = true) ∧ Gh ⟨xs.length, k0, false⟩ ⟨argSlots 0 xs, ob⟩ ⟨argSlots 0 xs', objs⟩ ∧ Q (tupV xs') objs
def retQc (T : Nat → Option TI) (fn : Func) (k0 : Nat) (Q : V → List Ob → Prop) : X → St → Prop
  | .norm, st => ∃ p xs, vress T st fn.results.toList = some (p, xs) ∧ p ∧ outQ k0 Q xs st.ob
  | .ret, st => ∃ p xs, vress T st fn.results.toList = some (p, xs) ∧ p ∧ outQ k0 Q xs st.ob
  | .ex _, _ => False

section
variable {P : Program} {T : Nat → Option TI}

def resOf (tmps : Array Value) : ResultVar → Sem Value
  | .tmp t => pure (tmps.getD t undef)
  | .cell a t => do loadVar t (← asAddr (tmps.getD a undef))
theorem results_eq (fn : Func) (tmps : Array Value) : results fn tmps = (do
    let vs ← fn.results.mapM (resOf tmps)
    pure (if h : vs.size = 1 then vs[0] else .tuple vs)) := by
  unfold results
  congr 1

theorem vres_sound (hT : TabOK P T) {C Φ H st a w} (s : SimE C Φ H st a w) {x : ResultVar} {p : Prop} {r : V} (h : vres T st x = some (p, r)) (hp : p) : ∃ v, (resOf a.tmps x).run P w = .ok v w ∧ VRep (mkE Φ H st.ob w) r v := by
  cases x with
  | tmp t =>
    simp only [vres, Option.some.injEq, Prod.mk.injEq] at h
    obtain ⟨_, rfl⟩ := h
    exact ⟨_, rfl, s.slots t⟩
  | cell c t =>
    simp only [vres, vop] at h
    split at h
    case h_2 => cases h
    rename_i p' x' ob' hv
    simp only [Option.some.injEq, Prod.mk.injEq] at h
    obtain ⟨rfl, rfl⟩ := h
    split at hv
    case h_2 => cases hv
    rename_i i p' cs off ht hr
    have hx := s.eval (.tmp c)
    have he : a.eval (.tmp c) = a.tmps.getD c undef := rfl
    rw [he] at hx
    have conv : ∀ (p'' : Prop) (h3 : p'') (e : p'' = p') (u : Value), (Instr.loadAt t (a.tmps.getD c undef)).run P w = .ok u w → (resOf a.tmps (.cell c t)).run P w = .ok u w := by
      intro p'' h3 e u h4
      obtain ⟨b, o, us, hv', _⟩ := rdV_sound s.hs.sim hx hr (e ▸ h3)
      show (do loadVar t (← asAddr (a.tmps.getD c undef)) : Sem Value).run P w = _
      rw [hv'] at h4 ⊢
      simpa [Instr.loadAt, Instr.sureAddr, asAddr] using h4
    split at hv
    · rename_i ha
      simp only [Option.some.injEq, Prod.mk.injEq] at hv; obtain ⟨rfl, rfl, rfl⟩ := hv
      obtain ⟨u, h1, h2⟩ := (load_sound (P := P) hT s.hs.sim ht hx hr hp.1).1 ha hp.2
      exact ⟨u, conv _ hp.1 rfl u h1, h2⟩
    · rename_i ha
      simp only [Option.some.injEq, Prod.mk.injEq] at hv; obtain ⟨rfl, rfl, rfl⟩ := hv
      obtain ⟨u, h1, h2, _⟩ := (load_sound (P := P) hT s.hs.sim ht hx hr hp.1).2 (by simpa using ha) (cs.getD off .junk) (by rw [List.getD_eq_getElem?_getD, List.getElem?_eq_getElem hp.2]; rfl)
      exact ⟨u, conv _ hp.1 rfl u h1, h2⟩

theorem vress_sound (hT : TabOK P T) {C Φ H st a w} (s : SimE C Φ H st a w) : ∀ {rs : List ResultVar} {p : Prop} {xs : List V}, vress T st rs = some (p, xs) → p →
    ∃ vs : List Value, (rs.mapM (resOf a.tmps)).run P w = .ok vs w ∧ VReps .any (mkE Φ H st.ob w) xs vs
  | [], p, xs, h, hp => by
    simp only [vress, Option.some.injEq, Prod.mk.injEq] at h
    obtain ⟨_, rfl⟩ := h
    exact ⟨[], by simp, rfl⟩
  | r :: rs, p, xs, h, hp => by
    simp only [vress] at h
    split at h
    case h_2 => cases h
    rename_i p1 x p2 ys h1 h2
    simp only [Option.some.injEq, Prod.mk.injEq] at h
    obtain ⟨rfl, rfl⟩ := h
    obtain ⟨v, g1, g2⟩ := vres_sound hT s h1 hp.1
    obtain ⟨vs, g3, g4⟩ := vress_sound hT s h2 hp.2
    refine ⟨v :: vs, ?_, v, vs, rfl, trivial, g2, g4⟩
    rw [List.mapM_cons]
    simp [g1, g3]

theorem results_run {fn : Func} {tmps : Array Value} {w : World} {vs : List Value} (hvs : (fn.results.toList.mapM (resOf tmps)).run P w = .ok vs w) : (results fn tmps).run P w = .ok (if h : vs.toArray.size = 1 then vs.toArray[0] else .tuple vs.toArray) w := by
  rw [results_eq]
  have hfr : fn.results = fn.results.toList.toArray := by simp
  rw [hfr, List.mapM_toArray]
  simp only [Sem.run_bind, Sem.run_map, hvs]
  simp only [Result.andThen_ok, Sem.run_pure]
theorem tupV_rep {E : Env} {xs : List V} {vs : List Value} (h : VReps .any E xs vs) (hn : xs.length = 1 ∨ xs.all V.notTup = true) : VRep E (tupV xs) (if h : vs.toArray.size = 1 then vs.toArray[0] else .tuple vs.toArray) := by
  have hl := h.length
  by_cases h1 : xs.length = 1
  · match xs, h1, h with
    | [x], _, ⟨v, r, e, _, g3, g4⟩ =>
      have g5 : r = [] := g4
      subst g5
      subst e
      simpa [tupV] using g3
  · rw [dif_neg (by simpa [← hl] using h1)]
    have hn' := hn.resolve_left h1
    have e : tupV xs = .tup xs := by
      match xs, h1 with
      | [], _ => rfl
      | _ :: _ :: _, _ => rfl
    rw [e]
    exact ⟨vs.toArray, hn', rfl, by simpa using h⟩
theorem reps_of_slots {E : Env} : ∀ {xs : List V} {vs : List Value}, xs.length = vs.length → (∀ i, VRep E (xs.getD i .junk) (vs.getD i undef)) → VReps .any E xs vs
  | [], [], _, _ => rfl
  | [], _ :: _, h, _ => by simp at h
  | _ :: _, [], h, _ => by simp at h
  | x :: xs, v :: vs, h, k => ⟨v, vs, rfl, trivial, by simpa using k 0, reps_of_slots (by simpa using h) fun i => by simpa using k (i + 1)⟩

theorem VC_of_vwp_c (hT : TabOK P T) {k : Nat} {fn : Func} {c : Code} {args : List V} {ob : List Ob} {Q : V → List Ob → Prop} (he : Ent P k) (hf : P.funcs[k]? = some fn) (hb : fn.body = some c) (hn : args.length ≤ fn.ntmps)
    (h : ∀ R : X → St → Prop, (∀ x st, (∃ st', Gh ⟨fn.ntmps, ob.length, false⟩ st st' ∧ retQc T fn ob.length Q x st') → R x st) → vwp P ⟨fn.ntmps, ob.length, false⟩ c R ⟨argSlots 0 args, ob⟩) : VC P k args ob Q := by
  replace h := vwp_post (h _ fun _ _ h => h)
  refine ⟨he, fun Φ H w vals hs hv => calls_of_gw hf hb ?_⟩
  have hl := hv.length
  simp only [Array.length_toList] at hl
  have s : SimE (ctx Φ H ob w ⟨fn.ntmps, ob.length, false⟩) Φ H ⟨argSlots 0 args, ob⟩ { tmps := vals ++ Array.replicate (fn.ntmps - vals.size) undef, defers := [] } w := by
    refine ⟨HS.refl hs, ⟨[], rfl, Marks.nil⟩, by simp [ctx]; omega, rfl, fun i => ?_⟩
    simp only [getS_argSlots, Nat.zero_le, if_true, Nat.sub_zero]
    rcases Nat.lt_or_ge i args.length with hi | hi
    · obtain ⟨u, hu, _, hr⟩ := hv.get i args[i] (List.getElem?_eq_getElem hi)
      have e1 : args.getD i .junk = args[i] := by simp [List.getD_eq_getElem?_getD, List.getElem?_eq_getElem hi]
      have e2 : (vals ++ Array.replicate (fn.ntmps - vals.size) undef).getD i undef = u := by
        have hu' : vals[i]? = some u := by simpa using hu
        rw [Array.getD_eq_getD_getElem?, Array.getElem?_append_left (by omega), hu']; rfl
      rw [e1, e2]; exact hr
    · have e1 : args.getD i .junk = .junk := by simp [List.getD_eq_getElem?_getD, List.getElem?_eq_none hi]
      rw [e1]; trivial
  refine gw_mono (h (ctx Φ H ob w ⟨fn.ntmps, ob.length, false⟩) rfl Φ H _ w s) fun e a w' q => ?_
  have key : ∀ Φ' H' st, SimE (ctx Φ H ob w ⟨fn.ntmps, ob.length, false⟩) Φ' H' st a w' → (∃ p xs, vress T st fn.results.toList = some (p, xs) ∧ p ∧ outQ ob.length Q xs st.ob) → ∃ w'' v, Shut P a.defers w' w'' ∧ (results fn a.tmps).run P w'' = .ok v w'' ∧ post Φ H ob w Q (.returned v) w'' := by
    rintro Φ' H' st s' ⟨p, xs, h1, h0, xs', objs, hle, hn', hg, h2⟩
    obtain ⟨w'', hsh, s'⟩ := s'.shut (P := P)
    obtain ⟨vs, k1, k2⟩ := vress_sound (P := P) hT s' h1 h0
    have q0 := s'.hs
    have hl2 := k2.length
    have s2 : SimE (ctx Φ H ob w ⟨xs.length, ob.length, false⟩) Φ' H' ⟨argSlots 0 xs, st.ob⟩ { tmps := vs.toArray, defers := [] } w'' := by
      refine ⟨⟨q0.os, q0.tape, q0.output, q0.size, q0.kept, q0.sim, q0.ext, q0.phi, q0.mine⟩, ⟨[], rfl, Marks.nil⟩, by simp [ctx, hl2], rfl, fun i => ?_⟩
      simp only [getS_argSlots, Nat.zero_le, if_true, Nat.sub_zero]
      rcases Nat.lt_or_ge i xs.length with hi | hi
      · obtain ⟨u, hu, _, hr⟩ := k2.get i xs[i] (List.getElem?_eq_getElem hi)
        have e1 : xs.getD i .junk = xs[i] := by simp [List.getD_eq_getElem?_getD, List.getElem?_eq_getElem hi]
        have e2 : vs.toArray.getD i undef = u := by rw [Array.getD_eq_getD_getElem?]; simp [hu]
        rw [e1, e2]; exact hr
      · have e1 : xs.getD i .junk = .junk := by simp [List.getD_eq_getElem?_getD, List.getElem?_eq_none hi]
        rw [e1]; trivial
    obtain ⟨Φ2, H2, s3⟩ := hg _ rfl _ _ _ _ s2
    have q := s3.hs
    have hr3 : VReps .any (mkE Φ2 H2 objs w'') xs' vs := reps_of_slots (by omega) fun i => by
      have := s3.slots i
      simp only [getS_argSlots, Nat.zero_le, if_true, Nat.sub_zero] at this
      rw [Array.getD_eq_getD_getElem?] at this
      simpa [List.getD_eq_getElem?_getD] using this
    exact ⟨w'', _, hsh, results_run k1, tupV xs', objs, Φ2, H2, ⟨q.os, q.tape, q.output, q.size, q.kept, q.sim, q.ext, q.phi, q.mine⟩, tupV_rep hr3 hn', h2⟩
  cases e <;> simp only [lft, retQc] at q
  · obtain ⟨Φ', H', st, s', q⟩ := q
    exact ⟨.inl rfl, key Φ' H' st s' q⟩
  · obtain ⟨_, _, _, _, q⟩ := q; exact q.elim
  · obtain ⟨Φ', H', st, s', q⟩ := q
    exact ⟨.inr rfl, key Φ' H' st s' q⟩
theorem retc_only {nt : Sh} {fn : Func} {k0 : Nat} {Q : V → List Ob → Prop} {sl : List (Nat × V)} {ob : List Ob} (ks : List Nat) (objs : List Ob) {p : Prop} {xs xs' : List V} (hr : vress T ⟨sl, ob⟩ fn.results.toList = some (p, xs)) (hp : p)
    (hn : ks.Nodup) (hh : hand ob (fOf ks ob.length) ks objs) (hk : pre k0 ks) (hs : slotsOK (vwAOK ob ks false) (argSlots 0 xs) (List.range xs.length)) (he : keepS ob ks (argSlots 0 xs) (List.range xs.length) = argSlots 0 xs')
    (hl : xs'.length = xs.length) (ht : xs'.length = 1 ∨ xs'.all V.notTup = true) (hq : Q (tupV xs') objs) : ∃ st', Gh nt ⟨sl, ob⟩ st' ∧ retQc T fn k0 Q .ret st' :=
  ⟨_, Gh.refl _ _, p, xs, hr, hp, xs', objs, hl, ht, Gh.to _ ks _ _ hn hh hk hs he, hq⟩
theorem normc_only {nt : Sh} {fn : Func} {k0 : Nat} {Q : V → List Ob → Prop} {sl : List (Nat × V)} {ob : List Ob} (ks : List Nat) (objs : List Ob) {p : Prop} {xs xs' : List V} (hr : vress T ⟨sl, ob⟩ fn.results.toList = some (p, xs)) (hp : p)
    (hn : ks.Nodup) (hh : hand ob (fOf ks ob.length) ks objs) (hk : pre k0 ks) (hs : slotsOK (vwAOK ob ks false) (argSlots 0 xs) (List.range xs.length)) (he : keepS ob ks (argSlots 0 xs) (List.range xs.length) = argSlots 0 xs')
    (hl : xs'.length = xs.length) (ht : xs'.length = 1 ∨ xs'.all V.notTup = true) (hq : Q (tupV xs') objs) : ∃ st', Gh nt ⟨sl, ob⟩ st' ∧ retQc T fn k0 Q .norm st' :=
  ⟨_, Gh.refl _ _, p, xs, hr, hp, xs', objs, hl, ht, Gh.to _ ks _ _ hn hh hk hs he, hq⟩
end
attribute [simp] vres vress tupV
@[simp] theorem range1 : List.range 1 = [0] := rfl
@[simp] theorem range2 : List.range 2 = [0, 1] := rfl
@[simp] theorem range3 : List.range 3 = [0, 1, 2] := rfl
@[simp] theorem range4 : List.range 4 = [0, 1, 2, 3] := rfl
end Go.VX

/- Which entries of a map have been gone through. -/
namespace Go.VX
open Go.RowKit
set_option linter.unusedVariables false
set_option linter.unusedSimpArgs false

/-- What is always so of a map. -/
theorem vwp_map {P : Program} {nt : Sh} {c : Code} {Q : X → St → Prop} {sl : List (Nat × V)} {ob : List Ob} (m : Nat) {es : List (V × V)} {bs : List Nat} {ck : Nat} (ho : ob[m]? = some (.map es bs ck))
    (h : es.length = bs.length → bs.Nodup → (∀ n ∈ bs, n < ck) → vwp P nt c Q ⟨sl, ob⟩) : vwp P nt c Q ⟨sl, ob⟩ := by
  intro C hC Φ H a w s
  have hr := s.hs.sim.rep m _ ho
  obtain ⟨q0, b, arr, g1, g2, g3, g4, g5, g6, g7, g8⟩ := hr
  refine h ?_ g7 g8 C hC Φ H a w s
  have := g4.length
  rw [← g6]
  simp at this ⊢
  omega

structure Seen (bs seen is : List Nat) : Prop where
  nd : is.Nodup
  lt : ∀ i ∈ is, i < bs.length
  eq : seen = is.map fun i => bs.getD i 0
theorem Seen.nil (bs : List Nat) : Seen bs [] [] := ⟨by simp, by simp, rfl⟩
theorem Seen.step {bs seen is : List Nat} (h : Seen bs seen is) {i n : Nat} (hi : bs[i]? = some n) (hn : n ∉ seen) : Seen bs (seen ++ [n]) (is ++ [i]) := by
  have hlt : i < bs.length := (List.getElem?_eq_some_iff.1 hi).1
  have hg : bs.getD i 0 = n := by simp [List.getD_eq_getElem?_getD, hi]
  refine ⟨?_, ?_, by rw [h.eq]; simp [hi]⟩
  · rw [List.nodup_append]
    refine ⟨h.nd, by simp, fun a ha b hb => ?_⟩
    simp only [List.mem_singleton] at hb
    subst hb
    intro e
    subst e
    exact hn (by rw [h.eq]; exact List.mem_map.2 ⟨a, ha, hg⟩)
  · intro j hj
    simp only [List.mem_append, List.mem_singleton] at hj
    rcases hj with q | q
    · exact h.lt j q
    · omega
theorem Seen.all {bs seen is : List Nat} (h : Seen bs seen is) (hb : bs.Nodup) (hall : ∀ n ∈ bs, n ∈ seen) : is.Perm (List.range bs.length) := by
  rw [List.perm_ext_iff_of_nodup h.nd List.nodup_range]
  intro i
  rw [List.mem_range]
  refine ⟨h.lt i, fun hi => ?_⟩
  have h1 := hall bs[i] (List.getElem_mem hi)
  rw [h.eq] at h1
  obtain ⟨j, hj, e⟩ := List.mem_map.1 h1
  have hjl := h.lt j hj
  have e2 : bs[j] = bs[i] := by simpa [List.getD_eq_getElem?_getD, List.getElem?_eq_getElem hjl] using e
  have : j = i := by
    have hp := List.pairwise_iff_getElem.1 hb
    rcases Nat.lt_trichotomy j i with q | q | q
    · exact absurd e2 (hp j i hjl hi q)
    · exact q
    · exact absurd e2.symm (hp i j hi hjl q)
  rwa [this] at hj
theorem Seen.fresh {bs seen is : List Nat} (h : Seen bs seen is) {i n : Nat} (hi : bs[i]? = some n) (hn : n ∉ seen) : i ∉ is := fun q => hn (by
  rw [h.eq]
  exact List.mem_map.2 ⟨i, q, by simp [List.getD_eq_getElem?_getD, hi]⟩)

/-- How many of those gone through are so. -/
def cntIs {α : Type} (p : α → Bool) (l : List α) (is : List Nat) : Nat := is.countP fun i => match l[i]? with
  | some a => p a
  | none => false
theorem cntIs_step {α : Type} (p : α → Bool) (l : List α) (is : List Nat) {i : Nat} {a : α} (h : l[i]? = some a) : cntIs p l (is ++ [i]) = cntIs p l is + (if p a = true then 1 else 0) := by
  simp [cntIs, List.countP_append, h, List.countP_cons]
theorem cntIs_range {α : Type} (p : α → Bool) : ∀ (l : List α), cntIs p l (List.range l.length) = l.countP p
  | [] => by simp [cntIs]
  | a :: l => by
    have := cntIs_range p l
    unfold cntIs at this ⊢
    simp only [List.length_cons, List.range_succ_eq_map, List.countP_cons, List.countP_map, Function.comp_def, List.getElem?_cons_succ, List.getElem?_cons_zero]
    rw [this]
theorem cntIs_all {α : Type} (p : α → Bool) {l : List α} {bs seen is : List Nat} (h : Seen bs seen is) (hb : bs.Nodup) (hl : l.length = bs.length) (hall : ∀ n ∈ bs, n ∈ seen) : cntIs p l is = l.countP p := by
  rw [← cntIs_range p l, hl]
  exact (h.all hb hall).countP_eq _
theorem cntIs_le {α : Type} (p : α → Bool) (l : List α) (is : List Nat) : cntIs p l is ≤ is.length := List.countP_le_length
theorem Seen.le {bs seen is : List Nat} (h : Seen bs seen is) : is.length ≤ bs.length := by
  have h1 : is.length = (List.filter (fun i => decide (i ∈ is)) (List.range bs.length)).length := by
    refine (List.Perm.length_eq ?_)
    rw [List.perm_ext_iff_of_nodup h.nd (List.nodup_range.filter _)]
    intro i
    simp only [List.mem_filter, List.mem_range, decide_eq_true_eq]
    exact ⟨fun q => ⟨h.lt i q, q⟩, fun q => q.2⟩
  rw [h1]
  exact Nat.le_trans (List.length_filter_le _ _) (by simp)

/-- A row that isn't there yet, in an object. -/
theorem Gh.virtC {nt : Sh} {sl : List (Nat × V)} {ob : List Ob} (id j esz : Nat) {cs : List V} (ho : ob[id]? = some (.live cs)) (hj : cs[j]? = some .nils) :
    Gh nt ⟨sl, ob⟩ ⟨sl, (ob ++ [Ob.live []]).set id (.live (cs.set j (.sl ob.length 0 esz 0 0)))⟩ := by
  intro C hC Φ H a w s
  have hst : HStep Φ H ob w Φ (upd H ob.length none) (ob ++ [Ob.live []]) w :=
    HStep.ofPush s.hs.sim rfl rfl rfl (fun _ _ => rfl) (Nat.le_refl _) (fun b hb => by cases hb) (fun E' _ _ _ => rfl)
  have s' := s.step hst
  have hid : id < ob.length := (List.getElem?_eq_some_iff.1 ho).1
  have ho' : (ob ++ [Ob.live []])[id]? = some (.live cs) := by rw [List.getElem?_append_left hid]; exact ho
  have hr := s'.hs.sim.rep id _ ho'
  have hst2 : HStep Φ (upd H ob.length none) (ob ++ [Ob.live []]) w Φ (upd (upd H ob.length none) id ((upd H ob.length none) id)) ((ob ++ [Ob.live []]).set id (.live (cs.set j (.sl ob.length 0 esz 0 0)))) w := by
    refine HStep.ofChange s'.hs.sim ho' rfl rfl rfl rfl (fun _ _ _ => rfl) (Nat.le_refl _) (fun b hb => hb) (fun b hb => .inl hb) (fun b hb => .inl hb) (fun T' hT' => ?_) (fun E' hE hw hΦ => ?_)
    · exact ⟨cs.length, rfl, by simp [Ob.len] at hT'; omega, fun _ => ⟨rfl, fun _ _ => rfl⟩⟩
    · cases hH : (upd H ob.length none) id with
      | none =>
        rw [hH] at hr
        have : cs = [] := hr
        subst this
        simp at hj
      | some b =>
        rw [hH] at hr
        obtain ⟨c, el, g1, g2, g3, g4⟩ := hr
        refine ⟨c, el, by rw [hw]; exact g1, by rw [hΦ]; exact g2, by simpa using g3, ?_⟩
        rw [List.length_set]
        obtain ⟨u, k1, _, k2⟩ := g4.get j _ hj
        simp only [VRep] at k2
        subst k2
        have hv : VRep (mkE Φ (upd H ob.length none) (ob ++ [Ob.live []]) w) (.sl ob.length 0 esz 0 0) (.slice none 0 0) := by
          refine ⟨rfl, by simp [mkE], fun T' hT' => ⟨by simp, fun _ => ?_⟩⟩
          simp only [mkE, upd_same, SlV]
          simp
        have := g4.set j (x := .sl ob.length 0 esz 0 0) rfl hv
        have e : (c.toList.take cs.length).set j (.slice none 0 0) = c.toList.take cs.length := by
          apply List.ext_getElem?
          intro i
          rw [List.getElem?_set]
          split
          · rename_i hij
            subst hij
            split
            · exact k1.symm
            · rename_i hlt; rw [List.getElem?_eq_none (by omega)]
          · rfl
        rw [e] at this
        exact VReps.ext hE _ _ this
  exact ⟨_, _, s'.step hst2⟩
end Go.VX

/- Rows of structs, as cells one behind the other. -/
namespace Go.VX
open Go.RowKit
set_option linter.unusedVariables false
set_option linter.unusedSimpArgs false

/-- A struct as cells, and how many they are. -/
class Row (α : Type) where
  cells : α → List V
  sz : Nat
  len : ∀ a, (cells a).length = sz
  rn : ∀ (f : Nat → Nat) a, (cells a).map (rn1 f) = cells a
def rowsV {α : Type} [Row α] (l : List α) : List V := l.flatMap Row.cells
section
variable {α : Type} [Row α]
@[simp] theorem rowsV_nil : rowsV ([] : List α) = [] := rfl
theorem rowsV_cons (a : α) (l : List α) : rowsV (a :: l) = Row.cells a ++ rowsV l := rfl
theorem rowsV_one (a : α) : rowsV [a] = Row.cells a := by simp [rowsV]
theorem rowsV_append (l m : List α) : rowsV (l ++ m) = rowsV l ++ rowsV m := by simp [rowsV]
theorem rowsV_snoc (l : List α) (a : α) : rowsV (l ++ [a]) = rowsV l ++ Row.cells a := by simp [rowsV]
theorem rowsV_length (l : List α) : (rowsV l).length = l.length * Row.sz α := by
  induction l with
  | nil => simp [rowsV]
  | cons x l ih => rw [rowsV_cons, List.length_append, ih, Row.len, List.length_cons, Nat.add_mul, Nat.one_mul, Nat.add_comm]
@[simp] theorem rowsV_rn (f : Nat → Nat) (l : List α) : (rowsV l).map (rn1 f) = rowsV l := by
  induction l with
  | nil => rfl
  | cons x l ih => rw [rowsV_cons, List.map_append, ih, Row.rn]
@[simp] theorem rowsV_rnL (f : Nat → Nat) (l : List α) : rnO f (.live (rowsV l)) = .live (rowsV l) := by
  simp
@[simp] theorem rowsV_rnF (f : Nat → Nat) (l : List α) : rnO f (.frz (rowsV l)) = .frz (rowsV l) := by
  simp
theorem rowsV_drop : ∀ {l : List α} {i : Nat} {x : α}, l[i]? = some x → List.drop (i * Row.sz α) (rowsV l) = Row.cells x ++ rowsV (l.drop (i + 1))
  | [], i, x, h => by simp at h
  | y :: l, 0, x, h => by simp at h; subst h; simp [rowsV]
  | y :: l, i + 1, x, h => by
    have e : (i + 1) * Row.sz α = Row.sz α + i * Row.sz α := by rw [Nat.add_mul]; omega
    rw [e, rowsV_cons, ← List.drop_drop]
    have e3 : List.drop (Row.sz α) (Row.cells y ++ rowsV l) = rowsV l := by
      rw [← Row.len y, List.drop_left]
    rw [e3, rowsV_drop (by simpa using h)]
    simp
theorem rowsV_take {l : List α} (i : Nat) (h : i ≤ l.length) : List.take (i * Row.sz α) (rowsV l) = rowsV (l.take i) := by
  have e : l = l.take i ++ l.drop i := (List.take_append_drop i l).symm
  have hl : (rowsV (l.take i)).length = i * Row.sz α := by rw [rowsV_length, List.length_take, Nat.min_eq_left h]
  calc List.take (i * Row.sz α) (rowsV l) = List.take (i * Row.sz α) (rowsV (l.take i ++ l.drop i)) := by rw [← e]
    _ = rowsV (l.take i) := by rw [rowsV_append, ← hl, List.take_left]
theorem rowsV_dropAll {l : List α} (i : Nat) (h : i ≤ l.length) : List.drop (i * Row.sz α) (rowsV l) = rowsV (l.drop i) := by
  have e : l = l.take i ++ l.drop i := (List.take_append_drop i l).symm
  have hl : (rowsV (l.take i)).length = i * Row.sz α := by rw [rowsV_length, List.length_take, Nat.min_eq_left h]
  calc List.drop (i * Row.sz α) (rowsV l) = List.drop (i * Row.sz α) (rowsV (l.take i ++ l.drop i)) := by rw [← e]
    _ = rowsV (l.drop i) := by rw [rowsV_append, ← hl, List.drop_left]
theorem rowsV_get {l : List α} {i j : Nat} {x : α} (h : l[i]? = some x) (hj : j < Row.sz α) : (rowsV l)[i * Row.sz α + j]? = (Row.cells x)[j]? := by
  rw [← List.getElem?_drop, rowsV_drop h, List.getElem?_append_left (by rw [Row.len]; exact hj)]
theorem rowsV_row {l : List α} {i : Nat} {x : α} (h : l[i]? = some x) : List.take (Row.sz α) (List.drop (i * Row.sz α) (rowsV l)) = Row.cells x := by
  rw [rowsV_drop h, ← Row.len x, List.take_left]
/-- A row put in the place of one. -/
theorem rowsV_put {l : List α} {i : Nat} (h : i < l.length) (y : α) : List.take (i * Row.sz α) (rowsV l) ++ (Row.cells y ++ List.drop (i * Row.sz α + Row.sz α) (rowsV l)) = rowsV (l.set i y) := by
  have e : i * Row.sz α + Row.sz α = (i + 1) * Row.sz α := by rw [Nat.add_mul]; omega
  rw [rowsV_take i (by omega), e, rowsV_dropAll (i + 1) (by omega), ← rowsV_cons, ← rowsV_append, List.set_eq_take_append_cons_drop, if_pos h]
/-- One cell put. -/
theorem rowsV_set {l : List α} {i j : Nat} {x y : α} {v : V} (h : l[i]? = some x) (hj : j < Row.sz α) (e : (Row.cells x).set j v = Row.cells y) : (rowsV l).set (i * Row.sz α + j) v = rowsV (l.set i y) := by
  have hi : i < l.length := (List.getElem?_eq_some_iff.1 h).1
  have hl : (rowsV (l.take i)).length = i * Row.sz α := by rw [rowsV_length, List.length_take, Nat.min_eq_left (by omega)]
  have e1 : l = l.take i ++ x :: l.drop (i + 1) := by
    have := List.take_append_drop i l
    rw [List.drop_eq_getElem_cons hi] at this
    rw [(List.getElem?_eq_some_iff.1 h).2] at this
    exact this.symm
  have e2 : l.set i y = l.take i ++ y :: l.drop (i + 1) := by rw [List.set_eq_take_append_cons_drop, if_pos hi]
  have e3 : rowsV l = rowsV (l.take i) ++ (Row.cells x ++ rowsV (l.drop (i + 1))) := by
    rw [← rowsV_cons, ← rowsV_append, ← e1]
  rw [e2, rowsV_append, rowsV_cons, e3, List.set_append, if_neg (by omega), hl, Nat.add_sub_cancel_left, List.set_append, if_pos (by rw [Row.len]; exact hj), e]
end

/-- Where the first one is that is so; -1: nowhere. -/
theorem findIdx_some {α : Type} {p : α → Bool} {l : List α} {i : Nat} {x : α} (hx : l[i]? = some x) (hp : p x = true) (hno : ∀ j y, j < i → l[j]? = some y → p y = false) : l.findIdx? p = some i := by
  obtain ⟨hi, e⟩ := List.getElem?_eq_some_iff.1 hx
  rw [List.findIdx?_eq_some_iff_getElem]
  refine ⟨hi, by rw [e]; exact hp, fun j hj => ?_⟩
  have := hno j _ hj (List.getElem?_eq_getElem (by omega))
  simp [this]
theorem findIdx_none {α : Type} {p : α → Bool} {l : List α} (hno : ∀ (j : Nat) y, j < l.length → l[j]? = some y → p y = false) : l.findIdx? p = none := by
  rw [List.findIdx?_eq_none_iff]
  intro x hx
  obtain ⟨j, hj, e⟩ := List.getElem_of_mem hx
  exact hno j x hj (by rw [List.getElem?_eq_getElem hj, e])
def oI (o : Option Nat) : Int := match o with
  | some i => i
  | none => -1
/-- The first rows and one more. -/
theorem take_snoc {α : Type} {l : List α} {i : Nat} {x : α} (h : l[i]? = some x) : l.take (i + 1) = l.take i ++ [x] := by
  rw [List.take_add_one, h]; rfl
end Go.VX

/- Operations one by one, each guard's way by itself: for groups that can be looked at only where the guard is met. -/
namespace Go.VX
open Go.RowKit
set_option linter.unusedVariables false

def vrunI (P : Program) (T : Nat → Option TI) (nt : Sh) (ops : List Oper) : List Oper → (St → Prop) → St → Prop
  | [], Q, st => Q st
  | o :: rest, Q, st => match o.guard with
    | none => vstep P T nt o st (vrunI P T nt ops rest Q)
    | some g => match gslot ops g with
      | some s => match getS st.sl s.1 with
        | .bool b => if b = s.2 then vstep P T nt o ⟨setS st.sl s.1 (.bool s.2), st.ob⟩ (vrunI P T nt ops rest Q)
              else okd nt o.dst ∧ vrunI P T nt ops rest Q ⟨putD (setS st.sl s.1 (.bool (!s.2))) o.dst .junk, st.ob⟩
        | _ => False
      | none => False
section
variable {P : Program} {T : Nat → Option TI} {nt : Sh}
theorem vrunI_sound (hT : TabOK P T) {ops : List Oper} : ∀ (l : List Oper) (Q : St → Prop) (st : St), vrunI P T nt ops l Q st → ∀ (C : Ctx), C.nt = nt → ∀ Φ H a w, SimE C Φ H st a w → ∀ Qx : Exit → Act → World → Prop,
    (∀ Φ' H' st' a' w', SimE C Φ' H' st' a' w' → Q st' → Qx .normal a' w') → wpList P ops.toArray Qx l a w
  | [], Q, st, h, C, hC, Φ, H, a, w, s, Qx, hq => by
    simp only [vrunI] at h
    exact hq _ _ _ _ _ s h
  | o :: rest, Q, st, h, C, hC, Φ, H, a, w, s, Qx, hq => by
    simp only [vrunI] at h
    have go : ∀ st' a' w' Φ' H', SimE C Φ' H' st' a' w' → vrunI P T nt ops rest Q st' → wpList P ops.toArray Qx rest a' w' := fun st' a' w' Φ' H' s' k =>
      vrunI_sound hT rest Q st' k C hC Φ' H' a' w' s' Qx hq
    split at h
    · rename_i hg
      unfold wpList
      rw [if_pos (by simp [Region.wanted, hg])]
      exact .inl (vstep_sound hT h hC s (fun Φ' H' st' a' w' s' k => go _ _ _ _ _ s' k) trivial)
    · rename_i g hg
      split at h
      case h_2 => exact h.elim
      rename_i sg hsg
      split at h
      case h_2 => exact h.elim
      rename_i b hb
      unfold wpList
      by_cases hbw : b = sg.2
      · rw [if_pos hbw] at h
        rw [if_pos (wanted_of hg hsg (by rw [s.boolAt hb, hbw]))]
        exact .inl (vstep_sound hT h hC (s.known hb hbw) (fun Φ' H' st' a' w' s' k => go _ _ _ _ _ s' k) trivial)
      · have hnw := not_wanted (ops := ops) (a := a) hg hsg (by rw [s.boolAt hb]; intro e; exact hbw (by simpa using e))
        rw [hnw]
        rw [if_neg hbw] at h
        obtain ⟨h1, h2⟩ := h
        simp only [Bool.false_eq_true, if_false]
        refine go _ _ _ _ _ ((s.known hb (b' := !sg.2) (by cases b <;> cases hq2 : sg.2 <;> simp_all)).put (x := .junk) trivial ?_) h2
        intro i e
        rw [e] at h1
        rw [hC]; exact h1
theorem vwp_regionI (hT : TabOK P T) {id : Nat} {ops : List Oper} {Q : X → St → Prop} {st : St} (h : vrunI P T nt ops ops (Q .norm) st) (hd : nt.rd = true → ops.all nd = true := by first | (intro h; cases h; done) | (intro _; simp [nd])) : vwp P nt (.region id ops.toArray false) Q st := by
  intro C hC Φ H a w s
  exact gw_region_lit (fun ⟨_, _, h⟩ => h) hd (vrunI_sound hT ops _ st h C hC Φ H a w s _ (fun Φ' H' st' a' w' s' q => ⟨Φ', H', st', s', q⟩))
end
section
variable {P : Program} {T : Nat → Option TI} {nt : Sh} {ops rest : List Oper} {Q K : St → Prop} {sl : List (Nat × V)} {ob : List Ob} {d : Option Nat} {o : Oper}
@[simp] theorem vrunI_nil : vrunI P T nt ops [] Q ⟨sl, ob⟩ = Q ⟨sl, ob⟩ := by simp only [vrunI]
@[simp] theorem vrunI_cons : vrunI P T nt ops (o :: rest) Q ⟨sl, ob⟩ = match o.guard with
    | none => vstep P T nt o ⟨sl, ob⟩ (vrunI P T nt ops rest Q)
    | some g => match gslot ops g with
      | some s => match getS sl s.1 with
        | .bool b => if b = s.2 then vstep P T nt o ⟨setS sl s.1 (.bool s.2), ob⟩ (vrunI P T nt ops rest Q)
              else okd nt o.dst ∧ vrunI P T nt ops rest Q ⟨putD (setS sl s.1 (.bool (!s.2))) o.dst .junk, ob⟩
        | _ => False
      | none => False := by rw [vrunI.eq_2]
end
end Go.VX

/- Short forms for walks: what is asked is settled by default. -/
namespace Go.VX
open Go.RowKit
set_option linter.unusedVariables false
set_option linter.unusedSimpArgs false

@[simp] theorem toNat_cc (a b : Nat) : ((a : Int) + (b : Int)).toNat = a + b := by omega
@[simp] theorem toNat_c1 (a : Nat) : ((a : Int) + 1).toNat = a + 1 := by omega
@[simp] theorem toNat_ccc (a b c : Nat) : ((a : Int) + (b : Int) + (c : Int)).toNat = a + b + c := by omega
@[simp] theorem toNat_cc1 (a b : Nat) : ((a : Int) + (b : Int) + 1).toNat = a + b + 1 := by omega
@[simp] theorem bits_i64 : IntKind.i64.bits = 64 := rfl
@[simp] theorem bits_u64 : IntKind.u64.bits = 64 := rfl
@[simp] theorem bits_u32 : IntKind.u32.bits = 32 := rfl
@[simp] theorem bits_u8 : IntKind.u8.bits = 8 := rfl
@[simp] theorem take_map_len {α β : Type} (f : α → β) (l : List α) : List.take l.length (List.map f l) = List.map f l := List.take_of_length_le (by simp)
@[simp] theorem rn1_int_comp {α : Type} (f : Nat → Nat) (k : IntKind) (g : α → Int) : rn1 f ∘ V.int k ∘ g = V.int k ∘ g := rfl
section
variable {P : Program} {nt : Sh} {Q : X → St → Prop} {st : St}
/-- A loop: the states at its head, by what they hang on; what falls. -/
theorem vwp_loop_s {α : Type} {c : Code} (S : α → St) (I : α → Prop) (μ : α → Nat) (a : α) (g : Gh nt st (S a)) (h0 : I a)
    (round : ∀ a, I a → ∀ K : St → Prop, (∀ a' st', Gh nt st' (S a') → I a' → μ a' < μ a → K st') → vwp P nt c (thenQ K Q) (S a)) : vwp P nt (.loop c) Q st :=
  vwp_gh g (vwp_loop_k (fun m st => ∃ a, I a ∧ m = μ a ∧ st = S a) (μ a) ⟨a, h0, rfl, rfl⟩ fun n st hI K hK => by
    obtain ⟨a, h1, rfl, rfl⟩ := hI
    exact round a h1 K fun a' st' g' h2 h3 => hK st' ⟨S a', g', μ a', h3, a', h2, rfl, rfl⟩)
/-- A sequence through a middle: the states there, by what they hang on. -/
theorem vwp_cut_s {α : Type} {x y : Code} (S : α → St) (I : α → Prop) (h : ∀ K : St → Prop, (∀ a st', Gh nt st' (S a) → I a → K st') → vwp P nt x (thenQ K Q) st)
    (k : ∀ a, I a → vwp P nt y Q (S a)) : vwp P nt (.seq x y) Q st :=
  vwp_cut_k (fun st' => ∃ a, Gh nt st' (S a) ∧ I a) (fun K hK => h K fun a st' g hI => hK st' ⟨a, g, hI⟩) fun st' ⟨a, g, hI⟩ => vwp_gh g (k a hI)

theorem Gh.to_k {nt : Sh} {sl : List (Nat × V)} {ob : List Ob} (ts : List Nat) (ks : List Nat) {sl' : List (Nat × V)} {objs : List Ob}
    (he : keepS ob ks sl ts = sl' := by simp) (hh : hand ob (fOf ks ob.length) ks objs := by simp) (hs : slotsOK (vwAOK ob ks false) sl ts := by simp) (hn : ks.Nodup := by simp) (hk : pre nt.k0 ks := by rfl) : Gh nt ⟨sl, ob⟩ ⟨sl', objs⟩ :=
  Gh.to ts ks sl' objs hn hh hk hs he
theorem ret_k {nt : Sh} {fn : Func} {Q : V → List Ob → Prop} {sl : List (Nat × V)} {ob : List Ob} (ts : List Nat) (ks : List Nat) (objs : List Ob) (r : V) (hq : Q r objs)
    (hh : hand ob (fOf ks ob.length) ks objs := by simp) (hs : slotsOK (vwAOK ob ks false) sl ts := by simp) (hr : retV (keepS ob ks sl ts) fn.results.toList = some r := by simp) (hn : ks.Nodup := by simp) (hk : pre nt.k0 ks := by rfl) : ∃ st', Gh nt ⟨sl, ob⟩ st' ∧ retQ fn Q .ret st' :=
  ret_only ts ks objs hn hh hk hs hr hq
theorem norm_k {nt : Sh} {fn : Func} {Q : V → List Ob → Prop} {sl : List (Nat × V)} {ob : List Ob} (ts : List Nat) (ks : List Nat) (objs : List Ob) (r : V) (hq : Q r objs)
    (hh : hand ob (fOf ks ob.length) ks objs := by simp) (hs : slotsOK (vwAOK ob ks false) sl ts := by simp) (hr : retV (keepS ob ks sl ts) fn.results.toList = some r := by simp) (hn : ks.Nodup := by simp) (hk : pre nt.k0 ks := by rfl) : ∃ st', Gh nt ⟨sl, ob⟩ st' ∧ retQ fn Q .norm st' :=
  norm_only ts ks objs hn hh hk hs hr hq
/-- A call. -/
theorem vcall_k {P : Program} {nt : Sh} {st : St} {k : Nat} {args : List V} {K : V → List Ob → Prop} (ρ : List Nat) {args' : List V} {objs : List Ob} {Q : V → List Ob → Prop}
    (hv : VC P k args' objs Q) (hK : ∀ r ob', Q r ob' → K (rnV (fOf ρ st.ob.length) r) (back st.ob ρ ob')) (hh : hand st.ob (fOf ρ st.ob.length) ρ objs := by simp) (ha : args.map (vwA st.ob ρ false) = args' := by simp) (hok : allOK (vwAOK st.ob ρ false) args := by simp) (hn : ρ.Nodup := by simp) : vcall P nt st k args K :=
  vcall_by0 ρ hv hn hh ha hok hK
/-- .. whose callee takes what isn't handed over for frozen, and keeps nothing of it. -/
theorem vcall_z {P : Program} {nt : Sh} {st : St} {k : Nat} {args : List V} {K : V → List Ob → Prop} (ρ : List Nat) {args' : List V} {objs : List Ob} {Q : V → List Ob → Prop}
    (hv : VC P k args' objs Q) (hz : ∀ r ob', Q r ob' → r.nofz = true ∧ ∀ o ∈ ob', o.nofz = true) (hK : ∀ r ob', Q r ob' → K (rnV (fOf ρ st.ob.length) r) (back st.ob ρ ob')) (hh : hand st.ob (fOf ρ st.ob.length) ρ objs := by simp) (ha : args.map (vwA st.ob ρ true) = args' := by simp) (hok : allOK (vwAOK st.ob ρ true) args := by simp) (hn : ρ.Nodup := by simp) : vcall P nt st k args K :=
  vcall_by ρ true hv hn hh ha hok fun r ob' q => ⟨fun _ => hz r ob' q, hK r ob' q⟩
theorem getI {α : Type} {l : List α} {i : Nat} (h : i < l.length) : ∃ v, l[i]? = some v := ⟨_, List.getElem?_eq_getElem h⟩
end
end Go.VX

/- Bits of numbers. -/
namespace Go.VX
set_option linter.unusedVariables false
set_option linter.unusedSimpArgs false

theorem ofInt_toNat {x : Int} (h : 0 ≤ x) (h2 : x < 18446744073709551616) : (BitVec.ofInt 64 x).toNat = x.toNat := by
  rw [BitVec.toNat_ofInt]; simp only [Nat.reducePow]; rw [Int.emod_eq_of_lt h (by omega)]
theorem and64 {x y : Int} (hx : 0 ≤ x) (hx2 : x ≤ 9223372036854775807) (hy : 0 ≤ y) (hy2 : y ≤ 9223372036854775807) : ibits .and .i64 x y = ((x.toNat &&& y.toNat : Nat) : Int) := by
  unfold ibits
  show IntKind.i64.wrap _ = _
  simp only [BitVec.toNat_and]
  have e1 : IntKind.i64.bits = 64 := rfl
  rw [e1, ofInt_toNat hx (by omega), ofInt_toNat hy (by omega)]
  have := Nat.and_le_left (n := x.toNat) (m := y.toNat)
  exact w64 (by omega) (by omega)
theorem or64 {x y : Int} (hx : 0 ≤ x) (hx2 : x ≤ 9223372036854775807) (hy : 0 ≤ y) (hy2 : y ≤ 9223372036854775807) : ibits .or .i64 x y = ((x.toNat ||| y.toNat : Nat) : Int) := by
  unfold ibits
  show IntKind.i64.wrap _ = _
  simp only [BitVec.toNat_or]
  have e1 : IntKind.i64.bits = 64 := rfl
  rw [e1, ofInt_toNat hx (by omega), ofInt_toNat hy (by omega)]
  have : x.toNat ||| y.toNat < 2 ^ 63 := Nat.or_lt_two_pow (by omega) (by omega)
  exact w64 (by omega) (by omega)
theorem and1 {x : Int} (hx : 0 ≤ x) (hx2 : x ≤ 9223372036854775807) : ibits .and .i64 x 1 = x % 2 := by
  rw [and64 hx hx2 (by omega) (by omega)]
  have : (1 : Int).toNat = 1 := rfl
  rw [this, Nat.and_one_is_mod]
  omega
end Go.VX

/- Panics: contracts of what may panic, and walks through it. -/
namespace Go.VX
open Go.RowKit
set_option linter.unusedVariables false
set_option linter.unusedSimpArgs false
set_option linter.unusedSectionVars false

/-! ### Contracts -/
def postQ (Φ : Nat → Prop) (H : Nat → Option Nat) (ob : List Ob) (w : World) (Q : V → List Ob → Prop) (R : Value → List Ob → Prop) : Ending → World → Prop
  | .returned v, w' => ∃ r ob' Φ' H', HS (ctx Φ H ob w ⟨0, 0, false⟩) Φ' H' ob' w' ∧ VRep (mkE Φ' H' ob' w') r v ∧ Q r ob'
  | .outgrown, _ => False
  | .panicked ps, w' => ∃ v, ps = [{ v, recovered := false }] ∧ ∃ ob' Φ' H', HS (ctx Φ H ob w ⟨0, 0, false⟩) Φ' H' ob' w' ∧ R v ob'
/-- A call returns, or panics: what it tells then. -/
def VCQ (P : Program) (k : Nat) (args : List V) (ob : List Ob) (Q : V → List Ob → Prop) (R : Value → List Ob → Prop) : Prop :=
  Ent P k ∧ ∀ Φ H w (vals : Array Value), HSim Φ H ob w → VReps .any (mkE Φ H ob w) args vals.toList → Calls P k vals w (postQ Φ H ob w Q R)
theorem VC.toQ {P k args ob Q R} (h : VC P k args ob Q) : VCQ P k args ob Q R :=
  ⟨h.1, fun Φ H w vals hs hv => (h.2 Φ H w vals hs hv).mono fun e w' q => by
    cases e <;> simp only [post, postQ] at q ⊢
    exact q⟩
theorem VCQ.toVC {P k args ob Q} (h : VCQ P k args ob Q fun _ _ => False) : VC P k args ob Q :=
  ⟨h.1, fun Φ H w vals hs hv => (h.2 Φ H w vals hs hv).mono fun e w' q => by
    cases e <;> simp only [post, postQ] at q ⊢
    · exact q
    · obtain ⟨v, _, ob', Φ', H', _, q⟩ := q
      exact q⟩
theorem VCQ.mono {P k args ob Q Q' R R'} (h : VCQ P k args ob Q R) (hq : ∀ r ob', Q r ob' → Q' r ob') (hr : ∀ v ob', R v ob' → R' v ob') : VCQ P k args ob Q' R' :=
  ⟨h.1, fun Φ H w vals hs hv => (h.2 Φ H w vals hs hv).mono fun e w' q => by
    cases e <;> simp only [postQ] at q ⊢
    · obtain ⟨r, ob', Φ', H', h1, h2, h3⟩ := q
      exact ⟨r, ob', Φ', H', h1, h2, hq _ _ h3⟩
    · obtain ⟨v, e, ob', Φ', H', h1, h3⟩ := q
      exact ⟨v, e, ob', Φ', H', h1, hr _ _ h3⟩⟩

/-! ### Calls -/
def vcallQ (P : Program) (nt : Sh) (st : St) (k : Nat) (args : List V) (K : V → List Ob → Prop) (R : Value → List Ob → Prop) : Prop :=
  Ent P k ∧ ∀ C : Ctx, C.nt = nt → ∀ Φ H a w, SimE C Φ H st a w → ∀ vals : Array Value, VReps .any (mkE Φ H st.ob w) args vals.toList →
    Calls P k vals w fun e w' => match e with
      | .returned v => ∃ Φ' H' ob' r, SimE C Φ' H' ⟨st.sl, ob'⟩ a w' ∧ VRep (mkE Φ' H' ob' w') r v ∧ K r ob'
      | .outgrown => False
      | .panicked ps => ∃ v, ps = [{ v, recovered := false }] ∧ ∃ Φ' H' ob', SimE C Φ' H' ⟨st.sl, ob'⟩ a w' ∧ R v ob'
theorem vcallQ_of_vcall {P : Program} {nt : Sh} {st : St} {k : Nat} {args : List V} {K : V → List Ob → Prop} {R : Value → List Ob → Prop} (h : vcall P nt st k args K) : vcallQ P nt st k args K R :=
  ⟨h.1, fun C hC Φ H a w s vals hv => (h.2 C hC Φ H a w s vals hv).mono fun e w' q => by
    cases e with
    | returned v => exact q
    | outgrown => exact q
    | panicked ps => exact q.elim⟩
theorem vcallQ_k {P : Program} {nt : Sh} {st : St} {k : Nat} {args : List V} {K : V → List Ob → Prop} {R : Value → List Ob → Prop} (ρ : List Nat) {args' : List V} {objs : List Ob} {Q : V → List Ob → Prop} {R' : Value → List Ob → Prop}
    (hv : VCQ P k args' objs Q R') (hK : ∀ r ob', Q r ob' → K (rnV (fOf ρ st.ob.length) r) (back st.ob ρ ob')) (hR : ∀ v ob', R' v ob' → R v (back st.ob ρ ob'))
    (hh : hand st.ob (fOf ρ st.ob.length) ρ objs := by simp) (ha : args.map (vwA st.ob ρ false) = args' := by simp) (hok : allOK (vwAOK st.ob ρ false) args := by simp) (hn : ρ.Nodup := by simp) : vcallQ P nt st k args K R := by
  refine ⟨hv.1, fun C hC Φ H a w s vals hvals => ?_⟩
  have hp : Passed Φ H st.ob w ρ false objs := Passed.of s.hs.sim (handed_of hn hh)
  have hargs : VReps .any (mkE (phiC Φ H st.ob ρ false) (VX.hC H ρ) objs w) args' vals.toList := by
    rw [← ha]
    exact VReps.mapW (q := .any) args _ (fun x _ v hq hx => vwA_sound hp hx hq) (fun _ _ _ _ => trivial) (allOK_mem hok) hvals
  refine (hv.2 _ _ w vals hp.hsim hargs).mono fun e w' q => ?_
  cases e with
  | returned v =>
    obtain ⟨r, ob', Φ', H', q1, q2, q3⟩ := q
    obtain ⟨Φ2, g1, g2⟩ := call_step hp q1 (fun hb => by cases hb)
    exact ⟨Φ2, _, _, _, s.step g1, g2 r v (fun hb => by cases hb) q2, hK r ob' q3⟩
  | panicked ps =>
    obtain ⟨v, e, ob', Φ', H', q1, q3⟩ := q
    obtain ⟨Φ2, g1, _⟩ := call_step hp q1 (fun hb => by cases hb)
    exact ⟨v, e, Φ2, _, _, s.step g1, hR v ob' q3⟩
  | outgrown => exact q

/-! ### Code -/
def lftP (C : Ctx) (Q : X → St → Prop) (R : Value → St → Prop) : Exit → Act → World → Prop
  | .panic ps, a, w => ∃ v, ps = [{ v, recovered := false }] ∧ ∃ Φ H st, SimE C Φ H st a w ∧ R v st
  | e, a, w => lft C Q e a w
theorem lftP_of {C : Ctx} {Q : X → St → Prop} {R : Value → St → Prop} {e : Exit} {a : Act} {w : World} (h : lft C Q e a w) : lftP C Q R e a w := by
  cases e <;> simp only [lft, lftP] at h ⊢ <;> exact h
def vwq (P : Program) (nt : Sh) (c : Code) (Q : X → St → Prop) (R : Value → St → Prop) (st : St) : Prop :=
  ∀ C : Ctx, C.nt = nt → ∀ Φ H a w, SimE C Φ H st a w → gw nt.rd P c (lftP C Q R) a w
section
variable {P : Program} {nt : Sh} {Q : X → St → Prop} {R : Value → St → Prop} {st : St}
theorem vwq_of {c : Code} (h : vwp P nt c Q st) : vwq P nt c Q R st := fun C hC Φ H a w s => gw_mono (h C hC Φ H a w s) fun _ _ _ q => lftP_of q
theorem vwq_mono {c : Code} {Q' : X → St → Prop} (h : vwq P nt c Q R st) (hq : ∀ x st, Q x st → Q' x st) : vwq P nt c Q' R st := by
  intro C hC Φ H a w s
  refine gw_mono (h C hC Φ H a w s) fun e a w q => ?_
  cases e <;> simp only [lft, lftP] at q ⊢ <;> try exact q
  all_goals
    obtain ⟨Φ, H, st, s, q⟩ := q
    exact ⟨Φ, H, st, s, hq _ _ q⟩
theorem vwq_seq {x y : Code} (h : vwq P nt x (thenQ (vwq P nt y Q R) Q) R st) : vwq P nt (.seq x y) Q R st := by
  intro C hC Φ H a w s
  refine gw_seq (gw_mono (h C hC Φ H a w s) fun e a w q => ?_)
  cases e <;> simp only [lft, lftP, Exit.then, thenQ] at q ⊢ <;> try exact q
  obtain ⟨Φ, H, st, s, q⟩ := q
  exact q C hC Φ H a w s
theorem vwq_seq_k {x y : Code} (h : ∀ K : St → Prop, (∀ st, vwq P nt y Q R st → K st) → vwq P nt x (thenQ K Q) R st) : vwq P nt (.seq x y) Q R st :=
  vwq_seq (h _ fun _ h => h)
theorem vwq_skip (h : Q .norm st) : vwq P nt .skip Q R st := vwq_of (vwp_skip h)
theorem vwq_exit {id : Nat} (h : Q (.ex id) st) : vwq P nt (.exit id) Q R st := vwq_of (vwp_exit h)
theorem vwq_ret (h : Q .ret st) : vwq P nt .ret Q R st := vwq_of (vwp_ret h)
theorem vwq_block {id : Nat} {c : Code} (h : vwq P nt c (inBlk id Q) R st) : vwq P nt (.block id c) Q R st := by
  intro C hC Φ H a w s
  refine gw_block (gw_mono (h C hC Φ H a w s) fun e a w q => ?_)
  cases e <;> simp only [lft, lftP, Exit.inBlock, inBlk] at q ⊢ <;> try exact q
  rename_i j
  obtain ⟨Φ, H, st, s, q⟩ := q
  by_cases hj : j = id
  · rw [if_pos hj] at q ⊢; exact ⟨Φ, H, st, s, q⟩
  · rw [if_neg hj] at q ⊢; exact ⟨Φ, H, st, s, q⟩
theorem vwq_cond {c : Operand} {x y : Code} {t : Bool} (hc : evV st.sl c = .bool t) (h1 : t = true → vwq P nt x Q R st) (h2 : t = false → vwq P nt y Q R st) : vwq P nt (.cond c x y) Q R st := by
  intro C hC Φ H a w s
  have he := s.eval c
  rw [hc] at he
  simp only [VRep] at he
  exact gw_cond_split he (fun h => h1 h C hC Φ H a w s) (fun h => h2 h C hC Φ H a w s)
theorem vwq_gh {c : Code} {st' : St} (g : Gh nt st st') (h : vwq P nt c Q R st') : vwq P nt c Q R st := fun C hC Φ H a w s => by
  obtain ⟨Φ', H', s'⟩ := g C hC Φ H a w s
  exact h C hC Φ' H' a w s'
theorem vwq_loop {c : Code} (I : Nat → St → Prop) (n : Nat) (h0 : I n st) (round : ∀ n st, I n st → vwq P nt c (thenQ (fun st' => ∃ m, m < n ∧ I m st') Q) R st) : vwq P nt (.loop c) Q R st := by
  intro C hC Φ H a w s
  let S : Act → World → Nat → Prop := fun a w n => ∃ Φ H st, SimE C Φ H st a w ∧ I n st
  let J : Act → World → Prop := fun a w => ∃ n, S a w n
  have hmin : ∀ a w, J a w → ∃ n, S a w n ∧ ∀ m, S a w m → n ≤ m := by
    rintro a w ⟨n, hn⟩
    induction n using Nat.strongRecOn with
    | _ n ih =>
      by_cases h : ∃ m, m < n ∧ S a w m
      · obtain ⟨m, h1, h2⟩ := h
        exact ih m h1 h2
      · exact ⟨n, hn, fun m hm => Nat.le_of_not_lt fun hlt => h ⟨m, hlt, hm⟩⟩
  let μ : Act → World → Nat := fun a w => open Classical in if h : J a w then (hmin a w h).choose else 0
  have hμ : ∀ a w, J a w → S a w (μ a w) ∧ ∀ m, S a w m → μ a w ≤ m := by
    intro a w h
    simp only [μ, dif_pos h]
    exact (hmin a w h).choose_spec
  refine gw_loop J μ ⟨n, Φ, H, st, s, h0⟩ fun a w hJ => ?_
  obtain ⟨⟨Φ, H, st, s, hI⟩, hle⟩ := hμ a w hJ
  refine gw_mono (round _ st hI C hC Φ H a w s) fun e a' w' q => ?_
  cases e <;> simp only [lft, lftP, Exit.then, thenQ] at q ⊢ <;> try exact q
  obtain ⟨Φ', H', st', s', m, hm, hI'⟩ := q
  have hS : S a' w' m := ⟨Φ', H', st', s', hI'⟩
  refine ⟨⟨m, hS⟩, ?_⟩
  have := (hμ a' w' ⟨m, hS⟩).2 m hS
  omega
/-- A loop over states of ours. -/
theorem vwq_loop_s {α : Type} {c : Code} (S : α → St) (I : α → Prop) (μ : α → Nat) (a : α) (g : Gh nt st (S a)) (h0 : I a)
    (round : ∀ a, I a → ∀ K : St → Prop, (∀ b st', Gh nt st' (S b) → I b → μ b < μ a → K st') → vwq P nt c (thenQ K Q) R (S a)) : vwq P nt (.loop c) Q R st :=
  vwq_gh g (vwq_loop (fun n st => ∃ a, n = μ a ∧ I a ∧ Gh nt st (S a)) (μ a) ⟨a, rfl, h0, Gh.refl _ _⟩ fun n st ⟨b, hn, hI, hg⟩ =>
    vwq_gh hg (vwq_mono (round b hI (fun st' => ∃ m, m < n ∧ ∃ a, m = μ a ∧ I a ∧ Gh nt st' (S a)) fun d st' g' hI' hlt => ⟨μ d, by omega, d, rfl, hI', g'⟩) fun _ _ q => q))
theorem vwq_cut_s {α : Type} {x y : Code} (S : α → St) (I : α → Prop) (h : ∀ K : St → Prop, (∀ a st', Gh nt st' (S a) → I a → K st') → vwq P nt x (thenQ K Q) R st)
    (k : ∀ a, I a → vwq P nt y Q R (S a)) : vwq P nt (.seq x y) Q R st :=
  vwq_seq (h _ fun a st' g hI => vwq_gh g (k a hI))

/-! ### Regions with calls that may panic -/
def vstepQ (P : Program) (T : Nat → Option TI) (nt : Sh) (o : Oper) (st : St) (K : St → Prop) (R : Value → St → Prop) : Prop :=
  match o.op with
  | .call ⟨.value f, args, _⟩ => match evV st.sl f with
    | .fn k caps => okd nt o.dst ∧ vcallQ P nt st k (args.toList.map (evV st.sl) ++ caps) (vcont K st.sl o.dst) (fun v ob' => R v ⟨st.sl, ob'⟩)
    | _ => False
  | .next _ false => False
  | .panic x => match evV st.sl x with
    | .ifc t v => R (.iface t v) st
    | _ => False
  | op => match vop T st.sl st.ob op with
    | some (p, x, ob') => p ∧ okd nt o.dst ∧ K ⟨putD st.sl o.dst x, ob'⟩
    | none => False
def vrunQ (P : Program) (T : Nat → Option TI) (nt : Sh) (R : Value → St → Prop) : List Oper → (St → Prop) → St → Prop
  | [], K, st => K st
  | o :: rest, K, st => match o.guard with
    | none => vstepQ P T nt o st (vrunQ P T nt R rest K) R
    | some _ => False
variable {T : Nat → Option TI}
theorem vstepQ_sound (hT : TabOK P T) {o : Oper} {K : St → Prop} (h : vstepQ P T nt o st K R) {C : Ctx} (hC : C.nt = nt) {Φ H a w} (s : SimE C Φ H st a w) {next : Act → World → Prop} {Qx : Exit → Act → World → Prop}
    (hn : ∀ Φ' H' st' a' w', SimE C Φ' H' st' a' w' → K st' → next a' w') (hp : ∀ v Φ' H' st' a' w', SimE C Φ' H' st' a' w' → R v st' → Qx (.panic [{ v, recovered := false }]) a' w') : o.wp P a w next Qx := by
  have okd' : ∀ {d : Option Nat}, okd nt d → ∀ i, d = some i → i < C.nt.nt := by
    intro d hd i e
    subst e
    rw [hC]; exact hd
  have plain : ∀ (p : Prop) (x : V) (ob' : List Ob), vop T st.sl st.ob o.op = some (p, x, ob') → p → okd nt o.dst → K ⟨putD st.sl o.dst x, ob'⟩ → o.wp P a w next Qx := by
    intro p x ob' hv hp hd hk
    obtain ⟨v, w', Φ', H', hr, hst, hx⟩ := vop_sound (P := P) (sl := st.sl) (ob := st.ob) hT s hv hp
    have s' := (s.step hst).put (d := o.dst) hx (okd' hd)
    unfold Oper.wp
    rcases hr with hr | ⟨hr, rfl⟩
    · rw [hr]; exact hn _ _ _ _ _ s' hk
    · rw [hr]; exact hn _ _ _ _ _ s' hk
  obtain ⟨dst, op, ty, pos, aft, gd⟩ := o
  unfold vstepQ at h
  dsimp only at h plain
  split at h
  · rename_i f args ts
    split at h
    case h_2 => exact h.elim
    rename_i k caps hf
    obtain ⟨hd, he, hc⟩ := h
    have hfe := s.eval f
    rw [hf] at hfe
    obtain ⟨cv, _, e1, e2⟩ := hfe
    have hr := callee_run (P := P) (w := w) (args := args) (ts := ts) (ty := ty) (dst := dst) (pos := pos) (aft := aft) (gd := gd) he e1
    unfold Oper.wp
    rw [hr]
    have hargs : VReps .any (mkE Φ H st.ob w) (args.toList.map (evV st.sl) ++ caps) (args.map a.eval ++ cv).toList := by
      simp only [Array.toList_append, Array.toList_map]
      exact (evals_rep' (sl := st.sl) (ob := st.ob) s args.toList).append e2
    refine (hc C hC Φ H a w s _ hargs).mono fun e w' q => ?_
    cases e with
    | returned v =>
      obtain ⟨Φ', H', ob', r, q1, q2, q3⟩ := q
      exact hn _ _ _ _ _ (q1.put (d := dst) q2 (okd' hd)) q3
    | panicked c =>
      obtain ⟨v, rfl, Φ', H', ob', q1, q2⟩ := q
      exact hp v _ _ _ _ _ q1 q2
    | outgrown => exact q.elim
  · exact h.elim
  · rename_i x
    split at h
    case h_2 => exact h.elim
    rename_i t v hx
    have hxe := s.eval x
    rw [hx] at hxe
    simp only [VRep] at hxe
    have hr : (execOp a.eval ⟨dst, .panic x, ty, pos, aft, gd⟩).run P w = .halt (.panic (.iface t v)) w := by simp [execOp, hxe, run_panic_iface]
    unfold Oper.wp
    rw [hr, Oper.upon_panic]
    exact hp _ _ _ _ _ _ s h
  · split at h
    case h_2 => exact h.elim
    rename_i p x ob' hv
    exact plain p x ob' hv h.1 h.2.1 h.2.2
theorem vrunQ_sound (hT : TabOK P T) {ops : Array Oper} {Qx : Exit → Act → World → Prop} {C : Ctx} (hC : C.nt = nt) {K : St → Prop} (hq : ∀ Φ' H' st' a' w', SimE C Φ' H' st' a' w' → K st' → Qx .normal a' w')
    (hp : ∀ v Φ' H' st' a' w', SimE C Φ' H' st' a' w' → R v st' → Qx (.panic [{ v, recovered := false }]) a' w') : ∀ (l : List Oper) (st : St), vrunQ P T nt R l K st → ∀ Φ H a w, SimE C Φ H st a w → wpList P ops Qx l a w
  | [], st, h, Φ, H, a, w, s => hq _ _ _ _ _ s h
  | o :: rest, st, h, Φ, H, a, w, s => by
    simp only [vrunQ] at h
    split at h
    case h_2 => exact h.elim
    rename_i hg
    unfold wpList
    rw [if_pos (by simp [Region.wanted, hg])]
    exact .inl (vstepQ_sound hT h hC s (fun Φ' H' st' a' w' s' k => vrunQ_sound hT hC hq hp rest st' k Φ' H' a' w' s') hp)
theorem vwq_region (hT : TabOK P T) {id : Nat} {ops : List Oper} (h : vrunQ P T nt R ops (Q .norm) st) (hd : nt.rd = true → ops.all nd = true := by first | (intro h; cases h; done) | (intro _; simp [nd])) : vwq P nt (.region id ops.toArray false) Q R st := by
  intro C hC Φ H a w s
  refine gw_region_lit (fun q => ?_) hd ?_
  · obtain ⟨a', w', q⟩ := q
    exact q
  · exact vrunQ_sound hT hC (fun Φ' H' st' a' w' s' k => ⟨Φ', H', st', s', k⟩) (fun v Φ' H' st' a' w' s' k => ⟨v, rfl, Φ', H', st', s', k⟩) ops st h Φ H a w s
end

/-! ### A function's end -/
theorem Shut.leavesP {P : Program} {fn : Func} {tmps : Array Value} {R : Ending → World → Prop} {ch : List PanicEntry} {ds : List Deferred} {w w' : World} (h : Shut P ds w w') (hR : R (.panicked ch) w') :
    LeavesInM Fence.wide 0 P fn tmps R ds (.panicking ch) w := by
  induction h with
  | nil w => exact hR
  | cons hd hr _ ih => exact ⟨by simp, .inl ⟨_, _, hd, hr, ih hR⟩⟩
/-- A call, by its body's walk: it returns, or panics. -/
theorem callsQ_of_gw {P : Program} {f : FuncId} {fn : Func} {c : Code} {args : Array Value} {w : World} {R : Ending → World → Prop} (hf : P.funcs[f]? = some fn) (hb : fn.body = some c)
    (h : gw false P c (fun e a w => ((e = .normal ∨ e = .ret) ∧ ∃ w' v, Shut P a.defers w w' ∧ (results fn a.tmps).run P w' = .ok v w' ∧ R (.returned v) w') ∨ ∃ ch w', e = .panic ch ∧ Shut P a.defers w w' ∧ R (.panicked ch) w') { tmps := args ++ Array.replicate (fn.ntmps - args.size) undef, defers := [] } w) : Calls P f args w R := by
  refine callsIn_wide.1 (callsIn_of_wp_marks (n := 0) hf hb trivial (wpIn_wide.2 (wp_mono h fun e a w q => ?_)) rfl)
  rcases q with ⟨he, w', v, h1, h2, h3⟩ | ⟨ch, w', rfl, h1, h2⟩
  · rcases he with rfl | rfl
    · exact h1.leaves h2 h3
    · exact h1.leaves h2 h3
  · exact h1.leavesP h2

section
variable {P : Program} {nt : Sh} {T : Nat → Option TI} {R : Value → St → Prop} {K : St → Prop} {rest : List Oper} {o : Oper} {sl : List (Nat × V)} {ob : List Ob}
attribute [simp] concV conc1
@[simp] theorem vrunQ_nil : vrunQ P T nt R [] K ⟨sl, ob⟩ = K ⟨sl, ob⟩ := rfl
@[simp] theorem vrunQ_cons : vrunQ P T nt R (o :: rest) K ⟨sl, ob⟩ = match o.guard with
    | none => vstepQ P T nt o ⟨sl, ob⟩ (vrunQ P T nt R rest K) R
    | some _ => False := rfl
@[simp] theorem vstepQ_mk : vstepQ P T nt o ⟨sl, ob⟩ K R = match o.op with
  | .call ⟨.value f, args, _⟩ => match evV sl f with
    | .fn k caps => okd nt o.dst ∧ vcallQ P nt ⟨sl, ob⟩ k (args.toList.map (evV sl) ++ caps) (vcont K sl o.dst) (fun v ob' => R v ⟨sl, ob'⟩)
    | _ => False
  | .next _ false => False
  | .panic x => match evV sl x with
    | .ifc t v => R (.iface t v) ⟨sl, ob⟩
    | _ => False
  | op => match vop T sl ob op with
    | some (p, x, ob') => p ∧ okd nt o.dst ∧ K ⟨putD sl o.dst x, ob'⟩
    | none => False := rfl
end
theorem vwq_live {P : Program} {nt : Sh} {c : Code} {Q : X → St → Prop} {R : Value → St → Prop} {sl : List (Nat × V)} {ob : List Ob} (ts : List Nat) (h : vwq P nt c Q R ⟨pruneS ts sl, ob⟩) : vwq P nt c Q R ⟨sl, ob⟩ :=
  vwq_gh (Gh.less fun i => getS_pruneS ts i sl) h
theorem vwq_sq {P : Program} {nt : Sh} {Q : X → St → Prop} {R : Value → St → Prop} {sl : List (Nat × V)} {ob : List Ob} {x y : Code} (ts : List Nat) (h : ∀ K : St → Prop, (∀ st, vwq P nt y Q R st → K st) → vwq P nt x (thenQ K Q) R ⟨pruneS ts sl, ob⟩) : vwq P nt (.seq x y) Q R ⟨sl, ob⟩ :=
  vwq_live ts (vwq_seq_k h)
theorem vwq_post {P : Program} {nt : Sh} {Q : X → St → Prop} {R : Value → St → Prop} {st : St} {c : Code} (h : vwq P nt c (fun x st => ∃ st', Gh nt st st' ∧ Q x st') R st) : vwq P nt c Q R st := by
  intro C hC Φ H a w s
  refine gw_mono (h C hC Φ H a w s) fun e a w q => ?_
  cases e <;> simp only [lft, lftP] at q ⊢ <;> try exact q
  all_goals
    obtain ⟨Φ, H, st, s, st', g, q⟩ := q
    obtain ⟨Φ', H', s'⟩ := g C hC Φ H a w s
    exact ⟨Φ', H', st', s', q⟩
theorem VCQ_of_vwq {P : Program} {k : Nat} {fn : Func} {c : Code} {args : List V} {ob : List Ob} {Q : V → List Ob → Prop} {R : Value → List Ob → Prop} (he : Ent P k) (hf : P.funcs[k]? = some fn) (hb : fn.body = some c) (hn : args.length ≤ fn.ntmps)
    (h : vwq P ⟨fn.ntmps, ob.length, false⟩ c (retQ fn Q) (fun v st => R v st.ob) ⟨argSlots 0 args, ob⟩) : VCQ P k args ob Q R := by
  refine ⟨he, fun Φ H w vals hs hv => callsQ_of_gw hf hb ?_⟩
  have hl := hv.length
  simp only [Array.length_toList] at hl
  have s : SimE (ctx Φ H ob w ⟨fn.ntmps, ob.length, false⟩) Φ H ⟨argSlots 0 args, ob⟩ { tmps := vals ++ Array.replicate (fn.ntmps - vals.size) undef, defers := [] } w := by
    refine ⟨HS.refl hs, ⟨[], rfl, Marks.nil⟩, by simp [ctx]; omega, rfl, fun i => ?_⟩
    simp only [getS_argSlots, Nat.zero_le, if_true, Nat.sub_zero]
    rcases Nat.lt_or_ge i args.length with hi | hi
    · obtain ⟨u, hu, _, hr⟩ := hv.get i args[i] (List.getElem?_eq_getElem hi)
      have e1 : args.getD i .junk = args[i] := by simp [List.getD_eq_getElem?_getD, List.getElem?_eq_getElem hi]
      have e2 : (vals ++ Array.replicate (fn.ntmps - vals.size) undef).getD i undef = u := by
        have hu' : vals[i]? = some u := by simpa using hu
        rw [Array.getD_eq_getD_getElem?, Array.getElem?_append_left (by omega), hu']; rfl
      rw [e1, e2]; exact hr
    · have e1 : args.getD i .junk = .junk := by simp [List.getD_eq_getElem?_getD, List.getElem?_eq_none hi]
      rw [e1]; trivial
  refine gw_mono (h (ctx Φ H ob w ⟨fn.ntmps, ob.length, false⟩) rfl Φ H _ w s) fun e a w' q => ?_
  have key : ∀ Φ' H' st, SimE (ctx Φ H ob w ⟨fn.ntmps, ob.length, false⟩) Φ' H' st a w' → (∃ r, retV st.sl fn.results.toList = some r ∧ Q r st.ob) → ∃ w'' v, Shut P a.defers w' w'' ∧ (results fn a.tmps).run P w'' = .ok v w'' ∧ postQ Φ H ob w Q R (.returned v) w'' := by
    rintro Φ' H' st s' ⟨r, h1, h2⟩
    obtain ⟨w'', hsh, s'⟩ := s'.shut (P := P)
    obtain ⟨v, k1, k2⟩ := retV_sound (P := P) s' h1
    have q := s'.hs
    exact ⟨w'', v, hsh, k1, r, st.ob, Φ', H', ⟨q.os, q.tape, q.output, q.size, q.kept, q.sim, q.ext, q.phi, q.mine⟩, k2, h2⟩
  cases e <;> simp only [lft, lftP, retQ] at q
  · obtain ⟨Φ', H', st, s', q⟩ := q
    exact .inl ⟨.inl rfl, key Φ' H' st s' q⟩
  · obtain ⟨_, _, _, _, q⟩ := q; exact q.elim
  · obtain ⟨Φ', H', st, s', q⟩ := q
    exact .inl ⟨.inr rfl, key Φ' H' st s' q⟩
  · obtain ⟨v, rfl, Φ', H', st, s', q⟩ := q
    obtain ⟨w'', hsh, s'⟩ := s'.shut (P := P)
    have q2 := s'.hs
    exact .inr ⟨_, w'', rfl, hsh, v, rfl, st.ob, Φ', H', ⟨q2.os, q2.tape, q2.output, q2.size, q2.kept, q2.sim, q2.ext, q2.phi, q2.mine⟩, q⟩
theorem VCQ_of_vwq_k {P : Program} {k : Nat} {fn : Func} {c : Code} {args : List V} {ob : List Ob} {Q : V → List Ob → Prop} {R : Value → List Ob → Prop} (he : Ent P k) (hf : P.funcs[k]? = some fn) (hb : fn.body = some c) (hn : args.length ≤ fn.ntmps)
    (h : ∀ Rk : X → St → Prop, (∀ x st, (∃ st', Gh ⟨fn.ntmps, ob.length, false⟩ st st' ∧ retQ fn Q x st') → Rk x st) → vwq P ⟨fn.ntmps, ob.length, false⟩ c Rk (fun v st => R v st.ob) ⟨argSlots 0 args, ob⟩) : VCQ P k args ob Q R :=
  VCQ_of_vwq he hf hb hn (vwq_post (h _ fun _ _ h => h))
end Go.VX

/- Ranges over functions: a call of yield, a round, the statement. -/
namespace Go.VX
open Go.RowKit
set_option linter.unusedVariables false
set_option linter.unusedSimpArgs false
set_option linter.unusedSectionVars false

/-! ### A call of yield -/
/-- What a call of yield comes to. -/
def YC (P : Program) (id : Nat) (args : List V) (ob : List Ob) (Q : V → List Ob → Prop) : Prop :=
  ∀ Φ H w (vals : Array Value) b, HSim Φ H ob w → H id = some b → VReps .any (mkE Φ H ob w) args vals.toList → YieldAt Fence.wide 0 P b vals w (post Φ H ob w Q)
theorem YC.mono {P id args ob Q Q'} (h : YC P id args ob Q) (hq : ∀ r ob', Q r ob' → Q' r ob') : YC P id args ob Q' := fun Φ H w vals b h1 h2 h3 => by
  obtain ⟨fn, tmps, as, bd, g1, g2⟩ := h Φ H w vals b h1 h2 h3
  refine ⟨fn, tmps, as, bd, g1, g2.mono fun e w' q => ?_⟩
  cases e <;> simp only [post] at q ⊢
  · obtain ⟨r, ob', Φ', H', h1, h2, h3⟩ := q
    exact ⟨r, ob', Φ', H', h1, h2, hq _ _ h3⟩
def ycall (P : Program) (nt : Sh) (st : St) (id : Nat) (args : List V) (K : V → List Ob → Prop) : Prop :=
  ∀ C : Ctx, C.nt = nt → ∀ Φ H a w, SimE C Φ H st a w → ∀ (vals : Array Value) b, H id = some b → VReps .any (mkE Φ H st.ob w) args vals.toList →
    YieldAt Fence.wide 0 P b vals w fun e w' => match e with
      | .returned v => ∃ Φ' H' ob' r, SimE C Φ' H' ⟨st.sl, ob'⟩ a w' ∧ VRep (mkE Φ' H' ob' w') r v ∧ K r ob'
      | .outgrown => False
      | .panicked _ => False
theorem ycall_of_YC {P : Program} {nt : Sh} {st : St} {id : Nat} {args : List V} {K : V → List Ob → Prop} (ρ : List Nat) (j : Nat) {args' : List V} {objs : List Ob} {Q : V → List Ob → Prop}
    (hy : YC P j args' objs Q) (hK : ∀ r ob', Q r ob' → K (rnV (fOf ρ st.ob.length) r) (back st.ob ρ ob')) (hj : ρ[j]? = some id := by rfl)
    (hh : hand st.ob (fOf ρ st.ob.length) ρ objs := by simp) (ha : args.map (vwA st.ob ρ false) = args' := by simp) (hok : allOK (vwAOK st.ob ρ false) args := by simp) (hn : ρ.Nodup := by simp) : ycall P nt st id args K := by
  intro C hC Φ H a w s vals b hb hvals
  have hp : Passed Φ H st.ob w ρ false objs := Passed.of s.hs.sim (handed_of hn hh)
  have hargs : VReps .any (mkE (phiC Φ H st.ob ρ false) (VX.hC H ρ) objs w) args' vals.toList := by
    rw [← ha]
    exact VReps.mapW (q := .any) args _ (fun x _ v hq hx => vwA_sound hp hx hq) (fun _ _ _ _ => trivial) (allOK_mem hok) hvals
  have hHj : VX.hC H ρ j = some b := by
    obtain ⟨h1, h2⟩ := List.getElem?_eq_some_iff.1 hj
    simp [VX.hC, h1, List.getD_eq_getElem?_getD, h2, hb]
  obtain ⟨fn, tmps, as, bd, g1, g2⟩ := hy _ _ w vals b hp.hsim hHj hargs
  refine ⟨fn, tmps, as, bd, g1, g2.mono fun e w' q => ?_⟩
  cases e with
  | returned v =>
    obtain ⟨r, ob', Φ', H', q1, q2, q3⟩ := q
    have k2 := hK r ob' q3
    obtain ⟨Φ2, g1, g2⟩ := call_step hp q1 (fun hb => by cases hb)
    exact ⟨Φ2, _, _, _, s.step g1, g2 r v (fun hb => by cases hb) q2, k2⟩
  | panicked c => exact q
  | outgrown => exact q

section
variable {P : Program} {T : Nat → Option TI} {nt : Sh}

def isLoop : Option Ob → Bool
  | some (.loop ..) => true
  | _ => false
def vstepY (P : Program) (T : Nat → Option TI) (nt : Sh) (o : Oper) (st : St) (K : St → Prop) : Prop :=
  match o.op with
  | .call ⟨.value f, args, ts⟩ => match evV st.sl f with
    | .yld id => okd nt o.dst ∧ isLoop st.ob[id]? = true ∧ ycall P nt st id (args.toList.map (evV st.sl)) (vcont K st.sl o.dst)
    | _ => vstep P T nt o st K
  | _ => vstep P T nt o st K
def vrunY (P : Program) (T : Nat → Option TI) (nt : Sh) (ops : List Oper) : List Oper → (St → Prop) → St → Prop
  | [], Q, st => Q st
  | o :: rest, Q, st => match o.guard with
    | none => vstepY P T nt o st (vrunY P T nt ops rest Q)
    | some g => match gslot ops g with
      | some s => match getS st.sl s.1 with
        | .bool b => if b = s.2 then vstepY P T nt o ⟨setS st.sl s.1 (.bool s.2), st.ob⟩ (vrunY P T nt ops rest Q)
              else okd nt o.dst ∧ vrunY P T nt ops rest Q ⟨putD (setS st.sl s.1 (.bool (!s.2))) o.dst .junk, st.ob⟩
        | _ => False
      | none => False

theorem wp_wide {o : Oper} {a : Act} {w : World} {next : Act → World → Prop} {Q : Exit → Act → World → Prop} (h : o.wp P a w next Q) : o.wpIn Fence.wide 0 P a w next Q := by
  refine ⟨fun f _ => trivial, ?_⟩
  have e : o.semAt Fence.wide.round a.eval = execOp a.eval o := rfl
  rw [e]
  unfold Oper.wp at h
  generalize (execOp a.eval o).run P w = r at h ⊢
  have hdep : Fence.wide.depth.isSome = true → 1 ≤ 0 := by intro k; cases k
  cases r with
  | ok x w' =>
    cases x <;> simp only [Oper.upon, Oper.uponIn] at h ⊢
    case enter f args => exact ⟨hdep, callsIn_wide.2 h⟩
    case row row args => exact ⟨hdep, fun c cs _ => let ⟨v, w', r, s⟩ := h c cs; ⟨v, w', r, stepsIn_wide.2 s⟩⟩
    all_goals exact h
  | halt x w' => cases x <;> simp only [Oper.upon, Oper.uponIn] at h ⊢ <;> exact h

theorem yield_run {w w' : World} {a : Act} {f : Operand} {args : Array Operand} {ts : Array TypeId} {ty : TypeId} {dst : Option Tmp} {pos aft gd} {b : Nat} {x : Next} (hf : a.eval f = .func (.yield b) #[] #[]) (h : (Instr.yield b (args.map a.eval)).run P w = .ok x w') :
    (execOp a.eval ⟨dst, .call ⟨.value f, args, ts⟩, ty, pos, aft, gd⟩).run P w = .ok x w' := by
  simp [execOp, resolve, hf, Deferred.ofValue, invoke, h]

theorem vstepY_sound (hT : TabOK P T) {o : Oper} {st : St} {K : St → Prop} (h : vstepY P T nt o st K) {C : Ctx} (hC : C.nt = nt) {Φ H a w} (s : SimE C Φ H st a w) {next : Act → World → Prop} {Qx : Exit → Act → World → Prop}
    (hn : ∀ Φ' H' st' a' w', SimE C Φ' H' st' a' w' → K st' → next a' w') : o.wpIn Fence.wide 0 P a w next Qx := by
  unfold vstepY at h
  split at h
  case h_2 => exact wp_wide (vstep_sound hT h hC s hn trivial)
  rename_i f args ts hop
  split at h
  case h_2 => exact wp_wide (vstep_sound hT h hC s hn trivial)
  rename_i id hf
  obtain ⟨hd, hl, hy⟩ := h
  have hfe := s.eval f
  rw [hf] at hfe
  obtain ⟨_, hid, hv⟩ := hfe
  have hL : Lof st.ob id = some 0 := by
    unfold isLoop at hl
    split at hl
    · rename_i h1; simp [Lof, h1, Ob.len]
    · cases hl
  obtain ⟨b, hb, hv⟩ := hv hL
  have hargs : VReps .any (mkE Φ H st.ob w) (args.toList.map (evV st.sl)) (args.map a.eval).toList := by
    rw [Array.toList_map]
    exact evals_rep' (sl := st.sl) (ob := st.ob) s args.toList
  obtain ⟨fn, tmps, as, bd, g1, g2⟩ := hy C hC Φ H a w s _ b hb hargs
  obtain ⟨dst, op, ty, pos, aft, gd⟩ := o
  simp only at hop hd; subst hop
  refine ⟨fun f _ => trivial, ?_⟩
  have e : (Oper.semAt Fence.wide.round a.eval ⟨dst, .call ⟨.value f, args, ts⟩, ty, pos, aft, gd⟩) = execOp a.eval ⟨dst, .call ⟨.value f, args, ts⟩, ty, pos, aft, gd⟩ := rfl
  rw [e, yield_run hv g1]
  refine ⟨fun k => (by cases k), g2.mono fun e w' q => ?_⟩
  cases e with
  | returned v =>
    obtain ⟨Φ', H', ob', r, q1, q2, q3⟩ := q
    exact hn _ _ _ _ _ (q1.put (d := dst) q2 (fun i e => by subst e; rw [hC]; exact hd)) q3
  | panicked c => exact q.elim
  | outgrown => exact q.elim

theorem vrunY_sound (hT : TabOK P T) {ops : List Oper} : ∀ (l : List Oper) (Q : St → Prop) (st : St), vrunY P T nt ops l Q st → ∀ (C : Ctx), C.nt = nt → ∀ Φ H a w, SimE C Φ H st a w → ∀ Qx : Exit → Act → World → Prop,
    (∀ Φ' H' st' a' w', SimE C Φ' H' st' a' w' → Q st' → Qx .normal a' w') → wpListIn Fence.wide 0 P ops.toArray Qx l a w
  | [], Q, st, h, C, hC, Φ, H, a, w, s, Qx, hq => by
    simp only [vrunY] at h
    exact hq _ _ _ _ _ s h
  | o :: rest, Q, st, h, C, hC, Φ, H, a, w, s, Qx, hq => by
    simp only [vrunY] at h
    have go : ∀ st' a' w' Φ' H', SimE C Φ' H' st' a' w' → vrunY P T nt ops rest Q st' → wpListIn Fence.wide 0 P ops.toArray Qx rest a' w' := fun st' a' w' Φ' H' s' k =>
      vrunY_sound hT rest Q st' k C hC Φ' H' a' w' s' Qx hq
    split at h
    · rename_i hg
      unfold wpListIn
      rw [if_pos (by simp [Region.wanted, hg])]
      exact vstepY_sound hT h hC s (fun Φ' H' st' a' w' s' k => go _ _ _ _ _ s' k)
    · rename_i g hg
      split at h
      case h_2 => exact h.elim
      rename_i sg hsg
      split at h
      case h_2 => exact h.elim
      rename_i b hb
      unfold wpListIn
      by_cases hbw : b = sg.2
      · rw [if_pos hbw] at h
        rw [if_pos (wanted_of hg hsg (by rw [s.boolAt hb, hbw]))]
        exact vstepY_sound hT h hC (s.known hb hbw) (fun Φ' H' st' a' w' s' k => go _ _ _ _ _ s' k)
      · have hnw := not_wanted (ops := ops) (a := a) hg hsg (by rw [s.boolAt hb]; intro e; exact hbw (by simpa using e))
        rw [hnw]
        rw [if_neg hbw] at h
        obtain ⟨h1, h2⟩ := h
        simp only [Bool.false_eq_true, if_false]
        refine ⟨fun _ _ => trivial, go _ _ _ _ _ ((s.known hb (b' := !sg.2) (by cases b <;> cases hq2 : sg.2 <;> simp_all)).put (x := .junk) trivial ?_) h2⟩
        intro i e
        rw [e] at h1
        rw [hC]; exact h1
/-- A region with calls of yield. -/
theorem vwp_regionY (hT : TabOK P T) {id : Nat} {ops : List Oper} {Q : X → St → Prop} {st : St} (h : vrunY P T nt ops ops (Q .norm) st) (hr : nt.rd = false := by rfl) : vwp P nt (.region id ops.toArray false) Q st := by
  intro C hC Φ H a w s
  rw [hr]
  exact wpIn_wide.1 (wpIn_region_lit (n := 0) (vrunY_sound hT ops _ st h C hC Φ H a w s _ (fun Φ' H' st' a' w' s' q => ⟨Φ', H', st', s', q⟩)))
end

/-! ### A round -/
section
variable {P : Program}

def putL (sl : List (Nat × V)) : List Nat → List V → List (Nat × V)
  | p :: ps, x :: xs => putL (setS sl p x) ps xs
  | _, _ => sl

/-- How a round may end. -/
def rndQ (id : Nat) (Q : V → List Ob → Prop) : X → St → Prop
  | .norm, st => ∃ pd n ks vs ps as bd, st.ob[id]? = some (.loop .busy pd n ks vs ps as bd) ∧ Q (.bool true) (st.ob.set id (.loop .ready none n ks vs ps as bd))
  | .ex j, st => ∃ pd n ks vs ps as bd, st.ob[id]? = some (.loop .busy pd n ks vs ps as bd) ∧ Q (.bool false) (st.ob.set id (.loop .done (some (.exit j)) n ks vs ps as bd))
  | .ret, st => ∃ pd n ks vs ps as bd, st.ob[id]? = some (.loop .busy pd n ks vs ps as bd) ∧ Q (.bool false) (st.ob.set id (.loop .done (some .ret) n ks vs ps as bd))

theorem zip_slots {E : Env} {tmps : Array Value} : ∀ {ks : List Nat} {vs : List V}, VReps .any E vs (ks.map fun k => tmps.getD k undef) → ∀ t, VRep E (getS (ks.zip vs) t) (tmps.getD t undef)
  | [], vs, h, t => by simp [getS, VRep]
  | k :: ks, [], h, t => by simp [getS, VRep]
  | k :: ks, v :: vs, ⟨u, r, h1, _, h2, h3⟩, t => by
    simp only [List.map_cons, List.cons.injEq] at h1
    obtain ⟨rfl, rfl⟩ := h1
    simp only [List.zip_cons_cons, getS]
    split
    · rename_i e; subst e; exact h2
    · exact zip_slots h3 t

/-- The loop's record is turned. -/
theorem SimE.turn {C : Ctx} {Φ H st a w} (s : SimE C Φ H st a w) {id b : Nat} {st0 pd n ks vs ps as bd} (ho : st.ob[id]? = some (.loop st0 pd n ks vs ps as bd)) (hb : H id = some b) :
    ∃ r : Loop, w.heap[b]? = some (.loop r) ∧ r.state = st0 ∧ r.pending = pd ∧ ∀ st1 pd1, SimE C Φ H ⟨st.sl, st.ob.set id (.loop st1 pd1 n ks vs ps as bd)⟩ a (w.putObj b (.loop { r with state := st1, pending := pd1 })) := by
  have hr := s.hs.sim.rep id _ ho
  obtain ⟨b', r, e, h1, h2, ⟨h3, h4, h5, h6, h7, h8⟩, h9⟩ := hr
  obtain rfl : b = b' := Option.some.inj (hb.symm.trans e)
  refine ⟨r, h1, h3, h4, fun st1 pd1 => ?_⟩
  have hlt := lt_of_heap h1
  have e1 : ∀ (o : Obj), (w.putObj b o).heap[b]? = some o := fun o => World.putObj_heap_same hlt
  have e2 : ∀ (o : Obj) k, k ≠ b → (w.putObj b o).heap[k]? = w.heap[k]? := fun o k hk => World.putObj_heap_other hk
  have hst := HStep.ofChange (Φ' := Φ) (x := H id) (o' := .loop st1 pd1 n ks vs ps as bd) (w' := w.putObj b (.loop { r with state := st1, pending := pd1 })) s.hs.sim ho rfl rfl rfl rfl
    (fun k _ hk => e2 _ k fun e => hk (e ▸ hb)) (by simp [World.putObj]) (fun _ h => h) (fun _ h => .inl h) (fun _ h => .inl h)
    (fun T' hT' => ⟨T', hT', Nat.le_refl _, fun _ => ⟨rfl, fun b' hb' => by
      obtain rfl : b = b' := Option.some.inj (hb.symm.trans hb')
      have h1' : w.heap[b]? = some (.loop r) := h1
      simp [bsize, e1, h1']⟩⟩)
    (fun E' hE hw hΦ => ⟨b, { r with state := st1, pending := pd1 }, hb, by rw [hw]; exact e1 _, by rw [hΦ]; exact h2, ⟨rfl, rfl, h5, h6, h7, h8⟩, VReps.ext hE _ _ h9⟩)
  have hu : upd H id (H id) = H := by
    funext k
    by_cases e : k = id
    · subst e; simp
    · exact upd_other _ _ e
  rw [hu] at hst
  exact s.step hst

theorem SimE.putL {C : Ctx} {Φ H w} {ob : List Ob} : ∀ {ps : List Nat} {xs : List V} {sl : List (Nat × V)} {a : Act} {vals : List Value}, SimE C Φ H ⟨sl, ob⟩ a w → VReps .any (mkE Φ H ob w) xs vals → (∀ p ∈ ps, p < C.nt.nt) → ps.length = xs.length →
    SimE C Φ H ⟨VX.putL sl ps xs, ob⟩ { a with tmps := (ps.zip vals).foldl (fun t p => t.setIfInBounds p.1 p.2) a.tmps } w
  | [], xs, sl, a, vals, s, _, _, _ => by cases xs <;> exact s
  | p :: ps, [], sl, a, vals, s, _, _, h => by simp at h
  | p :: ps, x :: xs, sl, a, vals, s, ⟨u, r, h1, _, h2, h3⟩, hp, hl => by
    subst h1
    have := SimE.putL (a := a.put (some p) u) (s.put (d := some p) h2 fun i e => by cases e; exact hp p (by simp)) h3 (fun q hq => hp q (List.mem_cons_of_mem _ hq)) (by simpa using hl)
    exact this

/-- A round, by its body's walk. -/
theorem YC_of_body {id : Nat} {args : List V} {ob : List Ob} {Q : V → List Ob → Prop} {n : Nat} {ks : List Nat} {vs : List V} {ps : Array Tmp} {as bd : Code} (ho : ob[id]? = some (.loop .ready none n ks vs ps as bd))
    (hps : ps.toList.length = args.length) (hp : ∀ p ∈ ps.toList, p < n)
    (h : vwp P ⟨n, ob.length, true⟩ as (thenQ (fun st1 => st1.ob[id]? = some (.loop .ready none n ks vs ps as bd) ∧
      vwp P ⟨n, ob.length, true⟩ bd (fun x st => ∃ st', Gh ⟨n, ob.length, true⟩ st st' ∧ rndQ id Q x st') ⟨st1.sl, st1.ob.set id (.loop .busy none n ks vs ps as bd)⟩) (fun _ _ => False)) ⟨putL (ks.zip vs) ps.toList args, ob⟩) : YC P id args ob Q := by
  intro Φ H w vals b hs hb hv
  have hr := hs.rep id _ ho
  obtain ⟨b', r, e, h1, h2, ⟨h3, h4, h5, h6, h7, h8⟩, h9⟩ := hr
  obtain rfl : b = b' := Option.some.inj (hb.symm.trans e)
  have hl := hv.length
  simp only [Array.length_toList] at hl
  have hy := run_yield (P := P) (args := vals) h1 (by rw [h6]; simp only [Array.length_toList] at hps; omega)
  rw [h6, h7, h8] at hy
  refine ⟨r.fn, _, as, bd, hy, roundIn_of_wpIn trivial ?_⟩
  have s0 : SimE (ctx Φ H ob w ⟨n, ob.length, true⟩) Φ H ⟨ks.zip vs, ob⟩ { tmps := r.tmps, defers := [] } w :=
    ⟨HS.refl hs, ⟨[], rfl, Marks.nil⟩, h5, rfl, fun t => zip_slots h9 t⟩
  have s1 := SimE.putL s0 hv hp hps
  have etm : (ps.zip vals).foldl (fun (tmps : Array Value) (x : Tmp × Value) => tmps.setIfInBounds x.1 x.2) r.tmps = (ps.toList.zip vals.toList).foldl (fun t p => t.setIfInBounds p.1 p.2) r.tmps := by
    rw [← Array.foldl_toList, Array.toList_zip]
  have h' := h _ rfl Φ H _ w s1 b
  simp only at h'
  rw [← etm] at h'
  refine wpIn_mono h' fun x a1 w1 q => ?_
  cases x <;> simp only [lft, thenQ, Exit.then] at q ⊢ <;> (try exact q.elim) <;> (try (obtain ⟨_, _, _, _, q⟩ := q; exact q.elim))
  obtain ⟨Φ1, H1, st1, s1, q1, q2⟩ := q
  -- the record's block is the same one
  have hH : ∀ {Φ2 H2 st2 a2 w2} {s0 pd0}, SimE (ctx Φ H ob w ⟨n, ob.length, true⟩) Φ2 H2 st2 a2 w2 → (∃ m ks' vs' ps' as' bd', st2.ob[id]? = some (.loop s0 pd0 m ks' vs' ps' as' bd')) → H2 id = some b := by
    rintro Φ2 H2 st2 a2 w2 s0 pd0 s2 ⟨m, ks', vs', ps', as', bd', ho2⟩
    have hid : id < ob.length := (List.getElem?_eq_some_iff.1 ho).1
    obtain ⟨T, g1, g2, g3⟩ := s2.hs.ext.l id hid 0 (by simp [mkE, Lof, ho2, Ob.len])
    obtain rfl : T = 0 := by omega
    exact (g3 rfl).1.trans hb
  have hb1 := hH s1 ⟨_, _, _, _, _, _, q1⟩
  obtain ⟨r1, k1, k2, k3, k4⟩ := s1.turn q1 hb1
  refine ⟨_, run_beginRound k1 k2, ?_⟩
  have hbz : ({ r1 with state := .busy } : Loop) = { r1 with state := .busy, pending := none } := by rw [← k3]
  rw [hbz]
  refine wpIn_mono (q2 _ rfl _ _ _ _ (k4 .busy none) b) fun x a2 w2 q => ?_
  have fin : ∀ (jump : Option Code) (st2 st3 : St) Φ2 H2, SimE (ctx Φ H ob w ⟨n, ob.length, true⟩) Φ2 H2 st2 a2 w2 → Gh ⟨n, ob.length, true⟩ st2 st3 → (∃ pd n ks vs ps as bd, st3.ob[id]? = some (.loop .busy pd n ks vs ps as bd) ∧
      Q (.bool jump.isNone) (st3.ob.set id (.loop (if jump.isNone then .ready else .done) jump n ks vs ps as bd))) →
      ∃ v w', (Instr.endRound b jump).run P w2 = .ok v w' ∧ post Φ H ob w Q (.returned v) w' := by
    rintro jump st2 st3 Φ2 H2 s2 g ⟨pd, n', ks', vs', ps', as', bd', ho3, hq⟩
    obtain ⟨Φ3, H3, s3⟩ := g _ rfl _ _ _ _ s2
    have hb3 := hH s3 ⟨_, _, _, _, _, _, ho3⟩
    obtain ⟨r3, m1, m2, m3, m4⟩ := s3.turn ho3 hb3
    have s4 := (m4 (if jump.isNone then .ready else .done) jump).hs
    refine ⟨_, _, run_endRound jump m1, .bool jump.isNone, _, Φ3, H3, ⟨s4.os, s4.tape, s4.output, s4.size, s4.kept, s4.sim, s4.ext, s4.phi, s4.mine⟩, rfl, hq⟩
  cases x <;> simp only [lft, rndQ, roundPost] at q ⊢
  · obtain ⟨Φ2, H2, st2, s2, st3, g, q⟩ := q
    exact fin none st2 st3 Φ2 H2 s2 g (by simpa using q)
  · obtain ⟨Φ2, H2, st2, s2, st3, g, q⟩ := q
    exact fin (some (.exit _)) st2 st3 Φ2 H2 s2 g (by simpa using q)
  · obtain ⟨Φ2, H2, st2, s2, st3, g, q⟩ := q
    exact fin (some .ret) st2 st3 Φ2 H2 s2 g (by simpa using q)
end

theorem HStep.ofHS {Φ H ob w nt Φ' H' ob' w'} (h : HS (ctx Φ H ob w nt) Φ' H' ob' w') : HStep Φ H ob w Φ' H' ob' w' :=
  ⟨h.os, h.tape, h.output, h.size, fun b hb hn => h.kept b hb fun ⟨i, o, h1, h2, h3⟩ => hn i o h1 h2 h3, h.sim, h.ext, h.phi, h.mine⟩

/-! ### The statement -/
section
variable {P : Program} {nt : Sh} {Q : X → St → Prop} {st : St}

/-- Behind the function that was ranged over: the pending jump. -/
def behind (P : Program) (nt : Sh) (Q : X → St → Prop) (sl : List (Nat × V)) (N : Nat) (ob' : List Ob) : Prop :=
  ∃ s pd n ks vs ps as bd, ob'[N]? = some (.loop s pd n ks vs ps as bd) ∧ s ≠ .busy ∧
    match pd with
    | none => Q .norm ⟨sl, ob'.set N .dead⟩
    | some c => vwp P nt c Q ⟨sl, ob'.set N .dead⟩
theorem vwp_rangeFunc {g : Operand} {ps : Array Tmp} {as bd : Code} {gf : FuncId} {caps : List V} (ks : List Nat) (hg : evV st.sl g = .fn gf caps)
    (h : vcall P ⟨nt.nt, st.ob.length + 1, false⟩ ⟨st.sl, st.ob ++ [.loop .ready none nt.nt ks (ks.map (getS st.sl)) ps as bd]⟩ gf (.yld st.ob.length :: caps) (fun r ob' => behind P nt Q st.sl st.ob.length ob')) (hr : nt.rd = false := by rfl) : vwp P nt (.rangeFunc g ps as bd) Q st := by
  intro C hC Φ H a w s
  rw [hr]
  refine (wpIn_wide (n := 0)).1 (wpIn_rangeFunc fun fn _ => ?_)
  have hge := s.eval g
  rw [hg] at hge
  obtain ⟨cv, _, e1, e2⟩ := hge
  obtain ⟨rec, hrec⟩ : ∃ rec : Loop, rec = { state := .ready, pending := none, fn, tmps := a.tmps, params := ps, assign := as, body := bd, defers := w.heap.size } := ⟨_, rfl⟩
  obtain ⟨W1, hW1⟩ : ∃ W1, (w.alloc (.deferred (some []))).alloc (.loop rec) = W1 := ⟨_, rfl⟩
  have hL1 : W1.heap[w.heap.size + 1]? = some (.loop rec) := by
    rw [← hW1]; have := World.alloc_heap_new (w.alloc (.deferred (some []))) (.loop rec); rwa [World.size_alloc] at this
  have hK1 : W1.heap[w.heap.size]? = some (.deferred (some [])) := by
    rw [← hW1]; exact (Below.heap_alloc _ _ _ (by simp)).trans (World.alloc_heap_new w _)
  have hkeep : ∀ k, k < w.heap.size → W1.heap[k]? = w.heap[k]? := fun k hk => by
    rw [← hW1]
    exact (Below.heap_alloc _ _ _ (by simp; omega)).trans (Below.heap_alloc _ _ _ hk)
  have hsz : W1.heap.size = w.heap.size + 2 := by rw [← hW1]; simp
  have hdr : w.drawn ≤ W1.drawn := by rw [← hW1]; exact Nat.le_refl _
  have hst : HStep Φ H st.ob w Φ (upd H st.ob.length (some (w.heap.size + 1))) (st.ob ++ [.loop .ready none nt.nt ks (ks.map (getS st.sl)) ps as bd]) W1 := by
    refine HStep.ofPush s.hs.sim (by rw [← hW1]; rfl) (by rw [← hW1]; rfl) (by rw [← hW1]; rfl) hkeep (by omega) (fun b hb => by cases hb; omega) fun E' hE hw hΦ => ?_
    refine ⟨_, rec, rfl, by rw [hw]; exact hL1, fun hp => ?_, ⟨by rw [hrec], by rw [hrec], by rw [hrec]; show a.tmps.size = nt.nt; rw [s.nt, hC], by rw [hrec], by rw [hrec], by rw [hrec]⟩, VReps.ext hE _ _ ?_⟩
    · rw [hΦ] at hp
      have := s.hs.sim.phi _ hp
      omega
    · rw [hrec]
      have : ∀ ks : List Nat, VReps .any (mkE Φ H st.ob w) (ks.map (getS st.sl)) (ks.map fun k => a.tmps.getD k undef) := by
        intro ks
        induction ks with
        | nil => simp [VReps]
        | cons k ks ih => exact ⟨_, _, rfl, trivial, s.slots k, ih⟩
      exact this ks
  have s1 := s.step hst
  have s2 : SimE C Φ (upd H st.ob.length (some (w.heap.size + 1))) ⟨st.sl, st.ob ++ [.loop .ready none nt.nt ks (ks.map (getS st.sl)) ps as bd]⟩ { a with defers := [{ target := .collected w.heap.size, args := #[] }] ++ a.defers } W1 := by
    refine ⟨s1.hs, ?_, s1.nt, s1.k0, s1.slots⟩
    obtain ⟨d1, q0, Ds, q1, q2, q3⟩ := s1.defers
    obtain ⟨d0, p0, Ds0, p1, p2, p3⟩ := s.defers
    obtain rfl : d1 = d0 := List.append_cancel_right (q0.symm.trans p0)
    have hDs : Ds = Ds0 := by
      have hh : Ds.map (fun D => ({ target := .collected D, args := #[] } : Deferred)) = Ds0.map (fun D => ({ target := .collected D, args := #[] } : Deferred)) := q1.symm.trans p1
      exact (List.map_inj_right fun x y h => by injection h with h; injection h).1 hh
    refine ⟨{ target := .collected w.heap.size, args := #[] } :: d1, by rw [q0]; rfl, w.heap.size :: Ds, by rw [q1]; rfl, List.nodup_cons.2 ⟨fun hm => ?_, q2⟩, fun D hD => ?_⟩
    · rw [hDs] at hm
      have := lt_of_heap (p3 _ hm).2.2
      omega
    · rcases List.mem_cons.1 hD with rfl | hD
      · exact ⟨s.hs.size, fun hp => by have := s.hs.sim.phi _ hp; omega, hK1⟩
      · exact q3 D hD
  have hN : (st.ob ++ [Ob.loop .ready none nt.nt ks (ks.map (getS st.sl)) ps as bd])[st.ob.length]? = some (.loop .ready none nt.nt ks (ks.map (getS st.sl)) ps as bd) := by simp
  obtain ⟨hent, hcall⟩ := h
  have hcr : ∀ (args : Array Value), (callFunc gf args).run P W1 = .ok (.enter gf args) W1 := by
    intro args
    unfold Ent at hent
    cases hfn : P.funcs[gf]? with
    | none => simp [hfn] at hent
    | some fn =>
      simp only [hfn, Option.map_some, Option.some.injEq, Bool.and_eq_true, bne_iff_ne, ne_eq] at hent
      obtain ⟨h1, h2⟩ := hent
      have h3 : fn.body ≠ none := by intro e; simp [e] at h2
      simp [callFunc, hfn, h1, h3]
  refine ⟨w.heap.size + 1, [{ target := .collected w.heap.size, args := #[] }], W1, { target := .fn (.func gf) cv, args := #[.func (.yield (w.heap.size + 1)) #[] #[]] }, W1, gf,
    #[.func (.yield (w.heap.size + 1)) #[] #[]] ++ cv, W1, ?_, ?_, fun _ _ => trivial, ?_, fun k => (by cases k), ?_⟩
  · rw [← hW1, hrec]; exact run_enterLoop_outer _ _ _ _ _
  · simp only [resolve, e1]
    simp [Deferred.ofValue]
    rfl
  · simp [invoke, hcr]
  · have s5 : SimE (ctx Φ (upd H st.ob.length (some (w.heap.size + 1))) (st.ob ++ [.loop .ready none nt.nt ks (ks.map (getS st.sl)) ps as bd]) W1 ⟨nt.nt, st.ob.length + 1, false⟩) Φ (upd H st.ob.length (some (w.heap.size + 1)))
        ⟨st.sl, st.ob ++ [.loop .ready none nt.nt ks (ks.map (getS st.sl)) ps as bd]⟩ { a with defers := [] } W1 :=
      ⟨HS.refl hst.sim, ⟨[], rfl, Marks.nil⟩, by rw [s.nt, hC]; rfl, by simp [ctx, mkE], s1.slots⟩
    refine callsIn_wide.2 ((hcall _ rfl _ _ _ W1 s5 _ ?_).mono fun e w' q => ?_)
    · rw [Array.toList_append]
      refine VReps.append (xs := [.yld st.ob.length]) ⟨_, [], rfl, trivial, ⟨rfl, by simp [mkE], fun _ => ⟨w.heap.size + 1, by simp [mkE], rfl⟩⟩, rfl⟩ ?_
      exact VReps.ext hst.ext _ _ e2
    · cases e with
      | panicked c => exact q.elim
      | outgrown => exact q.elim
      | returned v =>
        obtain ⟨Φ', H', ob', r, s3, _, stt, pd, n', ks', vs', ps', as', bd', ho', hnb, hq⟩ := q
        have hr' := s3.hs.sim.rep _ _ ho'
        obtain ⟨b', r', e', k1, k2, ⟨k3, k4, _⟩, _⟩ := hr'
        have hb' : b' = w.heap.size + 1 := by
          obtain ⟨T, g1, g2, g3⟩ := s3.hs.ext.l st.ob.length (by simp [ctx, mkE]) 0 (by simp [mkE, Lof, ho', Ob.len])
          obtain rfl : T = 0 := by omega
          have := (g3 rfl).1
          simp only [ctx, mkE, upd_same] at this
          rw [this] at e'
          exact (Option.some.inj e').symm
        subst hb'
        refine ⟨pd, w'.putObj (w.heap.size + 1) (.loop { r' with state := .exhausted }), by rw [← k4]; exact run_endLoop k1 (by rw [k3]; exact hnb), ?_⟩
        have hlt := lt_of_heap k1
        have s6 := s2.step (HStep.ofHS s3.hs)
        have hst2 : HStep Φ' H' ob' w' Φ' (upd H' st.ob.length none) (ob'.set st.ob.length .dead) (w'.putObj (w.heap.size + 1) (.loop { r' with state := .exhausted })) :=
          HStep.ofChange s3.hs.sim ho' rfl rfl rfl rfl (fun k _ hk => World.putObj_heap_other fun e => hk (e ▸ e')) (by simp [World.putObj]) (fun _ h => h) (fun _ h => .inl h) (fun _ h => by cases h)
            (fun T' hT' => by cases hT') (fun _ _ _ _ => trivial)
        have s4 := s6.step hst2
        cases pd with
        | none => exact ⟨_, _, _, s4, hq⟩
        | some c =>
          have := hq C hC _ _ _ _ s4
          rw [hr] at this
          exact wpIn_wide.2 this
end
end Go.VX
namespace Go.VX
open Go.RowKit
section
variable {P : Program} {T : Nat → Option TI} {nt : Sh} {ops rest : List Oper} {Q K : St → Prop} {sl : List (Nat × V)} {ob : List Ob} {o : Oper}
@[simp] theorem vrunY_nil : vrunY P T nt ops [] Q ⟨sl, ob⟩ = Q ⟨sl, ob⟩ := by simp only [vrunY]
@[simp] theorem vrunY_cons : vrunY P T nt ops (o :: rest) Q ⟨sl, ob⟩ = match o.guard with
    | none => vstepY P T nt o ⟨sl, ob⟩ (vrunY P T nt ops rest Q)
    | some g => match gslot ops g with
      | some s => match getS sl s.1 with
        | .bool b => if b = s.2 then vstepY P T nt o ⟨setS sl s.1 (.bool s.2), ob⟩ (vrunY P T nt ops rest Q)
              else okd nt o.dst ∧ vrunY P T nt ops rest Q ⟨putD (setS sl s.1 (.bool (!s.2))) o.dst .junk, ob⟩
        | _ => False
      | none => False := by rw [vrunY.eq_2]
@[simp] theorem vstepY_mk : vstepY P T nt o ⟨sl, ob⟩ K = match o.op with
  | .call ⟨.value f, args, _⟩ => match evV sl f with
    | .yld id => okd nt o.dst ∧ isLoop ob[id]? = true ∧ ycall P nt ⟨sl, ob⟩ id (args.toList.map (evV sl)) (vcont K sl o.dst)
    | _ => vstep P T nt o ⟨sl, ob⟩ K
  | _ => vstep P T nt o ⟨sl, ob⟩ K := rfl
attribute [simp] isLoop putL
end
section
variable {P : Program} {nt : Sh} {Q : X → St → Prop} {st : St}
/-- A call of yield that hands over all there is. -/
theorem ycall_id {id : Nat} {args : List V} {K : V → List Ob → Prop} {Q : V → List Ob → Prop} (hy : YC P id args st.ob Q) (hK : ∀ r ob', Q r ob' → K r ob') : ycall P nt st id args K := by
  intro C hC Φ H a w s vals b hb hvals
  obtain ⟨fn, tmps, as, bd, g1, g2⟩ := hy Φ H w vals b s.hs.sim hb hvals
  refine ⟨fn, tmps, as, bd, g1, g2.mono fun e w' q => ?_⟩
  cases e with
  | returned v =>
    obtain ⟨r, ob', Φ', H', q1, q2, q3⟩ := q
    exact ⟨Φ', H', ob', r, s.step (HStep.ofHS q1), q2, hK r ob' q3⟩
  | panicked c => exact q
  | outgrown => exact q
/-- Slots that are kept; the objects stay. -/
theorem Gh.pick {sl sl' : List (Nat × V)} {ob : List Ob} (ts : List Nat) (he : ts.map (fun t => (t, getS sl t)) = sl' := by simp) : Gh nt ⟨sl, ob⟩ ⟨sl', ob⟩ := by
  subst he
  refine Gh.less fun i => ?_
  induction ts with
  | nil => exact .inr rfl
  | cons t ts ih =>
    simp only [List.map_cons, getS]
    split
    · rename_i e; subst e; exact .inl rfl
    · exact ih
theorem vwp_range {g : Operand} {ps : Array Tmp} {as bd : Code} {gf : FuncId} {caps : List V} (ks : List Nat) (hg : evV st.sl g = .fn gf caps)
    (h : ∀ as' bd', as' = as → bd' = bd → vcall P ⟨nt.nt, st.ob.length + 1, false⟩ ⟨st.sl, st.ob ++ [.loop .ready none nt.nt ks (ks.map (getS st.sl)) ps as' bd']⟩ gf (.yld st.ob.length :: caps) (fun _ ob' => behind P nt Q st.sl st.ob.length ob')) (hr : nt.rd = false := by rfl) : vwp P nt (.rangeFunc g ps as bd) Q st :=
  vwp_rangeFunc ks hg (h _ _ rfl rfl) hr
/-- A round, by its body's walk; what the record holds of the code is kept short. -/
theorem YC_of_round {id : Nat} {args : List V} {ob : List Ob} {Q : V → List Ob → Prop} {n : Nat} {ks : List Nat} {vs : List V} {ps : Array Tmp} {ac bd ac' bd' : Code} (hac : ac' = ac) (hbd : bd' = bd) (ho : ob[id]? = some (.loop .ready none n ks vs ps ac' bd'))
    (hps : ps.toList.length = args.length) (hp : ∀ p ∈ ps.toList, p < n)
    (h : vwp P ⟨n, ob.length, true⟩ ac (thenQ (fun st1 => st1.ob[id]? = some (.loop .ready none n ks vs ps ac' bd') ∧
      vwp P ⟨n, ob.length, true⟩ bd (fun x st => ∃ st', Gh ⟨n, ob.length, true⟩ st st' ∧ rndQ id Q x st') ⟨st1.sl, st1.ob.set id (.loop .busy none n ks vs ps ac' bd')⟩) (fun _ _ => False)) ⟨putL (ks.zip vs) ps.toList args, ob⟩) : YC P id args ob Q := by
  subst hac hbd
  exact YC_of_body ho hps hp h
end
end Go.VX

/- A call before which an object of the caller's is frozen. -/
namespace Go.VX
open Go.RowKit
set_option linter.unusedVariables false
set_option linter.unusedSimpArgs false
/-- An object that is never written any more, from a call on. -/
theorem vcall_freeze {P : Program} {nt : Sh} {sl : List (Nat × V)} {ob : List Ob} {k : Nat} {args : List V} {K : V → List Ob → Prop} (id : Nat) {cs : List V} (ho : ob[id]? = some (.live cs)) (hn : ∀ c ∈ cs, c.noId = true)
    (h : vcall P nt ⟨sl, ob.set id (.frz cs)⟩ k args K) : vcall P nt ⟨sl, ob⟩ k args K := by
  refine ⟨h.1, fun C hC Φ H a w s vals hv => ?_⟩
  have hr := s.hs.sim.rep id _ ho
  let Φ' : Nat → Prop := fun b => Φ b ∨ H id = some b
  have hst : HStep Φ H ob w Φ' (upd H id (H id)) (ob.set id (.frz cs)) w := by
    refine HStep.ofChange s.hs.sim ho rfl rfl rfl rfl (fun _ _ _ => rfl) (Nat.le_refl _) (fun b hb => .inl hb) (fun b hb => ?_) (fun b hb => .inl hb) (fun T' hT' => ?_) (fun E' hE hw hΦ => ?_)
    · rcases hb with hb | hb
      · exact .inl hb
      · exact .inr ⟨hb, rfl⟩
    · exact ⟨cs.length, rfl, by simp [Ob.len] at hT'; omega, fun _ => ⟨rfl, fun _ _ => rfl⟩⟩
    · cases hH : H id with
      | none => rw [hH] at hr; exact hr
      | some b =>
        rw [hH] at hr
        obtain ⟨c, el, g1, g2, g3, g4⟩ := hr
        refine ⟨by rw [hΦ]; exact .inr hH, c.toList.take cs.length, ?_, VReps.ext hE _ _ (g4.toFrz hn)⟩
        rw [hw]
        have hrr := reads_row g1 0 cs.length
        rwa [List.drop_zero] at hrr
  exact h.2 C hC _ _ a w (s.step hst) vals (VReps.ext hst.ext _ _ hv)
end Go.VX

/- Nil rows in cells: known as rows that are empty. -/
namespace Go.VX
open Go.RowKit
set_option linter.unusedVariables false
set_option linter.unusedSimpArgs false
theorem VReps.setTo {q : Fl} {E : Env} : ∀ {xs : List V} {us : List Value} (j : Nat) {x y : V}, xs[j]? = some x → (∀ v, VRep E x v → VRep E y v) → okq q y → VReps q E xs us → VReps q E (xs.set j y) us
  | [], _, j, x, y, h, _, _, _ => by simp at h
  | c :: xs, us, 0, x, y, h, hxy, hy, ⟨u, r, h1, h2, h3, h4⟩ => by
    simp only [List.getElem?_cons_zero, Option.some.injEq] at h
    subst h
    exact ⟨u, r, h1, hy, hxy u h3, h4⟩
  | c :: xs, us, j + 1, x, y, h, hxy, hy, ⟨u, r, h1, h2, h3, h4⟩ => by
    simp only [List.getElem?_cons_succ] at h
    exact ⟨u, r, h1, h2, h3, VReps.setTo j h hxy hy h4⟩
/-- A cell of which something else is said. -/
theorem HStep.cellTo {Φ : Nat → Prop} {H : Nat → Option Nat} {ob : List Ob} {w : World} (hs : HSim Φ H ob w) (id j : Nat) {cs : List V} {x y : V} (ho : ob[id]? = some (.live cs)) (hj : cs[j]? = some x) (hy : y.one = true)
    (hxy : ∀ E', Ext (mkE Φ H ob w) E' → ∀ v, VRep E' x v → VRep E' y v) : HStep Φ H ob w Φ (upd H id (H id)) (ob.set id (.live (cs.set j y))) w := by
  have hr := hs.rep id _ ho
  refine HStep.ofChange hs ho rfl rfl rfl rfl (fun _ _ _ => rfl) (Nat.le_refl _) (fun b hb => hb) (fun b hb => .inl hb) (fun b hb => .inl hb) (fun T' hT' => ?_) (fun E' hE hw hΦ => ?_)
  · exact ⟨cs.length, rfl, by simp [Ob.len] at hT'; omega, fun _ => ⟨rfl, fun _ _ => rfl⟩⟩
  · cases hH : H id with
    | none =>
      rw [hH] at hr
      have e : cs = [] := hr
      subst e
      rfl
    | some b =>
      rw [hH] at hr
      obtain ⟨c, el, g1, g2, g3, g4⟩ := hr
      refine ⟨c, el, by rw [hw]; exact g1, by rw [hΦ]; exact g2, by simpa using g3, ?_⟩
      rw [List.length_set]
      exact (VReps.ext hE _ _ g4).setTo j hj (hxy E' hE) hy
theorem Gh.nilFs {nt : Sh} {sl : List (Nat × V)} {ob : List Ob} (id j : Nat) {cs : List V} (ho : ob[id]? = some (.live cs)) (hj : cs[j]? = some .nils) : Gh nt ⟨sl, ob⟩ ⟨sl, ob.set id (.live (cs.set j (.fs 0 [])))⟩ := by
  intro C hC Φ H a w s
  exact ⟨Φ, _, s.step (HStep.cellTo s.hs.sim id j ho hj rfl fun E' _ v hv => by
    simp only [VRep] at hv
    subst hv
    exact ⟨none, 0, [], rfl, Nat.le_refl _, by simp [VReps], fun h => by simp at h⟩)⟩
/-- A row in a cell that isn't there yet. -/
theorem Gh.virtCell {nt : Sh} {sl : List (Nat × V)} {ob : List Ob} (id j esz : Nat) {cs : List V} (ho : ob[id]? = some (.live cs)) (hj : cs[j]? = some .nils) : Gh nt ⟨sl, ob⟩ ⟨sl, (ob ++ [Ob.live []]).set id (Ob.live (cs.set j (.sl ob.length 0 esz 0 0)))⟩ := by
  intro C hC Φ H a w s
  have hid : id < ob.length := (List.getElem?_eq_some_iff.1 ho).1
  have h1 : HStep Φ H ob w Φ (upd H ob.length none) (ob ++ [.live []]) w :=
    HStep.ofPush s.hs.sim rfl rfl rfl (fun _ _ => rfl) (Nat.le_refl _) (fun b hb => by cases hb) (fun E' _ _ _ => rfl)
  have s' := s.step h1
  refine ⟨Φ, _, s'.step (HStep.cellTo s'.hs.sim id j (by rw [List.getElem?_append_left hid]; exact ho) hj rfl fun E' hE v hv => ?_)⟩
  simp only [VRep] at hv
  subst hv
  refine ⟨rfl, Nat.lt_of_lt_of_le (by simp [mkE]) hE.n, fun T' hT' => ⟨by simp, fun e => ?_⟩⟩
  subst e
  obtain ⟨T, k1, k2, k3⟩ := hE.l ob.length (by simp [mkE]) 0 hT'
  have e0 : T = 0 := by omega
  obtain ⟨k4, _⟩ := k3 e0
  rw [k4]
  simp [mkE, SlV]
end Go.VX

/- Rows in cells that are frozen: known by what they hold. -/
namespace Go.VX
open Go.RowKit
set_option linter.unusedVariables false
set_option linter.unusedSimpArgs false
/-- A cell of which something else is said, by what is known now. -/
theorem HStep.cellTo2 {Φ : Nat → Prop} {H : Nat → Option Nat} {ob : List Ob} {w : World} (hs : HSim Φ H ob w) (id j : Nat) {cs : List V} {x y : V} (ho : ob[id]? = some (.live cs)) (hj : cs[j]? = some x) (hy : y.one = true)
    (hxy : ∀ v, VRep (mkE Φ H ob w) x v → VRep (mkE Φ H ob w) y v) : HStep Φ H ob w Φ (upd H id (H id)) (ob.set id (.live (cs.set j y))) w := by
  have hr := hs.rep id _ ho
  refine HStep.ofChange hs ho rfl rfl rfl rfl (fun _ _ _ => rfl) (Nat.le_refl _) (fun b hb => hb) (fun b hb => .inl hb) (fun b hb => .inl hb) (fun T' hT' => ?_) (fun E' hE hw hΦ => ?_)
  · exact ⟨cs.length, rfl, by simp [Ob.len] at hT'; omega, fun _ => ⟨rfl, fun _ _ => rfl⟩⟩
  · cases hH : H id with
    | none =>
      rw [hH] at hr
      have e : cs = [] := hr
      subst e
      rfl
    | some b =>
      rw [hH] at hr
      obtain ⟨c, el, g1, g2, g3, g4⟩ := hr
      refine ⟨c, el, by rw [hw]; exact g1, by rw [hΦ]; exact g2, by simpa using g3, ?_⟩
      rw [List.length_set]
      exact VReps.ext hE _ _ (g4.setTo j hj hxy hy)
theorem sl_frz {Φ : Nat → Prop} {H : Nat → Option Nat} {ob : List Ob} {w : World} (hs : HSim Φ H ob w) {id esz off n : Nat} {fs : List V} (ho : ob[id]? = some (.frz fs)) (v : Value)
    (hv : VRep (mkE Φ H ob w) (.sl id fs.length esz off n) v) : VRep (mkE Φ H ob w) (.fs n ((fs.drop off).take (n * esz))) v := by
  obtain ⟨_, _, h3⟩ := hv
  have hL : (mkE Φ H ob w).L id = some fs.length := by simp [mkE, Lof, ho, Ob.len]
  have hsl := (h3 _ hL).2 rfl
  have hr := hs.rep id _ ho
  simp only [mkE] at hsl
  cases hH : H id with
  | none =>
    rw [hH] at hsl hr
    obtain ⟨_, _, rfl, rfl⟩ := hsl
    have e : fs = [] := hr
    subst e
    exact ⟨none, 0, [], rfl, Nat.le_refl _, by simp [VReps], fun h => by simp at h⟩
  | some b =>
    rw [hH] at hsl hr
    obtain ⟨cap, rfl, g1, g2, _⟩ := hsl
    obtain ⟨k1, us, k2, k3⟩ := hr
    refine ⟨_, cap, (us.drop off).take (n * esz), rfl, g1, (k3.drop off).take (n * esz), fun _ => ⟨b, off, rfl, k1, ?_⟩⟩
    have := reads_take (n * esz) (reads_drop off k2)
    rwa [Nat.zero_add] at this
/-- Before a call: a row in a cell, of an object that is frozen. -/
theorem vcall_cellFs {P : Program} {nt : Sh} {sl : List (Nat × V)} {ob : List Ob} {k : Nat} {args : List V} {K : V → List Ob → Prop} (id j i : Nat) {cs fs : List V} {tot esz off n : Nat} (ho : ob[j]? = some (.live cs)) (hi : cs[i]? = some (.sl id tot esz off n)) (hf : ob[id]? = some (.frz fs)) (ht : fs.length = tot)
    (h : vcall P nt ⟨sl, ob.set j (.live (cs.set i (.fs n ((fs.drop off).take (n * esz)))))⟩ k args K) : vcall P nt ⟨sl, ob⟩ k args K := by
  subst ht
  refine ⟨h.1, fun C hC Φ H a w s vals hv => ?_⟩
  have hst := HStep.cellTo2 s.hs.sim j i ho hi rfl (y := .fs n ((fs.drop off).take (n * esz))) fun v hv => sl_frz s.hs.sim hf v hv
  exact h.2 C hC _ _ a w (s.step hst) vals (VReps.ext hst.ext _ _ hv)
/-- .. at rest. -/
theorem Gh.cellFs {nt : Sh} {sl : List (Nat × V)} {ob : List Ob} (id j i : Nat) {cs fs : List V} {tot esz off n : Nat} (ho : ob[j]? = some (.live cs)) (hi : cs[i]? = some (.sl id tot esz off n)) (hf : ob[id]? = some (.frz fs)) (ht : fs.length = tot) :
    Gh nt ⟨sl, ob⟩ ⟨sl, ob.set j (.live (cs.set i (.fs n ((fs.drop off).take (n * esz)))))⟩ := by
  subst ht
  intro C hC Φ H a w s
  exact ⟨Φ, _, s.step (HStep.cellTo2 s.hs.sim j i ho hi rfl fun v hv => sl_frz s.hs.sim hf v hv)⟩
theorem virt_rep {Φ : Nat → Prop} {H : Nat → Option Nat} {ob : List Ob} {w : World} (esz : Nat) {v : Value} (hv : v = .slice none 0 0) : VRep (mkE Φ (upd H ob.length none) (ob ++ [.live []]) w) (.sl ob.length 0 esz 0 0) v := by
  subst hv
  refine ⟨rfl, by simp [mkE], fun T' hT' => ⟨by simp, fun _ => ?_⟩⟩
  simp only [mkE, upd_same, SlV]
  simp
/-- What comes is a row, none where there is none: a row that is empty. -/
theorem VC.virt {P : Program} {k : Nat} {args : List V} {ob : List Ob} {Q Q' : V → List Ob → Prop} (h : VC P k args ob Q) (hq : ∀ r ob', Q r ob' → Q' r ob' ∨ (r = .nils ∧ Q' (.sl ob'.length 0 1 0 0) (ob' ++ [.live []])) ∨ ∃ rest, r = .tup (.nils :: rest) ∧ Q' (.tup (.sl ob'.length 0 1 0 0 :: rest)) (ob' ++ [.live []])) : VC P k args ob Q' :=
  ⟨h.1, fun Φ H w vals hs hv => (h.2 Φ H w vals hs hv).mono fun e w' q => by
    cases e <;> simp only [post] at q ⊢
    obtain ⟨r, ob', Φ', H', h1, h2, h3⟩ := q
    have hst : HStep Φ' H' ob' w' Φ' (upd H' ob'.length none) (ob' ++ [.live []]) w' :=
      HStep.ofPush h1.sim rfl rfl rfl (fun _ _ => rfl) (Nat.le_refl _) (fun b hb => by cases hb) (fun E' _ _ _ => rfl)
    rcases hq _ _ h3 with q | ⟨rfl, q⟩ | ⟨rest, rfl, q⟩
    · exact ⟨r, ob', Φ', H', h1, h2, q⟩
    · exact ⟨_, _, _, _, h1.step hst, virt_rep 1 h2, q⟩
    · obtain ⟨a, g1, rfl, g2⟩ := h2
      obtain ⟨u, us, e1, _, g3, g4⟩ := g2
      refine ⟨.tup (.sl ob'.length 0 1 0 0 :: rest), ob' ++ [.live []], Φ', upd H' ob'.length none, h1.step hst, ⟨a, ?_, rfl, u, us, e1, trivial, virt_rep 1 g3, VReps.ext hst.ext _ _ g4⟩, q⟩
      simpa [V.notTup] using g1⟩
end Go.VX

/- A slice compared with nil of which it is not known: both ways. -/
namespace Go.VX
open Go.RowKit
set_option linter.unusedVariables false
set_option linter.unusedSimpArgs false
theorem vwp_eqnil {P : Program} {T : Nat → Option TI} (hT : TabOK P T) {nt : Sh} {id : Nat} {y : Operand} {t3 t4 ty e : Nat} {ty1 ty2 ty3 : TypeId} {ps1 ps2 : String} {af1 af2 : Array Edge} {sl : List (Nat × V)} {ob : List Ob} {Q : X → St → Prop} {n : Nat} {cs : List V} {sz by_ : Nat} {z : V}
    (hty : T ty = some ⟨.slice e, sz, by_, z⟩) (hy : evV sl y = .fs n cs) (h3 : t3 < nt.nt) (h4 : t4 < nt.nt)
    (h : ∀ b, Q .norm ⟨setS (setS sl t3 (.fs n cs)) t4 (.bool b), ob⟩) (hr : nt.rd = false := by rfl) :
    vwp P nt (.region id #[⟨some t3, .move y, ty1, ps1, af1, none⟩, ⟨some t4, .binOp .eql ty (.tmp t3) (.const (.slice none 0 0)) ty2, ty3, ps2, af2, none⟩] false) Q ⟨sl, ob⟩ := by
  intro C hC Φ H a w s
  rw [hr]
  refine wpIn_wide.1 (wpIn_region_lit (n := 0) (l := [⟨some t3, .move y, ty1, ps1, af1, none⟩, ⟨some t4, .binOp .eql ty (.tmp t3) (.const (.slice none 0 0)) ty2, ty3, ps2, af2, none⟩]) ?_)
  unfold wpListIn
  rw [if_pos (by simp [Region.wanted])]
  refine wp_wide (vstep_sound (T := T) (nt := nt) (K := fun st => st = ⟨setS sl t3 (.fs n cs), ob⟩) hT ?_ hC s (fun Φ' H' st' a' w' s' k => ?_) trivial)
  · simp only [vstep, vop]
    exact ⟨trivial, h3, by rw [hy]; rfl⟩
  · subst k
    unfold wpListIn
    rw [if_pos (by simp [Region.wanted])]
    have hv := s'.eval (.tmp t3)
    have hg : evV (setS sl t3 (.fs n cs)) (.tmp t3) = .fs n cs := by simp [evV, getS_setS]
    rw [hg] at hv
    obtain ⟨ad, cap, us, hv, _⟩ := hv
    obtain ⟨info, d, zz, e1, e2, e3, _⟩ := hT ty _ hty
    obtain rfl := kindOf_slice e3
    refine wp_wide ?_
    unfold Oper.wp
    have hrun : (execOp a'.eval ⟨some t4, .binOp .eql ty (.tmp t3) (.const (.slice none 0 0)) ty2, ty3, ps2, af2, none⟩).run P w' = .ok (.value (.bool ad.isNone)) w' := by
      have h1 := run_eql_slice_nil (P := P) (w := w') ty e ad n cap e2
      have h2 : a'.eval (.const (.slice none 0 0)) = .slice none 0 0 := rfl
      simp [execOp, hv, h2, eqG_slice, h1]
    rw [hrun]
    have s2 := s'.put (d := some t4) (x := .bool ad.isNone) (v := .bool ad.isNone) rfl (fun i e => by cases e; rw [hC]; exact h4)
    simp only [Oper.upon, wpListIn]
    exact ⟨_, _, _, s2, h _⟩
end Go.VX

/- Regions whose order is drawn, with calls of yield: VXStorm's proof, in the widest fence. -/
namespace Go.VX
open Go.RowKit
set_option linter.unusedVariables false
set_option linter.unusedSimpArgs false
set_option linter.unusedSectionVars false

def vstormBY (P : Program) (T : Nat → Option TI) (nt : Sh) (sl0 : List (Nat × V)) (o : Oper) (pl : Pl) (i : Nat) (m : List CE) (obs : List (List Ob)) (ob : List Ob) (G : List CE → List (List Ob) → List Ob → Prop) : Prop :=
  match chainOf m o with
  | some ch => okd' nt o ∧ match pl with
    | .mv => if eOf m ch = true then
        match o.op with
        | .call ⟨.value f, args, _⟩ => match evV (atC m ch sl0 m) f with
          | .fn k caps => ∃ x ob', (∀ sl, vcall P nt ⟨sl, ob⟩ k (args.toList.map (evV (atC m ch sl0 m)) ++ caps) (vis x ob')) ∧ shut2 G m obs (dOf nt i o) ch o x ob'
          | .yld id => isLoop ob[id]? = true ∧ ∃ x ob', (∀ sl, ycall P nt ⟨sl, ob⟩ id (args.toList.map (evV (atC m ch sl0 m))) (vis x ob')) ∧ shut2 G m obs (dOf nt i o) ch o x ob'
          | _ => False
        | op => match vop T (atC m ch sl0 m) ob op with
          | some (p, x, ob') => p ∧ G (m ++ [⟨dOf nt i o, xOf o x, ch⟩]) (obs ++ [ob']) ob'
          | none => False
      else G (m ++ [⟨dOf nt i o, .junk, ch⟩]) (obs ++ [ob]) ob
    | .off => eOf m ch = false ∧ G (m ++ [⟨dOf nt i o, xOf o (.bool false), ch⟩]) obs ob
    | .lit => match vlit T (atC m ch sl0 m) o.op with
      | some (p, x) => (eOf m ch = true → p) ∧ o.dst.isSome = true ∧ G (m ++ [⟨dOf nt i o, x, ch⟩]) obs ob
      | none => False
    | _ => match vop T (atC m ch sl0 m) ob o.op with
      | some (p, x, _) => quietR o.op x = true ∧ (eOf m ch = true → p) ∧ o.dst.isSome = true ∧ G (m ++ [⟨dOf nt i o, x, ch⟩]) obs ob
      | none => False
  | none => False
def vstormY (P : Program) (T : Nat → Option TI) (nt : Sh) (sl0 : List (Nat × V)) : List Oper → List Pl → Nat → (List CE → List (List Ob) → List Ob → Prop) → List CE → List (List Ob) → List Ob → Prop
  | o :: rest, pl :: plan, i, Q, m, obs, ob => vstormBY P T nt sl0 o pl i m obs ob (vstormY P T nt sl0 rest plan (i + 1) Q)
  | [], [], _, Q, m, obs, ob => Q m obs ob
  | _, _, _, _, _, _, _ => False

/-- What is known of one operation. -/
structure GoodSY (P : Program) (T : Nat → Option TI) (nt : Sh) (obs : List (List Ob)) (sl0 : List (Nat × V)) (m : List CE) (o : Oper) (pl : Pl) (r i : Nat) (e : CE) : Prop where
  d : e.d = dOf nt i o
  ch : chainOf m o = some e.c
  okd : okd' nt o
  run : match pl with
    | .mv => ∃ ob ob', obs[r]? = some ob ∧ obs[r + 1]? = some ob' ∧ (if eOf m e.c = true then ∃ x, e.x = xOf o x ∧
        ((∃ f args ts k caps, o.op = .call ⟨.value f, args, ts⟩ ∧ evV (atC m e.c sl0 m) f = .fn k caps ∧ ∀ sl, vcall P nt ⟨sl, ob⟩ k (args.toList.map (evV (atC m e.c sl0 m)) ++ caps) (vis x ob')) ∨
        (∃ f args ts id, o.op = .call ⟨.value f, args, ts⟩ ∧ evV (atC m e.c sl0 m) f = .yld id ∧ isLoop ob[id]? = true ∧ ∀ sl, ycall P nt ⟨sl, ob⟩ id (args.toList.map (evV (atC m e.c sl0 m))) (vis x ob')) ∨
        (∃ p, (∀ f args ts, o.op ≠ .call ⟨.value f, args, ts⟩) ∧ vop T (atC m e.c sl0 m) ob o.op = some (p, x, ob') ∧ p)) else e.x = .junk ∧ ob' = ob)
    | .off => eOf m e.c = false ∧ e.x = xOf o (.bool false)
    | .lit => o.dst.isSome = true ∧ ∃ p, vlit T (atC m e.c sl0 m) o.op = some (p, e.x) ∧ (eOf m e.c = true → p)
    | .pure => o.dst.isSome = true ∧ ∃ ob p ob', vop T (atC m e.c sl0 m) ob o.op = some (p, e.x, ob') ∧ quietR o.op e.x = true ∧ (eOf m e.c = true → p)
    | .win lo hi => o.dst.isSome = true ∧ quietR o.op e.x = true ∧ ∀ j ob, lo ≤ j → j ≤ hi → obs[j]? = some ob → ∃ p ob', vop T (atC m e.c sl0 m) ob o.op = some (p, e.x, ob') ∧ (eOf m e.c = true → p)

section
variable {P : Program} {T : Nat → Option TI} {nt : Sh} {sl0 : List (Nat × V)}

/-- The entries of a whole region. -/
theorem vstormY_good {F : List CE → List (List Ob) → List Ob → Prop} (plan0 : List Pl) : ∀ (l : List Oper) (plan : List Pl) (i : Nat) (m : List CE) (obs : List (List Ob)) (ob : List Ob), vstormY P T nt sl0 l plan i F m obs ob → plan0.drop i = plan → m.length = i → obs.length = rankOf plan0 i + 1 → obs[rankOf plan0 i]? = some ob →
    ∃ (es : List CE) (obs' : List (List Ob)) (ob' : List Ob), es.length = l.length ∧ plan.length = l.length ∧ obs'.length = rankOf plan0 (i + l.length) + 1 ∧ obs'[rankOf plan0 (i + l.length)]? = some ob' ∧ (∀ j, j < obs.length → obs'[j]? = obs[j]?) ∧ F (m ++ es) obs' ob' ∧
      (chkAll T sl0 obs' l plan m es → ∀ j o pl e, l[j]? = some o → plan[j]? = some pl → es[j]? = some e → GoodSY P T nt obs' sl0 (m ++ es.take j) o pl (rankOf plan0 (i + j)) (i + j) e)
  | [], [], i, m, obs, ob, h, hp, hm, hl, ho => ⟨[], obs, ob, rfl, rfl, by simpa using hl, by simpa using ho, fun j _ => rfl, by simpa [vstormY] using h, fun _ j o pl e h1 => by simp at h1⟩
  | [], _ :: _, i, m, obs, ob, h, _, _, _, _ => by simp [vstormY] at h
  | _ :: _, [], i, m, obs, ob, h, _, _, _, _ => by simp [vstormY] at h
  | o :: rest, pl :: plan, i, m, obs, ob, h, hp, hm, hl, ho => by
    simp only [vstormY, vstormBY] at h
    split at h
    case h_2 => exact h.elim
    rename_i ch hch
    obtain ⟨hokd, h⟩ := h
    have hpl : plan0[i]? = some pl := by
      have := congrArg (·[0]?) hp
      simpa using this
    have hdrop : plan0.drop (i + 1) = plan := by
      rw [← List.drop_drop, hp]; rfl
    have hrank : rankOf plan0 (i + 1) = rankOf plan0 i + (if isMv pl = true then 1 else 0) := by
      unfold rankOf
      rw [List.take_add_one, hpl]
      simp only [Option.toList_some, List.filter_append, List.length_append]
      cases pl <;> simp [isMv]
    have fin : ∀ (e : CE) (obs1 : List (List Ob)) (ob1 : List Ob), obs1.length = rankOf plan0 (i + 1) + 1 → obs1[rankOf plan0 (i + 1)]? = some ob1 → (∀ j, j < obs.length → obs1[j]? = obs[j]?) →
        (∀ obs' : List (List Ob), (∀ j, j < obs1.length → obs'[j]? = obs1[j]?) → (∀ lo hi, pl = .win lo hi → chkW T sl0 m e o lo hi obs') → GoodSY P T nt obs' sl0 m o pl (rankOf plan0 i) i e) →
        vstormY P T nt sl0 rest plan (i + 1) F (m ++ [e]) obs1 ob1 →
        ∃ (es : List CE) (obs' : List (List Ob)) (ob' : List Ob), es.length = (o :: rest).length ∧ (pl :: plan).length = (o :: rest).length ∧ obs'.length = rankOf plan0 (i + (o :: rest).length) + 1 ∧ obs'[rankOf plan0 (i + (o :: rest).length)]? = some ob' ∧ (∀ j, j < obs.length → obs'[j]? = obs[j]?) ∧ F (m ++ es) obs' ob' ∧
          (chkAll T sl0 obs' (o :: rest) (pl :: plan) m es → ∀ j o' pl' e', (o :: rest)[j]? = some o' → (pl :: plan)[j]? = some pl' → es[j]? = some e' → GoodSY P T nt obs' sl0 (m ++ es.take j) o' pl' (rankOf plan0 (i + j)) (i + j) e') := by
      intro e obs1 ob1 g1 g2 g3 g4 g5
      obtain ⟨es, obs', ob', k1, k2, k3, k4, k5, k6, k7⟩ := vstormY_good plan0 rest plan (i + 1) (m ++ [e]) obs1 ob1 g5 hdrop (by simp [hm]) g1 g2
      have hle : obs.length ≤ obs1.length := by rw [g1, hl, hrank]; omega
      refine ⟨e :: es, obs', ob', by simp [k1], by simp [k2], by rw [k3]; simp; congr 1; omega, by rw [← k4]; congr 2; simp; omega, fun j hj => (k5 j (by omega)).trans (g3 j hj), by simpa using k6, fun hc j o' pl' e' h1 h2 h3 => ?_⟩
      cases j with
      | zero =>
        simp only [List.getElem?_cons_zero, Option.some.injEq] at h1 h2 h3
        subst h1; subst h2; subst h3
        simp only [List.take_zero, List.append_nil, Nat.add_zero]
        refine g4 obs' k5 fun lo hi hpe => ?_
        subst hpe
        exact hc.1
      | succ j =>
        simp only [List.getElem?_cons_succ] at h1 h2 h3
        have hc' : chkAll T sl0 obs' rest plan (m ++ [e]) es := by
          cases pl with
          | win lo hi => exact hc.2
          | mv => exact hc
          | pure => exact hc
          | lit => exact hc
          | off => exact hc
        have := k7 hc' j o' pl' e' h1 h2 h3
        have e1 : i + 1 + j = i + (j + 1) := by omega
        rw [e1] at this
        simpa using this
    have hnr : isMv pl = false → obs.length = rankOf plan0 (i + 1) + 1 ∧ obs[rankOf plan0 (i + 1)]? = some ob := fun q => by rw [hrank, q]; exact ⟨by simpa using hl, by simpa using ho⟩
    have hmr : isMv pl = true → ∀ ob1 : List Ob, (obs ++ [ob1]).length = rankOf plan0 (i + 1) + 1 ∧ (obs ++ [ob1])[rankOf plan0 (i + 1)]? = some ob1 ∧ (∀ j, j < obs.length → (obs ++ [ob1])[j]? = obs[j]?) := fun q ob1 => by
      rw [hrank, q]
      refine ⟨by simp [hl], ?_, fun j hj => List.getElem?_append_left hj⟩
      rw [List.getElem?_append_right (by simp; omega)]
      simp [hl]
    have hat : ∀ obs' : List (List Ob), (∀ j, j < obs.length → obs'[j]? = obs[j]?) → obs'[rankOf plan0 i]? = some ob := fun obs' q => by rw [q _ (by omega), ho]
    split at h
    · -- a change
      split at h
      · rename_i hee
        have mk : ∀ (x : V) (ob1 : List Ob), ((∃ f args ts k caps, o.op = .call ⟨.value f, args, ts⟩ ∧ evV (atC m ch sl0 m) f = .fn k caps ∧ ∀ sl, vcall P nt ⟨sl, ob⟩ k (args.toList.map (evV (atC m ch sl0 m)) ++ caps) (vis x ob1)) ∨
            (∃ f args ts id, o.op = .call ⟨.value f, args, ts⟩ ∧ evV (atC m ch sl0 m) f = .yld id ∧ isLoop ob[id]? = true ∧ ∀ sl, ycall P nt ⟨sl, ob⟩ id (args.toList.map (evV (atC m ch sl0 m))) (vis x ob1)) ∨
            (∃ p, (∀ f args ts, o.op ≠ .call ⟨.value f, args, ts⟩) ∧ vop T (atC m ch sl0 m) ob o.op = some (p, x, ob1) ∧ p)) → vstormY P T nt sl0 rest plan (i + 1) F (m ++ [⟨dOf nt i o, xOf o x, ch⟩]) (obs ++ [ob1]) ob1 → _ := fun x ob1 hx hg =>
          fin ⟨dOf nt i o, xOf o x, ch⟩ (obs ++ [ob1]) ob1 (hmr rfl ob1).1 (hmr rfl ob1).2.1 (hmr rfl ob1).2.2 (fun obs' q _ => ⟨rfl, hch, hokd, ob, ob1, hat obs' fun j hj => (q j (by simp; omega)).trans ((hmr rfl ob1).2.2 j hj), by
            rw [q _ (by simp [hl]), show rankOf plan0 i + 1 = obs.length from hl.symm]; simp, by rw [if_pos hee]; exact ⟨x, rfl, hx⟩⟩) hg
        split at h
        · rename_i f args ts hop
          split at h
          · rename_i k caps hf
            obtain ⟨x, ob1, h1, h2⟩ := h
            exact mk x ob1 (.inl ⟨f, args, ts, k, caps, hop, hf, h1⟩) h2
          · rename_i yid hf
            obtain ⟨hlp, x, ob1, h1, h2⟩ := h
            exact mk x ob1 (.inr (.inl ⟨f, args, ts, yid, hop, hf, hlp, h1⟩)) h2
          · exact h.elim
        · rename_i hnc
          split at h
          case h_2 => exact h.elim
          rename_i p x ob1 hv
          exact mk x ob1 (.inr (.inr ⟨p, fun f args ts e => hnc f args ts e, hv, h.1⟩)) h.2
      · rename_i hee
        exact fin ⟨dOf nt i o, .junk, ch⟩ (obs ++ [ob]) ob (hmr rfl ob).1 (hmr rfl ob).2.1 (hmr rfl ob).2.2 (fun obs' q _ => ⟨rfl, hch, hokd, ob, ob, hat obs' fun j hj => (q j (by simp; omega)).trans ((hmr rfl ob).2.2 j hj), by
            rw [q _ (by simp [hl]), show rankOf plan0 i + 1 = obs.length from hl.symm]; simp, by rw [if_neg hee]; exact ⟨rfl, rfl⟩⟩) h
    · obtain ⟨h2, h4⟩ := h
      exact fin ⟨dOf nt i o, xOf o (.bool false), ch⟩ obs ob (hnr rfl).1 (hnr rfl).2 (fun _ _ => rfl) (fun obs' q hw => ⟨rfl, hch, hokd, h2, rfl⟩) h4
    · split at h
      case h_2 => exact h.elim
      rename_i p x hv
      obtain ⟨h2, h3, h4⟩ := h
      exact fin ⟨dOf nt i o, x, ch⟩ obs ob (hnr rfl).1 (hnr rfl).2 (fun _ _ => rfl) (fun obs' q hw => ⟨rfl, hch, hokd, h3, p, hv, h2⟩) h4
    · rename_i hnm hno hnl
      split at h
      case h_2 => exact h.elim
      rename_i p x ob1 hv
      obtain ⟨h1, h2, h3, h4⟩ := h
      have hf : isMv pl = false := by cases pl <;> first | rfl | exact absurd rfl hnm
      refine fin ⟨dOf nt i o, x, ch⟩ obs ob (hnr hf).1 (hnr hf).2 (fun _ _ => rfl) (fun obs' q hw => ⟨rfl, hch, hokd, ?_⟩) h4
      cases pl with
      | mv => simp [isMv] at hf
      | pure => exact ⟨h3, ob, p, ob1, hv, h1, h2⟩
      | lit => exact absurd rfl hnl
      | off => exact absurd rfl hno
      | win lo hi =>
        refine ⟨h3, h1, fun j obj hj1 hj2 hj3 => ?_⟩
        have := chkW_get (hw lo hi rfl) j obj hj1 hj2 hj3
        unfold chk1 at this
        split at this
        case h_2 => exact this.elim
        rename_i p' x' ob'' hv'
        obtain ⟨rfl, hp'⟩ := this
        exact ⟨p', ob'', hv', hp'⟩

variable {ops : List Oper} {plan : List Pl} {deps : List (List Nat)} {es : List CE} {obs : List (List Ob)}

theorem storm_anyY (hT : TabOK P T) (hok : stormOK nt ops plan deps = true) (hlen : es.length = ops.length) (hobs : obs.length = rankOf plan plan.length + 1)
    (hgood : ∀ (i : Nat) (o : Oper) (pl : Pl) (e : CE), ops[i]? = some o → plan[i]? = some pl → es[i]? = some e → GoodSY P T nt obs sl0 (es.take i) o pl (rankOf plan i) i e) {C : Ctx} (hC : C.nt = nt) {Qx : Exit → Act → World → Prop}
    (hq : ∀ Φ H a w ob, obs[rankOf plan plan.length]? = some ob → SimE C Φ H ⟨finC es es sl0, ob⟩ a w → Qx .normal a w) :
    ∀ (fuel : Nat) (todo : List Nat) (listed : Array Bool) (sl : List (Nat × V)) (a : Act) (w : World) Φ H (j : Nat) (ob : List Ob), todo.length ≤ fuel → (∀ i, i < ops.length → listed.getD i false = false → i ∈ todo) → CInv ops es sl0 listed sl a → CntInv plan listed j → obs[j]? = some ob → SimE C Φ H ⟨sl, ob⟩ a w →
      wpAnyIn Fence.wide 0 P .any ops.toArray Qx fuel listed a w := by
  obtain ⟨hdeps, hplen, hsok⟩ := storm_of hok
  have hpl : ∀ i o, ops[i]? = some o → ∃ pl, plan[i]? = some pl := fun i o h => ⟨_, List.getElem?_eq_getElem (by have := (List.getElem?_eq_some_iff.1 h).1; omega)⟩
  have hgd : ∀ (i : Nat) (o : Oper) (e : CE), ops[i]? = some o → es[i]? = some e → e.d = dOf nt i o ∧ chainOf (es.take i) o = some e.c ∧ okd' nt o := fun i o e h1 h2 => by
    obtain ⟨pl, h3⟩ := hpl i o h1
    have := hgood i o pl e h1 h3 h2
    exact ⟨this.d, this.ch, this.okd⟩
  have hat : ∀ {i k : Nat} {o o' : Oper} {t : Nat}, ops[i]? = some o → ops[k]? = some o' → o'.dst = some t →
      (k = i ∨ o.dst ≠ some t) ∧ (t ∈ usesG ops o → (k < i → Region.waitsFor .any ops.toArray i k = true) ∧ (i < k → Region.waitsFor .any ops.toArray k i = true)) := fun {i k o o' t} h1 h2 h3 => by
    obtain ⟨pl, h4⟩ := hpl i o h1
    exact (hsok i o pl h1 h4).slot k o' t h2 h3
  have hreal : ∀ (i : Nat) (o : Oper) (e : CE), ops[i]? = some o → es[i]? = some e → e.d < nt.nt → o.dst = some e.d := fun i o e h1 h2 h3 => by
    have := (hgd i o e h1 h2).1
    unfold dOf at this
    cases hd : o.dst with
    | some d => rw [hd] at this; rw [this]; rfl
    | none => rw [hd] at this; simp only [Option.getD_none] at this; omega
  have hdst : ∀ (j : Nat) (oj : Oper) (e : CE), ops[j]? = some oj → es[j]? = some e → ∀ b, e.x = .bool b → oj.dst = some e.d := fun j oj e h1 h2 b hb => by
    obtain ⟨pl, h3⟩ := hpl j oj h1
    obtain ⟨g1, g2, g3, g4⟩ := hgood j oj pl e h1 h3 h2
    have hs : oj.dst.isSome = true := by
      cases pl with
      | off =>
        have hx := g4.2
        rw [hb] at hx
        unfold xOf at hx
        split at hx
        · assumption
        · cases hx
      | pure => exact g4.1
      | lit => exact g4.1
      | win lo hi => exact g4.1
      | mv =>
        obtain ⟨_, _, _, _, q⟩ := g4
        split at q
        · obtain ⟨x, hx, _⟩ := q
          rw [hb] at hx
          unfold xOf at hx
          split at hx
          · assumption
          · cases hx
        · rw [q.1] at hb; cases hb
    obtain ⟨d, hd⟩ := Option.isSome_iff_exists.1 hs
    rw [g1, hd]; simp [dOf, hd]
  have hes : ∀ i o, ops[i]? = some o → ∃ e, es[i]? = some e := fun i o h => ⟨_, List.getElem?_eq_getElem (by have := (List.getElem?_eq_some_iff.1 h).1; omega)⟩
  have hop : ∀ i e, es[i]? = some e → ∃ o, ops[i]? = some o := fun i o h => ⟨_, List.getElem?_eq_getElem (by have := (List.getElem?_eq_some_iff.1 h).1; omega)⟩
  have huniq : ∀ (i k : Nat) (e e' : CE), es[i]? = some e → es[k]? = some e' → e'.d = e.d → k = i := by
    intro i k e e' h1 h2 hd
    obtain ⟨o, ho⟩ := hop i e h1
    obtain ⟨o', ho'⟩ := hop k e' h2
    have k1 := (hgd i o e ho h1).1
    have k2 := (hgd k o' e' ho' h2).1
    have k3 := (hgd k o' e' ho' h2).2.2
    have k4 := (hgd i o e ho h1).2.2
    cases hd1 : o.dst with
    | none =>
      cases hd2 : o'.dst with
      | none => simp only [dOf, hd1, hd2, Option.getD_none] at k1 k2; omega
      | some t2 =>
        simp only [dOf, hd1, hd2, Option.getD_none, Option.getD_some] at k1 k2
        have k5 : @LT.lt Nat _ t2 nt.nt := by simpa [okd', hd2] using k3
        omega
    | some t1 =>
      cases hd2 : o'.dst with
      | none =>
        simp only [dOf, hd1, hd2, Option.getD_none, Option.getD_some] at k1 k2
        have k5 : @LT.lt Nat _ t1 nt.nt := by simpa [okd', hd1] using k4
        omega
      | some t2 =>
        simp only [dOf, hd1, hd2, Option.getD_some] at k1 k2
        rcases (hat ho ho' hd2).1 with q | q
        · exact q
        · exact absurd (by rw [hd1, ← k1, ← hd, k2]) q
  have hchain := chain_lt hlen fun i o e h1 h2 => (hgd i o e h1 h2).2.1
  have hfinal : ∀ (listed : Array Bool) (sl : List (Nat × V)) (a : Act) (w : World) Φ H (j : Nat) (ob : List Ob), (∀ i, i < ops.length → listed.getD i false = true) → CInv ops es sl0 listed sl a → CntInv plan listed j → obs[j]? = some ob → SimE C Φ H ⟨sl, ob⟩ a w → Qx .normal a w := by
    intro listed sl a w Φ H j ob hall inv cnt hob s
    have hj := cnt.all (fun i hi => hall i (by omega)) (by have := (List.getElem?_eq_some_iff.1 hob).1; omega)
    subst hj
    refine hq Φ H a w ob hob (s.slotsOf rfl rfl fun t => ?_)
    have e : getS (finC es es sl0) t = getS sl t := by
      by_cases ht : ∃ e ∈ es, e.d = t
      · obtain ⟨e, he, rfl⟩ := ht
        obtain ⟨k, hk⟩ := List.getElem?_of_mem he
        rw [getS_finC_hit hk fun j e' h1 h2 => huniq k j e e' hk h1 h2, (inv.hit k e hk (hall k (by rw [← hlen]; exact (List.getElem?_eq_some_iff.1 hk).1))).1]
      · rw [getS_finC_miss fun e he hd => ht ⟨e, he, hd⟩, inv.miss t fun i e he hd => absurd ⟨e, List.mem_of_getElem? he, hd⟩ ht]
    rw [e]
    exact s.slots t
  intro fuel
  induction fuel with
  | zero =>
    intro todo listed sl a w Φ H cn ob hf htodo inv cnt hob s
    have hall : ∀ i, i < ops.length → listed.getD i false = true := fun i hi => by
      cases hl : listed.getD i false with
      | true => rfl
      | false =>
        have := htodo i hi hl
        have : todo = [] := List.length_eq_zero_iff.1 (by omega)
        simp_all
    refine ⟨?_, hfinal listed sl a w Φ H cn ob hall inv cnt hob s⟩
    cases hr : Region.ready .any ops.toArray listed with
    | nil => rfl
    | cons i r =>
      exfalso
      have hm : i ∈ Region.ready .any ops.toArray listed := by rw [hr]; simp
      obtain ⟨h1, o, h2, _⟩ := mem_ready.1 hm
      have hi : i < ops.length := by
        have := (Array.getElem?_eq_some_iff.1 h2).1; simpa using this
      have := hall i hi
      have hi' : i < listed.size := by rw [inv.size]; exact hi
      simp [hi'] at h1 this
      rw [h1] at this; cases this
  | succ fuel ih =>
    intro todo listed sl a w Φ H cn ob hf htodo inv cnt hob s
    refine ⟨fun hr => hfinal listed sl a w Φ H cn ob (all_listed' (fun i o h => let ⟨pl, h2⟩ := hpl i o h; (hsok i o pl h h2).edge) inv.size hr) inv cnt hob s, fun i hi => ?_⟩
    obtain ⟨hun, o, ho, hafter⟩ := mem_ready.1 hi
    have ho' : ops[i]? = some o := by simpa using ho
    have hilt : i < ops.length := (List.getElem?_eq_some_iff.1 ho').1
    have hisz : i < listed.size := by rw [inv.size]; exact hilt
    have hunF : listed.getD i false = false := by simp [hisz] at hun ⊢; exact hun
    obtain ⟨e, he⟩ := hes i o ho'
    obtain ⟨pl, hpli⟩ := hpl i o ho'
    obtain ⟨hd, hch, hlt, hrun⟩ := hgood i o pl e ho' hpli he
    have hS := hsok i o pl ho' hpli
    have hwaits : ∀ k, Region.waitsFor .any ops.toArray i k = true → listed.getD k false = true := by
      intro k hk
      obtain ⟨oj, h1, e', h2, h3, h4⟩ := Region.waitsFor_spec hk
      rw [ho] at h1; obtain rfl := Option.some.inj h1
      rw [← h4]; exact hafter e' h2 h3
    have hnot : ∀ k, Region.waitsFor .any ops.toArray k i = true → listed.getD k false = false := by
      intro k hk
      cases hl : listed.getD k false with
      | false => rfl
      | true =>
        obtain ⟨oj, h1, e', h2, h3, h4⟩ := Region.waitsFor_spec hk
        have := inv.closed k oj (by simpa using h1) hl e' h2 h3
        rw [h4, hunF] at this; cases this
    -- what its operands hold
    have hread : eOf es e.c = true → ∀ t ∈ usesG ops o, getS (atC (es.take i) e.c sl0 (es.take i)) t = getS sl t := by
      intro hee t ht
      by_cases hx : ∃ (k : Nat) (e' : CE), es[k]? = some e' ∧ e'.d = t
      · obtain ⟨k, e', hk, rfl⟩ := hx
        obtain ⟨ok, hok'⟩ := hop k e' hk
        have hw := (hat ho' hok' (hreal k ok e' hok' hk (hS.uses _ ht))).2 ht
        rcases Nat.lt_trichotomy k i with hki | hki | hki
        · have hl := hwaits k (hw.1 hki)
          rw [(inv.hit k e' hk hl).1]
          have hk' : (es.take i)[k]? = some e' := by rw [List.getElem?_take, if_pos hki]; exact hk
          rw [getS_atC_hit hk' fun j e2 h1 h2 => huniq k j e' e2 hk (by rw [List.getElem?_take] at h1; split at h1; exact h1; cases h1) h2]
          have hst : eOf (es.take i) e'.c = eOf es e'.c := eOf_take fun s hs => Nat.lt_trans (hchain k e' hk s hs) hki
          split
          · rename_i hsub
            have := eOf_sub (m := es) hsub hee
            rw [this]; rfl
          · rw [hst]
        · subst hki
          rw [hk] at he; obtain rfl := Option.some.inj he
          rw [inv.miss _ fun j e2 h1 h2 => by rw [huniq k j e' e2 hk h1 h2]; exact hunF]
          refine getS_atC_miss fun e2 he2 hd2 => ?_
          obtain ⟨j, hj⟩ := List.getElem?_of_mem he2
          rw [List.getElem?_take] at hj
          split at hj
          case isFalse => cases hj
          rename_i hjk
          have := huniq k j e' e2 hk hj hd2
          omega
        · have hl := hnot k (hw.2 hki)
          rw [inv.miss _ fun j e2 h1 h2 => by rw [huniq k j e' e2 hk h1 h2]; exact hl]
          refine getS_atC_miss fun e2 he2 hd2 => ?_
          obtain ⟨j, hj⟩ := List.getElem?_of_mem he2
          rw [List.getElem?_take] at hj
          split at hj
          case isFalse => cases hj
          rename_i hjk
          have := huniq k j e' e2 hk hj hd2
          omega
      · rw [inv.miss t fun k e' hk hd => absurd ⟨k, e', hk, hd⟩ hx]
        refine getS_atC_miss fun e2 he2 hd2 => ?_
        obtain ⟨j, hj⟩ := List.getElem?_of_mem he2
        rw [List.getElem?_take] at hj
        split at hj
        case isFalse => cases hj
        exact hx ⟨j, e2, hj, hd2⟩
    -- is it wanted?
    have hwant : Region.wanted o (yielded ops.toArray a.tmps) = eOf es e.c := by
      unfold chainOf at hch
      split at hch
      · rename_i hg
        simp only [Option.some.injEq] at hch
        rw [← hch]
        simp [Region.wanted, hg, eOf]
      · rename_i j w' hg
        split at hch
        case h_2 => cases hch
        rename_i dj b cj hj
        simp only [Option.some.injEq] at hch
        rw [List.getElem?_take] at hj
        split at hj
        case isFalse => cases hj
        rename_i hji
        obtain ⟨oj, hoj⟩ := hop j _ hj
        have hdj0 := (hgd j oj _ hoj hj)
        have hdj : oj.dst = some dj := hdst j oj _ hoj hj _ rfl
        have huse : dj ∈ usesG ops o := by
          unfold usesG
          rw [hg]
          simp [hoj, hdj]
        have hl := hwaits j (((hat ho' hoj hdj).2 huse).1 hji)
        obtain ⟨i1, i2⟩ := inv.hit j _ hj hl
        have hde : (ops.toArray[j]?).bind (·.dst) = some dj := by simpa [hoj] using hdj
        have hts : tstC es (j, w') = (b == w') := by simp [tstC, hj]
        have hE : eOf es e.c = ((b == w') && eOf es cj) := by
          rw [← hch]; simp only [eOf, List.all_cons, hts]
        rw [hE]
        cases hcj : eOf es cj with
        | false =>
          have hu := i2 hcj
          have : yielded ops.toArray a.tmps j = none := by
            unfold yielded
            rw [hde, Option.bind_some]
            have hu' : a.tmps.getD dj undef = undef := hu
            rw [Array.getD_eq_getD_getElem?] at hu'
            cases hq3 : a.tmps[dj]? with
            | none => rfl
            | some v =>
              rw [hq3] at hu'
              simp only [Option.getD_some] at hu'
              rw [hu']
              rfl
          simp [Region.wanted, hg, this]
        | true =>
          have i1' : getS sl dj = .bool b := by rw [i1]; simp only [hcj]; rfl
          have hb := s.boolAt i1'
          have : yielded ops.toArray a.tmps j = some b := by
            unfold yielded
            rw [hde, Option.bind_some, hb]
          simp [Region.wanted, hg, this]
    have hset : ∀ j d, i ≠ j → (listed.setIfInBounds i true).getD j d = listed.getD j d := fun j d h => getD_set_ne d h
    have hsett : (listed.setIfInBounds i true).getD i false = true := by simp [hisz]
    have htd : ∀ j, j < ops.length → (listed.setIfInBounds i true).getD j false = false → j ∈ todo.erase i := by
      intro j hj hl
      have hne : i ≠ j := fun q => by subst q; rw [hsett] at hl; cases hl
      rw [hset j false hne] at hl
      exact (List.mem_erase_of_ne (Ne.symm hne)).2 (htodo j hj hl)
    have hlen2 : (todo.erase i).length ≤ fuel := by
      rw [List.length_erase_of_mem (htodo i hilt hunF)]; omega
    -- how things stand behind it
    have hnext : ∀ (a' : Act) (x : V) (v : Value), a' = a.put o.dst v → x = gt (eOf es e.c) true e.x → (eOf es e.c = false → v = undef) → CInv ops es sl0 (listed.setIfInBounds i true) (setS sl e.d x) a' := by
      intro a' x v ha hx hv
      refine ⟨by simp [inv.size], fun j oj hoj hl e' he' hb => ?_, fun j e' hj hl => ?_, fun t ht => ?_⟩
      · by_cases hij : i = j
        · subst hij
          rw [ho'] at hoj; obtain rfl := Option.some.inj hoj
          exact getD_set_true (hafter e' he' hb)
        · rw [hset j false hij] at hl
          exact getD_set_true (inv.closed j oj hoj hl e' he' hb)
      · by_cases hij : i = j
        · subst hij
          rw [he] at hj; obtain rfl := Option.some.inj hj
          refine ⟨by rw [getS_setS, if_pos rfl, hx], fun hf => ?_⟩
          rw [ha, hv hf]
          exact put_undef s.nt hC hd hlt
        · rw [hset j false hij] at hl
          have hne : e.d ≠ e'.d := fun q => hij (huniq j i e' e hj he q)
          obtain ⟨k1, k2⟩ := inv.hit j e' hj hl
          refine ⟨by rw [getS_setS, if_neg hne, k1], fun hf => ?_⟩
          rw [ha, put_other (by rw [hd] at hne; unfold dOf at hne; intro q; rw [q] at hne; exact hne rfl)]
          exact k2 hf
      · have hne : e.d ≠ t := fun q => by
          have := ht i e he q
          rw [hsett] at this; cases this
        rw [getS_setS, if_neg hne]
        refine inv.miss t fun j e' hj hd' => ?_
        have hij : i ≠ j := fun q => by subst q; rw [he] at hj; obtain rfl := Option.some.inj hj; exact hne hd'
        have := ht j e' hj hd'
        rwa [hset j false hij] at this
    have hnm : isMv pl = false → CntInv plan (listed.setIfInBounds i true) cn := fun q => ⟨cnt.le, fun k hk => by
      have hne : i ≠ k := fun e => by subst e; rw [hpli] at hk; obtain rfl := Option.some.inj hk; simp [isMv] at q
      rw [hset k false hne]; exact cnt.iff k hk⟩
    have hym : pl = .mv → cn = rankOf plan i ∧ CntInv plan (listed.setIfInBounds i true) (cn + 1) := fun q => by
      subst q
      have hb := between_cnt hplen hdeps hS.kind.2 hilt cnt inv.closed hwaits hunF (Nat.le_of_lt (rank_lt hpli)) fun _ => rfl
      have hr : cn = rankOf plan i := by omega
      refine ⟨hr, ⟨by have := rank_lt hpli; omega, fun k hk => ?_⟩⟩
      by_cases hik : i = k
      · subst hik; rw [hsett]; simp; omega
      · rw [hset k false hik, cnt.iff k hk]
        have := rank_inj hpli hk
        constructor
        · intro h; omega
        · intro h
          rcases Nat.lt_or_ge (rankOf plan k) cn with h' | h'
          · exact h'
          · exact absurd (this (by omega)) hik
    have hlt' : ∀ dd, o.dst = some dd → dd < C.nt.nt := fun dd h => by rw [hC]; unfold okd' at hlt; rw [h] at hlt; exact hlt
    have hput : ∀ {Φ' H' w' ob'} (s' : SimE C Φ' H' ⟨sl, ob'⟩ a w') {x : V} {v : Value}, VRep (mkE Φ' H' ob' w') x v → SimE C Φ' H' ⟨setS sl e.d (xOf o x), ob'⟩ (a.put o.dst v) w' := by
      intro Φ' H' w' ob' s' x v hx
      cases hdd : o.dst with
      | some dd =>
        have := s'.put (d := some dd) hx fun i' e1 => hlt' i' (by rw [hdd]; exact e1)
        rw [hd]
        simpa [dOf, hdd, xOf, putD] using this
      | none =>
        rw [hd]
        simp only [dOf, hdd, Option.getD_none, xOf, Option.isSome_none, Bool.false_eq_true, if_false]
        exact s'.slotsOf rfl rfl fun t => by
          rw [getS_setS]
          split
          · trivial
          · exact s'.slots t
    have hjunk : ∀ {Φ' H' w' ob'} (s' : SimE C Φ' H' ⟨sl, ob'⟩ a w'), SimE C Φ' H' ⟨setS sl e.d .junk, ob'⟩ (a.put o.dst undef) w' := by
      intro Φ' H' w' ob' s'
      have := hput s' (x := .junk) (v := undef) trivial
      have e1 : xOf o .junk = .junk := by unfold xOf; split <;> rfl
      rwa [e1] at this
    unfold wpOpIn
    rw [ho]
    simp only
    rw [hwant]
    have hstab : eOf (es.take i) e.c = eOf es e.c := eOf_take fun s hs => hchain i e he s hs
    cases hee : eOf es e.c with
    | false =>
      simp only [Bool.false_eq_true, if_false]
      refine ⟨fun _ _ => trivial, ?_⟩
      have hx0 := hnext (a.put o.dst undef) .junk undef rfl (by rw [hee]; rfl) fun _ => rfl
      cases pl with
      | mv =>
        obtain ⟨obr, obr', q1, q2, q3⟩ := hrun
        obtain ⟨hr, hcnt'⟩ := hym rfl
        rw [hstab, hee] at q3
        simp only [Bool.false_eq_true, if_false] at q3
        obtain ⟨_, rfl⟩ := q3
        rw [← hr] at q1 q2
        obtain rfl : ob = obr' := Option.some.inj (hob.symm.trans q1)
        exact ih _ _ _ _ _ Φ H (cn + 1) ob hlen2 htd hx0 hcnt' q2 (hjunk s)
      | pure => exact ih _ _ _ _ _ Φ H cn ob hlen2 htd hx0 (hnm rfl) hob (hjunk s)
      | lit => exact ih _ _ _ _ _ Φ H cn ob hlen2 htd hx0 (hnm rfl) hob (hjunk s)
      | off => exact ih _ _ _ _ _ Φ H cn ob hlen2 htd hx0 (hnm rfl) hob (hjunk s)
      | win lo hi => exact ih _ _ _ _ _ Φ H cn ob hlen2 htd hx0 (hnm rfl) hob (hjunk s)
    | true =>
      simp only [if_true]
      have hreads := hread hee
      have quiet : ∀ (p : Prop) (ob' : List Ob), quietR o.op e.x = true → vop T (atC (es.take i) e.c sl0 (es.take i)) ob o.op = some (p, e.x, ob') → p → o.dst.isSome = true → isMv pl = false →
          o.wpIn Fence.wide 0 P a w (fun a' w' => wpAnyIn Fence.wide 0 P .any ops.toArray Qx fuel (listed.setIfInBounds i true) a' w') Qx := by
        intro p ob' hqr hv hp hds hmv
        have hve : vop T sl ob o.op = some (p, e.x, ob') := by
          rw [← hv]
          exact (vop_congr (quietR_or hqr) fun t ht => hreads t (by unfold usesG; exact List.mem_append.2 (.inl ht))).symm
        obtain ⟨_, v, hr, hx⟩ := vop_quiet (P := P) (sl := sl) (ob := ob) hT s hqr hve hp
        have hx1 : xOf o e.x = e.x := by unfold xOf; rw [if_pos hds]
        have := hput s hx
        rw [hx1] at this
        refine wp_wide ?_
        unfold Oper.wp
        rw [hr]
        exact ih _ _ _ _ _ Φ H cn ob hlen2 htd (hnext _ e.x v rfl (by rw [hee]; rfl) fun h => by rw [hee] at h; cases h) (hnm hmv) hob this
      cases pl with
      | pure =>
        obtain ⟨hds, ob2, p, ob', hv, hqr, hp⟩ := hrun
        exact quiet p ob hqr (vop_pure hS.kind hv) (hp (by rw [hstab]; exact hee)) hds rfl
      | off =>
        rw [hstab, hee] at hrun
        cases hrun.1
      | lit =>
        obtain ⟨hds, p, hv, hp⟩ := hrun
        have hve : vlit T sl o.op = some (p, e.x) := by
          rw [← hv]
          exact (vlit_congr fun t ht => hreads t (by unfold usesG; exact List.mem_append.2 (.inl ht))).symm
        obtain ⟨v, w', Φ', H', hr, hst, hx⟩ := vlit_sound (P := P) (sl := sl) (ob := ob) hT s (o := o) hve (hp (by rw [hstab]; exact hee))
        have hx1 : xOf o e.x = e.x := by unfold xOf; rw [if_pos hds]
        have s2 := hput (s.step hst) hx
        rw [hx1] at s2
        refine wp_wide ?_
        unfold Oper.wp
        rcases hr with hr | ⟨hr, rfl⟩
        · rw [hr]
          exact ih _ _ _ _ _ Φ' H' cn ob hlen2 htd (hnext _ e.x v rfl (by rw [hee]; rfl) fun h => by rw [hee] at h; cases h) (hnm rfl) hob s2
        · rw [hr]
          exact ih _ _ _ _ _ Φ' H' cn ob hlen2 htd (hnext _ e.x undef rfl (by rw [hee]; rfl) fun h => rfl) (hnm rfl) hob s2
      | win lo hi =>
        obtain ⟨hds, hqr, hw⟩ := hrun
        have hb := between_cnt hplen hdeps hS.kind.2 hilt cnt inv.closed hwaits hunF hS.kind.1 fun h => by rw [hpli] at h; cases h
        obtain ⟨p, ob', hv, hp⟩ := hw cn ob hb.1 hb.2 hob
        exact quiet p ob' hqr hv (hp (by rw [hstab]; exact hee)) hds rfl
      | mv =>
        obtain ⟨obr, ob1, q1, q2, q3⟩ := hrun
        obtain ⟨hr, hcnt'⟩ := hym rfl
        rw [hstab, hee] at q3
        simp only [if_true] at q3
        rw [← hr] at q1 q2
        obtain rfl : ob = obr := Option.some.inj (hob.symm.trans q1)
        obtain ⟨x, hex, hrun'⟩ := q3
        rcases hrun' with ⟨f, args, ts, k, caps, hop', hf, hcall⟩ | ⟨f, args, ts, yid, hop', hf, hlp, hcall⟩ | ⟨p, hnc, hv, hp⟩
        · have hr2 : ∀ t ∈ tm f ++ args.toList.flatMap tm, getS (atC (es.take i) e.c sl0 (es.take i)) t = getS sl t := fun t ht => hreads t (by unfold usesG; rw [hop']; exact List.mem_append.2 (.inl ht))
          have hfe : evV sl f = .fn k caps := by
            rw [← hf]; exact (evV_congr fun t ht => hr2 t (List.mem_append.2 (.inl ht))).symm
          have hae := evVs_congr (xs := args.toList) fun t ht => hr2 t (List.mem_append.2 (.inr ht))
          obtain ⟨hent, hc⟩ := hcall sl
          rw [hae] at hc
          obtain ⟨dst, op, ty, pos, aft, gd⟩ := o
          simp only at hop' hd
          subst hop'
          have hfv := s.eval f
          rw [hfe] at hfv
          obtain ⟨cv, _, e1, e2⟩ := hfv
          have hr := callee_run (P := P) (w := w) (args := args) (ts := ts) (ty := ty) (dst := dst) (pos := pos) (aft := aft) (gd := gd) hent e1
          refine wp_wide ?_
          unfold Oper.wp
          rw [hr]
          have hargs : VReps .any (mkE Φ H ob w) (args.toList.map (evV sl) ++ caps) (args.map a.eval ++ cv).toList := by
            simp only [Array.toList_append, Array.toList_map]
            exact (evals_rep' (sl := sl) (ob := ob) s args.toList).append e2
          refine (hc C hC Φ H a w s _ hargs).mono fun en w' q => ?_
          cases en with
          | returned v =>
            obtain ⟨Φ', H', ob', r, q1', q2', rfl, rfl⟩ := q
            exact ih _ _ _ _ _ Φ' H' (cn + 1) _ hlen2 htd (hnext _ e.x v rfl (by rw [hee]; rfl) fun h => by rw [hee] at h; cases h) hcnt' q2 (by rw [hex]; exact hput q1' q2')
          | panicked c => exact q.elim
          | outgrown => exact q.elim
        · have hr2 : ∀ t ∈ tm f ++ args.toList.flatMap tm, getS (atC (es.take i) e.c sl0 (es.take i)) t = getS sl t := fun t ht => hreads t (by unfold usesG; rw [hop']; exact List.mem_append.2 (.inl ht))
          have hfe : evV sl f = .yld yid := by
            rw [← hf]; exact (evV_congr fun t ht => hr2 t (List.mem_append.2 (.inl ht))).symm
          have hae := evVs_congr (xs := args.toList) fun t ht => hr2 t (List.mem_append.2 (.inr ht))
          have hc := hcall sl
          rw [hae] at hc
          obtain ⟨dst, op, ty, pos, aft, gd⟩ := o
          simp only at hop' hd
          subst hop'
          have hfv := s.eval f
          rw [hfe] at hfv
          obtain ⟨_, hid, hv⟩ := hfv
          have hL : Lof ob yid = some 0 := by
            unfold isLoop at hlp
            split at hlp
            · rename_i h1; simp [Lof, h1, Ob.len]
            · cases hlp
          obtain ⟨b, hb, hv⟩ := hv hL
          have hargs : VReps .any (mkE Φ H ob w) (args.toList.map (evV sl)) (args.map a.eval).toList := by
            rw [Array.toList_map]
            exact evals_rep' (sl := sl) (ob := ob) s args.toList
          obtain ⟨fn, tmps, ac, bd, g1, g2⟩ := hc C hC Φ H a w s _ b hb hargs
          refine ⟨fun f _ => trivial, ?_⟩
          have e0 : (Oper.semAt Fence.wide.round a.eval ⟨dst, .call ⟨.value f, args, ts⟩, ty, pos, aft, gd⟩) = execOp a.eval ⟨dst, .call ⟨.value f, args, ts⟩, ty, pos, aft, gd⟩ := rfl
          rw [e0, yield_run hv g1]
          refine ⟨fun k => (by cases k), g2.mono fun en w' q => ?_⟩
          cases en with
          | returned v =>
            obtain ⟨Φ', H', ob', r, q1', q2', rfl, rfl⟩ := q
            exact ih _ _ _ _ _ Φ' H' (cn + 1) _ hlen2 htd (hnext _ e.x v rfl (by rw [hee]; rfl) fun h => by rw [hee] at h; cases h) hcnt' q2 (by rw [hex]; exact hput q1' q2')
          | panicked c => exact q.elim
          | outgrown => exact q.elim
        · obtain ⟨v, w', Φ', H', hr, hst, hx⟩ := vop_sound (P := P) (sl := sl) (ob := ob) hT s (o := o) (by rw [← vop_mv_congr hS.kind.1 hnc fun t ht => hreads t (by unfold usesG; exact List.mem_append.2 (.inl ht))]; exact hv) hp
          have s2 := hput (s.step hst) hx
          rw [← hex] at s2
          refine wp_wide ?_
          unfold Oper.wp
          rcases hr with hr | ⟨hr, rfl⟩
          · rw [hr]
            exact ih _ _ _ _ _ Φ' H' (cn + 1) _ hlen2 htd (hnext _ e.x v rfl (by rw [hee]; rfl) fun h => by rw [hee] at h; cases h) hcnt' q2 s2
          · rw [hr]
            exact ih _ _ _ _ _ Φ' H' (cn + 1) _ hlen2 htd (hnext _ e.x undef rfl (by rw [hee]; rfl) fun h => rfl) hcnt' q2 s2

/-- A region whose order is drawn, with calls of yield. -/
theorem vwp_stormY (hT : TabOK P T) (hm : P.follows .mixedOrders = true) (plan : List Pl) (deps : List (List Nat)) {id : Nat} {ob : List Ob} {Q : X → St → Prop} (hok : stormOK nt ops plan deps = true)
    (h : vstormY P T nt sl0 ops plan 0 (fun m obs ob' => chkAll T sl0 obs ops plan [] m ∧ Q .norm ⟨finC m m sl0, ob'⟩) [] [ob] ob) (hr : nt.rd = false := by rfl) : vwp P nt (.region id ops.toArray true) Q ⟨sl0, ob⟩ := by
  intro C hC Φ H a w s
  obtain ⟨es, obs', ob', h1, h2, h3, h4, h5, ⟨h6, h6'⟩, h7⟩ := vstormY_good plan ops plan 0 [] [ob] ob h rfl rfl (by simp [rankOf]) (by simp [rankOf])
  simp only [List.nil_append, Nat.zero_add] at h3 h4 h6 h6' h7
  have hplen := (storm_of hok).2.1
  rw [← hplen] at h3 h4
  have h0 : obs'[0]? = some ob := by simpa using h5 0 (by simp)
  rw [hr]
  refine wpIn_wide.1 (wpIn_region_any (n := 0) hm ?_)
  refine storm_anyY hT hok h1 h3 (fun i o pl e q1 q2 q3 => by simpa using h7 h6 i o pl e q1 q2 q3) hC (fun Φ' H' a' w' ob2 hob s' => ⟨Φ', H', _, s', by rw [h4] at hob; obtain rfl := Option.some.inj hob; exact h6'⟩) _ (List.range ops.length) _ sl0 a _ Φ H 0 ob (by simp) (fun i hi _ => by simpa using hi) ⟨by simp, fun j oj _ hl => ?_, fun i e _ hl => ?_, fun t _ => rfl⟩ ⟨Nat.zero_le _, fun k hk => ?_⟩ h0 s.draw
  · rw [getD_replicate_false] at hl; cases hl
  · rw [getD_replicate_false] at hl; cases hl
  · rw [getD_replicate_false]; simp
end
section
variable {P : Program} {T : Nat → Option TI} {nt : Sh} {ob ob' : List Ob} {obs : List (List Ob)} {sl0 : List (Nat × V)} {rest : List Oper} {plan : List Pl} {pl : Pl} {o : Oper} {i : Nat} {Q G : List CE → List (List Ob) → List Ob → Prop} {m : List CE} {e : CE} {d : Nat} {ch : Ch}
@[simp] theorem vstormY_nil_nil : vstormY P T nt sl0 [] [] i Q [] obs ob = Q [] obs ob := rfl
@[simp] theorem vstormY_nil_cons : vstormY P T nt sl0 [] [] i Q (e :: m) obs ob = Q (e :: m) obs ob := rfl
@[simp] theorem vstormY_cons_nil : vstormY P T nt sl0 (o :: rest) (pl :: plan) i Q [] obs ob = vstormBY P T nt sl0 o pl i [] obs ob (vstormY P T nt sl0 rest plan (i + 1) Q) := rfl
@[simp] theorem vstormY_cons_cons : vstormY P T nt sl0 (o :: rest) (pl :: plan) i Q (e :: m) obs ob = vstormBY P T nt sl0 o pl i (e :: m) obs ob (vstormY P T nt sl0 rest plan (i + 1) Q) := rfl
end
attribute [simp] vstormBY
end Go.VX

/- Ranks: how many come ahead; what is rounded up. -/
namespace Go.VX.Rk
set_option linter.unusedVariables false
set_option linter.unusedSimpArgs false

/-- A nodup list of numbers below its length has them all. -/
theorem nodup_all {R : List Nat} {n : Nat} (h1 : R.Nodup) (h2 : ∀ k ∈ R, k < n) (h3 : R.length = n) : R.Perm (List.range n) := by
  have hp : R.Perm ((List.range n).filter fun k => decide (k ∈ R)) := by
    rw [List.perm_ext_iff_of_nodup h1 (List.nodup_range.filter _)]
    intro k
    simp only [List.mem_filter, List.mem_range, decide_eq_true_eq]
    exact ⟨fun q => ⟨h2 k q, q⟩, fun q => q.2⟩
  have hl := hp.length_eq
  rw [h3] at hl
  have : (List.range n).filter (fun k => decide (k ∈ R)) = List.range n := by
    refine List.filter_eq_self.2 fun k hk => ?_
    have h := List.length_filter_eq_length_iff (p := fun k => decide (k ∈ R)) (l := List.range n) |>.1 (by rw [← hl]; simp)
    exact h k hk
  rw [this] at hp
  exact hp

/-- j comes ahead of i: more is left; of alike the first one. -/
def ahead (L : List Int) (j i : Nat) : Bool := decide (L.getD i 0 < L.getD j 0) || (decide (L.getD j 0 = L.getD i 0) && decide (j < i))
theorem ahead_irrefl (L : List Int) (i : Nat) : ahead L i i = false := by simp [ahead]
theorem ahead_trans {L : List Int} {a b c : Nat} (h : ahead L a b = true) (k : ahead L b c = true) : ahead L a c = true := by
  simp [ahead] at *
  omega
theorem ahead_total {L : List Int} {a b : Nat} (h : a ≠ b) : ahead L a b = true ∨ ahead L b a = true := by
  simp [ahead] at *
  omega
theorem ahead_asymm {L : List Int} {a b : Nat} (h : ahead L a b = true) : ahead L b a = false := by
  simp [ahead] at *
  omega
def rank (L : List Int) (i : Nat) : Nat := (List.range L.length).countP fun j => ahead L j i
theorem rank_lt_of {L : List Int} {a b : Nat} (ha : a < L.length) (h : ahead L a b = true) : rank L a < rank L b := by
  unfold rank
  have h1 : ∀ j ∈ List.range L.length, ahead L j a = true → ahead L j b = true := fun j _ q => ahead_trans q h
  have h2 := List.countP_mono_left h1
  refine Nat.lt_of_le_of_ne h2 fun e => ?_
  have : (List.range L.length).countP (fun j => ahead L j a || decide (j = a)) ≤ (List.range L.length).countP fun j => ahead L j b := by
    refine List.countP_mono_left fun j hj q => ?_
    simp only [Bool.or_eq_true, decide_eq_true_eq] at q
    rcases q with q | rfl
    · exact ahead_trans q h
    · exact h
  have h3 : (List.range L.length).countP (fun j => ahead L j a || decide (j = a)) = (List.range L.length).countP (fun j => ahead L j a) + 1 := by
    have : ∀ l : List Nat, l.Nodup → a ∈ l → l.countP (fun j => ahead L j a || decide (j = a)) = l.countP (fun j => ahead L j a) + 1 := by
      intro l
      induction l with
      | nil => intro _ h; cases h
      | cons x l ih =>
        intro hn hm
        rw [List.nodup_cons] at hn
        simp only [List.countP_cons]
        by_cases e : x = a
        · subst e
          have hno : l.countP (fun j => ahead L j x || decide (j = x)) = l.countP (fun j => ahead L j x) := by
            refine List.countP_congr fun j hj => ?_
            have : j ≠ x := fun e => hn.1 (e ▸ hj)
            simp [this]
          simp [hno, ahead_irrefl]
        · have := ih hn.2 (by simpa [Ne.symm e] using hm)
          simp only [this, e, decide_false, Bool.or_false]
          omega
    exact this _ List.nodup_range (by simpa using ha)
  omega
theorem rank_lt_iff {L : List Int} {a b : Nat} (ha : a < L.length) (hb : b < L.length) : rank L a < rank L b ↔ ahead L a b = true := by
  refine ⟨fun h => ?_, rank_lt_of ha⟩
  by_cases e : a = b
  · subst e; omega
  rcases ahead_total (L := L) e with q | q
  · exact q
  · have := rank_lt_of hb q; omega
theorem rank_inj {L : List Int} {a b : Nat} (ha : a < L.length) (hb : b < L.length) (h : rank L a = rank L b) : a = b := by
  refine Decidable.byContradiction fun e => ?_
  rcases ahead_total (L := L) e with q | q
  · have := rank_lt_of ha q; omega
  · have := rank_lt_of hb q; omega
theorem rank_lt {L : List Int} {a : Nat} (ha : a < L.length) : rank L a < L.length := by
  unfold rank
  have h1 := List.countP_le_length (p := fun j => ahead L j a) (l := List.range L.length)
  rw [List.length_range] at h1
  refine Nat.lt_of_le_of_ne h1 fun e => ?_
  have := (List.countP_eq_length (l := List.range L.length)).1 (e.trans List.length_range.symm) a (by simpa using ha)
  rw [ahead_irrefl] at this
  cases this
theorem ranks_perm (L : List Int) : ((List.range L.length).map (rank L)).Perm (List.range L.length) := by
  refine nodup_all ?_ (fun k hk => ?_) (by simp)
  · rw [List.nodup_iff_pairwise_ne, List.pairwise_map]
    refine List.Pairwise.imp_of_mem ?_ List.nodup_range
    intro a b ha hb hne e
    exact hne (rank_inj (by simpa using ha) (by simpa using hb) e)
  · obtain ⟨i, hi, rfl⟩ := List.mem_map.1 hk
    exact rank_lt (by simpa using hi)
theorem rank_surj {L : List Int} {k : Nat} (h : k < L.length) : ∃ i, i < L.length ∧ rank L i = k := by
  have := (ranks_perm L).mem_iff.2 (List.mem_range.2 h)
  obtain ⟨i, hi, e⟩ := List.mem_map.1 this
  exact ⟨i, by simpa using hi, e⟩
/-- What is sorted lies by its rank. -/
theorem rank_sorted {L : List Int} {S : List Nat} (hp : S.Perm (List.range L.length)) (hs : S.Pairwise fun a b => ahead L a b = true) {j i : Nat} (h : S[j]? = some i) : rank L i = j := by
  unfold rank
  rw [← hp.countP_eq]
  obtain ⟨hj, e⟩ := List.getElem?_eq_some_iff.1 h
  have e1 : S = S.take j ++ i :: S.drop (j + 1) := by
    have := List.take_append_drop j S
    rw [List.drop_eq_getElem_cons hj, e] at this
    exact this.symm
  rw [e1] at hs
  rw [e1, List.countP_append, List.countP_cons]
  rw [List.pairwise_append] at hs
  obtain ⟨_, h2, h3⟩ := hs
  rw [List.pairwise_cons] at h2
  have c1 : (S.take j).countP (fun x => ahead L x i) = (S.take j).length := List.countP_eq_length.2 fun x hx => h3 x hx i (by simp)
  have c2 : (S.drop (j + 1)).countP (fun x => ahead L x i) = 0 := List.countP_eq_zero.2 fun x hx => by rw [ahead_asymm (h2.1 x hx)]; simp
  rw [c1, c2, ahead_irrefl, List.length_take_of_le (by omega)]
  simp

/-- What is rounded: the first ones in rank are one more. -/
def upped (D L : List Int) (lack : Int) : List Int := (List.range D.length).map fun i => D.getD i 0 + if (rank L i : Int) < lack then 1 else 0
theorem upped_length (D L : List Int) (lack : Int) : (upped D L lack).length = D.length := by simp [upped]
theorem upped_get {D L : List Int} {lack : Int} {i : Nat} (h : i < D.length) : (upped D L lack)[i]? = some (D.getD i 0 + if (rank L i : Int) < lack then 1 else 0) := by
  simp [upped, h]
theorem countP_lt_range (n : Nat) : ∀ m, m ≤ n → (List.range n).countP (fun k => decide (k < m)) = m := by
  induction n with
  | zero => intro m h; have : m = 0 := by omega
            subst this; rfl
  | succ n ih =>
    intro m h
    rw [List.range_succ, List.countP_append, List.countP_singleton]
    by_cases e : m ≤ n
    · rw [ih m e]; simp; omega
    · have : m = n + 1 := by omega
      subst this
      have : (List.range n).countP (fun k => decide (k < n + 1)) = (List.range n).countP (fun k => decide (k < n)) := List.countP_congr fun k hk => by
        have := List.mem_range.1 hk
        simp; omega
      rw [this, ih n (Nat.le_refl _)]
      simp
theorem sum_map_add {l : List Nat} (f g : Nat → Int) : (l.map fun i => f i + g i).sum = (l.map f).sum + (l.map g).sum := by
  induction l with
  | nil => rfl
  | cons x l ih => simp only [List.map_cons, List.sum_cons, ih]; omega
theorem sum_ite_countP {l : List Nat} (p : Nat → Prop) [DecidablePred p] : (l.map fun i => if p i then (1 : Int) else 0).sum = l.countP fun i => decide (p i) := by
  induction l with
  | nil => rfl
  | cons x l ih =>
    simp only [List.map_cons, List.sum_cons, ih, List.countP_cons]
    by_cases h : p x <;> simp [h]
    omega
theorem getD_map_range (D : List Int) : (List.range D.length).map (fun i => D.getD i 0) = D := by
  apply List.ext_getElem?
  intro i
  by_cases h : i < D.length
  · simp [h, List.getD_eq_getElem?_getD]
  · simp only [Nat.not_lt] at h
    rw [List.getElem?_eq_none (by simpa using h), List.getElem?_eq_none h]
/-- All of it. -/
theorem upped_sum {D L : List Int} {lack : Int} (hl : L.length = D.length) (h0 : 0 ≤ lack) (h1 : lack ≤ D.length) : (upped D L lack).sum = D.sum + lack := by
  unfold upped
  rw [sum_map_add, getD_map_range, sum_ite_countP]
  have hc : (List.range D.length).countP (fun i => decide ((rank L i : Int) < lack)) = ((List.range D.length).map (rank L)).countP fun k => decide (k < lack.toNat) := by
    rw [List.countP_map]
    refine List.countP_congr fun i _ => ?_
    simp
  rw [hc, ← hl, (ranks_perm L).countP_eq, countP_lt_range _ _ (by omega)]
  omega
end Go.VX.Rk

/- Go's sort of ints in place, as a contract over abstract values. -/
namespace Go.VX
open Go.RowKit
set_option linter.unusedVariables false
set_option linter.unusedSimpArgs false

theorem reps_ints {E : Env} {q : Fl} {k : IntKind} : ∀ {l : List Int} {us : List Value}, VReps q E (l.map (V.int k)) us → us = l.map (Value.int k)
  | [], us, h => by simpa [VReps] using h
  | x :: l, us, ⟨u, r, h1, _, h2, h3⟩ => by
    subst h1
    simp only [VRep] at h2
    rw [List.map_cons, h2, reps_ints h3]
theorem ints_reps {E : Env} {k : IntKind} : ∀ (l : List Int), VReps .cell E (l.map (V.int k)) (l.map (Value.int k))
  | [] => rfl
  | x :: l => ⟨_, _, rfl, rfl, rfl, ints_reps l⟩

theorem HS.ofStep {Φ H ob w nt Φ' H' ob' w'} (hs : HSim Φ H ob w) (h : HStep Φ H ob w Φ' H' ob' w') : HS (ctx Φ H ob w nt) Φ' H' ob' w' := (HS.refl hs).step h

/-- What a row's cells become is told of the whole row. -/
theorem VC_inplace {P : Program} {k : Nat} {L M : List Int} (hl : M.length = L.length) (he : Ent P k)
    (hs : ∀ (b cap : Nat) (w : World), (∀ j, j < L.length → w.cell? ⟨b, 0 + j, none⟩ = some (.int .i64 L[j]!) ∧ w.frozen? ⟨b, 0 + j, none⟩ = false) → b < w.heap.size →
      Calls P k #[.slice (some ⟨b, 0, none⟩) L.length cap] w fun e w' => e = .returned (.tuple #[]) ∧ ∃ n os, w' = Sort.grow (Sort.putRow (Value.int .i64) (Sort.ahead w n) b 0 M.toArray) os)
    (h0 : L = [] → ∀ p cap w, Calls P k #[.slice p 0 cap] w fun e w' => e = .returned (.tuple #[]) ∧ w' = w) :
    VC P k [.sl 0 L.length 1 0 L.length] [.live (L.map (.int .i64))] (fun r ob' => r = .tup [] ∧ ob' = [.live (M.map (.int .i64))]) := by
  refine ⟨he, fun Φ H w vals hsim hv => ?_⟩
  obtain ⟨u, r, h1, _, h2, h3⟩ := hv
  simp only [VReps] at h3
  subst h3
  have hvals : vals = #[u] := by apply Array.ext'; simpa using h1
  subst hvals
  obtain ⟨_, _, h2⟩ := h2
  obtain ⟨_, h2⟩ := h2 L.length (by simp [mkE, Lof, Ob.len])
  replace h2 := h2 rfl
  have hr := hsim.rep 0 _ (by rfl)
  simp only [mkE] at h2 hr
  cases hH : H 0 with
  | none =>
    rw [hH] at h2 hr
    obtain ⟨e1, _, _, rfl⟩ := h2
    have hL : L = [] := List.length_eq_zero_iff.1 e1
    have hM : M = [] := List.length_eq_zero_iff.1 (by omega)
    refine (h0 hL none 0 w).mono ?_
    rintro e w' ⟨rfl, rfl⟩
    exact ⟨.tup [], _, Φ, H, HS.refl hsim, ⟨#[], rfl, rfl, rfl⟩, rfl, by rw [hL, hM]⟩
  | some b =>
    rw [hH] at h2 hr
    obtain ⟨cap, rfl, e2, e3, e4⟩ := h2
    obtain ⟨c, el, g1, g2, g3, g4⟩ := hr
    simp only [List.length_map] at g3 g4
    have g1' : w.heap[b]? = some (.cells c el (0, 0)) := g1
    have hc := reps_ints g4
    have hcell : ∀ j, j < L.length → w.cell? ⟨b, 0 + j, none⟩ = some (.int .i64 L[j]!) ∧ w.frozen? ⟨b, 0 + j, none⟩ = false := by
      intro j hj
      have q : (c.toList.take L.length)[j]? = some (.int .i64 L[j]!) := by
        rw [hc, List.getElem?_map, List.getElem?_eq_getElem hj]
        simp [hj]
      rw [List.getElem?_take, if_pos hj] at q
      refine ⟨?_, by simp [World.frozen?, g1']⟩
      simp only [World.cell?, g1', Nat.zero_add]
      simpa using q
    refine (hs b cap w hcell (lt_of_heap g1')).mono ?_
    rintro e w' ⟨rfl, n, os, rfl⟩
    have hlt := lt_of_heap g1'
    obtain ⟨W, hW⟩ : ∃ W, Sort.putRow (Value.int .i64) (Sort.ahead w n) b 0 M.toArray = W := ⟨_, rfl⟩
    rw [hW]
    have hWs : W.heap.size = w.heap.size := by rw [← hW]; simp [Sort.putRow, Sort.mapBlock, Sort.ahead]
    have hWb : W.heap[b]? = some (.cells (Sort.putCells (Value.int .i64) 0 M.toArray c) el (0, 0)) := by
      rw [← hW]
      simp [Sort.putRow, Sort.mapBlock, Sort.ahead, Array.getElem?_modify, g1', Sort.onCells]
    have hWo : ∀ i, i ≠ b → W.heap[i]? = w.heap[i]? := fun i hi => by
      rw [← hW]
      simp [Sort.putRow, Sort.mapBlock, Sort.ahead, Array.getElem?_modify, Ne.symm hi]
    have hGs : (Sort.grow W os).heap.size = w.heap.size + os.size := by simp [hWs]
    have hG : ∀ i, i < w.heap.size → (Sort.grow W os).heap[i]? = W.heap[i]? := fun i hi => by
      simp only [Sort.grow]
      rw [Array.getElem?_append_left (by omega)]
    have hpc : (Sort.putCells (Value.int .i64) 0 M.toArray c).size = c.size := by simp [Sort.putCells]
    have hdr : w.drawn ≤ (Sort.grow W os).drawn := by rw [← hW]; exact Nat.le_add_right _ _
    have hst := HStep.ofChange (Φ' := Φ) (x := some b) (o' := .live (M.map (.int .i64))) (w' := Sort.grow W os) hsim (i := 0) (o := .live (L.map (.int .i64))) rfl rfl (by rw [← hW]; rfl) (by rw [← hW]; rfl) (by rw [← hW]; rfl)
      (fun i hi hn => (hG i hi).trans (hWo i fun e => hn (e ▸ hH))) (by omega) (fun _ h => h) (fun _ h => .inl h) (fun b' hb' => .inl (hH.trans hb'))
      (fun T' hT' => ⟨T', by simpa [Ob.len, hl] using hT', Nat.le_refl _, fun _ => ⟨hH.symm, fun b' hb' => by
        obtain rfl : b = b' := Option.some.inj (hH.symm.trans hb')
        simp [bsize, hG _ hlt, hWb, g1', hpc]⟩⟩)
      (fun E' hE hw hΦ => by
        refine ⟨Sort.putCells (Value.int .i64) 0 M.toArray c, el, by rw [hw, hG _ hlt]; exact hWb, by rw [hΦ]; exact g2, by simp [hpc, hl, g3], ?_⟩
        have : (Sort.putCells (Value.int .i64) 0 M.toArray c).toList.take (M.map (V.int .i64)).length = M.map (Value.int .i64) := by
          apply List.ext_getElem?
          intro j
          simp only [List.length_map, List.getElem?_take, List.getElem?_map]
          by_cases hj : j < M.length
          · rw [if_pos hj]
            have hjc : j < c.size := by omega
            simp [Sort.putCells, hjc, hj]
          · rw [if_neg hj, List.getElem?_eq_none (by omega)]
            rfl
        rw [this]
        exact ints_reps M)
    exact ⟨.tup [], _, Φ, _, HS.ofStep hsim hst, ⟨#[], rfl, rfl, rfl⟩, rfl, rfl⟩
end Go.VX

/- An ordered region that asks of a slice of which it isn't known whether it is nil: both ways. -/
namespace Go.VX
open Go.RowKit
set_option linter.unusedVariables false

def isSl : V → Bool
  | .fs _ _ | .nils => true
  | _ => false
def askQ (T : Nat → Option TI) (sl : List (Nat × V)) : Op → Bool
  | .binOp .eql t x y _ => (match T t with
    | some ⟨.slice _, _, _, _⟩ => true
    | _ => false) && (isSl (evV sl x) && (match evV sl y with
    | .nils => true
    | _ => false))
  | _ => false
def vrunA (P : Program) (T : Nat → Option TI) (nt : Sh) : List Oper → (St → Prop) → St → Prop
  | [], Q, st => Q st
  | o :: rest, Q, st => o.guard = none ∧ (if askQ T st.sl o.op = true then okd nt o.dst ∧ ∀ b, vrunA P T nt rest Q ⟨putD st.sl o.dst (.bool b), st.ob⟩ else vstep P T nt o st (vrunA P T nt rest Q))
section
variable {P : Program} {T : Nat → Option TI} {nt : Sh}
theorem isSl_sound {E : Env} {x : V} {v : Value} (h : isSl x = true) (hx : VRep E x v) : ∃ a l c, v = .slice a l c := by
  cases x <;> simp [isSl] at h <;> simp only [VRep] at hx
  · exact ⟨_, _, _, hx⟩
  · obtain ⟨ad, cap, us, h1, _⟩ := hx; exact ⟨_, _, _, h1⟩
theorem vrunA_sound (hT : TabOK P T) {ops : Array Oper} : ∀ (l : List Oper) (Q : St → Prop) (st : St), vrunA P T nt l Q st → ∀ (C : Ctx), C.nt = nt → ∀ Φ H a w, SimE C Φ H st a w → ∀ Qx : Exit → Act → World → Prop,
    (∀ Φ' H' st' a' w', SimE C Φ' H' st' a' w' → Q st' → Qx .normal a' w') → wpList P ops Qx l a w
  | [], Q, st, h, C, hC, Φ, H, a, w, s, Qx, hq => by
    simp only [vrunA] at h
    exact hq _ _ _ _ _ s h
  | o :: rest, Q, st, h, C, hC, Φ, H, a, w, s, Qx, hq => by
    simp only [vrunA] at h
    obtain ⟨hg, h⟩ := h
    have go : ∀ st' a' w' Φ' H', SimE C Φ' H' st' a' w' → vrunA P T nt rest Q st' → wpList P ops Qx rest a' w' := fun st' a' w' Φ' H' s' k =>
      vrunA_sound hT rest Q st' k C hC Φ' H' a' w' s' Qx hq
    unfold wpList
    rw [if_pos (by simp [Region.wanted, hg])]
    refine .inl ?_
    split at h
    · rename_i hask
      obtain ⟨hd, h⟩ := h
      obtain ⟨dst, op, ty, pos, aft, gd⟩ := o
      dsimp only at h hd hask
      unfold askQ at hask
      split at hask
      case h_2 => cases hask
      rename_i t x y t2
      simp only [Bool.and_eq_true] at hask
      obtain ⟨k1, k2, k3⟩ := hask
      split at k1
      case h_2 => cases k1
      rename_i e z1 z2 z3 ht
      obtain ⟨info, d, zz, e1, e2, e3, _⟩ := hT t _ ht
      obtain rfl := kindOf_slice e3
      have hx := s.eval x
      have hy := s.eval y
      split at k3
      case h_2 => cases k3
      rename_i hyn
      rw [hyn] at hy
      obtain ⟨ad, l, c, hxs⟩ := isSl_sound k2 hx
      have hys : a.eval y = .slice none 0 0 := hy
      have hr : (execOp a.eval ⟨dst, .binOp .eql t x y t2, ty, pos, aft, gd⟩).run P w = .ok (.value (.bool ad.isNone)) w := by
        have h1 : (do eqGuard .eql t x y (a.eval x) (a.eval y); binOp .eql t (a.eval x) (a.eval y) : Sem Value).run P w = .ok (.bool ad.isNone) w := by
          rw [hxs, hys]
          simp [eqG_slice, run_eql_slice_nil (w := w) t _ ad l c e2]
        simp only [execOp, Sem.run_bind] at h1 ⊢
        simp [h1]
      unfold Oper.wp
      rw [hr]
      exact go _ _ _ _ _ (s.put (d := dst) (x := .bool ad.isNone) rfl (fun i e => by subst e; rw [hC]; exact hd)) (h _)
    · exact vstep_sound hT h hC s (fun Φ' H' st' a' w' s' k => go _ _ _ _ _ s' k) trivial
theorem vwp_regionA (hT : TabOK P T) {id : Nat} {ops : List Oper} {Q : X → St → Prop} {st : St} (h : vrunA P T nt ops (Q .norm) st) (hd : nt.rd = true → ops.all nd = true := by first | (intro h; cases h; done) | (intro _; simp [nd])) : vwp P nt (.region id ops.toArray false) Q st := by
  intro C hC Φ H a w s
  exact gw_region_lit (fun ⟨_, _, h⟩ => h) hd (vrunA_sound hT _ _ st h C hC Φ H a w s _ (fun Φ' H' st' a' w' s' q => ⟨Φ', H', st', s', q⟩))
end
section
variable {P : Program} {T : Nat → Option TI} {nt : Sh} {rest : List Oper} {Q K : St → Prop} {sl : List (Nat × V)} {ob : List Ob} {o : Oper}
@[simp] theorem vrunA_nil : vrunA P T nt [] Q ⟨sl, ob⟩ = Q ⟨sl, ob⟩ := by simp only [vrunA]
@[simp] theorem vrunA_cons : vrunA P T nt (o :: rest) Q ⟨sl, ob⟩ = (o.guard = none ∧ (if askQ T sl o.op = true then okd nt o.dst ∧ ∀ b, vrunA P T nt rest Q ⟨putD sl o.dst (.bool b), ob⟩ else vstep P T nt o ⟨sl, ob⟩ (vrunA P T nt rest Q))) := by rw [vrunA]
end
attribute [simp] askQ isSl
end Go.VX

/- Ordered regions whose guards hang on what itself may be skipped. -/
namespace Go.VX
open Go.RowKit
set_option linter.unusedVariables false
set_option linter.unusedSimpArgs false
set_option linter.unusedSectionVars false
section
variable {P : Program} {T : Nat → Option TI} {nt : Sh}
/-- Operation by operation; what is skipped leaves an empty tuple, which is no guard's word. -/
def vrunG (P : Program) (T : Nat → Option TI) (nt : Sh) (ops : List Oper) : List Oper → (St → Prop) → St → Prop
  | [], Q, st => Q st
  | o :: rest, Q, st => match o.guard with
    | none => vstep P T nt o st (vrunG P T nt ops rest Q)
    | some g => match gslot ops g with
      | some s => match getS st.sl s.1 with
        | .bool b => if b = s.2 then vstep P T nt o st (vrunG P T nt ops rest Q) else okd nt o.dst ∧ vrunG P T nt ops rest Q ⟨putD st.sl o.dst (.tup []), st.ob⟩
        | .tup [] => okd nt o.dst ∧ vrunG P T nt ops rest Q ⟨putD st.sl o.dst (.tup []), st.ob⟩
        | _ => False
      | none => False
theorem vrunG_sound (hT : TabOK P T) {ops : List Oper} : ∀ (l : List Oper) (Q : St → Prop) (st : St), vrunG P T nt ops l Q st → ∀ (C : Ctx), C.nt = nt → ∀ Φ H a w, SimE C Φ H st a w → ∀ Qx : Exit → Act → World → Prop,
    (∀ Φ' H' st' a' w', SimE C Φ' H' st' a' w' → Q st' → Qx .normal a' w') → wpList P ops.toArray Qx l a w
  | [], Q, st, h, C, hC, Φ, H, a, w, s, Qx, hq => by
    simp only [vrunG] at h
    exact hq _ _ _ _ _ s h
  | o :: rest, Q, st, h, C, hC, Φ, H, a, w, s, Qx, hq => by
    simp only [vrunG] at h
    have go : ∀ st' a' w' Φ' H', SimE C Φ' H' st' a' w' → vrunG P T nt ops rest Q st' → wpList P ops.toArray Qx rest a' w' := fun st' a' w' Φ' H' s' k =>
      vrunG_sound hT rest Q st' k C hC Φ' H' a' w' s' Qx hq
    have skip : ∀ (hd : okd nt o.dst), vrunG P T nt ops rest Q ⟨putD st.sl o.dst (.tup []), st.ob⟩ → wpList P ops.toArray Qx rest (a.put o.dst undef) w := fun hd k =>
      go _ _ _ _ _ (s.put (x := .tup []) ⟨#[], rfl, rfl, by simp [VReps]⟩ (fun i e => by rw [e] at hd; rw [hC]; exact hd)) k
    split at h
    · rename_i hg
      unfold wpList
      rw [if_pos (by simp [Region.wanted, hg])]
      exact .inl (vstep_sound hT h hC s (fun Φ' H' st' a' w' s' k => go _ _ _ _ _ s' k) trivial)
    · rename_i g hg
      split at h
      case h_2 => exact h.elim
      rename_i sg hsg
      split at h
      · rename_i b hb
        unfold wpList
        by_cases hbw : b = sg.2
        · rw [if_pos hbw] at h
          rw [if_pos (wanted_of hg hsg (by rw [s.boolAt hb, hbw]))]
          exact .inl (vstep_sound hT h hC s (fun Φ' H' st' a' w' s' k => go _ _ _ _ _ s' k) trivial)
        · have hnw := not_wanted (ops := ops) (a := a) hg hsg (by rw [s.boolAt hb]; intro e; exact hbw (by simpa using e))
          rw [hnw]
          rw [if_neg hbw] at h
          simp only [Bool.false_eq_true, if_false]
          exact skip h.1 h.2
      · rename_i hb
        unfold wpList
        have hv := s.slots sg.1
        rw [hb] at hv
        obtain ⟨ar, _, e, _⟩ := hv
        have hnw := not_wanted (ops := ops) (a := a) hg hsg (by
          intro e2
          rw [Array.getD_eq_getD_getElem?, e2] at e
          cases e)
        rw [hnw]
        simp only [Bool.false_eq_true, if_false]
        exact skip h.1 h.2
      · exact h.elim
theorem vwp_regionG (hT : TabOK P T) {id : Nat} {ops : List Oper} {Q : X → St → Prop} {st : St} (h : vrunG P T nt ops ops (Q .norm) st) (hd : nt.rd = true → ops.all nd = true := by first | (intro h; cases h; done) | (intro _; simp [nd])) : vwp P nt (.region id ops.toArray false) Q st := by
  intro C hC Φ H a w s
  exact gw_region_lit (fun ⟨_, _, h⟩ => h) hd (vrunG_sound hT ops _ st h C hC Φ H a w s _ (fun Φ' H' st' a' w' s' q => ⟨Φ', H', st', s', q⟩))
variable {ops rest : List Oper} {Q : St → Prop} {sl : List (Nat × V)} {ob : List Ob} {o : Oper}
@[simp] theorem vrunG_nil : vrunG P T nt ops [] Q ⟨sl, ob⟩ = Q ⟨sl, ob⟩ := rfl
@[simp] theorem vrunG_cons : vrunG P T nt ops (o :: rest) Q ⟨sl, ob⟩ = match o.guard with
    | none => vstep P T nt o ⟨sl, ob⟩ (vrunG P T nt ops rest Q)
    | some g => match gslot ops g with
      | some s => match getS sl s.1 with
        | .bool b => if b = s.2 then vstep P T nt o ⟨sl, ob⟩ (vrunG P T nt ops rest Q) else okd nt o.dst ∧ vrunG P T nt ops rest Q ⟨putD sl o.dst (.tup []), ob⟩
        | .tup [] => okd nt o.dst ∧ vrunG P T nt ops rest Q ⟨putD sl o.dst (.tup []), ob⟩
        | _ => False
      | none => False := rfl
end
end Go.VX

/- Drawn regions in which two operations that make objects may come in either order: each order for itself. -/
namespace Go.VX
open Go.RowKit
set_option linter.unusedVariables false

theorem getD_set_ne (A : Array Bool) {i j : Nat} (h : j ≠ i) (v d : Bool) : (A.setIfInBounds i v).getD j d = A.getD j d := by
  simp only [Array.getD_eq_getD_getElem?, Array.getElem?_setIfInBounds_ne (Ne.symm h)]
/-- The orders that may be drawn. -/
def Ordr (ops : Array Oper) : Nat → Array Bool → List Nat → Prop
  | 0, _, l => l = []
  | fuel + 1, listed, l => (l = [] ∧ Region.ready .any ops listed = []) ∨ ∃ i r, l = i :: r ∧ i ∈ Region.ready .any ops listed ∧ Ordr ops fuel (listed.setIfInBounds i true) r

theorem Ordr.of_go (ops : Array Oper) : ∀ (fuel t : Nat) (listed : Array Bool), Ordr ops fuel listed (Region.linearise.go .any ops fuel t listed [])
  | 0, t, listed => by simp [Region.linearise.go, Ordr]
  | fuel + 1, t, listed => by
    simp only [Region.linearise.go]
    change Ordr ops (fuel + 1) listed (match (Region.ready .any ops listed)[t % (Region.ready .any ops listed).length]? with
      | some i => Region.linearise.go .any ops fuel (t / (Region.ready .any ops listed).length) (listed.setIfInBounds i true) [i]
      | none => [].reverse)
    cases hi : (Region.ready .any ops listed)[t % (Region.ready .any ops listed).length]? with
    | none =>
      have hnil : Region.ready .any ops listed = [] := by
        cases hr : Region.ready .any ops listed with
        | nil => rfl
        | cons x xs =>
          rw [hr] at hi
          have hlt : t % (x :: xs).length < (x :: xs).length := Nat.mod_lt _ (by simp)
          simp at hi
          simp at hlt
          omega
      exact .inl ⟨rfl, hnil⟩
    | some i =>
      simp only []
      rw [linearise_go_acc, List.reverse_singleton, List.singleton_append]
      exact .inr ⟨i, _, rfl, List.mem_of_getElem? hi, Ordr.of_go ops fuel _ _⟩
theorem wpOps_of_any {P : Program} {ops : Array Oper} {Q : Exit → Act → World → Prop} : ∀ (fuel : Nat) (listed : Array Bool) (l : List Nat) (a : Act) (w : World), wpAny P .any ops Q fuel listed a w → Ordr ops fuel listed l → wpOps P ops Q l a w
  | 0, listed, l, a, w, h, ho => by
    simp only [Ordr] at ho; subst ho; simpa [wpOps] using h.2
  | fuel + 1, listed, l, a, w, h, ho => by
    rcases ho with ⟨rfl, hr⟩ | ⟨i, r, rfl, hi, ho⟩
    · simpa [wpOps] using h.1 hr
    · rw [wpOps_cons]
      exact wpOp_mono (fun a w k => wpOps_of_any fuel _ r a w k ho) (h.2 i hi)

/-! ### The same under other numbers, with more to wait for -/
def sg (perm : List Nat) (i : Nat) : Nat := perm.idxOf i
def relOp (E : List (Nat × Nat)) (perm : List Nat) (i : Nat) (o : Oper) : Oper :=
  { o with after := (o.after ++ ((E.filter fun e => e.2 == i).map fun e => (⟨e.1, .data⟩ : Edge)).toArray).map fun e => { e with on := sg perm e.on }, guard := o.guard.map fun g => (sg perm g.1, g.2) }
def varOps (ops : List Oper) (E : List (Nat × Nat)) (perm : List Nat) : List Oper := perm.map fun i => match ops[i]? with
  | some o => relOp E perm i o
  | none => default
def permOK (n : Nat) (perm : List Nat) : Bool := decide (perm.length = n) && (List.range n).all fun k => decide (perm.getD k n < n) && (decide (sg perm (perm.getD k n) = k) && (decide (sg perm k < n) && decide (perm.getD (sg perm k) n = k)))
structure PermOK (n : Nat) (perm : List Nat) : Prop where
  len : perm.length = n
  lt : ∀ k, k < n → perm.getD k n < n
  inv : ∀ k, k < n → sg perm (perm.getD k n) = k
  slt : ∀ k, k < n → sg perm k < n
  sinv : ∀ k, k < n → perm.getD (sg perm k) n = k
theorem permOK_of {n : Nat} {perm : List Nat} (h : permOK n perm = true) : PermOK n perm := by
  simp only [permOK, Bool.and_eq_true, decide_eq_true_eq, List.all_eq_true, List.mem_range] at h
  exact ⟨h.1, fun k hk => (h.2 k hk).1, fun k hk => (h.2 k hk).2.1, fun k hk => (h.2 k hk).2.2.1, fun k hk => (h.2 k hk).2.2.2⟩
section
variable {P : Program} {ops : List Oper} {E : List (Nat × Nat)} {perm : List Nat} {Q : Exit → Act → World → Prop}
theorem sg_ge (hp : PermOK ops.length perm) {i : Nat} (h : ops.length ≤ i) : ops.length ≤ sg perm i := by
  unfold sg
  rcases Nat.lt_or_ge (perm.idxOf i) perm.length with q | q
  · have h1 := List.getElem_idxOf q
    have h2 := hp.lt (perm.idxOf i) (by rw [← hp.len]; exact q)
    rw [List.getD_eq_getElem?_getD, List.getElem?_eq_getElem q, h1] at h2
    simp at h2; omega
  · rw [← hp.len]; exact q
theorem var_get (hp : PermOK ops.length perm) (i : Nat) : (varOps ops E perm)[sg perm i]? = (ops[i]?).map (relOp E perm i) := by
  rcases Nat.lt_or_ge i ops.length with h | h
  · have h1 := hp.slt i h
    have h2 := hp.sinv i h
    rw [List.getD_eq_getElem?_getD] at h2
    have h3 : sg perm i < perm.length := by rw [hp.len]; exact h1
    rw [List.getElem?_eq_getElem h3, Option.getD_some] at h2
    simp only [varOps, List.getElem?_map, List.getElem?_eq_getElem h3, Option.map_some, h2, List.getElem?_eq_getElem h]
  · have := sg_ge hp h
    rw [List.getElem?_eq_none (by simp [varOps]; rw [hp.len]; exact this), List.getElem?_eq_none h]; rfl
theorem yielded_var (hp : PermOK ops.length perm) (tmps : Array Value) (j : Nat) : yielded (varOps ops E perm).toArray tmps (sg perm j) = yielded ops.toArray tmps j := by
  unfold yielded
  simp only [List.getElem?_toArray, var_get hp]
  cases ops[j]? <;> rfl
theorem wpOp_var (hp : PermOK ops.length perm) {i : Nat} {K : Act → World → Prop} {a : Act} {w : World} : wpOp P (varOps ops E perm).toArray Q (sg perm i) K a w = wpOp P ops.toArray Q i K a w := by
  unfold wpOp
  simp only [List.getElem?_toArray, var_get hp]
  cases ho : ops[i]? with
  | none => rfl
  | some o =>
    simp only [Option.map_some]
    have hw : Region.wanted (relOp E perm i o) (yielded (varOps ops E perm).toArray a.tmps) = Region.wanted o (yielded ops.toArray a.tmps) := by
      unfold Region.wanted relOp
      cases hg : o.guard with
      | none => rfl
      | some g => simp only [Option.map_some, yielded_var hp]
    rw [hw]
    rfl
theorem wpOps_var (hp : PermOK ops.length perm) : ∀ (l : List Nat) (a : Act) (w : World), wpOps P (varOps ops E perm).toArray Q (l.map (sg perm)) a w → wpOps P ops.toArray Q l a w
  | [], a, w, h => h
  | i :: r, a, w, h => by
    rw [List.map_cons, wpOps_cons, wpOp_var hp] at h
    rw [wpOps_cons]
    exact wpOp_mono (fun a w k => wpOps_var hp r a w k) h
theorem ready_mem {ops : Array Oper} {listed : Array Bool} {i : Nat} : i ∈ Region.ready .any ops listed ↔ ∃ o, ops[i]? = some o ∧ listed.getD i true = false ∧ ∀ e ∈ o.after, Region.binds .any e = true → listed.getD e.on false = true := by
  unfold Region.ready
  simp only [List.mem_filter, List.mem_range, Bool.and_eq_true, Bool.not_eq_true']
  constructor
  · rintro ⟨h1, h2, h3⟩
    refine ⟨ops[i], by simp [h1], h2, fun e he hb => ?_⟩
    rw [Array.getElem?_eq_getElem h1] at h3
    simp only [Option.map_some, Option.getD_some, Array.all_eq_true_iff_forall_mem] at h3
    have := h3 e he
    simpa [hb] using this
  · rintro ⟨o, h1, h2, h3⟩
    have hlt : i < ops.size := by
      rcases Nat.lt_or_ge i ops.size with q | q
      · exact q
      · simp [Array.getElem?_eq_none q] at h1
    refine ⟨hlt, h2, ?_⟩
    rw [h1]
    simp only [Option.map_some, Option.getD_some, Array.all_eq_true_iff_forall_mem]
    intro e he
    cases hb : Region.binds .any e with
    | false => rfl
    | true => simp [h3 e he hb]
/-- Waits are kept by an order. -/
def keepsE (E : List (Nat × Nat)) (listed : Array Bool) (l : List Nat) : Prop := ∀ e ∈ E, ∀ pre post, l = pre ++ e.2 :: post → listed.getD e.1 false = true ∨ e.1 ∈ pre
theorem Ordr.var (hp : PermOK ops.length perm) : ∀ (fuel : Nat) (listed listed' : Array Bool) (l : List Nat), listed.size = ops.length → listed'.size = ops.length → (∀ i, i < ops.length → listed'.getD (sg perm i) false = listed.getD i false) →
    Ordr ops.toArray fuel listed l → keepsE E listed l → Ordr (varOps ops E perm).toArray fuel listed' (l.map (sg perm))
  | 0, listed, listed', l, _, _, _, ho, _ => by simp only [Ordr] at ho ⊢; rw [ho]; rfl
  | fuel + 1, listed, listed', l, s1, s2, hl, ho, hk => by
    have vlen : (varOps ops E perm).length = ops.length := by simp [varOps, hp.len]
    have gd : ∀ (A : Array Bool) i d d', i < A.size → A.getD i d = A.getD i d' := fun A i d d' h => by simp [Array.getD, h]
    rcases ho with ⟨rfl, hr⟩ | ⟨i, r, rfl, hi, ho⟩
    · refine .inl ⟨rfl, ?_⟩
      rw [List.eq_nil_iff_forall_not_mem] at hr ⊢
      intro k hk2
      obtain ⟨o', h1, h2, h3⟩ := ready_mem.1 hk2
      have hkn : k < ops.length := by
        rw [← vlen]
        simp at h1
        exact (List.getElem?_eq_some_iff.1 h1).1
      have hin := hp.lt k hkn
      have hsk := hp.inv k hkn
      obtain ⟨i, hi⟩ : ∃ i, i = perm.getD k ops.length := ⟨_, rfl⟩
      rw [← hi] at hin hsk
      refine hr i (ready_mem.2 ?_)
      rw [← hsk] at h1 h2
      simp only [List.getElem?_toArray, var_get hp, Option.map_eq_some_iff] at h1
      obtain ⟨o, ho, rfl⟩ := h1
      refine ⟨o, by simpa using ho, ?_, fun e he hb => ?_⟩
      · rw [gd listed i true false (by omega), ← hl i hin, gd listed' _ false true (by rw [s2]; exact hp.slt i hin)]; exact h2
      · have h4 := h3 { e with on := sg perm e.on } (by simp only [relOp, Array.mem_map]; exact ⟨e, by simp [he], rfl⟩) hb
        rcases Nat.lt_or_ge e.on ops.length with q | q
        · rw [← hl _ q]; exact h4
        · exfalso
          have h5 := sg_ge hp q
          simp only [Array.getD, s2] at h4
          rw [dif_neg (by omega)] at h4
          cases h4
    · obtain ⟨o, h1, h2, h3⟩ := ready_mem.1 hi
      have hin : i < ops.length := by simp at h1; exact (List.getElem?_eq_some_iff.1 h1).1
      refine .inr ⟨sg perm i, r.map (sg perm), rfl, ready_mem.2 ⟨relOp E perm i o, ?_, ?_, fun e he hb => ?_⟩, ?_⟩
      · simp only [List.getElem?_toArray, var_get hp]
        have : ops[i]? = some o := by simpa using h1
        rw [this]; rfl
      · rw [gd listed' _ true false (by rw [s2]; exact hp.slt i hin), hl i hin, gd listed i false true (by omega)]; exact h2
      · simp only [relOp, Array.mem_map, Array.mem_append] at he
        obtain ⟨e0, he0, rfl⟩ := he
        have hon : listed.getD e0.on false = true := by
          rcases he0 with he0 | he0
          · exact h3 e0 he0 hb
          · simp only [List.mem_toArray, List.mem_map, List.mem_filter, beq_iff_eq] at he0
            obtain ⟨e1, ⟨hE, h5⟩, rfl⟩ := he0
            rcases hk e1 hE [] r (by rw [h5]; rfl) with q | q
            · exact q
            · cases q
        have hlt : e0.on < ops.length := by
          rcases Nat.lt_or_ge e0.on ops.length with q | q
          · exact q
          · simp only [Array.getD, s1] at hon
            rw [dif_neg (by omega)] at hon
            cases hon
        show listed'.getD (sg perm e0.on) false = true
        rw [hl _ hlt]; exact hon
      · refine Ordr.var hp fuel _ _ r (by simpa using s1) (by simpa using s2) (fun j hj => ?_) ho (fun e he pre post q => ?_)
        · have hsi := hp.slt i hin
          have hsj := hp.slt j hj
          by_cases e : j = i
          · subst e
            simp [Array.getD, s1, s2, hin, hsi]
          · have hne : sg perm j ≠ sg perm i := fun q => e (by rw [← hp.sinv j hj, q, hp.sinv i hin])
            have h5 := hl j hj
            rw [getD_set_ne _ hne, getD_set_ne _ e]
            exact h5
        · rcases hk e he (i :: pre) post (by rw [q]; rfl) with k | k
          · by_cases e1 : e.1 = i
            · left
              rw [e1]
              simp [Array.getD, s1, hin]
            · left
              rw [getD_set_ne _ e1]; exact k
          · rcases List.mem_cons.1 k with k | k
            · left
              rw [k]
              simp [Array.getD, s1, hin]
            · exact .inr k
end
/-- Some of the orders. -/
def vsome (P : Program) (nt : Sh) (ops : List Oper) (E : List (Nat × Nat)) (Q : X → St → Prop) (st : St) : Prop :=
  ∀ C : Ctx, C.nt = nt → ∀ Φ H a w, SimE C Φ H st a w → ∀ l, Ordr ops.toArray ops.length (Array.replicate ops.length false) l → keepsE E (Array.replicate ops.length false) l → wpOps P ops.toArray (lft C Q) l a { w with drawn := w.drawn + 1 }
section
variable {P : Program} {T : Nat → Option TI} {nt : Sh} {ops : List Oper} {Q : X → St → Prop} {st : St} {E : List (Nat × Nat)}
theorem vwp_of_some (hm : P.follows .mixedOrders = true) {id : Nat} (h : vsome P nt ops [] Q st) (hr : nt.rd = false := by rfl) : vwp P nt (.region id ops.toArray true) Q st := by
  intro C hC Φ H a w s
  rw [hr]
  refine wp_region_draw fun t => ?_
  simp only [Region.schedule, hm, Bool.true_or, if_true]
  exact h C hC Φ H a w s _ (by simpa [Region.linearise] using Ordr.of_go ops.toArray ops.length t (Array.replicate ops.length false)) (by intro e he; cases he)
/-- One of two first. -/
theorem vsome_pair (x y : Nat) (hxy : x ≠ y) (h1 : vsome P nt ops ((x, y) :: E) Q st) (h2 : vsome P nt ops ((y, x) :: E) Q st) : vsome P nt ops E Q st := by
  intro C hC Φ H a w s l ho hk
  by_cases q : ∀ pre post, l = pre ++ y :: post → x ∈ pre
  · refine h1 C hC Φ H a w s l ho fun e he pre post k => ?_
    rcases List.mem_cons.1 he with rfl | he
    · exact .inr (q pre post k)
    · exact hk e he pre post k
  · refine h2 C hC Φ H a w s l ho fun e he pre post k => ?_
    rcases List.mem_cons.1 he with rfl | he
    · right
      obtain ⟨pre2, q⟩ := Classical.not_forall.1 q
      obtain ⟨post2, q⟩ := Classical.not_forall.1 q
      obtain ⟨q1, q2⟩ := Classical.not_imp.1 q
      dsimp only at k ⊢
      rw [q1] at k
      rcases List.append_eq_append_iff.1 k with ⟨m, e1, e2⟩ | ⟨m, e1, e2⟩
      · rw [e1]
        cases m with
        | nil => simp at e2; exact absurd e2.1.symm hxy
        | cons z m => simp at e2; rw [← e2.1]; simp
      · exfalso
        cases m with
        | nil => simp at e2; exact hxy e2.1
        | cons z m => simp at e2; exact q2 (by rw [e1, ← e2.1]; simp)
    · exact hk e he pre post k
/-- These orders, by a plan. -/
theorem vsome_storm (hT : TabOK P T) (perm : List Nat) (plan : List Pl) (deps : List (List Nat)) {sl0 : List (Nat × V)} {ob : List Ob} (hp : permOK ops.length perm = true) (hok : stormOK nt (varOps ops E perm) plan deps = true)
    (h : vstorm P T nt sl0 (varOps ops E perm) plan 0 (fun m obs ob' => chkAll T sl0 obs (varOps ops E perm) plan [] m ∧ Q .norm ⟨finC m m sl0, ob'⟩) [] [ob] ob) : vsome P nt ops E Q ⟨sl0, ob⟩ := by
  intro C hC Φ H a w s l ho hk
  have hp := permOK_of hp
  have vlen : (varOps ops E perm).length = ops.length := by simp [varOps, hp.len]
  refine wpOps_var (E := E) hp l a _ ?_
  have ho2 := Ordr.var (E := E) hp _ _ (Array.replicate ops.length false) l (by simp) (by simp) (fun i hi => by simp [Array.getD, hi, hp.slt i hi]) ho hk
  refine wpOps_of_any _ _ _ _ _ ?_ ho2
  obtain ⟨es, obs', ob', h1, h2, h3, h4, h5, ⟨h6, h6'⟩, h7⟩ := vstorm_good plan _ plan 0 [] [ob] ob h rfl rfl (by simp [rankOf]) (by simp [rankOf])
  simp only [List.nil_append, Nat.zero_add] at h3 h4 h6 h6' h7
  have hplen := (storm_of hok).2.1
  rw [← hplen] at h3 h4
  have h0 : obs'[0]? = some ob := by simpa using h5 0 (by simp)
  rw [← vlen]
  refine storm_any hT hok h1 h3 (fun i o pl e q1 q2 q3 => by simpa using h7 h6 i o pl e q1 q2 q3) hC (fun Φ' H' a' w' ob2 hob s' => ⟨Φ', H', _, s', by rw [h4] at hob; obtain rfl := Option.some.inj hob; exact h6'⟩) _ (List.range (varOps ops E perm).length) _ sl0 a _ Φ H 0 ob (by simp) (fun i hi _ => by simpa using hi) ⟨by simp, fun j oj _ hl => ?_, fun i e _ hl => ?_, fun t _ => rfl⟩ ⟨Nat.zero_le _, fun k hk => ?_⟩ h0 s.draw
  · rw [getD_replicate_false] at hl; cases hl
  · rw [getD_replicate_false] at hl; cases hl
  · rw [getD_replicate_false]; simp
end
attribute [simp] varOps relOp sg
end Go.VX

/- Calls that hand over all there is; stores of which only places are known. -/
namespace Go.VX
open Go.RowKit
set_option linter.unusedVariables false
set_option linter.unusedSimpArgs false
section
variable {P : Program} {nt : Sh} {Q : X → St → Prop} {st : St}
/-- A call that hands over all there is, as it is. -/
theorem vcall_id {k : Nat} {args : List V} {K : V → List Ob → Prop} {Q : V → List Ob → Prop} (hv : VC P k args st.ob Q) (hK : ∀ r ob', Q r ob' → K r ob') : vcall P nt st k args K := by
  refine ⟨hv.1, fun C hC Φ H a w s vals hvals => ?_⟩
  refine (hv.2 Φ H w vals s.hs.sim hvals).mono fun e w' q => ?_
  cases e with
  | returned v =>
    obtain ⟨r, ob', Φ', H', q1, q2, q3⟩ := q
    exact ⟨Φ', H', ob', r, s.step (HStep.ofHS q1), q2, hK r ob' q3⟩
  | panicked c => exact q
  | outgrown => exact q
end
theorem get_app {α : Type} {l : List α} {i : Nat} {x : α} (h : l[i]? = some x) (m : List α) : (l ++ m)[i]? = some x := by
  rw [List.getElem?_append_left (List.getElem?_eq_some_iff.1 h).1]; exact h
theorem get_end {α : Type} (l m : List α) (j : Nat) : (l ++ m)[l.length + j]? = m[j]? := by
  rw [List.getElem?_append_right (by omega), Nat.add_sub_cancel_left]
theorem set_end {α : Type} (l m : List α) (j : Nat) (x : α) : (l ++ m).set (l.length + j) x = l ++ m.set j x := by
  rw [List.set_append, if_neg (by omega), Nat.add_sub_cancel_left]
end Go.VX
