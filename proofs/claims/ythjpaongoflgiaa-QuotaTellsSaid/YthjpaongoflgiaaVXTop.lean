/- The top: from what a row says of its arguments to values of ours; from a contract of a law to its row. -/
import Derived.Test.YthjpaongoflgiaaVXTac
import Derived.ProofKit
import Derived.SizedLaws
import Derived.ReadAgain
import Derived.OpenShut
import Derived.Carry
import Derived.Deep.Slices
namespace Go.VX
open Go.RowKit Go.ChangeShapes
set_option linter.unusedVariables false
set_option linter.unusedSimpArgs false

/-- A type, as far as plain data go. -/
inductive Ty where
  | bool | int (k : IntKind) | str
  | slice (e : Ty)
  | arr (n : Nat) (e : Ty)
  | struct (fs : Ty)
  | nil
  | cons (a b : Ty)

def Ty.n : Ty → Nat
  | .bool | .int _ | .str | .slice _ => 1
  | .arr n e => n * e.n
  | .struct fs => fs.n
  | .nil => 0
  | .cons a b => a.n + b.n
def Ty.one : Ty → Bool
  | .bool | .int _ | .str | .slice _ => true
  | _ => false

mutual
def Ty.okT (P : Program) : Ty → TypeId → Bool
  | .bool, t => match P.underlying t with | some .bool => true | _ => false
  | .int k, t => match P.underlying t with | some (.int k') => decide (k' = k) | _ => false
  | .str, t => match P.underlying t with | some .string => true | _ => false
  | .slice e, t => match P.underlying t with | some (.slice u) => decide (1 ≤ P.bytesOf u) && (decide (P.cellsOf u = e.n) && e.okT P u) | _ => false
  | .arr n e, t => match P.underlying t with | some (.array m u) => decide (m = n) && (decide (P.cellsOf t = n * e.n) && (decide (P.cellsOf u = e.n) && e.okT P u)) | _ => false
  | .struct fs, t => match P.underlying t with | some (.struct F) => decide (P.cellsOf t = fs.n) && fs.okF P 0 F.toList | _ => false
  | .nil, _ => false
  | .cons _ _, _ => false
def Ty.okF (P : Program) : Ty → Nat → List Field → Bool
  | .nil, _, [] => true
  | .cons a b, off, f :: fs => decide (f.offset = off) && (decide (P.cellsOf f.type = a.n) && (a.okT P f.type && b.okF P (off + a.n) fs))
  | _, _, _ => false
end

/-- Cells that are of a type. -/
def Fits : Ty → List V → Prop
  | .bool, cs => ∃ b, cs = [.bool b]
  | .int k, cs => ∃ n, cs = [.int k n] ∧ k.min ≤ n ∧ n ≤ k.max
  | .str, cs => ∃ s : ByteArray, cs = [.str s] ∧ s.size ≤ reachBytes
  | .slice e, cs => ∃ l : List (List V), cs = [.fs l.length l.flatten] ∧ l.length ≤ reachBytes ∧ ∀ x ∈ l, Fits e x
  | .arr n e, cs => ∃ l : List (List V), cs = l.flatten ∧ l.length = n ∧ ∀ x ∈ l, Fits e x
  | .struct fs, cs => Fits fs cs
  | .nil, cs => cs = []
  | .cons a b, cs => ∃ x y, cs = x ++ y ∧ Fits a x ∧ Fits b y

mutual
def vb : V → Nat
  | .str s => s.size + 1
  | .fs _ cs => vbs cs + 1
  | _ => 1
def vbs : List V → Nat
  | [] => 0
  | c :: cs => vb c + vbs cs
end
theorem vbs_append : ∀ (a b : List V), vbs (a ++ b) = vbs a + vbs b
  | [], b => by simp [vbs]
  | c :: a, b => by simp [vbs, vbs_append a b]; omega

mutual
def bulkD {H : Type} : DataW H → Nat
  | .lit (.string bytes) => bytes.length + 1
  | .lit _ => 1
  | .nil => 1
  | .ptr d => bulkD d + 1
  | .slice elems spare => bulkDs elems + bulkDs spare + 1
  | .agg parts => bulkDs parts + 1
  | .iface _ d => bulkD d + 1
  | .map entries => bulkEs entries + 1
  | .held _ => 1
def bulkDs {H : Type} : List (DataW H) → Nat
  | [] => 0
  | d :: r => bulkD d + bulkDs r
def bulkEs {H : Type} : List (Lit × DataW H) → Nat
  | [] => 0
  | x :: r => bulkE x + bulkEs r
def bulkE {H : Type} : Lit × DataW H → Nat
  | (.string bytes, d) => bytes.length + bulkD d + 1
  | (_, d) => bulkD d + 1
end
theorem bulkDs_append {H : Type} : ∀ (a b : List (DataW H)), bulkDs (a ++ b) = bulkDs a + bulkDs b
  | [], b => by simp [bulkDs]
  | c :: a, b => by simp [bulkDs, bulkDs_append a b]; omega
theorem bulkD_agg {H : Type} (l : List (DataW H)) : bulkD (.agg l) = bulkDs l + 1 := by simp [bulkD]
theorem bulkD_slice {H : Type} (l m : List (DataW H)) : bulkD (.slice l m) = bulkDs l + bulkDs m + 1 := by simp [bulkD]

theorem VReps.len_eq {q : Fl} {E : Env} {a b : List V} {us : List Value} (h : VReps q E a us) (k : VReps q E b us) : a.length = b.length := h.length.trans k.length.symm

theorem spot_of_cell {w : World} {a : Addr} {v : Value} (h : w.cell? a = some v) : a = ⟨a.block, a.off, none⟩ ∧ a.block < w.heap.size := by
  unfold World.cell? at h
  split at h
  · rename_i c x y he
    split at h
    · cases h
    · rename_i hs
      refine ⟨?_, lt_of_heap he⟩
      obtain ⟨b, o, s⟩ := a
      cases s <;> simp_all
  · cases h

section
variable {H : Type} {enc : TypeId × Value → H} {P : Program} {w : World}

abbrev reach (P : Program) (t : TypeId) (d : DataW H) : Prop := (d.weights P t).all (· ≤ reachBytes) = true
abbrev reachs (P : Program) (ts : List TypeId) (ds : List (DataW H)) : Prop := (DataW.weightsEach P ts ds).all (· ≤ reachBytes) = true
abbrev reachA (P : Program) (t : TypeId) (ds : List (DataW H)) : Prop := (DataW.weightsAll P t ds).all (· ≤ reachBytes) = true

theorem reachA_get {t : TypeId} : ∀ {ds : List (DataW H)}, reachA P t ds → ∀ (i : Nat) (d : DataW H), ds[i]? = some d → reach P t d
  | [], _, i, d, h => by simp at h
  | x :: r, h, i, d, hd => by
    simp only [reachA, DataW.weightsAll, List.all_append, Bool.and_eq_true] at h
    cases i with
    | zero => simp at hd; subst hd; exact h.1
    | succ i => exact reachA_get h.2 i d (by simpa using hd)

/-- What is known of the cells of one value. -/
def Got (E : Env) (ty : Ty) (cs : List Value) (m : Nat) : Prop := ∃ vs, VReps .frz E vs cs ∧ Fits ty vs ∧ vbs vs ≤ m

/-- Row after row. -/
theorem got_rows {E : Env} {e : Ty} {rd : Nat → Option Value} {c : Nat} (D : Nat → Nat) : ∀ (n : Nat),
    (∀ i, i < n → ∃ cs : List Value, cs.length = c ∧ (∀ j, j < c → rd (i * c + j) = cs[j]?) ∧ Got E e cs (D i)) →
    ∃ (l : List (List V)) (us : List Value), l.length = n ∧ us.length = n * c ∧ (∀ j, j < us.length → rd j = us[j]?) ∧ VReps .frz E l.flatten us ∧ (∀ x ∈ l, Fits e x) ∧ vbs l.flatten ≤ ((List.range n).map D).sum
  | 0, h => ⟨[], [], rfl, by simp, by simp, by simp [VReps], by simp, by simp [vbs]⟩
  | n + 1, h => by
    obtain ⟨l, us, h1, h2, h3, h4, h5, h6⟩ := got_rows D n fun i hi => h i (by omega)
    obtain ⟨cs, k1, k2, vs, k3, k4, k5⟩ := h n (by omega)
    refine ⟨l ++ [vs], us ++ cs, by simp [h1], by simp [h2, k1, Nat.add_mul], fun j hj => ?_, by simpa using h4.append k3, fun x hx => ?_, ?_⟩
    · rcases Nat.lt_or_ge j us.length with hlt | hge
      · rw [List.getElem?_append_left hlt]; exact h3 j hlt
      · rw [List.getElem?_append_right hge, ← k2 (j - us.length) (by simp at hj; omega)]
        congr 1
        omega
    · simp only [List.mem_append, List.mem_singleton] at hx
      rcases hx with hx | rfl
      · exact h5 x hx
      · exact k4
    · simp only [List.flatten_append, List.flatten_cons, List.flatten_nil, List.append_nil, vbs_append, List.range_succ, List.map_append, List.sum_append, List.map_cons, List.map_nil, List.sum_cons, List.sum_nil]
      omega
theorem bulkDs_range : ∀ (ds : List (DataW H)), ((List.range ds.length).map fun i => bulkD ((ds[i]?).getD .nil)).sum = bulkDs ds
  | [] => by simp [bulkDs]
  | d :: ds => by
    have := bulkDs_range ds
    simp only [List.length_cons, List.range_succ_eq_map, List.map_cons, List.map_map, List.sum_cons, bulkDs]
    rw [← this]
    rfl

theorem trod_got {E : Env} (hw : E.w = w) (hΦ : ∀ b, b < w.heap.size → E.Φ b) : ∀ ty : Ty,
    (∀ (t : TypeId) (fuel : Nat) (cs : List Value) (x : DataW H × List MemPlace), ty.okT P t = true → DataW.trod enc P w 0 (fun _ => true) true fuel t cs = some x → reach P t x.1 → Got E ty cs (bulkD x.1)) ∧
    (∀ (off : Nat) (F : List Field) (fuel : Nat) (cs : List Value) (xs : List (DataW H × List MemPlace)), ty.okF P off F = true → xs.length = F.length →
      (∀ (i : Nat) (f : Field), F[i]? = some f → DataW.trod enc P w 0 (fun _ => true) true fuel f.type ((cs.drop f.offset).take (P.cellsOf f.type)) = xs[i]?) →
      reachs P (F.map (·.type)) (xs.map (·.1)) → cs.length = off + ty.n → Got E ty (cs.drop off) (bulkDs (xs.map (·.1)))) := by
  intro ty
  induction ty with
  | bool =>
    refine ⟨fun t fuel cs x ht h hr => ?_, fun off F fuel cs xs ht => by simp [Ty.okF] at ht⟩
    simp only [Ty.okT] at ht
    split at ht <;> simp at ht
    rename_i hu
    obtain ⟨b, rfl, rfl⟩ := DataW.trod_bool hu h
    exact ⟨[.bool b], ⟨_, _, rfl, ⟨rfl, rfl⟩, rfl, rfl⟩, ⟨b, rfl⟩, by simp [vbs, vb, bulkD]⟩
  | int k =>
    refine ⟨fun t fuel cs x ht h hr => ?_, fun off F fuel cs xs ht => by simp [Ty.okF] at ht⟩
    simp only [Ty.okT] at ht
    split at ht <;> simp at ht
    rename_i k' hu
    subst ht
    obtain ⟨n, rfl, rfl, hwf⟩ := DataW.trod_int hu h
    simp only [Lit.wf, Bool.and_eq_true, decide_eq_true_eq] at hwf
    exact ⟨[.int k' n], ⟨_, _, rfl, ⟨rfl, rfl⟩, rfl, rfl⟩, ⟨n, rfl, hwf⟩, by simp [vbs, vb, bulkD]⟩
  | str =>
    refine ⟨fun t fuel cs x ht h hr => ?_, fun off F fuel cs xs ht => by simp [Ty.okF] at ht⟩
    simp only [Ty.okT] at ht
    split at ht <;> simp at ht
    rename_i hu
    obtain ⟨s, rfl, rfl, hsz⟩ := DataW.trod_string hu h
    have e : s.data.toList.length = s.size := Array.length_toList
    refine ⟨[.str s], ⟨_, _, rfl, ⟨rfl, rfl⟩, rfl, rfl⟩, ⟨s, rfl, ?_⟩, by simp [vbs, vb, bulkD, e]⟩
    simpa [reach, DataW.weights, e] using hr
  | slice e ih =>
    refine ⟨fun t fuel cs x ht h hr => ?_, fun off F fuel cs xs ht => by simp [Ty.okF] at ht⟩
    simp only [Ty.okT] at ht
    split at ht <;> simp at ht
    rename_i u hu
    obtain ⟨hb1, hc, hte⟩ := ht
    rcases DataW.trod_slice hu h with ⟨rfl, rfl⟩ | ⟨a, len, cap, elems, rest, n, _, rfl, rfl, _, hl, hm, hlen, hel, hsp, _⟩
    · refine ⟨[.fs 0 []], ⟨_, _, rfl, ⟨rfl, rfl⟩, ⟨none, 0, [], rfl, Nat.le_refl _, rfl, fun h => by simp at h⟩, rfl⟩, ⟨[], rfl, by simp, by simp⟩, by simp [vbs, vb, bulkD]⟩
    · simp only [reach, DataW.weights, hu, List.all_cons, List.all_append, Bool.and_eq_true, decide_eq_true_eq, List.length_map] at hr
      obtain ⟨hr1, hr2, _⟩ := hr
      have hlr : len ≤ reachBytes := by
        have := Nat.mul_le_mul_left (elems.length + rest.length) hb1
        omega
      have hD : ∀ i, i < len → ∃ cs : List Value, cs.length = e.n ∧ (∀ j, j < e.n → w.cell? (a.add (i * e.n + j)) = cs[j]?) ∧ Got E e cs (bulkD (((elems.map (·.1))[i]?).getD .nil)) := by
        intro i hi
        have key := hel i hi
        rw [List.getElem?_eq_getElem (show i < elems.length by omega)] at key
        obtain ⟨cs', h1, h2⟩ := Option.bind_eq_some_iff.1 key
        obtain ⟨_, g1, g2⟩ := World.cells?_some h1
        refine ⟨cs', by rw [g1, hc], fun j hj => ?_, ?_⟩
        · rw [← g2 j (by omega), Go.Deep.add_add, hc]
        · have := ih.1 u n cs' _ hte h2 (reachA_get hr2 i _ (by simp [List.getElem?_eq_getElem (show i < elems.length by omega)]))
          simpa [List.getElem?_eq_getElem (show i < elems.length by omega)] using this
      obtain ⟨l, us, q1, q2, q3, q4, q5, q6⟩ := got_rows (E := E) (rd := fun j => w.cell? (a.add j)) _ len hD
      have e1 : len = (elems.map (·.1)).length := by simp [hlen]
      refine ⟨[.fs l.length l.flatten], ⟨_, _, rfl, ⟨rfl, rfl⟩, ⟨some a, cap, us, by rw [q1], by omega, q4, fun hu => ?_⟩, rfl⟩, ⟨l, rfl, by omega, q5⟩, ?_⟩
      · have h0 := q3 0 hu
        rw [List.getElem?_eq_getElem hu] at h0
        obtain ⟨s1, s2⟩ := spot_of_cell h0
        simp only [Addr.add, if_true] at s1 s2
        refine ⟨a.block, a.off, by rw [← s1], hΦ _ s2, fun j hj => ?_⟩
        rw [hw, ← q3 j hj]
        congr 1
        rw [s1]
        by_cases hj0 : j = 0 <;> simp [Addr.add, hj0]
      · rw [e1, bulkDs_range] at q6
        simp only [vbs, vb, bulkD_slice]
        omega
  | arr n e ih =>
    refine ⟨fun t fuel cs x ht h hr => ?_, fun off F fuel cs xs ht => by simp [Ty.okF] at ht⟩
    simp only [Ty.okT] at ht
    split at ht <;> simp at ht
    rename_i m u hu
    obtain ⟨rfl, hct, hc, hte⟩ := ht
    obtain ⟨xs, fu, _, rfl, hcl, hxl, hx⟩ := DataW.trod_array hu h
    simp only [reach, DataW.weights, hu] at hr
    have hD : ∀ i, i < m → ∃ cs' : List Value, cs'.length = e.n ∧ (∀ j, j < e.n → cs[i * e.n + j]? = cs'[j]?) ∧ Got E e cs' (bulkD (((xs.map (·.1))[i]?).getD .nil)) := by
      intro i hi
      have key := hx i hi
      rw [List.getElem?_eq_getElem (show i < xs.length by omega)] at key
      have hle : (i + 1) * e.n ≤ m * e.n := Nat.mul_le_mul_right _ hi
      have e3 : (i + 1) * e.n = i * e.n + e.n := by rw [Nat.add_mul]; omega
      refine ⟨(cs.drop (i * P.cellsOf u)).take (P.cellsOf u), by simp [hc]; omega, fun j hj => ?_, ?_⟩
      · rw [hc, List.getElem?_take, if_pos hj, List.getElem?_drop]
      · have := ih.1 u fu _ _ hte key (reachA_get hr i _ (by simp [List.getElem?_eq_getElem (show i < xs.length by omega)]))
        simpa [List.getElem?_eq_getElem (show i < xs.length by omega)] using this
    obtain ⟨l, us, q1, q2, q3, q4, q5, q6⟩ := got_rows (E := E) (rd := fun j => cs[j]?) _ m hD
    have e1 : m = (xs.map (·.1)).length := by simp [hxl]
    have hus : us = cs := by
      apply List.ext_getElem?
      intro j
      rcases Nat.lt_or_ge j us.length with hlt | hge
      · exact (q3 j hlt).symm
      · rw [List.getElem?_eq_none hge, List.getElem?_eq_none (by omega)]
    subst hus
    refine ⟨l.flatten, q4, ⟨l, rfl, q1, q5⟩, ?_⟩
    rw [e1, bulkDs_range] at q6
    simp only [bulkD_agg]
    omega
  | struct fs ih =>
    refine ⟨fun t fuel cs x ht h hr => ?_, fun off F fuel cs xs ht => by simp [Ty.okF] at ht⟩
    simp only [Ty.okT] at ht
    split at ht <;> simp at ht
    rename_i F hu
    obtain ⟨hct, htf⟩ := ht
    obtain ⟨xs, fu, _, rfl, hcl, hxl, hx⟩ := DataW.trod_struct hu h
    simp only [reach, DataW.weights, hu] at hr
    have := ih.2 0 F.toList fu cs xs htf (by simpa using hxl) (fun i f hf => hx i f (by simpa using hf)) hr (by omega)
    obtain ⟨vs, g1, g2, g3⟩ := this
    exact ⟨vs, by simpa using g1, g2, by simp only [bulkD_agg]; omega⟩
  | nil =>
    refine ⟨fun t fuel cs x ht => by simp [Ty.okT] at ht, fun off F fuel cs xs ht hl hx hr hcl => ?_⟩
    cases F with
    | cons f F => simp [Ty.okF] at ht
    | nil =>
      obtain rfl : xs = [] := by simpa using hl
      refine ⟨[], ?_, rfl, by simp [vbs]⟩
      rw [List.drop_eq_nil_of_le (by simp [hcl, Ty.n])]
      rfl
  | cons a b iha ihb =>
    refine ⟨fun t fuel cs x ht => by simp [Ty.okT] at ht, fun off F fuel cs xs ht hl hx hr hcl => ?_⟩
    cases F with
    | nil => simp [Ty.okF] at ht
    | cons f F =>
      simp only [Ty.okF, Bool.and_eq_true, decide_eq_true_eq] at ht
      obtain ⟨ho, hc, hta, htb⟩ := ht
      cases xs with
      | nil => simp at hl
      | cons x xs =>
        simp only [reachs, List.map_cons, DataW.weightsEach, List.all_append, Bool.and_eq_true] at hr
        obtain ⟨vs, g1, g2, g3⟩ := iha.1 f.type fuel _ x hta (hx 0 f rfl) hr.1
        obtain ⟨vs', g1', g2', g3'⟩ := ihb.2 (off + a.n) F fuel cs xs htb (by simpa using hl) (fun i f' hf => by simpa using hx (i + 1) f' (by simpa using hf)) hr.2 (by simp only [Ty.n] at hcl; omega)
        rw [ho, hc] at g1
        refine ⟨vs ++ vs', ?_, ⟨vs, vs', rfl, g2, g2'⟩, ?_⟩
        · have e : cs.drop off = (cs.drop off).take a.n ++ cs.drop (off + a.n) := by
            rw [← List.drop_drop, List.take_append_drop]
          rw [e]
          exact g1.append g1'
        · simp only [vbs_append, List.map_cons, bulkDs]
          omega
end

/-! ### Arguments -/
def ArgFits (ty : Ty) (x : V) : Prop := if ty.one = true then Fits ty [x] else ∃ cs, x = .agg cs ∧ Fits ty cs
def AllFit : List Ty → List V → Prop
  | [], [] => True
  | t :: ts, x :: xs => ArgFits t x ∧ AllFit ts xs
  | _, _ => False
def bulkV : V → Nat
  | .agg cs => vbs cs
  | x => vb x
def bulkVs (xs : List V) : Nat := (xs.map bulkV).sum
def argsOK (P : Program) : List Ty → List TypeId → Bool
  | [], [] => true
  | y :: ys, t :: ts => (y.okT P t && (P.readableRec t && decide (t < P.types.size))) && argsOK P ys ts
  | _, _ => false

section
variable {H : Type} {enc : TypeId × Value → H} {P : Program} {w : World}

theorem one_trod {ty : Ty} {t : TypeId} {v : Value} {r : Reach} {base : Nat} (h1 : ty.one = true) (ht : ty.okT P t = true) (hv : Value.okWide P w r base t v) : v.cells = #[v] := by
  cases v with
  | agg cs =>
    exfalso
    cases ty <;> simp [Ty.one] at h1 <;> simp only [Ty.okT] at ht <;> split at ht <;> simp at ht <;> rename_i hu <;> simp [Value.okWide, hu, Cell.okWide, Cell.ok] at hv
  | _ => rfl
theorem agg_trod {ty : Ty} {t : TypeId} {v : Value} {r : Reach} {base : Nat} (h1 : ¬ ty.one = true) (ht : ty.okT P t = true) (hv : Value.okWide P w r base t v) : ∃ cs, v = .agg cs := by
  cases ty <;> simp [Ty.one] at h1 <;> simp only [Ty.okT] at ht <;> first | (simp at ht; done) | skip
  all_goals
    split at ht <;> simp at ht
    rename_i hu
    simp only [Value.okWide, hu] at hv
    obtain ⟨cs, rfl, _⟩ := hv
    exact ⟨cs, rfl⟩

theorem arg_got {E : Env} (hw : E.w = w) (hΦ : ∀ b, b < w.heap.size → E.Φ b) {ty : Ty} {t : TypeId} {v : Value} {d : DataW H} {ps : List MemPlace} {r : Reach} {base : Nat}
    (ht : ty.okT P t = true) (hv : Value.okWide P w r base t v) (h : DataW.Trod enc P w 0 (fun _ => true) true t v d ps) (hr : reach P t d) : ∃ x, VRep E x v ∧ ArgFits ty x ∧ bulkV x ≤ bulkD d := by
  obtain ⟨fuel, hf⟩ := h
  obtain ⟨vs, h1, h2, h3⟩ := (trod_got hw hΦ ty).1 t fuel _ _ ht hf hr
  by_cases ho : ty.one = true
  · rw [one_trod ho ht hv] at h1
    match vs, h1 with
    | [], h1 => simp [VReps] at h1
    | x :: xs, ⟨u, us, e, _, hx, hxs⟩ =>
      simp at e
      obtain ⟨rfl, rfl⟩ := e
      match xs, hxs with
      | [], _ =>
        refine ⟨x, hx, by unfold ArgFits; rw [if_pos ho]; exact h2, ?_⟩
        cases x <;> simp_all [bulkV, vbs]
        exfalso
        rename_i cs
        cases ty <;> simp [Ty.one] at ho <;> simp [Fits] at h2
      | _ :: _, hxs => obtain ⟨_, _, e, _⟩ := hxs; simp at e
  · obtain ⟨cs, rfl⟩ := agg_trod ho ht hv
    exact ⟨.agg vs, ⟨cs, rfl, VReps.weak h1⟩, by unfold ArgFits; rw [if_neg ho]; exact ⟨vs, rfl, h2⟩, h3⟩

theorem args_got {E : Env} (hw : E.w = w) (hΦ : ∀ b, b < w.heap.size → E.Φ b) {r : Reach} {base : Nat} : ∀ {tys : List Ty} {ts : List TypeId} {vs : List Value} {ds : List (DataW H)} {ps : List MemPlace},
    argsOK P tys ts = true → (∀ (j : Nat) (t : TypeId) (v : Value), ts[j]? = some t → vs[j]? = some v → Value.okWide P w r base t v) →
    DataW.TrodAll enc P w 0 (fun _ => true) true ts vs ds ps → reachs P ts ds → ∃ xs, VReps .any E xs vs ∧ AllFit tys xs ∧ bulkVs xs ≤ bulkDs ds
  | [], [], vs, ds, ps, _, _, h, _ => by
    obtain ⟨rfl, rfl, _⟩ := trodAll_nil h
    exact ⟨[], rfl, trivial, by simp [bulkVs]⟩
  | y :: ys, [], _, _, _, h, _, _, _ => by simp [argsOK] at h
  | [], t :: ts, _, _, _, h, _, _, _ => by simp [argsOK] at h
  | y :: ys, t :: ts, vs, ds, ps, hok, hv, h, hr => by
    obtain ⟨v, vs', d, ds', p, q, rfl, rfl, rfl, h1, h2⟩ := trodAll_cons h
    simp only [argsOK, Bool.and_eq_true] at hok
    simp only [reachs, DataW.weightsEach, List.all_append, Bool.and_eq_true] at hr
    obtain ⟨x, g1, g2, g3⟩ := arg_got hw hΦ hok.1.1 (hv 0 t v rfl rfl) h1 hr.1
    obtain ⟨xs, k1, k2, k3⟩ := args_got hw hΦ hok.2 (fun j t v a b => hv (j + 1) t v (by simpa using a) (by simpa using b)) h2 hr.2
    exact ⟨x :: xs, ⟨v, vs', rfl, trivial, g1, k1⟩, ⟨g2, k2⟩, by simp only [bulkVs, List.map_cons, List.sum_cons, bulkDs] at k3 ⊢; omega⟩

theorem args_kept (hl : laidOutB P = true) {W W' : World} (hb : Below W.heap.size W W') : ∀ {tys : List Ty} {ts : List TypeId} {vs : List Value} {ds : List (DataW H)} {ps : List MemPlace},
    argsOK P tys ts = true → DataW.TrodAll enc P W 0 (fun _ => true) true ts vs ds ps → (∀ x ∈ ps, x.block < W.heap.size) → DataW.TrodAll enc P W' 0 (fun b => decide (b < W.heap.size)) true ts vs ds ps
  | [], [], vs, ds, ps, _, h, _ => by
    obtain ⟨rfl, rfl, rfl⟩ := trodAll_nil h
    exact trodAll_mk0
  | y :: ys, [], _, _, _, h, _, _ => by simp [argsOK] at h
  | [], t :: ts, _, _, _, h, _, _ => by simp [argsOK] at h
  | y :: ys, t :: ts, vs, ds, ps, hok, h, hlt => by
    obtain ⟨v, vs', d, ds', p, q, rfl, rfl, rfl, h1, h2⟩ := trodAll_cons h
    simp only [argsOK, Bool.and_eq_true, decide_eq_true_eq] at hok
    exact ⟨p, q, Below.trod hl hok.1.2.1 hok.1.2.2 h1 hb (fun x hx => hlt x (List.mem_append_left _ hx)), args_kept hl hb hok.2 h2 (fun x hx => hlt x (List.mem_append_right _ hx)), rfl⟩
end

theorem argsOK_len {P : Program} : ∀ {tys : List Ty} {ts : List TypeId}, argsOK P tys ts = true → ts.length = tys.length
  | [], [], _ => rfl
  | y :: ys, [], h => by simp [argsOK] at h
  | [], t :: ts, h => by simp [argsOK] at h
  | y :: ys, t :: ts, h => by simp only [argsOK, Bool.and_eq_true] at h; simp [argsOK_len h.2]
theorem trod_len {H : Type} {enc : TypeId × Value → H} {P : Program} {w : World} {b : Nat} {sp : Nat → Bool} {hd : Bool} : ∀ {ts : List TypeId} {vs : List Value} {ds : List (DataW H)} {ps : List MemPlace}, DataW.TrodAll enc P w b sp hd ts vs ds ps → ds.length = ts.length
  | [], vs, ds, ps, h => by obtain ⟨rfl, rfl, _⟩ := trodAll_nil h; rfl
  | t :: ts, vs, ds, ps, h => by
    obtain ⟨v, vs', d, ds', p, q, rfl, rfl, rfl, h1, h2⟩ := trodAll_cons h
    simp [trod_len h2]
/-- No object at all; all that is there is not to change. -/
theorem HSim.top (W : World) : HSim (fun b => b < W.heap.size) (fun _ => none) [] W := ⟨fun _ h => h, fun i o h => by simp at h, fun i j o o' b h => by simp at h⟩
theorem HS.below {W W' : World} {Φ Φ' : Nat → Prop} {H H' : Nat → Option Nat} {ob' : List Ob} {nt : Sh} (h : HS (ctx Φ H [] W nt) Φ' H' ob' W') : Below W.heap.size W W' :=
  ⟨h.os, h.tape, h.output, h.size, fun k hk => h.kept k hk (fun ⟨i, o, h1, _⟩ => by simp at h1)⟩
theorem keptBut_of_below {W W' : World} (h : Below W.heap.size W W') (may : MemPlace → Prop) : W.keptBut W' may := by
  refine ⟨h.os, h.output, fun i hi => ?_⟩
  rw [h.block i hi]
  cases W.heap[i]? with
  | none => simp
  | some o => cases o <;> simp

section
variable {H : Type} {enc : TypeId × Value → H}

/-- What a law's call comes to, out of its contract. -/
theorem law_calls {P : Program} {k : Nat} {fn : Func} {s : ChangeSpec} {tys : List Ty} {tb : TypeId} {apart fresh handsOn : Bool}
    (hl : laidOutB P = true) (hpar : argsOK P tys fn.params.toList = true) (hres : fn.resultTypes = #[tb]) (hb : P.underlying tb = some .bool) (hvars : s.vars = [])
    (hspec : ∀ (H : Type) (ds : List (DataW H)), ds.length = tys.length → s.fn H ds = { results := [.lit (.bool true)], args := ds })
    {W : World} {base : Nat} {args : Array Value} {ds gs : List (DataW H)} {before : List MemPlace}
    (hval : ∀ (j : Nat) t v, fn.params[j]? = some t → args[j]? = some v → Value.okWide P W .any base t v)
    (hW : DataW.Whole enc P fn.params.toList s.vars apart W args.toList ds gs before)
    (hsz : (DataW.weightsEach P (fn.params.toList ++ s.plain.varTypes P) (ds ++ gs)).all (· ≤ reachBytes) = true)
    (hVC : ∀ xs : List V, AllFit tys xs → bulkVs xs ≤ bulkDs ds → VC P k xs [] (fun r _ => r = .bool true)) :
    Calls P k args W fun e W' => ∃ v, e = .returned v ∧ s.post enc P fn apart fresh handsOn false W args v W' := by
  have hW0 := hW
  have hlt := hW.lt
  obtain ⟨p, q, hA, hV, rfl, hfz, hnd⟩ := hW
  rw [hvars] at hV
  obtain ⟨rfl, rfl⟩ := trodVars_none hV
  have hvt : s.plain.varTypes P = [] := by
    show DataSpec.varTypes P s.plain = []
    unfold DataSpec.varTypes ChangeSpec.plain
    simp [hvars]
  rw [hvt, List.append_nil, List.append_nil] at hsz
  rw [List.append_nil] at hlt
  obtain ⟨xs, h1, h2, h3⟩ := args_got (E := mkE (fun b => b < W.heap.size) (fun _ => none) [] W) rfl (fun _ h => h) hpar (fun j t v a b => hval j t v (by simpa using a) (by simpa using b)) hA hsz
  have hlen : ds.length = tys.length := by
    rw [trod_len hA]
    exact argsOK_len hpar
  refine ((hVC xs h2 h3).2 _ _ W args (HSim.top W) h1).mono fun e W' q => ?_
  cases e with
  | panicked c => exact q.elim
  | outgrown => exact q.elim
  | returned v =>
    obtain ⟨r, ob', Φ', H', q1, q2, rfl⟩ := q
    obtain rfl : v = .bool true := q2
    have hbel := q1.below
    refine ⟨_, rfl, ds, [], p ++ [], [], p, [], hW0, ?_, ?_, ?_, keptBut_of_below hbel _, fun h => by cases h⟩
    · rw [List.append_nil, hspec _ _ hlen, hres]
      exact trodAll_mk1 (shut_bool hb true)
    · rw [List.append_nil, hspec _ _ hlen]
      exact args_kept hl hbel hpar hA hlt
    · rw [hvars, List.append_nil, hspec _ _ hlen]
      rfl
end

/-! ### From cells to lists of ours -/
theorem list_of {α : Type} (f : α → List V) (p : α → Prop) : ∀ {l : List (List V)}, (∀ x ∈ l, ∃ a, x = f a ∧ p a) → ∃ as : List α, as.length = l.length ∧ l.flatten = as.flatMap f ∧ ∀ a ∈ as, p a
  | [], _ => ⟨[], rfl, rfl, by simp⟩
  | x :: l, h => by
    obtain ⟨a, rfl, ha⟩ := h x (by simp)
    obtain ⟨as, h1, h2, h3⟩ := list_of f p (l := l) fun y hy => h y (by simp [hy])
    exact ⟨a :: as, by simp [h1], by simp [h2], by simpa using ⟨ha, h3⟩⟩
/-- A slice of plain values, each of one cell or many. -/
theorem fits_slice {α : Type} (f : α → List V) (p : α → Prop) {e : Ty} (he : ∀ cs, Fits e cs → ∃ a, cs = f a ∧ p a) {cs : List V} (h : Fits (.slice e) cs) :
    ∃ as : List α, cs = [.fs as.length (as.flatMap f)] ∧ as.length ≤ reachBytes ∧ ∀ a ∈ as, p a := by
  obtain ⟨l, rfl, h1, h2⟩ := h
  obtain ⟨as, g1, g2, g3⟩ := list_of f p fun x hx => he x (h2 x hx)
  exact ⟨as, by rw [g1, g2], by omega, g3⟩
theorem flatMap_one {α : Type} (g : α → V) : ∀ l : List α, l.flatMap (fun n => [g n]) = l.map g
  | [] => rfl
  | a :: l => by simp [flatMap_one g l]
theorem fits_ints {k : IntKind} {cs : List V} (h : Fits (.slice (.int k)) cs) : ∃ l : List Int, cs = [.fs l.length (l.map (V.int k))] ∧ l.length ≤ reachBytes ∧ ∀ a ∈ l, k.min ≤ a ∧ a ≤ k.max := by
  obtain ⟨l, h1, h2, h3⟩ := fits_slice (fun n => [V.int k n]) (fun n => k.min ≤ n ∧ n ≤ k.max) (fun cs h => by simpa only [Fits] using h) h
  exact ⟨l, by rw [h1, flatMap_one], h2, h3⟩
theorem allFit_nil {xs : List V} (h : AllFit [] xs) : xs = [] := by
  cases xs with
  | nil => rfl
  | cons x xs => exact h.elim
theorem allFit_cons {t : Ty} {ts : List Ty} {xs : List V} (h : AllFit (t :: ts) xs) : ∃ x r, xs = x :: r ∧ ArgFits t x ∧ AllFit ts r := by
  cases xs with
  | nil => exact h.elim
  | cons x xs => exact ⟨x, xs, rfl, h.1, h.2⟩
theorem argFits_one {t : Ty} {x : V} (h1 : t.one = true) (h : ArgFits t x) : Fits t [x] := by
  unfold ArgFits at h
  rwa [if_pos h1] at h
theorem argFits_int {k : IntKind} {x : V} (h : ArgFits (.int k) x) : ∃ n, x = .int k n ∧ k.min ≤ n ∧ n ≤ k.max := by
  replace h := argFits_one rfl h
  simp only [Fits] at h
  obtain ⟨n, h1, h2⟩ := h
  simp at h1
  exact ⟨n, h1, h2⟩
theorem argFits_str {x : V} (h : ArgFits .str x) : ∃ s : ByteArray, x = .str s ∧ s.size ≤ reachBytes := by
  replace h := argFits_one rfl h
  simp only [Fits] at h
  obtain ⟨n, h1, h2⟩ := h
  simp at h1
  exact ⟨n, h1, h2⟩
theorem argFits_slice {α : Type} (f : α → List V) (p : α → Prop) {e : Ty} (he : ∀ cs, Fits e cs → ∃ a, cs = f a ∧ p a) {x : V} (h : ArgFits (.slice e) x) :
    ∃ as : List α, x = .fs as.length (as.flatMap f) ∧ as.length ≤ reachBytes ∧ ∀ a ∈ as, p a := by
  replace h := argFits_one rfl h
  obtain ⟨as, h1, h2⟩ := fits_slice f p he h
  simp at h1
  exact ⟨as, h1, h2⟩
theorem argFits_ints {k : IntKind} {x : V} (h : ArgFits (.slice (.int k)) x) : ∃ l : List Int, x = .fs l.length (l.map (V.int k)) ∧ l.length ≤ reachBytes ∧ ∀ a ∈ l, k.min ≤ a ∧ a ≤ k.max := by
  replace h := argFits_one rfl h
  obtain ⟨as, h1, h2⟩ := fits_ints h
  simp at h1
  exact ⟨as, h1, h2⟩
end Go.VX
