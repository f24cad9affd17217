/- Orders, trucks and worlds that may be: the walk. -/
import Derived.Test.YtinigjmfjabicaaPlD
namespace Go.Proofs.Ytinigjmfjabicaa
open Go Go.VX Go.RowKit
set_option linter.unusedVariables false
set_option linter.unusedSimpArgs false
set_option maxHeartbeats 20000000
set_option maxRecDepth 100000

structure Sp where (n lo hi : Int)
def Sp.ok (s : Sp) : Bool := decide (s.lo ≤ s.n) && decide (s.n ≤ s.hi)

abbrev Sp.cells (x : Sp) : List V := [.int .i64 x.n, .int .i64 x.lo, .int .i64 x.hi]
instance : Row Sp := ⟨Sp.cells, 3, fun _ => rfl, fun _ _ => rfl⟩
@[simp] theorem cellsSp (x : Sp) : Row.cells x = Sp.cells x := rfl
theorem lenSp (l : List Sp) : (rowsV l).length = l.length * 3 := rowsV_length l
theorem rowSp {l : List Sp} {i : Nat} {x : Sp} (h : l[i]? = some x) : List.take 3 (List.drop (i * 3) (rowsV l)) = Sp.cells x := rowsV_row h
theorem dropSp {l : List Sp} {i : Nat} {x : Sp} (h : l[i]? = some x) : List.drop (i * 3) (rowsV l) = Sp.cells x ++ rowsV (l.drop (i + 1)) := rowsV_drop h
theorem snocSp (l : List Sp) (x : Sp) : rowsV l ++ Sp.cells x = rowsV (l ++ [x]) := (rowsV_snoc l x).symm
theorem putSp {l : List Sp} {i : Nat} (h : i < l.length) (y : Sp) : List.take (i * 3) (rowsV l) ++ (Sp.cells y ++ List.drop (i * 3 + 3) (rowsV l)) = rowsV (l.set i y) := rowsV_put h y
theorem splSp {l : List Sp} {i : Nat} (h : i < l.length) (y : Sp) : spl (rowsV l) (i * 3) (Sp.cells y) = rowsV (l.set i y) := by
  rw [spl_eq (by rw [lenSp]; simp; omega), List.append_assoc]; exact putSp h y
theorem getSp {l : List Sp} {i : Nat} {x : Sp} (h : l[i]? = some x) : (rowsV l)[i * 3]? = some (.int .i64 x.n) ∧ (rowsV l)[i * 3 + 1]? = some (.int .i64 x.lo) ∧ (rowsV l)[i * 3 + 2]? = some (.int .i64 x.hi) :=
  ⟨rowsV_get (j := 0) h (by show 0 < 3; omega), rowsV_get (j := 1) h (by show 1 < 3; omega), rowsV_get (j := 2) h (by show 2 < 3; omega)⟩
theorem within1_spec (s : Sp) : VC P 120 [.agg (Sp.cells s)] [] (fun r ob' => r = .bool (!s.ok) ∧ ob' = []) := by
  refine VC_of_vwp_k ent_120 Try.func120 rfl (by simp) fun R hR => ?_
  refine vwp_sq [0] fun K1 hK1 => vwp_region hT ?_
  simp
  refine hK1 _ ?_
  try clear hK1 K1
  refine vwp_sq [1] fun K2 hK2 => vwp_region hT ?_
  simp
  refine hK2 _ ?_
  try clear hK2 K2
  refine vwp_ret (hR _ _ ?_)
  exact ret_k [2] [] ([]) (.bool (!s.ok)) (⟨rfl, rfl⟩) (hr := by simp [Sp.ok]; grind)
theorem indexSp_spec (l : List Sp) (hl : l.length < 1099511627776)  : VC P 127 [.fs l.length (rowsV l), .fn 120 []] [] (fun r ob' => r = .int .i64 (oI (l.findIdx? fun s => !s.ok)) ∧ ob' = []) := by
  refine VC_of_vwp_k ent_127 Try.func127 rfl (by simp) fun R hR => ?_
  refine vwp_sq [0, 1] fun K1 hK1 => vwp_region hT ?_
  simp
  refine hK1 _ ?_
  try clear hK1 K1
  refine vwp_seq_k fun K2 hK2 => ?_
  refine vwp_sq [0, 1] fun K3 hK3 => vwp_region hT ?_
  simp
  refine hK3 _ ?_
  try clear hK3 K3
  refine vwp_block ?_
  refine vwp_loop_s (fun i : Nat => ⟨[(0, .fs l.length (rowsV l)), (1, .fn 120 []), (7, .int .i64 l.length), (8, .int .i64 (i : Int))], []⟩) (fun i => i ≤ l.length ∧ ∀ (j : Nat) s, j < i → l[j]? = some s → (!s.ok) = false) (fun i => l.length - i) (0) (Gh.to_k [0, 1, 7, 8] []) (⟨by omega, fun j s hj _ => by omega⟩) ?_
  rintro i ⟨hi, hno⟩
  intro K4 hK4
  refine vwp_sq [0, 1, 7, 8] fun K5 hK5 => vwp_region hT ?_
  simp
  refine hK5 _ ?_
  try clear hK5 K5
  refine vwp_seq_k fun K6 hK6 => ?_
  refine vwp_cond (by first | rfl | (simp; rfl)) (fun h1 => ?_) fun h1 => ?_
  · simp -failIfUnchanged at h1; all_goals
   refine vwp_skip ?_
   refine hK6 _ ?_
   try clear hK6 K6
   refine vwp_seq_k fun K7 hK7 => ?_
   refine vwp_block ?_
   refine vwp_sq [0, 1, 7, 8] fun K8 hK8 => vwp_region hT ?_
   simp
   refine hK8 _ ?_
   try clear hK8 K8
   obtain ⟨s, hs⟩ := getI (l := l) (i := i) (by omega)
   have hrow := rowSp hs
   have hlen := lenSp l
   refine vwp_sq [0, 1, 5, 7, 8] fun K9 hK9 => vwp_region hT ?_
   simp [hrow, hlen]
   repeat refine ⟨by first | assumption | omega | (intros; omega), ?_⟩
   refine vcall_k [] (within1_spec s) ?_
   rintro r ob' ⟨rfl, rfl⟩
   simp [hrow, hlen]
   repeat refine ⟨by first | assumption | omega | (intros; omega), ?_⟩
   refine hK9 _ ?_
   try clear hK9 K9
   refine vwp_cond (by first | rfl | (simp; rfl)) (fun h2 => ?_) fun h2 => ?_
   · simp -failIfUnchanged at h2; all_goals
    have q := h2
    have hp : (!s.ok) = true := by simpa using q
    have hfi := findIdx_some (p := fun s => !s.ok) hs hp fun j y hj hy => hno j y hj hy
    refine vwp_sq [5] fun K10 hK10 => vwp_region hT ?_
    simp
    refine hK10 _ ?_
    try clear hK10 K10
    refine vwp_ret (hR _ _ ?_)
    rw [hfi]
    exact ret_k [4] [] ([]) (.int .i64 (oI (some i))) (⟨rfl, rfl⟩) (hr := by simp [oI])
   · simp -failIfUnchanged at h2; all_goals
    have q := h2
    have hp : (!s.ok) = false := by simpa using q
    refine vwp_skip ?_
    refine hK7 _ ?_
    try clear hK7 K7
    have w1 : IntKind.i64.wrap ((i : Int) + 1) = i + 1 := w64 (by omega) (by omega)
    refine vwp_live [0, 1, 7, 8] (vwp_region hT ?_)
    simp [w1]
    exact hK4 (i + 1) _ (Gh.to_k [0, 1, 7, 8] []) (⟨by omega, fun j y hj hy => by
        rcases Nat.lt_or_ge j i with q | q
        · exact hno j y q hy
        · obtain rfl : j = i := by omega
          rw [hs] at hy; cases hy; exact hp⟩) (by omega)
  · simp -failIfUnchanged at h1; all_goals
   refine vwp_exit ?_
   simp only [inBlk, thenQ, if_true]
   refine hK2 _ ?_
   try clear hK2 K2
   refine vwp_sq [] fun K11 hK11 => vwp_region hT ?_
   simp
   refine hK11 _ ?_
   try clear hK11 K11
   refine vwp_ret (hR _ _ ?_)
   have hfi := findIdx_none (p := fun s => !s.ok) (l := l) fun j y hj hy => hno j y (by omega) hy
   rw [hfi]
   exact ret_k [4] [] ([]) (.int .i64 (oI none)) (⟨rfl, rfl⟩) (hr := by simp [oI])

theorem oI_ge {α : Type} {l : List α} {p : α → Bool} : (0 ≤ oI (l.findIdx? p)) ↔ l.any p = true := by
  rcases h : l.findIdx? p with _ | i
  · rw [List.findIdx?_eq_none_iff] at h
    constructor
    · intro q; simp [oI] at q
    · intro q
      obtain ⟨x, hx, hp⟩ := List.any_eq_true.1 q
      simp [h x hx] at hp
  · have := List.findIdx?_eq_some_iff_getElem.1 h
    obtain ⟨h1, h2, _⟩ := this
    constructor
    · intro _; exact List.any_eq_true.2 ⟨_, List.getElem_mem h1, h2⟩
    · intro _; simp [oI]
theorem containsSp_spec (l : List Sp) (hl : l.length < 1099511627776) : VC P 119 [.fs l.length (rowsV l), .fn 120 []] [] (fun r ob' => r = .bool (l.any fun s => !s.ok) ∧ ob' = []) := by
  refine VC_of_vwp_k ent_119 Try.func119 rfl (by simp) fun R hR => ?_
  refine vwp_sq [0, 1] fun K1 hK1 => vwp_region hT ?_
  simp
  refine hK1 _ ?_
  try clear hK1 K1
  refine vwp_sq [0, 1] fun K2 hK2 => vwp_region hT ?_
  simp
  refine vcall_k [] (indexSp_spec l hl) ?_
  rintro r ob' ⟨rfl, rfl⟩
  simp
  refine hK2 _ ?_
  try clear hK2 K2
  refine vwp_ret (hR _ _ ?_)
  exact ret_k [4] [] ([]) (.bool (l.any fun s => !s.ok)) (⟨rfl, rfl⟩) (hr := by simp; rw [Bool.eq_iff_iff, decide_eq_true_eq]; exact oI_ge)

def okE (b : Bool) : Int := if b = true then 0 else 1
theorem any_not {l : List Sp} : (l.any fun s => !s.ok) = !l.all Sp.ok := by
  induction l with
  | nil => rfl
  | cons x l ih => simp [List.any_cons, List.all_cons, ih]
theorem withinS_spec (l : List Sp) (hl : l.length < 1099511627776) : VC P 106 [.fs l.length (rowsV l)] [] (fun r ob' => r = .int .i64 (okE (l.all Sp.ok)) ∧ ob' = []) := by
  refine VC_of_vwp_k ent_106 Try.func106 rfl (by simp) fun R hR => ?_
  refine vwp_sq [0] fun K1 hK1 => vwp_region hT ?_
  simp
  refine hK1 _ ?_
  try clear hK1 K1
  refine vwp_seq_k fun K2 hK2 => ?_
  have ha := any_not (l := l)
  refine vwp_sq [0] fun K3 hK3 => vwp_region hT ?_
  simp [ha]
  refine vcall_k [] (containsSp_spec l hl) ?_
  rintro r ob' ⟨rfl, rfl⟩
  simp [ha]
  refine hK3 _ ?_
  try clear hK3 K3
  refine vwp_cond (by first | rfl | (simp; rfl)) (fun h1 => ?_) fun h1 => ?_
  · simp -failIfUnchanged at h1; all_goals
   have q := h1
   have q2 : l.all Sp.ok = false := by simpa using q
   refine vwp_sq [] fun K4 hK4 => vwp_region hT ?_
   simp
   refine hK4 _ ?_
   try clear hK4 K4
   refine vwp_ret (hR _ _ ?_)
   rw [q2]
   exact ret_k [2] [] ([]) (.int .i64 1) (⟨rfl, rfl⟩)
  · simp -failIfUnchanged at h1; all_goals
   have q := h1
   have q2 : l.all Sp.ok = true := by simpa using q
   refine vwp_skip ?_
   refine hK2 _ ?_
   try clear hK2 K2
   refine vwp_sq [] fun K5 hK5 => vwp_region hT ?_
   simp
   refine hK5 _ ?_
   try clear hK5 K5
   refine vwp_ret (hR _ _ ?_)
   rw [q2]
   exact ret_k [2] [] ([]) (.int .i64 0) (⟨rfl, rfl⟩)

def ordL (n : Int) (o : Od) : List Sp := [⟨o.id, 1, 1000000⟩, ⟨o.ow, 0, 31⟩, ⟨o.nd, 1, n - 1⟩, ⟨o.we, 1, 1000000⟩, ⟨o.vo, 1, 1000000⟩, ⟨o.fr, 0, o.to⟩, ⟨o.to, 0, 1000000⟩, ⟨o.se, 0, 10000⟩]
def trkL (t : Tk) : List Sp := [⟨t.id, 1, 1000000⟩, ⟨t.we, 1, 1000000⟩, ⟨t.vo, 1, 1000000⟩, ⟨t.st, 0, t.en⟩, ⟨t.en, 0, 1000000⟩, ⟨t.fx, 0, 1000000⟩, ⟨t.ra, 0, 1000⟩]
def ordB (n : Int) (o : Od) : Bool := decide (1 ≤ o.id ∧ o.id ≤ 1000000 ∧ 0 ≤ o.ow ∧ o.ow ≤ 31 ∧ 1 ≤ o.nd ∧ o.nd ≤ n - 1 ∧ 1 ≤ o.we ∧ o.we ≤ 1000000 ∧ 1 ≤ o.vo ∧ o.vo ≤ 1000000 ∧ 0 ≤ o.fr ∧ o.fr ≤ o.to ∧ 0 ≤ o.to ∧ o.to ≤ 1000000 ∧ 0 ≤ o.se ∧ o.se ≤ 10000)
def trkB (t : Tk) : Bool := decide (1 ≤ t.id ∧ t.id ≤ 1000000 ∧ 1 ≤ t.we ∧ t.we ≤ 1000000 ∧ 1 ≤ t.vo ∧ t.vo ≤ 1000000 ∧ 0 ≤ t.st ∧ t.st ≤ t.en ∧ 0 ≤ t.en ∧ t.en ≤ 1000000 ∧ 0 ≤ t.fx ∧ t.fx ≤ 1000000 ∧ 0 ≤ t.ra ∧ t.ra ≤ 1000)
theorem ordL_all (n : Int) (o : Od) : (ordL n o).all Sp.ok = ordB n o := by
  simp [ordL, ordB, Sp.ok]; grind
theorem trkL_all (t : Tk) : (trkL t).all Sp.ok = trkB t := by
  simp [trkL, trkB, Sp.ok]; grind
theorem order_spec (n : Int) (hn : 1 ≤ n ∧ n ≤ 16) (o : Od) : VC P 85 [.agg (Od.cells o), .int .i64 n] [] (fun r ob' => r = .int .i64 (okE (ordB n o)) ∧ ob' = []) := by
  refine VC_of_vwp_k ent_85 Try.func85 rfl (by simp) fun R hR => ?_
  refine vwp_sq [0, 1] fun K1 hK1 => vwp_region hT ?_
  simp
  refine hK1 _ ?_
  try clear hK1 K1
  have wn : IntKind.i64.wrap (n - 1) = n - 1 := w64 (by omega) (by omega)
  refine vwp_sq [1, 2] fun K2 hK2 => vwp_region hT ?_
  simp [wn, zerosV, spl]
  refine vcall_z [] (withinS_spec (ordL n o) (by simp [ordL])) (by rintro r ob' ⟨rfl, rfl⟩; simp) ?_ (ha := by simp [ordL, rowsV])
  rintro r ob' ⟨rfl, rfl⟩
  simp [wn, zerosV, spl]
  refine hK2 _ ?_
  try clear hK2 K2
  refine vwp_ret (hR _ _ ?_)
  rw [← ordL_all]
  exact ret_k [4] [] ([]) (.int .i64 (okE ((ordL n o).all Sp.ok))) (⟨rfl, rfl⟩)
theorem truck_spec (t : Tk) : VC P 87 [.agg (Tk.cells t)] [] (fun r ob' => r = .int .i64 (okE (trkB t)) ∧ ob' = []) := by
  refine VC_of_vwp_k ent_87 Try.func87 rfl (by simp) fun R hR => ?_
  refine vwp_sq [0] fun K1 hK1 => vwp_region hT ?_
  simp
  refine hK1 _ ?_
  try clear hK1 K1
  refine vwp_sq [1] fun K2 hK2 => vwp_region hT ?_
  simp [zerosV, spl]
  refine vcall_z [] (withinS_spec (trkL t) (by simp [trkL])) (by rintro r ob' ⟨rfl, rfl⟩; simp) ?_ (ha := by simp [trkL, rowsV])
  rintro r ob' ⟨rfl, rfl⟩
  simp [zerosV, spl]
  refine hK2 _ ?_
  try clear hK2 K2
  refine vwp_ret (hR _ _ ?_)
  rw [← trkL_all]
  exact ret_k [2] [] ([]) (.int .i64 (okE ((trkL t).all Sp.ok))) (⟨rfl, rfl⟩)
end Go.Proofs.Ytinigjmfjabicaa
