/- Worlds and plans, plainly; areas: the walk. -/
import Derived.Test.YtinigjmfjabicaaBase
import Derived.Test.YtinigjmfjabicaaMon
import Derived.Test.YtinigjmfjabicaaVXc
namespace Go.Proofs.Ytinigjmfjabicaa
open Go Go.VX Go.RowKit
set_option linter.unusedVariables false
set_option linter.unusedSimpArgs false
set_option maxHeartbeats 20000000
set_option maxRecDepth 100000

structure Od where (id ow nd we vo fr to se : Int)
structure Tk where (id we vo st en fx ra : Int)
structure Rt where (tr : Int) (st : List Int)
structure Wd where (n : Int) (D T : List Int) (os : List Od) (ts : List Tk)
structure Pn where (rs : List Rt) (un : List Int)

abbrev Od.cells (x : Od) : List V := [.int .i64 x.id, .int .i64 x.ow, .int .i64 x.nd, .int .i64 x.we, .int .i64 x.vo, .int .i64 x.fr, .int .i64 x.to, .int .i64 x.se]
instance : Row Od := ⟨Od.cells, 8, fun _ => rfl, fun _ _ => rfl⟩
@[simp] theorem cellsOd (x : Od) : Row.cells x = Od.cells x := rfl
theorem lenOd (l : List Od) : (rowsV l).length = l.length * 8 := rowsV_length l
theorem rowOd {l : List Od} {i : Nat} {x : Od} (h : l[i]? = some x) : List.take 8 (List.drop (i * 8) (rowsV l)) = Od.cells x := rowsV_row h
theorem dropOd {l : List Od} {i : Nat} {x : Od} (h : l[i]? = some x) : List.drop (i * 8) (rowsV l) = Od.cells x ++ rowsV (l.drop (i + 1)) := rowsV_drop h
theorem snocOd (l : List Od) (x : Od) : rowsV l ++ Od.cells x = rowsV (l ++ [x]) := (rowsV_snoc l x).symm
theorem putOd {l : List Od} {i : Nat} (h : i < l.length) (y : Od) : List.take (i * 8) (rowsV l) ++ (Od.cells y ++ List.drop (i * 8 + 8) (rowsV l)) = rowsV (l.set i y) := rowsV_put h y
theorem splOd {l : List Od} {i : Nat} (h : i < l.length) (y : Od) : spl (rowsV l) (i * 8) (Od.cells y) = rowsV (l.set i y) := by
  rw [spl_eq (by rw [lenOd]; simp; omega), List.append_assoc]; exact putOd h y
theorem getOd {l : List Od} {i : Nat} {x : Od} (h : l[i]? = some x) : (rowsV l)[i * 8]? = some (.int .i64 x.id) ∧ (rowsV l)[i * 8 + 1]? = some (.int .i64 x.ow) ∧ (rowsV l)[i * 8 + 2]? = some (.int .i64 x.nd) ∧ (rowsV l)[i * 8 + 3]? = some (.int .i64 x.we) ∧ (rowsV l)[i * 8 + 4]? = some (.int .i64 x.vo) ∧ (rowsV l)[i * 8 + 5]? = some (.int .i64 x.fr) ∧ (rowsV l)[i * 8 + 6]? = some (.int .i64 x.to) ∧ (rowsV l)[i * 8 + 7]? = some (.int .i64 x.se) :=
  ⟨rowsV_get (j := 0) h (by show 0 < 8; omega), rowsV_get (j := 1) h (by show 1 < 8; omega), rowsV_get (j := 2) h (by show 2 < 8; omega), rowsV_get (j := 3) h (by show 3 < 8; omega), rowsV_get (j := 4) h (by show 4 < 8; omega), rowsV_get (j := 5) h (by show 5 < 8; omega), rowsV_get (j := 6) h (by show 6 < 8; omega), rowsV_get (j := 7) h (by show 7 < 8; omega)⟩

abbrev Tk.cells (x : Tk) : List V := [.int .i64 x.id, .int .i64 x.we, .int .i64 x.vo, .int .i64 x.st, .int .i64 x.en, .int .i64 x.fx, .int .i64 x.ra]
instance : Row Tk := ⟨Tk.cells, 7, fun _ => rfl, fun _ _ => rfl⟩
@[simp] theorem cellsTk (x : Tk) : Row.cells x = Tk.cells x := rfl
theorem lenTk (l : List Tk) : (rowsV l).length = l.length * 7 := rowsV_length l
theorem rowTk {l : List Tk} {i : Nat} {x : Tk} (h : l[i]? = some x) : List.take 7 (List.drop (i * 7) (rowsV l)) = Tk.cells x := rowsV_row h
theorem dropTk {l : List Tk} {i : Nat} {x : Tk} (h : l[i]? = some x) : List.drop (i * 7) (rowsV l) = Tk.cells x ++ rowsV (l.drop (i + 1)) := rowsV_drop h
theorem snocTk (l : List Tk) (x : Tk) : rowsV l ++ Tk.cells x = rowsV (l ++ [x]) := (rowsV_snoc l x).symm
theorem putTk {l : List Tk} {i : Nat} (h : i < l.length) (y : Tk) : List.take (i * 7) (rowsV l) ++ (Tk.cells y ++ List.drop (i * 7 + 7) (rowsV l)) = rowsV (l.set i y) := rowsV_put h y
theorem splTk {l : List Tk} {i : Nat} (h : i < l.length) (y : Tk) : spl (rowsV l) (i * 7) (Tk.cells y) = rowsV (l.set i y) := by
  rw [spl_eq (by rw [lenTk]; simp; omega), List.append_assoc]; exact putTk h y
theorem getTk {l : List Tk} {i : Nat} {x : Tk} (h : l[i]? = some x) : (rowsV l)[i * 7]? = some (.int .i64 x.id) ∧ (rowsV l)[i * 7 + 1]? = some (.int .i64 x.we) ∧ (rowsV l)[i * 7 + 2]? = some (.int .i64 x.vo) ∧ (rowsV l)[i * 7 + 3]? = some (.int .i64 x.st) ∧ (rowsV l)[i * 7 + 4]? = some (.int .i64 x.en) ∧ (rowsV l)[i * 7 + 5]? = some (.int .i64 x.fx) ∧ (rowsV l)[i * 7 + 6]? = some (.int .i64 x.ra) :=
  ⟨rowsV_get (j := 0) h (by show 0 < 7; omega), rowsV_get (j := 1) h (by show 1 < 7; omega), rowsV_get (j := 2) h (by show 2 < 7; omega), rowsV_get (j := 3) h (by show 3 < 7; omega), rowsV_get (j := 4) h (by show 4 < 7; omega), rowsV_get (j := 5) h (by show 5 < 7; omega), rowsV_get (j := 6) h (by show 6 < 7; omega)⟩

abbrev Rt.cells (x : Rt) : List V := [.int .i64 x.tr, sI x.st]
instance : Row Rt := ⟨Rt.cells, 2, fun _ => rfl, fun _ _ => rfl⟩
@[simp] theorem cellsRt (x : Rt) : Row.cells x = Rt.cells x := rfl
theorem lenRt (l : List Rt) : (rowsV l).length = l.length * 2 := rowsV_length l
theorem rowRt {l : List Rt} {i : Nat} {x : Rt} (h : l[i]? = some x) : List.take 2 (List.drop (i * 2) (rowsV l)) = Rt.cells x := rowsV_row h
theorem dropRt {l : List Rt} {i : Nat} {x : Rt} (h : l[i]? = some x) : List.drop (i * 2) (rowsV l) = Rt.cells x ++ rowsV (l.drop (i + 1)) := rowsV_drop h
theorem snocRt (l : List Rt) (x : Rt) : rowsV l ++ Rt.cells x = rowsV (l ++ [x]) := (rowsV_snoc l x).symm
theorem putRt {l : List Rt} {i : Nat} (h : i < l.length) (y : Rt) : List.take (i * 2) (rowsV l) ++ (Rt.cells y ++ List.drop (i * 2 + 2) (rowsV l)) = rowsV (l.set i y) := rowsV_put h y
theorem splRt {l : List Rt} {i : Nat} (h : i < l.length) (y : Rt) : spl (rowsV l) (i * 2) (Rt.cells y) = rowsV (l.set i y) := by
  rw [spl_eq (by rw [lenRt]; simp; omega), List.append_assoc]; exact putRt h y
theorem getRt {l : List Rt} {i : Nat} {x : Rt} (h : l[i]? = some x) : (rowsV l)[i * 2]? = some (.int .i64 x.tr) ∧ (rowsV l)[i * 2 + 1]? = some (sI x.st) :=
  ⟨rowsV_get (j := 0) h (by show 0 < 2; omega), rowsV_get (j := 1) h (by show 1 < 2; omega)⟩

abbrev odV (l : List Od) : V := .fs l.length (rowsV l)
abbrev tkV (l : List Tk) : V := .fs l.length (rowsV l)
abbrev rtV (l : List Rt) : V := .fs l.length (rowsV l)
abbrev arC (n : Int) (D T : List Int) : List V := [.int .i64 n, sI D, sI T]
abbrev Wd.c (w : Wd) : List V := [.int .i64 w.n, sI w.D, sI w.T, odV w.os, tkV w.ts]
abbrev Wd.v (w : Wd) : V := .agg w.c
abbrev Pn.c (p : Pn) : List V := [rtV p.rs, sI p.un]
abbrev Pn.v (p : Pn) : V := .agg p.c
/-- What no machine is short of. -/
abbrev BIG : Nat := 1099511627776
def legB (m : Nat) (L : List Int) : Bool := L.zipIdx.all fun q => decide (0 ≤ q.1) && (decide (q.1 ≤ 1000000) && (!decide (q.2 / m = q.2 % m) || decide (q.1 = 0)))
theorem legB_iff {m : Nat} {L : List Int} : legB m L = true ↔ ∀ (i : Nat) x, L[i]? = some x → 0 ≤ x ∧ x ≤ 1000000 ∧ (i / m = i % m → x = 0) := by
  simp only [legB, List.all_eq_true, Bool.and_eq_true, decide_eq_true_eq, Bool.or_eq_true, Bool.not_eq_true', decide_eq_false_iff_not]
  constructor
  · intro h i x hx
    obtain ⟨h1, h2, h3⟩ := h (x, i) (List.mem_iff_getElem?.2 ⟨i, by simp [List.getElem?_zipIdx, hx]⟩)
    exact ⟨h1, h2, fun e => h3.resolve_left fun k => k e⟩
  · rintro h ⟨x, i⟩ hq
    have hx : L[i]? = some x := by
      obtain ⟨j, hj⟩ := List.mem_iff_getElem?.1 hq
      rw [List.getElem?_zipIdx] at hj
      cases hl : L[j]? with
      | none => simp [hl] at hj
      | some y => simp [hl] at hj; obtain ⟨rfl, rfl⟩ := hj; exact hl
    obtain ⟨h1, h2, h3⟩ := h i x hx
    refine ⟨h1, h2, ?_⟩
    by_cases e : i / m = i % m
    · exact .inr (h3 e)
    · exact .inl e
def areaB (n : Int) (D T : List Int) : Bool := decide (1 ≤ n ∧ n ≤ 16 ∧ (D.length : Int) = n * n ∧ (T.length : Int) = n * n) && (legB n.toNat D && legB n.toNat T)
def areaE (n : Int) (D T : List Int) : Int := if areaB n D T = true then 0 else 1
theorem areaE_0 {n : Int} {D T : List Int} : areaE n D T = 0 ↔ areaB n D T = true := by
  unfold areaE; split <;> simp_all
theorem areaB_iff {n : Int} {D T : List Int} : areaB n D T = true ↔ ∃ m : Nat, n = m ∧ 1 ≤ m ∧ m ≤ 16 ∧ D.length = m * m ∧ T.length = m * m ∧ legB m D = true ∧ legB m T = true := by
  simp only [areaB, Bool.and_eq_true, decide_eq_true_eq]
  constructor
  · rintro ⟨⟨h1, h2, h3, h4⟩, h5, h6⟩
    obtain ⟨m, rfl⟩ := Int.eq_ofNat_of_zero_le (show 0 ≤ n by omega)
    exact ⟨m, rfl, by omega, by omega, by exact_mod_cast h3, by exact_mod_cast h4, h5, h6⟩
  · rintro ⟨m, rfl, h1, h2, h3, h4, h5, h6⟩
    exact ⟨⟨by omega, by omega, by exact_mod_cast h3, by exact_mod_cast h4⟩, h5, h6⟩
theorem sq16 {m : Nat} (h : m ≤ 16) : m * m ≤ 256 := Nat.mul_le_mul h h
theorem acheck_spec (n : Int) (D T : List Int) : VC P 56 [.agg (arC n D T)] [] (fun r ob' => r = .int .i64 (areaE n D T) ∧ ob' = []) := by
  refine VC_of_vwp_k ent_56 Try.func56 rfl (by simp) fun R hR => ?_
  refine vwp_sq [0] fun K1 hK1 => vwp_region hT ?_
  simp
  refine hK1 _ ?_
  try clear hK1 K1
  refine vwp_seq_k fun K2 hK2 => ?_
  refine vwp_seq_k fun K3 hK3 => ?_
  have hc : n < 1 ∨ (1 ≤ n ∧ 16 < n) ∨ ∃ m : Nat, n = m ∧ 1 ≤ m ∧ m ≤ 16 := by
    by_cases q1 : n < 1
    · exact .inl q1
    by_cases q2 : 16 < n
    · exact .inr (.inl ⟨by omega, q2⟩)
    obtain ⟨m, rfl⟩ := Int.eq_ofNat_of_zero_le (show 0 ≤ n by omega)
    exact .inr (.inr ⟨m, rfl, by omega, by omega⟩)
  rcases hc with c1 | ⟨c1, c2⟩ | ⟨m, rfl, c1, c2⟩
  · refine vwp_live [1] (vwp_region hT ?_)
    simp [c1]
    refine hK3 _ ?_
    try clear hK3 K3
    refine vwp_cond (by first | rfl | (simp; rfl)) (fun h1 => ?_) fun h1 => ?_
    · simp -failIfUnchanged at h1; all_goals
     refine vwp_sq [] fun K4 hK4 => vwp_region hT ?_
     simp
     refine hK4 _ ?_
     try clear hK4 K4
     refine vwp_ret (hR _ _ ?_)
     have hw : areaE n D T = 1 := by
       rw [areaE, if_neg]
       intro q
       obtain ⟨m', q0, q1, q2, q3, q4, q5, q6⟩ := areaB_iff.1 q
       omega
     rw [hw]
     exact ret_k [2] [] ([]) (.int .i64 1) (⟨rfl, rfl⟩)
    · simp -failIfUnchanged at h1; all_goals
     refine vwp_skip ?_
     refine hK2 _ ?_
     try clear hK2 K2
     refine vwp_seq_k fun K5 hK5 => ?_
     refine vwp_seq_k fun K6 hK6 => ?_
     simp_all
  · have c3 : ¬ n < 1 := by omega
    refine vwp_live [1] (vwp_region hT ?_)
    simp [c2, c3]
    refine hK3 _ ?_
    try clear hK3 K3
    refine vwp_cond (by first | rfl | (simp; rfl)) (fun h2 => ?_) fun h2 => ?_
    · simp -failIfUnchanged at h2; all_goals
     refine vwp_sq [] fun K7 hK7 => vwp_region hT ?_
     simp
     refine hK7 _ ?_
     try clear hK7 K7
     refine vwp_ret (hR _ _ ?_)
     have hw : areaE n D T = 1 := by
       rw [areaE, if_neg]
       intro q
       obtain ⟨m', q0, q1, q2, q3, q4, q5, q6⟩ := areaB_iff.1 q
       omega
     rw [hw]
     exact ret_k [2] [] ([]) (.int .i64 1) (⟨rfl, rfl⟩)
    · simp -failIfUnchanged at h2; all_goals
     refine vwp_skip ?_
     refine hK2 _ ?_
     try clear hK2 K2
     refine vwp_seq_k fun K8 hK8 => ?_
     refine vwp_seq_k fun K9 hK9 => ?_
     simp_all
  · have c3 : ¬ (m : Int) < 1 := by omega
    have c4 : ¬ (16 : Int) < m := by omega
    have c5 := sq16 c2
    have w2 : IntKind.i64.wrap ((m : Int) * m) = ((m * m : Nat) : Int) := (w64 (by omega) (by omega)).trans (by omega)
    obtain ⟨mm, hmm⟩ : ∃ mm, mm = m * m := ⟨_, rfl⟩
    rw [← hmm] at w2 c5
    refine vwp_live [1] (vwp_region hT ?_)
    simp [c3, c4, w2]
    refine hK3 _ ?_
    try clear hK3 K3
    refine vwp_cond (by first | rfl | (simp; rfl)) (fun h3 => ?_) fun h3 => ?_
    · simp -failIfUnchanged at h3; all_goals
     refine vwp_sq [] fun K10 hK10 => vwp_region hT ?_
     simp
     refine hK10 _ ?_
     try clear hK10 K10
     refine vwp_ret (hR _ _ ?_)
     have hw : areaE (m : Int) D T = 1 := by
       rw [areaE, if_neg]
       intro q
       obtain ⟨m', q0, q1, q2, q3, q4, q5, q6⟩ := areaB_iff.1 q
       obtain rfl : m = m' := by omega
       rw [← hmm] at q3 q4
       simp_all
     rw [hw]
     exact ret_k [2] [] ([]) (.int .i64 1) (⟨rfl, rfl⟩)
    · simp -failIfUnchanged at h3; all_goals
     have q := h3
     have dD : D.length = mm := by omega
     have dT : T.length = mm := by omega
     refine vwp_skip ?_
     refine hK2 _ ?_
     try clear hK2 K2
     refine vwp_seq_k fun K11 hK11 => ?_
     refine vwp_sq [1] fun K12 hK12 => vwp_region hT ?_
     simp
     refine hK12 _ ?_
     try clear hK12 K12
     refine vwp_block ?_
     refine vwp_loop_s (fun k : Nat => ⟨[(1, .ptr 0 3 0), (41, .agg [sI D, sI T]), (42, .int .i64 (k : Int))], [.live (arC (m : Int) D T)]⟩) (fun k => k ≤ 2 ∧ ∀ j L, j < k → [D, T][j]? = some L → legB m L = true) (fun k => 2 - k) (0) (Gh.to_k [1, 41, 42] [0]) (⟨by omega, fun j L hj _ => by omega⟩) ?_
     rintro k ⟨hk, hkl⟩
     intro K13 hK13
     refine vwp_sq [1, 41, 42] fun K14 hK14 => vwp_region hT ?_
     simp
     refine hK14 _ ?_
     try clear hK14 K14
     refine vwp_seq_k fun K15 hK15 => ?_
     refine vwp_cond (by first | rfl | (simp; rfl)) (fun h4 => ?_) fun h4 => ?_
     · simp -failIfUnchanged at h4; all_goals
      refine vwp_skip ?_
      refine hK15 _ ?_
      try clear hK15 K15
      refine vwp_seq_k fun K16 hK16 => ?_
      refine vwp_block ?_
      obtain ⟨L, hL, hLm, hi5⟩ : ∃ L, [D, T][k]? = some L ∧ L.length = mm ∧ [sI D, sI T][k]?.getD V.junk = sI L := by
        have : k = 0 ∨ k = 1 := by omega
        rcases this with rfl | rfl
        · exact ⟨D, rfl, dD, rfl⟩
        · exact ⟨T, rfl, dT, rfl⟩
      refine vwp_sq [1, 41, 42] fun K17 hK17 => vwp_region hT ?_
      simp [hi5]
      repeat refine ⟨by first | assumption | omega | (intros; omega), ?_⟩
      refine hK17 _ ?_
      try clear hK17 K17
      refine vwp_sq [1, 4, 41, 42] fun K18 hK18 => vwp_region hT ?_
      simp
      refine hK18 _ ?_
      try clear hK18 K18
      refine vwp_block ?_
      refine vwp_loop_s (fun i : Nat => ⟨[(1, .ptr 0 3 0), (41, .agg [sI D, sI T]), (42, .int .i64 (k : Int)), (45, sI L), (46, .int .i64 L.length), (47, .int .i64 (i : Int))], [.live (arC (m : Int) D T)]⟩) (fun i => i ≤ L.length ∧ ∀ (j : Nat) x, j < i → L[j]? = some x → 0 ≤ x ∧ x ≤ 1000000 ∧ (j / m = j % m → x = 0)) (fun i => L.length - i) (0) (Gh.to_k [1, 41, 42, 45, 46, 47] [0]) (⟨by omega, fun j x hj _ => by omega⟩) ?_
      rintro i ⟨hi, hil⟩
      intro K19 hK19
      refine vwp_sq [1, 41, 42, 45, 46, 47] fun K20 hK20 => vwp_region hT ?_
      simp
      refine hK20 _ ?_
      try clear hK20 K20
      refine vwp_seq_k fun K21 hK21 => ?_
      refine vwp_cond (by first | rfl | (simp; rfl)) (fun h5 => ?_) fun h5 => ?_
      · simp -failIfUnchanged at h5; all_goals
       obtain ⟨x, hx⟩ := getI (l := L) (i := i) (by omega)
       refine vwp_skip ?_
       refine hK21 _ ?_
       try clear hK21 K21
       refine vwp_seq_k fun K22 hK22 => ?_
       refine vwp_block ?_
       refine vwp_sq [1, 41, 42, 45, 46, 47] fun K23 hK23 => vwp_region hT ?_
       simp [hx]
       repeat refine ⟨by first | assumption | omega | (intros; omega), ?_⟩
       refine hK23 _ ?_
       try clear hK23 K23
       have t1 : (i : Int).tdiv m = ((i / m : Nat) : Int) := by rw [Int.tdiv_eq_ediv_of_nonneg (by omega)]; exact (Int.natCast_ediv i m).symm
       have t2 : (i : Int).tmod m = ((i % m : Nat) : Int) := by rw [Int.tmod_eq_emod_of_nonneg (by omega)]; exact (Int.natCast_emod i m).symm
       have t3 : i / m ≤ i := Nat.div_le_self i m
       have t4 : i % m ≤ i := Nat.mod_le i m
       obtain ⟨qd, hqd⟩ : ∃ qd, qd = i / m := ⟨_, rfl⟩
       obtain ⟨qm, hqm⟩ : ∃ qm, qm = i % m := ⟨_, rfl⟩
       rw [← hqd] at t1 t3
       rw [← hqm] at t2 t4
       have t5 : IntKind.i64.wrap (qd : Int) = (qd : Int) := w64 (by omega) (by omega)
       have t6 : IntKind.i64.wrap (qm : Int) = (qm : Int) := w64 (by omega) (by omega)
       refine vwp_sq [1, 5, 6, 41, 42, 45, 46, 47] fun K24 hK24 => vwp_still hT hm (by kernel_rfl) ?_
       simp [t1, t2, t5, t6]
       repeat refine ⟨by first | assumption | omega | (intros; omega), ?_⟩
       refine hK24 _ ?_
       try clear hK24 K24
       refine vwp_cond (by first | rfl | (simp; rfl)) (fun h6 => ?_) fun h6 => ?_
       · simp -failIfUnchanged at h6; all_goals
        have q := h6
        have hbad : ¬ (0 ≤ x ∧ x ≤ 1000000 ∧ (i / m = i % m → x = 0)) := by
          rw [← hqd, ← hqm]
          rintro ⟨b1, b2, b3⟩
          omega
        refine vwp_sq [] fun K25 hK25 => vwp_region hT ?_
        simp
        refine hK25 _ ?_
        try clear hK25 K25
        refine vwp_ret (hR _ _ ?_)
        have hw : areaE (m : Int) D T = 1 := by
          rw [areaE, if_neg]
          intro q
          obtain ⟨m', q0, q1, q2, q3, q4, q5, q6⟩ := areaB_iff.1 q
          obtain rfl : m = m' := by omega
          have hlL : legB m L = true := by
            have : k = 0 ∨ k = 1 := by omega
            rcases this with rfl | rfl
            · cases hL; exact q5
            · cases hL; exact q6
          exact hbad (legB_iff.1 hlL i x hx)
        rw [hw]
        exact ret_k [2] [] ([]) (.int .i64 1) (⟨rfl, rfl⟩)
       · simp -failIfUnchanged at h6; all_goals
        have q := h6
        have hxx : 0 ≤ x ∧ x ≤ 1000000 ∧ (i / m = i % m → x = 0) := by
          rw [← hqd, ← hqm]
          omega
        refine vwp_skip ?_
        refine hK22 _ ?_
        try clear hK22 K22
        have w1 : IntKind.i64.wrap ((i : Int) + 1) = i + 1 := w64 (by omega) (by omega)
        refine vwp_live [1, 41, 42, 45, 46, 47] (vwp_region hT ?_)
        simp [w1]
        exact hK19 (i + 1) _ (Gh.to_k [1, 41, 42, 45, 46, 47] [0]) (⟨by omega, fun j y hj hy => by
            rcases Nat.lt_or_ge j i with q | q
            · exact hil j y q hy
            · obtain rfl : j = i := by omega
              rw [hx] at hy; cases hy; exact hxx⟩) (by omega)
      · simp -failIfUnchanged at h5; all_goals
       have hll : legB m L = true := legB_iff.2 fun j x hx => hil j x (by have := (List.getElem?_eq_some_iff.1 hx).1; omega) hx
       refine vwp_exit ?_
       simp only [inBlk, thenQ, if_true]
       refine hK16 _ ?_
       try clear hK16 K16
       have w1 : IntKind.i64.wrap ((k : Int) + 1) = k + 1 := w64 (by omega) (by omega)
       refine vwp_live [1, 41, 42] (vwp_region hT ?_)
       simp [w1]
       exact hK13 (k + 1) _ (Gh.to_k [1, 41, 42] [0]) (⟨by omega, fun j L2 hj hL2 => by
           rcases Nat.lt_or_ge j k with q | q
           · exact hkl j L2 q hL2
           · obtain rfl : j = k := by omega
             rw [hL] at hL2; cases hL2; exact hll⟩) (by omega)
     · simp -failIfUnchanged at h4; all_goals
      refine vwp_exit ?_
      simp only [inBlk, thenQ, if_true]
      refine hK11 _ ?_
      try clear hK11 K11
      refine vwp_sq [] fun K26 hK26 => vwp_region hT ?_
      simp
      refine hK26 _ ?_
      try clear hK26 K26
      refine vwp_ret (hR _ _ ?_)
      have hw : areaE (m : Int) D T = 0 := by
        exact areaE_0.2 (areaB_iff.2 ⟨m, rfl, c1, c2, by rw [dD, hmm], by rw [dT, hmm], hkl 0 D (by omega) rfl, hkl 1 T (by omega) rfl⟩)
      rw [hw]
      exact ret_k [2] [] ([]) (.int .i64 0) (⟨rfl, rfl⟩)
end Go.Proofs.Ytinigjmfjabicaa
