/- The least of some; a bound's parts: the walk. -/
import Derived.Test.YtinigjmfjabicaaPlT
import Derived.Test.YtinigjmfjabicaaSums
namespace Go.Proofs.Ytinigjmfjabicaa
open Go Go.VX Go.RowKit
set_option linter.unusedVariables false
set_option linter.unusedSimpArgs false
set_option maxHeartbeats 20000000
set_option maxRecDepth 100000

def mn (a b : Int) : Int := if b < a then b else a
/-- The least of some numbers; 0 of none. -/
def lea : List Int → Int
  | [] => 0
  | x :: l => l.foldl mn x
theorem lea_snoc : ∀ {l : List Int} {x : Int}, l ≠ [] → lea (l ++ [x]) = if x < lea l then x else lea l
  | [], x, h => absurd rfl h
  | a :: l, x, _ => by simp only [lea, List.cons_append, List.foldl_append, List.foldl_cons, List.foldl_nil]; rfl
theorem lea_one (x : Int) : lea [x] = x := rfl
theorem fold_le : ∀ (l : List Int) (a x : Int), x ≤ l.foldl mn a ↔ x ≤ a ∧ ∀ y ∈ l, x ≤ y
  | [], a, x => by simp
  | b :: l, a, x => by
    simp only [List.foldl_cons, fold_le l, List.mem_cons, forall_eq_or_imp, mn]
    split
    · constructor
      · rintro ⟨h1, h2⟩; exact ⟨by omega, h1, h2⟩
      · rintro ⟨h1, h2, h3⟩; exact ⟨h2, h3⟩
    · constructor
      · rintro ⟨h1, h2⟩; exact ⟨h1, by omega, h2⟩
      · rintro ⟨h1, h2, h3⟩; exact ⟨h1, h3⟩
theorem le_lea {l : List Int} (h : l ≠ []) {x : Int} : x ≤ lea l ↔ ∀ y ∈ l, x ≤ y := by
  cases l with
  | nil => exact absurd rfl h
  | cons a l => simp [lea, fold_le]
theorem fold_mem : ∀ (l : List Int) (a : Int), l.foldl mn a = a ∨ l.foldl mn a ∈ l
  | [], a => by simp
  | b :: l, a => by
    simp only [List.foldl_cons]
    rcases fold_mem l (mn a b) with h | h
    · rw [h]; unfold mn; split <;> simp
    · exact .inr (by simp [h])
theorem lea_mem {l : List Int} (h : l ≠ []) : lea l ∈ l := by
  cases l with
  | nil => exact absurd rfl h
  | cons a l => rcases fold_mem l a with q | q <;> simp [lea, q]
theorem lea_bounds {l : List Int} {m : Int} (hm1 : 0 ≤ m) (h : ∀ n ∈ l, 0 ≤ n ∧ n ≤ m) : 0 ≤ lea l ∧ lea l ≤ m := by
  by_cases e : l = []
  · subst e; simp [lea, hm1]
  · exact h _ (lea_mem e)
theorem mkra (t : Tk) : VC P 45 [.agg (Tk.cells t)] [] (fun r ob' => r = .int .i64 t.ra ∧ ob' = []) := by
  refine VC_of_vwp_k ent_45 Try.func45 rfl (by simp) fun R hR => ?_
  refine vwp_sq [0] fun K1 hK1 => vwp_region hT ?_
  simp
  refine hK1 _ ?_
  try clear hK1 K1
  refine vwp_sq [1] fun K2 hK2 => vwp_region hT ?_
  simp
  refine hK2 _ ?_
  try clear hK2 K2
  refine vwp_ret (hR _ _ ?_)
  exact ret_k [2] [] ([]) (.int .i64 t.ra) (⟨rfl, rfl⟩)
theorem least_ra (l : List Tk) (hl : l.length < 1099511627776)  : VC P 44 [.fs l.length (rowsV l), .fn 45 []] [] (fun r ob' => r = .int .i64 (lea (l.map fun s => s.ra)) ∧ ob' = []) := by
  refine VC_of_vwp_k ent_44 Try.func44 rfl (by simp) fun R hR => ?_
  refine vwp_sq [0, 1] fun K1 hK1 => vwp_region hT ?_
  simp
  refine hK1 _ ?_
  try clear hK1 K1
  refine vwp_sq [0, 1] fun K2 hK2 => vwp_region hT ?_
  simp
  refine hK2 _ ?_
  try clear hK2 K2
  refine vwp_seq_k fun K3 hK3 => ?_
  refine vwp_sq [0, 1, 5] fun K4 hK4 => vwp_region hT ?_
  simp
  refine hK4 _ ?_
  try clear hK4 K4
  refine vwp_block ?_
  refine vwp_loop_s (fun i : Nat => ⟨[(1, .fn 45 []), (5, .int .i64 (lea ((l.map fun s => s.ra).take i))), (9, .fs l.length (rowsV l)), (10, .int .i64 l.length), (11, .int .i64 (i : Int))], []⟩) (fun i => i ≤ l.length) (fun i => l.length - i) (0) (Gh.to_k [1, 5, 9, 10, 11] [] (he := by simp [lea])) (by omega) ?_
  rintro i hi
  intro K5 hK5
  refine vwp_sq [1, 5, 9, 10, 11] fun K6 hK6 => vwp_region hT ?_
  simp
  refine hK6 _ ?_
  try clear hK6 K6
  refine vwp_seq_k fun K7 hK7 => ?_
  refine vwp_cond (by first | rfl | (simp; rfl)) (fun h1 => ?_) fun h1 => ?_
  · simp -failIfUnchanged at h1; all_goals
   refine vwp_skip ?_
   refine hK7 _ ?_
   try clear hK7 K7
   refine vwp_seq_k fun K8 hK8 => ?_
   refine vwp_block ?_
   obtain ⟨s, hs⟩ := getI (l := l) (i := i) (by omega)
   have hrow := rowTk hs
   have hlen := lenTk l
   have htk : (l.map fun s => s.ra).take (i + 1) = (l.map fun s => s.ra).take i ++ [s.ra] := take_snoc (by simp [hs])
   have hmem := List.mem_of_getElem? hs
   refine vwp_sq [1, 5, 9, 10, 11] fun K9 hK9 => vwp_region hT ?_
   simp [hrow, hlen]
   repeat refine ⟨by first | assumption | omega | (intros; omega), ?_⟩
   refine hK9 _ ?_
   try clear hK9 K9
   refine vwp_sq [1, 5, 6, 7, 9, 10, 11] fun K10 hK10 => vwp_region hT ?_
   simp
   refine vcall_k [] (mkra s) ?_
   rintro r ob' ⟨rfl, rfl⟩
   simp
   refine hK10 _ ?_
   try clear hK10 K10
   refine vwp_seq_k fun K11 hK11 => ?_
   rcases Nat.eq_zero_or_pos i with hi0 | hi0
   · have hi1 : (i : Int) = 0 := by omega
     have hnew : lea ((l.map fun s => s.ra).take (i + 1)) = s.ra := by rw [htk, hi0]; simp [lea]
     refine vwp_live [1, 5, 6, 8, 9, 10, 11] (vwp_region hT ?_)
     simp [hi1]
     refine hK11 _ ?_
     try clear hK11 K11
     refine vwp_cond (by first | rfl | (simp; rfl)) (fun h2 => ?_) fun h2 => ?_
     · simp -failIfUnchanged at h2; all_goals
      refine vwp_live [1, 8, 9, 10, 11] (vwp_region hT ?_)
      simp
      refine hK8 _ ?_
      try clear hK8 K8
      have w1 : IntKind.i64.wrap ((i : Int) + 1) = i + 1 := w64 (by omega) (by omega)
      refine vwp_live [1, 5, 9, 10, 11] (vwp_region hT ?_)
      simp [w1]
      exact hK5 (i + 1) _ (Gh.to_k [1, 5, 9, 10, 11] [] (he := by simp [hnew, hi1, show IntKind.i64.wrap 1 = 1 from rfl])) (by omega) (by omega)
     · simp -failIfUnchanged at h2; all_goals
      refine vwp_skip ?_
      refine hK8 _ ?_
      try clear hK8 K8
      simp_all
   · have hne : (l.map fun s => s.ra).take i ≠ [] := by
       intro e
       have := congrArg List.length e
       rw [List.length_take, List.length_map, List.length_nil] at this
       omega
     have hnew0 := lea_snoc (x := s.ra) hne
     rw [← htk] at hnew0
     have hi1 : ¬ (i : Int) = 0 := by omega
     refine vwp_live [1, 5, 6, 8, 9, 10, 11] (vwp_region hT ?_)
     simp [hi1]
     refine hK11 _ ?_
     try clear hK11 K11
     refine vwp_cond (by first | rfl | (simp; rfl)) (fun h3 => ?_) fun h3 => ?_
     · simp -failIfUnchanged at h3; all_goals
      have q := h3
      have hnew := hnew0.trans (if_pos (q.resolve_left (by omega)))
      refine vwp_live [1, 8, 9, 10, 11] (vwp_region hT ?_)
      simp
      refine hK8 _ ?_
      try clear hK8 K8
      have w1 : IntKind.i64.wrap ((i : Int) + 1) = i + 1 := w64 (by omega) (by omega)
      refine vwp_live [1, 5, 9, 10, 11] (vwp_region hT ?_)
      simp [w1]
      exact hK5 (i + 1) _ (Gh.to_k [1, 5, 9, 10, 11] [] (he := by simp [hnew, hi1, show IntKind.i64.wrap 1 = 1 from rfl])) (by omega) (by omega)
     · simp -failIfUnchanged at h3; all_goals
      have q := h3
      have hnew := hnew0.trans (if_neg (Int.not_lt.2 q.2))
      refine vwp_skip ?_
      refine hK8 _ ?_
      try clear hK8 K8
      have w1 : IntKind.i64.wrap ((i : Int) + 1) = i + 1 := w64 (by omega) (by omega)
      refine vwp_live [1, 5, 9, 10, 11] (vwp_region hT ?_)
      simp [w1]
      exact hK5 (i + 1) _ (Gh.to_k [1, 5, 9, 10, 11] [] (he := by simp [hnew, hi1, show IntKind.i64.wrap 1 = 1 from rfl])) (by omega) (by omega)
  · simp -failIfUnchanged at h1; all_goals
   refine vwp_exit ?_
   simp only [inBlk, thenQ, if_true]
   refine hK3 _ ?_
   try clear hK3 K3
   refine vwp_sq [5] fun K12 hK12 => vwp_region hT ?_
   simp
   refine hK12 _ ?_
   try clear hK12 K12
   refine vwp_ret (hR _ _ ?_)
   obtain rfl : i = l.length := by omega
   rw [List.take_of_length_le (by simp)]
   exact ret_k [4] [] ([]) (.int .i64 (lea (l.map fun s => s.ra))) (⟨rfl, rfl⟩)
theorem mkfx (t : Tk) : VC P 46 [.agg (Tk.cells t)] [] (fun r ob' => r = .int .i64 t.fx ∧ ob' = []) := by
  refine VC_of_vwp_k ent_46 Try.func46 rfl (by simp) fun R hR => ?_
  refine vwp_sq [0] fun K1 hK1 => vwp_region hT ?_
  simp
  refine hK1 _ ?_
  try clear hK1 K1
  refine vwp_sq [1] fun K2 hK2 => vwp_region hT ?_
  simp
  refine hK2 _ ?_
  try clear hK2 K2
  refine vwp_ret (hR _ _ ?_)
  exact ret_k [2] [] ([]) (.int .i64 t.fx) (⟨rfl, rfl⟩)
theorem least_fx (l : List Tk) (hl : l.length < 1099511627776)  : VC P 44 [.fs l.length (rowsV l), .fn 46 []] [] (fun r ob' => r = .int .i64 (lea (l.map fun s => s.fx)) ∧ ob' = []) := by
  refine VC_of_vwp_k ent_44 Try.func44 rfl (by simp) fun R hR => ?_
  refine vwp_sq [0, 1] fun K1 hK1 => vwp_region hT ?_
  simp
  refine hK1 _ ?_
  try clear hK1 K1
  refine vwp_sq [0, 1] fun K2 hK2 => vwp_region hT ?_
  simp
  refine hK2 _ ?_
  try clear hK2 K2
  refine vwp_seq_k fun K3 hK3 => ?_
  refine vwp_sq [0, 1, 5] fun K4 hK4 => vwp_region hT ?_
  simp
  refine hK4 _ ?_
  try clear hK4 K4
  refine vwp_block ?_
  refine vwp_loop_s (fun i : Nat => ⟨[(1, .fn 46 []), (5, .int .i64 (lea ((l.map fun s => s.fx).take i))), (9, .fs l.length (rowsV l)), (10, .int .i64 l.length), (11, .int .i64 (i : Int))], []⟩) (fun i => i ≤ l.length) (fun i => l.length - i) (0) (Gh.to_k [1, 5, 9, 10, 11] [] (he := by simp [lea])) (by omega) ?_
  rintro i hi
  intro K5 hK5
  refine vwp_sq [1, 5, 9, 10, 11] fun K6 hK6 => vwp_region hT ?_
  simp
  refine hK6 _ ?_
  try clear hK6 K6
  refine vwp_seq_k fun K7 hK7 => ?_
  refine vwp_cond (by first | rfl | (simp; rfl)) (fun h1 => ?_) fun h1 => ?_
  · simp -failIfUnchanged at h1; all_goals
   refine vwp_skip ?_
   refine hK7 _ ?_
   try clear hK7 K7
   refine vwp_seq_k fun K8 hK8 => ?_
   refine vwp_block ?_
   obtain ⟨s, hs⟩ := getI (l := l) (i := i) (by omega)
   have hrow := rowTk hs
   have hlen := lenTk l
   have htk : (l.map fun s => s.fx).take (i + 1) = (l.map fun s => s.fx).take i ++ [s.fx] := take_snoc (by simp [hs])
   have hmem := List.mem_of_getElem? hs
   refine vwp_sq [1, 5, 9, 10, 11] fun K9 hK9 => vwp_region hT ?_
   simp [hrow, hlen]
   repeat refine ⟨by first | assumption | omega | (intros; omega), ?_⟩
   refine hK9 _ ?_
   try clear hK9 K9
   refine vwp_sq [1, 5, 6, 7, 9, 10, 11] fun K10 hK10 => vwp_region hT ?_
   simp
   refine vcall_k [] (mkfx s) ?_
   rintro r ob' ⟨rfl, rfl⟩
   simp
   refine hK10 _ ?_
   try clear hK10 K10
   refine vwp_seq_k fun K11 hK11 => ?_
   rcases Nat.eq_zero_or_pos i with hi0 | hi0
   · have hi1 : (i : Int) = 0 := by omega
     have hnew : lea ((l.map fun s => s.fx).take (i + 1)) = s.fx := by rw [htk, hi0]; simp [lea]
     refine vwp_live [1, 5, 6, 8, 9, 10, 11] (vwp_region hT ?_)
     simp [hi1]
     refine hK11 _ ?_
     try clear hK11 K11
     refine vwp_cond (by first | rfl | (simp; rfl)) (fun h2 => ?_) fun h2 => ?_
     · simp -failIfUnchanged at h2; all_goals
      refine vwp_live [1, 8, 9, 10, 11] (vwp_region hT ?_)
      simp
      refine hK8 _ ?_
      try clear hK8 K8
      have w1 : IntKind.i64.wrap ((i : Int) + 1) = i + 1 := w64 (by omega) (by omega)
      refine vwp_live [1, 5, 9, 10, 11] (vwp_region hT ?_)
      simp [w1]
      exact hK5 (i + 1) _ (Gh.to_k [1, 5, 9, 10, 11] [] (he := by simp [hnew, hi1, show IntKind.i64.wrap 1 = 1 from rfl])) (by omega) (by omega)
     · simp -failIfUnchanged at h2; all_goals
      refine vwp_skip ?_
      refine hK8 _ ?_
      try clear hK8 K8
      simp_all
   · have hne : (l.map fun s => s.fx).take i ≠ [] := by
       intro e
       have := congrArg List.length e
       rw [List.length_take, List.length_map, List.length_nil] at this
       omega
     have hnew0 := lea_snoc (x := s.fx) hne
     rw [← htk] at hnew0
     have hi1 : ¬ (i : Int) = 0 := by omega
     refine vwp_live [1, 5, 6, 8, 9, 10, 11] (vwp_region hT ?_)
     simp [hi1]
     refine hK11 _ ?_
     try clear hK11 K11
     refine vwp_cond (by first | rfl | (simp; rfl)) (fun h3 => ?_) fun h3 => ?_
     · simp -failIfUnchanged at h3; all_goals
      have q := h3
      have hnew := hnew0.trans (if_pos (q.resolve_left (by omega)))
      refine vwp_live [1, 8, 9, 10, 11] (vwp_region hT ?_)
      simp
      refine hK8 _ ?_
      try clear hK8 K8
      have w1 : IntKind.i64.wrap ((i : Int) + 1) = i + 1 := w64 (by omega) (by omega)
      refine vwp_live [1, 5, 9, 10, 11] (vwp_region hT ?_)
      simp [w1]
      exact hK5 (i + 1) _ (Gh.to_k [1, 5, 9, 10, 11] [] (he := by simp [hnew, hi1, show IntKind.i64.wrap 1 = 1 from rfl])) (by omega) (by omega)
     · simp -failIfUnchanged at h3; all_goals
      have q := h3
      have hnew := hnew0.trans (if_neg (Int.not_lt.2 q.2))
      refine vwp_skip ?_
      refine hK8 _ ?_
      try clear hK8 K8
      have w1 : IntKind.i64.wrap ((i : Int) + 1) = i + 1 := w64 (by omega) (by omega)
      refine vwp_live [1, 5, 9, 10, 11] (vwp_region hT ?_)
      simp [w1]
      exact hK5 (i + 1) _ (Gh.to_k [1, 5, 9, 10, 11] [] (he := by simp [hnew, hi1, show IntKind.i64.wrap 1 = 1 from rfl])) (by omega) (by omega)
  · simp -failIfUnchanged at h1; all_goals
   refine vwp_exit ?_
   simp only [inBlk, thenQ, if_true]
   refine hK3 _ ?_
   try clear hK3 K3
   refine vwp_sq [5] fun K12 hK12 => vwp_region hT ?_
   simp
   refine hK12 _ ?_
   try clear hK12 K12
   refine vwp_ret (hR _ _ ?_)
   obtain rfl : i = l.length := by omega
   rw [List.take_of_length_le (by simp)]
   exact ret_k [4] [] ([]) (.int .i64 (lea (l.map fun s => s.fx))) (⟨rfl, rfl⟩)
theorem mkba (w : Wd) (hA : areaB w.n w.D w.T = true) (o : Od) (ho : 0 ≤ o.nd ∧ o.nd < w.n) : VC P 42 [.agg (Od.cells o), .fp w.c] [] (fun r ob' => r = .int .i64 (lg w.n w.D o.nd 0) ∧ ob' = []) := by
  refine VC_of_vwp_k ent_42 Try.func42 rfl (by simp) fun R hR => ?_
  refine vwp_sq [0, 1] fun K1 hK1 => vwp_region hT ?_
  simp
  refine hK1 _ ?_
  try clear hK1 K1
  refine vwp_sq [1, 2] fun K2 hK2 => vwp_region hT ?_
  simp
  refine vcall_z [] (leg_spec hA o.nd 0 ho ⟨by omega, by omega⟩) (by rintro r ob' ⟨rfl, rfl⟩; simp) ?_
  rintro r ob' ⟨rfl, rfl⟩
  simp
  refine hK2 _ ?_
  try clear hK2 K2
  refine vwp_sq [4] fun K3 hK3 => vwp_region hT ?_
  simp
  refine hK3 _ ?_
  try clear hK3 K3
  refine vwp_ret (hR _ _ ?_)
  exact ret_k [3] [] ([]) (.int .i64 (lg w.n w.D o.nd 0)) (⟨rfl, rfl⟩)
theorem least_ba (l : List Od) (hl : l.length < 1099511627776) (w : Wd) (hA : areaB w.n w.D w.T = true) (hno : ∀ o ∈ l, 0 ≤ o.nd ∧ o.nd < w.n) : VC P 41 [.fs l.length (rowsV l), .fn 42 [.fp w.c]] [] (fun r ob' => r = .int .i64 (lea (l.map fun s => lg w.n w.D s.nd 0)) ∧ ob' = []) := by
  refine VC_of_vwp_k ent_41 Try.func41 rfl (by simp) fun R hR => ?_
  refine vwp_sq [0, 1] fun K1 hK1 => vwp_region hT ?_
  simp
  refine hK1 _ ?_
  try clear hK1 K1
  refine vwp_sq [0, 1] fun K2 hK2 => vwp_region hT ?_
  simp
  refine hK2 _ ?_
  try clear hK2 K2
  refine vwp_seq_k fun K3 hK3 => ?_
  refine vwp_sq [0, 1, 5] fun K4 hK4 => vwp_region hT ?_
  simp
  refine hK4 _ ?_
  try clear hK4 K4
  refine vwp_block ?_
  refine vwp_loop_s (fun i : Nat => ⟨[(1, .fn 42 [.fp w.c]), (5, .int .i64 (lea ((l.map fun s => lg w.n w.D s.nd 0).take i))), (9, .fs l.length (rowsV l)), (10, .int .i64 l.length), (11, .int .i64 (i : Int))], []⟩) (fun i => i ≤ l.length) (fun i => l.length - i) (0) (Gh.to_k [1, 5, 9, 10, 11] [] (he := by simp [lea])) (by omega) ?_
  rintro i hi
  intro K5 hK5
  refine vwp_sq [1, 5, 9, 10, 11] fun K6 hK6 => vwp_region hT ?_
  simp
  refine hK6 _ ?_
  try clear hK6 K6
  refine vwp_seq_k fun K7 hK7 => ?_
  refine vwp_cond (by first | rfl | (simp; rfl)) (fun h1 => ?_) fun h1 => ?_
  · simp -failIfUnchanged at h1; all_goals
   refine vwp_skip ?_
   refine hK7 _ ?_
   try clear hK7 K7
   refine vwp_seq_k fun K8 hK8 => ?_
   refine vwp_block ?_
   obtain ⟨s, hs⟩ := getI (l := l) (i := i) (by omega)
   have hrow := rowOd hs
   have hlen := lenOd l
   have htk : (l.map fun s => lg w.n w.D s.nd 0).take (i + 1) = (l.map fun s => lg w.n w.D s.nd 0).take i ++ [lg w.n w.D s.nd 0] := take_snoc (by simp [hs])
   have hmem := List.mem_of_getElem? hs
   refine vwp_sq [1, 5, 9, 10, 11] fun K9 hK9 => vwp_region hT ?_
   simp [hrow, hlen]
   repeat refine ⟨by first | assumption | omega | (intros; omega), ?_⟩
   refine hK9 _ ?_
   try clear hK9 K9
   refine vwp_sq [1, 5, 6, 7, 9, 10, 11] fun K10 hK10 => vwp_region hT ?_
   simp
   refine vcall_z [] (mkba w hA s (hno s hmem)) (by rintro r ob' ⟨rfl, rfl⟩; simp) ?_
   rintro r ob' ⟨rfl, rfl⟩
   simp
   refine hK10 _ ?_
   try clear hK10 K10
   refine vwp_seq_k fun K11 hK11 => ?_
   rcases Nat.eq_zero_or_pos i with hi0 | hi0
   · have hi1 : (i : Int) = 0 := by omega
     have hnew : lea ((l.map fun s => lg w.n w.D s.nd 0).take (i + 1)) = lg w.n w.D s.nd 0 := by rw [htk, hi0]; simp [lea]
     refine vwp_live [1, 5, 6, 8, 9, 10, 11] (vwp_region hT ?_)
     simp [hi1]
     refine hK11 _ ?_
     try clear hK11 K11
     refine vwp_cond (by first | rfl | (simp; rfl)) (fun h2 => ?_) fun h2 => ?_
     · simp -failIfUnchanged at h2; all_goals
      refine vwp_live [1, 8, 9, 10, 11] (vwp_region hT ?_)
      simp
      refine hK8 _ ?_
      try clear hK8 K8
      have w1 : IntKind.i64.wrap ((i : Int) + 1) = i + 1 := w64 (by omega) (by omega)
      refine vwp_live [1, 5, 9, 10, 11] (vwp_region hT ?_)
      simp [w1]
      exact hK5 (i + 1) _ (Gh.to_k [1, 5, 9, 10, 11] [] (he := by simp [hnew, hi1, show IntKind.i64.wrap 1 = 1 from rfl])) (by omega) (by omega)
     · simp -failIfUnchanged at h2; all_goals
      refine vwp_skip ?_
      refine hK8 _ ?_
      try clear hK8 K8
      simp_all
   · have hne : (l.map fun s => lg w.n w.D s.nd 0).take i ≠ [] := by
       intro e
       have := congrArg List.length e
       rw [List.length_take, List.length_map, List.length_nil] at this
       omega
     have hnew0 := lea_snoc (x := lg w.n w.D s.nd 0) hne
     rw [← htk] at hnew0
     have hi1 : ¬ (i : Int) = 0 := by omega
     refine vwp_live [1, 5, 6, 8, 9, 10, 11] (vwp_region hT ?_)
     simp [hi1]
     refine hK11 _ ?_
     try clear hK11 K11
     refine vwp_cond (by first | rfl | (simp; rfl)) (fun h3 => ?_) fun h3 => ?_
     · simp -failIfUnchanged at h3; all_goals
      have q := h3
      have hnew := hnew0.trans (if_pos (q.resolve_left (by omega)))
      refine vwp_live [1, 8, 9, 10, 11] (vwp_region hT ?_)
      simp
      refine hK8 _ ?_
      try clear hK8 K8
      have w1 : IntKind.i64.wrap ((i : Int) + 1) = i + 1 := w64 (by omega) (by omega)
      refine vwp_live [1, 5, 9, 10, 11] (vwp_region hT ?_)
      simp [w1]
      exact hK5 (i + 1) _ (Gh.to_k [1, 5, 9, 10, 11] [] (he := by simp [hnew, hi1, show IntKind.i64.wrap 1 = 1 from rfl])) (by omega) (by omega)
     · simp -failIfUnchanged at h3; all_goals
      have q := h3
      have hnew := hnew0.trans (if_neg (Int.not_lt.2 q.2))
      refine vwp_skip ?_
      refine hK8 _ ?_
      try clear hK8 K8
      have w1 : IntKind.i64.wrap ((i : Int) + 1) = i + 1 := w64 (by omega) (by omega)
      refine vwp_live [1, 5, 9, 10, 11] (vwp_region hT ?_)
      simp [w1]
      exact hK5 (i + 1) _ (Gh.to_k [1, 5, 9, 10, 11] [] (he := by simp [hnew, hi1, show IntKind.i64.wrap 1 = 1 from rfl])) (by omega) (by omega)
  · simp -failIfUnchanged at h1; all_goals
   refine vwp_exit ?_
   simp only [inBlk, thenQ, if_true]
   refine hK3 _ ?_
   try clear hK3 K3
   refine vwp_sq [5] fun K12 hK12 => vwp_region hT ?_
   simp
   refine hK12 _ ?_
   try clear hK12 K12
   refine vwp_ret (hR _ _ ?_)
   obtain rfl : i = l.length := by omega
   rw [List.take_of_length_le (by simp)]
   exact ret_k [4] [] ([]) (.int .i64 (lea (l.map fun s => lg w.n w.D s.nd 0))) (⟨rfl, rfl⟩)
theorem mkin {n : Int} {D T : List Int} (hA : areaB n D T = true) (l : List Od) (hl : l.length < 1099511627776) (at_ : Nat) (o : Od) (ho2 : l[at_]? = some o) (ho : 0 ≤ o.nd ∧ o.nd < n) (f : Int) (hf : 0 ≤ f ∧ f < n) : VC P 74 [.int .i64 f, .fp (arC n D T), .fp [odV l], .fp [.int .i64 (at_ : Int)]] [] (fun r ob' => r = .int .i64 (lg n D f o.nd) ∧ ob' = []) := by
  refine VC_of_vwp_k ent_74 Try.func74 rfl (by simp) fun R hR => ?_
  refine vwp_sq [0, 1, 2, 3] fun K1 hK1 => vwp_region hT ?_
  simp
  refine hK1 _ ?_
  try clear hK1 K1
  obtain ⟨_, _, g2, _⟩ := getOd ho2
  have hlen := lenOd l
  have hal := (List.getElem?_eq_some_iff.1 ho2).1
  refine vwp_sq [0, 1, 2, 3] fun K2 hK2 => vwp_calm hT hm (by kernel_rfl) ?_
  simp [g2, hlen]
  repeat refine ⟨by first | assumption | omega | (intros; omega), ?_⟩
  refine ⟨.tup [.int .i64 (lg n D f o.nd), .int .i64 (lg n T f o.nd), .int .i64 0], fun sl => ?_, ?_⟩
  · refine vcall_z [] (leg_spec hA f o.nd hf ho) (by rintro r ob' ⟨rfl, rfl⟩; simp) ?_
    rintro r ob' ⟨rfl, rfl⟩
    simp
  simp [g2, hlen]
  repeat refine ⟨by first | assumption | omega | (intros; omega), ?_⟩
  refine hK2 _ ?_
  try clear hK2 K2
  refine vwp_sq [6] fun K3 hK3 => vwp_region hT ?_
  simp
  refine hK3 _ ?_
  try clear hK3 K3
  refine vwp_ret (hR _ _ ?_)
  exact ret_k [5] [] ([]) (.int .i64 (lg n D f o.nd)) (⟨rfl, rfl⟩)
theorem least_in (l : List Int) (hl : l.length < 1099511627776) {n : Int} {D T : List Int} (hA : areaB n D T = true) (os : List Od) (hos : os.length < 1099511627776) (at_ : Nat) (o : Od) (ho2 : os[at_]? = some o) (ho : 0 ≤ o.nd ∧ o.nd < n) (hf : ∀ f ∈ l, 0 ≤ f ∧ f < n) : VC P 73 [sI l, .fn 74 [.fp (arC n D T), .fp [odV os], .fp [.int .i64 (at_ : Int)]]] [] (fun r ob' => r = .int .i64 (lea (l.map fun s => lg n D s o.nd)) ∧ ob' = []) := by
  refine VC_of_vwp_k ent_73 Try.func73 rfl (by simp) fun R hR => ?_
  refine vwp_sq [0, 1] fun K1 hK1 => vwp_region hT ?_
  simp
  refine hK1 _ ?_
  try clear hK1 K1
  refine vwp_sq [0, 1] fun K2 hK2 => vwp_region hT ?_
  simp
  refine hK2 _ ?_
  try clear hK2 K2
  refine vwp_seq_k fun K3 hK3 => ?_
  refine vwp_sq [0, 1, 5] fun K4 hK4 => vwp_region hT ?_
  simp
  refine hK4 _ ?_
  try clear hK4 K4
  refine vwp_block ?_
  refine vwp_loop_s (fun i : Nat => ⟨[(1, .fn 74 [.fp (arC n D T), .fp [odV os], .fp [.int .i64 (at_ : Int)]]), (5, .int .i64 (lea ((l.map fun s => lg n D s o.nd).take i))), (9, sI l), (10, .int .i64 l.length), (11, .int .i64 (i : Int))], []⟩) (fun i => i ≤ l.length) (fun i => l.length - i) (0) (Gh.to_k [1, 5, 9, 10, 11] [] (he := by simp [lea])) (by omega) ?_
  rintro i hi
  intro K5 hK5
  refine vwp_sq [1, 5, 9, 10, 11] fun K6 hK6 => vwp_region hT ?_
  simp
  refine hK6 _ ?_
  try clear hK6 K6
  refine vwp_seq_k fun K7 hK7 => ?_
  refine vwp_cond (by first | rfl | (simp; rfl)) (fun h1 => ?_) fun h1 => ?_
  · simp -failIfUnchanged at h1; all_goals
   refine vwp_skip ?_
   refine hK7 _ ?_
   try clear hK7 K7
   refine vwp_seq_k fun K8 hK8 => ?_
   refine vwp_block ?_
   obtain ⟨s, hs⟩ := getI (l := l) (i := i) (by omega)
   have htk : (l.map fun s => lg n D s o.nd).take (i + 1) = (l.map fun s => lg n D s o.nd).take i ++ [lg n D s o.nd] := take_snoc (by simp [hs])
   have hmem := List.mem_of_getElem? hs
   refine vwp_sq [1, 5, 9, 10, 11] fun K9 hK9 => vwp_region hT ?_
   simp [hs]
   repeat refine ⟨by first | assumption | omega | (intros; omega), ?_⟩
   refine hK9 _ ?_
   try clear hK9 K9
   refine vwp_sq [1, 5, 6, 7, 9, 10, 11] fun K10 hK10 => vwp_region hT ?_
   simp
   refine vcall_z [] (mkin hA os hos at_ o ho2 ho s (hf s hmem)) (by rintro r ob' ⟨rfl, rfl⟩; simp) ?_
   rintro r ob' ⟨rfl, rfl⟩
   simp
   refine hK10 _ ?_
   try clear hK10 K10
   refine vwp_seq_k fun K11 hK11 => ?_
   rcases Nat.eq_zero_or_pos i with hi0 | hi0
   · have hi1 : (i : Int) = 0 := by omega
     have hnew : lea ((l.map fun s => lg n D s o.nd).take (i + 1)) = lg n D s o.nd := by rw [htk, hi0]; simp [lea]
     refine vwp_live [1, 5, 6, 8, 9, 10, 11] (vwp_region hT ?_)
     simp [hi1]
     refine hK11 _ ?_
     try clear hK11 K11
     refine vwp_cond (by first | rfl | (simp; rfl)) (fun h2 => ?_) fun h2 => ?_
     · simp -failIfUnchanged at h2; all_goals
      refine vwp_live [1, 8, 9, 10, 11] (vwp_region hT ?_)
      simp
      refine hK8 _ ?_
      try clear hK8 K8
      have w1 : IntKind.i64.wrap ((i : Int) + 1) = i + 1 := w64 (by omega) (by omega)
      refine vwp_live [1, 5, 9, 10, 11] (vwp_region hT ?_)
      simp [w1]
      exact hK5 (i + 1) _ (Gh.to_k [1, 5, 9, 10, 11] [] (he := by simp [hnew, hi1, show IntKind.i64.wrap 1 = 1 from rfl])) (by omega) (by omega)
     · simp -failIfUnchanged at h2; all_goals
      refine vwp_skip ?_
      refine hK8 _ ?_
      try clear hK8 K8
      simp_all
   · have hne : (l.map fun s => lg n D s o.nd).take i ≠ [] := by
       intro e
       have := congrArg List.length e
       rw [List.length_take, List.length_map, List.length_nil] at this
       omega
     have hnew0 := lea_snoc (x := lg n D s o.nd) hne
     rw [← htk] at hnew0
     have hi1 : ¬ (i : Int) = 0 := by omega
     refine vwp_live [1, 5, 6, 8, 9, 10, 11] (vwp_region hT ?_)
     simp [hi1]
     refine hK11 _ ?_
     try clear hK11 K11
     refine vwp_cond (by first | rfl | (simp; rfl)) (fun h3 => ?_) fun h3 => ?_
     · simp -failIfUnchanged at h3; all_goals
      have q := h3
      have hnew := hnew0.trans (if_pos (q.resolve_left (by omega)))
      refine vwp_live [1, 8, 9, 10, 11] (vwp_region hT ?_)
      simp
      refine hK8 _ ?_
      try clear hK8 K8
      have w1 : IntKind.i64.wrap ((i : Int) + 1) = i + 1 := w64 (by omega) (by omega)
      refine vwp_live [1, 5, 9, 10, 11] (vwp_region hT ?_)
      simp [w1]
      exact hK5 (i + 1) _ (Gh.to_k [1, 5, 9, 10, 11] [] (he := by simp [hnew, hi1, show IntKind.i64.wrap 1 = 1 from rfl])) (by omega) (by omega)
     · simp -failIfUnchanged at h3; all_goals
      have q := h3
      have hnew := hnew0.trans (if_neg (Int.not_lt.2 q.2))
      refine vwp_skip ?_
      refine hK8 _ ?_
      try clear hK8 K8
      have w1 : IntKind.i64.wrap ((i : Int) + 1) = i + 1 := w64 (by omega) (by omega)
      refine vwp_live [1, 5, 9, 10, 11] (vwp_region hT ?_)
      simp [w1]
      exact hK5 (i + 1) _ (Gh.to_k [1, 5, 9, 10, 11] [] (he := by simp [hnew, hi1, show IntKind.i64.wrap 1 = 1 from rfl])) (by omega) (by omega)
  · simp -failIfUnchanged at h1; all_goals
   refine vwp_exit ?_
   simp only [inBlk, thenQ, if_true]
   refine hK3 _ ?_
   try clear hK3 K3
   refine vwp_sq [5] fun K12 hK12 => vwp_region hT ?_
   simp
   refine hK12 _ ?_
   try clear hK12 K12
   refine vwp_ret (hR _ _ ?_)
   obtain rfl : i = l.length := by omega
   rw [List.take_of_length_le (by simp)]
   exact ret_k [4] [] ([]) (.int .i64 (lea (l.map fun s => lg n D s o.nd))) (⟨rfl, rfl⟩)
end Go.Proofs.Ytinigjmfjabicaa
