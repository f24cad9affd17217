/- What is found: orders, trucks; loads: the walk. -/
import Derived.Test.YtinigjmfjabicaaPlH
namespace Go.Proofs.Ytinigjmfjabicaa
open Go Go.VX Go.RowKit
set_option linter.unusedVariables false
set_option linter.unusedSimpArgs false
set_option maxHeartbeats 20000000
set_option maxRecDepth 100000

def fndO (os : List Od) (id : Int) : Option Nat := os.findIdx? fun s => s.id == id
def fndT (ts : List Tk) (id : Int) : Option Nat := ts.findIdx? fun s => s.id == id
theorem find_spec1 (s : Od) (id : Int) : VC P 72 [.agg (Od.cells s), .fp [.int .i64 id]] [] (fun r ob' => r = .bool (s.id == id) ∧ ob' = []) := by
  refine VC_of_vwp_k ent_72 Try.func72 rfl (by simp) fun R hR => ?_
  refine vwp_sq [0, 1] fun K1 hK1 => vwp_region hT ?_
  simp
  refine hK1 _ ?_
  try clear hK1 K1
  refine vwp_sq [1, 2] fun K2 hK2 => vwp_region hT ?_
  simp
  refine hK2 _ ?_
  try clear hK2 K2
  refine vwp_ret (hR _ _ ?_)
  exact ret_k [3] [] ([]) (.bool (s.id == id)) (⟨rfl, rfl⟩)
theorem find_spec2 (l : List Od) (hl : l.length < 1099511627776) (id : Int) : VC P 71 [.fs l.length (rowsV l), .fn 72 [.fp [.int .i64 id]]] [] (fun r ob' => r = .int .i64 (oI (l.findIdx? fun s => s.id == id)) ∧ ob' = []) := by
  refine VC_of_vwp_k ent_71 Try.func71 rfl (by simp) fun R hR => ?_
  refine vwp_sq [0, 1] fun K1 hK1 => vwp_region hT ?_
  simp
  refine hK1 _ ?_
  try clear hK1 K1
  refine vwp_seq_k fun K2 hK2 => ?_
  refine vwp_sq [0, 1] fun K3 hK3 => vwp_region hT ?_
  simp
  refine hK3 _ ?_
  try clear hK3 K3
  refine vwp_block ?_
  refine vwp_loop_s (fun i : Nat => ⟨[(0, .fs l.length (rowsV l)), (1, .fn 72 [.fp [.int .i64 id]]), (7, .int .i64 l.length), (8, .int .i64 (i : Int))], []⟩) (fun i => i ≤ l.length ∧ ∀ (j : Nat) s, j < i → l[j]? = some s → (s.id == id) = false) (fun i => l.length - i) (0) (Gh.to_k [0, 1, 7, 8] []) (⟨by omega, fun j s hj _ => by omega⟩) ?_
  rintro i ⟨hi, hno⟩
  intro K4 hK4
  refine vwp_sq [0, 1, 7, 8] fun K5 hK5 => vwp_region hT ?_
  simp
  refine hK5 _ ?_
  try clear hK5 K5
  refine vwp_seq_k fun K6 hK6 => ?_
  refine vwp_cond (by first | rfl | (simp; rfl)) (fun h1 => ?_) fun h1 => ?_
  · simp -failIfUnchanged at h1; all_goals
   refine vwp_skip ?_
   refine hK6 _ ?_
   try clear hK6 K6
   refine vwp_seq_k fun K7 hK7 => ?_
   refine vwp_block ?_
   refine vwp_sq [0, 1, 7, 8] fun K8 hK8 => vwp_region hT ?_
   simp
   refine hK8 _ ?_
   try clear hK8 K8
   obtain ⟨s, hs⟩ := getI (l := l) (i := i) (by omega)
   have hrow := rowOd hs
   have hlen := lenOd l
   refine vwp_sq [0, 1, 5, 7, 8] fun K9 hK9 => vwp_region hT ?_
   simp [hrow, hlen]
   repeat refine ⟨by first | assumption | omega | (intros; omega), ?_⟩
   refine vcall_k [] (find_spec1 s id) ?_
   rintro r ob' ⟨rfl, rfl⟩
   simp [hrow, hlen]
   repeat refine ⟨by first | assumption | omega | (intros; omega), ?_⟩
   refine hK9 _ ?_
   try clear hK9 K9
   refine vwp_cond (by first | rfl | (simp; rfl)) (fun h2 => ?_) fun h2 => ?_
   · simp -failIfUnchanged at h2; all_goals
    have q := h2
    have hp : (s.id == id) = true := by simpa using q
    have hfi := findIdx_some (p := fun s => s.id == id) hs hp fun j y hj hy => hno j y hj hy
    refine vwp_sq [5] fun K10 hK10 => vwp_region hT ?_
    simp
    refine hK10 _ ?_
    try clear hK10 K10
    refine vwp_ret (hR _ _ ?_)
    rw [hfi]
    exact ret_k [4] [] ([]) (.int .i64 (oI (some i))) (⟨rfl, rfl⟩) (hr := by simp [oI])
   · simp -failIfUnchanged at h2; all_goals
    have q := h2
    have hp : (s.id == id) = false := by simpa using q
    refine vwp_skip ?_
    refine hK7 _ ?_
    try clear hK7 K7
    have w1 : IntKind.i64.wrap ((i : Int) + 1) = i + 1 := w64 (by omega) (by omega)
    refine vwp_live [0, 1, 7, 8] (vwp_region hT ?_)
    simp [w1]
    exact hK4 (i + 1) _ (Gh.to_k [0, 1, 7, 8] []) (⟨by omega, fun j y hj hy => by
        rcases Nat.lt_or_ge j i with q | q
        · exact hno j y q hy
        · obtain rfl : j = i := by omega
          rw [hs] at hy; cases hy; exact hp⟩) (by omega)
  · simp -failIfUnchanged at h1; all_goals
   refine vwp_exit ?_
   simp only [inBlk, thenQ, if_true]
   refine hK2 _ ?_
   try clear hK2 K2
   refine vwp_sq [] fun K11 hK11 => vwp_region hT ?_
   simp
   refine hK11 _ ?_
   try clear hK11 K11
   refine vwp_ret (hR _ _ ?_)
   have hfi := findIdx_none (p := fun s => s.id == id) (l := l) fun j y hj hy => hno j y (by omega) hy
   rw [hfi]
   exact ret_k [4] [] ([]) (.int .i64 (oI none)) (⟨rfl, rfl⟩) (hr := by simp [oI])
theorem find_spec (os : List Od) (ho : os.length < 1099511627776) (id : Int) : VC P 39 [odV os, .int .i64 id] [] (fun r ob' => r = .int .i64 (oI (fndO os id)) ∧ ob' = []) := by
  refine VC_of_vwp_k ent_39 Try.func39 rfl (by simp) fun R hR => ?_
  refine vwp_sq [0, 1] fun K1 hK1 => vwp_region hT ?_
  simp
  refine hK1 _ ?_
  try clear hK1 K1
  refine vwp_sq [0, 3] fun K2 hK2 => vwp_region hT ?_
  simp
  refine vcall_z [] (find_spec2 os ho id) (by rintro r ob' ⟨rfl, rfl⟩; simp) ?_
  rintro r ob' ⟨rfl, rfl⟩
  simp
  refine hK2 _ ?_
  try clear hK2 K2
  refine vwp_ret (hR _ _ ?_)
  exact ret_k [4] [] ([]) (.int .i64 (oI (fndO os id))) (⟨rfl, rfl⟩) (hr := by simp [fndO])
theorem rtruck_spec1 (s : Tk) (id : Int) : VC P 101 [.agg (Tk.cells s), .fp [.int .i64 id]] [] (fun r ob' => r = .bool (s.id == id) ∧ ob' = []) := by
  refine VC_of_vwp_k ent_101 Try.func101 rfl (by simp) fun R hR => ?_
  refine vwp_sq [0, 1] fun K1 hK1 => vwp_region hT ?_
  simp
  refine hK1 _ ?_
  try clear hK1 K1
  refine vwp_sq [1, 2] fun K2 hK2 => vwp_region hT ?_
  simp
  refine hK2 _ ?_
  try clear hK2 K2
  refine vwp_ret (hR _ _ ?_)
  exact ret_k [3] [] ([]) (.bool (s.id == id)) (⟨rfl, rfl⟩)
theorem rtruck_spec2 (l : List Tk) (hl : l.length < 1099511627776) (id : Int) : VC P 100 [.fs l.length (rowsV l), .fn 101 [.fp [.int .i64 id]]] [] (fun r ob' => r = .int .i64 (oI (l.findIdx? fun s => s.id == id)) ∧ ob' = []) := by
  refine VC_of_vwp_k ent_100 Try.func100 rfl (by simp) fun R hR => ?_
  refine vwp_sq [0, 1] fun K1 hK1 => vwp_region hT ?_
  simp
  refine hK1 _ ?_
  try clear hK1 K1
  refine vwp_seq_k fun K2 hK2 => ?_
  refine vwp_sq [0, 1] fun K3 hK3 => vwp_region hT ?_
  simp
  refine hK3 _ ?_
  try clear hK3 K3
  refine vwp_block ?_
  refine vwp_loop_s (fun i : Nat => ⟨[(0, .fs l.length (rowsV l)), (1, .fn 101 [.fp [.int .i64 id]]), (7, .int .i64 l.length), (8, .int .i64 (i : Int))], []⟩) (fun i => i ≤ l.length ∧ ∀ (j : Nat) s, j < i → l[j]? = some s → (s.id == id) = false) (fun i => l.length - i) (0) (Gh.to_k [0, 1, 7, 8] []) (⟨by omega, fun j s hj _ => by omega⟩) ?_
  rintro i ⟨hi, hno⟩
  intro K4 hK4
  refine vwp_sq [0, 1, 7, 8] fun K5 hK5 => vwp_region hT ?_
  simp
  refine hK5 _ ?_
  try clear hK5 K5
  refine vwp_seq_k fun K6 hK6 => ?_
  refine vwp_cond (by first | rfl | (simp; rfl)) (fun h1 => ?_) fun h1 => ?_
  · simp -failIfUnchanged at h1; all_goals
   refine vwp_skip ?_
   refine hK6 _ ?_
   try clear hK6 K6
   refine vwp_seq_k fun K7 hK7 => ?_
   refine vwp_block ?_
   refine vwp_sq [0, 1, 7, 8] fun K8 hK8 => vwp_region hT ?_
   simp
   refine hK8 _ ?_
   try clear hK8 K8
   obtain ⟨s, hs⟩ := getI (l := l) (i := i) (by omega)
   have hrow := rowTk hs
   have hlen := lenTk l
   refine vwp_sq [0, 1, 5, 7, 8] fun K9 hK9 => vwp_region hT ?_
   simp [hrow, hlen]
   repeat refine ⟨by first | assumption | omega | (intros; omega), ?_⟩
   refine vcall_k [] (rtruck_spec1 s id) ?_
   rintro r ob' ⟨rfl, rfl⟩
   simp [hrow, hlen]
   repeat refine ⟨by first | assumption | omega | (intros; omega), ?_⟩
   refine hK9 _ ?_
   try clear hK9 K9
   refine vwp_cond (by first | rfl | (simp; rfl)) (fun h2 => ?_) fun h2 => ?_
   · simp -failIfUnchanged at h2; all_goals
    have q := h2
    have hp : (s.id == id) = true := by simpa using q
    have hfi := findIdx_some (p := fun s => s.id == id) hs hp fun j y hj hy => hno j y hj hy
    refine vwp_sq [5] fun K10 hK10 => vwp_region hT ?_
    simp
    refine hK10 _ ?_
    try clear hK10 K10
    refine vwp_ret (hR _ _ ?_)
    rw [hfi]
    exact ret_k [4] [] ([]) (.int .i64 (oI (some i))) (⟨rfl, rfl⟩) (hr := by simp [oI])
   · simp -failIfUnchanged at h2; all_goals
    have q := h2
    have hp : (s.id == id) = false := by simpa using q
    refine vwp_skip ?_
    refine hK7 _ ?_
    try clear hK7 K7
    have w1 : IntKind.i64.wrap ((i : Int) + 1) = i + 1 := w64 (by omega) (by omega)
    refine vwp_live [0, 1, 7, 8] (vwp_region hT ?_)
    simp [w1]
    exact hK4 (i + 1) _ (Gh.to_k [0, 1, 7, 8] []) (⟨by omega, fun j y hj hy => by
        rcases Nat.lt_or_ge j i with q | q
        · exact hno j y q hy
        · obtain rfl : j = i := by omega
          rw [hs] at hy; cases hy; exact hp⟩) (by omega)
  · simp -failIfUnchanged at h1; all_goals
   refine vwp_exit ?_
   simp only [inBlk, thenQ, if_true]
   refine hK2 _ ?_
   try clear hK2 K2
   refine vwp_sq [] fun K11 hK11 => vwp_region hT ?_
   simp
   refine hK11 _ ?_
   try clear hK11 K11
   refine vwp_ret (hR _ _ ?_)
   have hfi := findIdx_none (p := fun s => s.id == id) (l := l) fun j y hj hy => hno j y (by omega) hy
   rw [hfi]
   exact ret_k [4] [] ([]) (.int .i64 (oI none)) (⟨rfl, rfl⟩) (hr := by simp [oI])
theorem rtruck_spec (w : Wd) (ht : w.ts.length < 1099511627776) (id : Int) : VC P 64 [.agg w.c, .int .i64 id] [] (fun r ob' => r = .int .i64 (oI (fndT w.ts id)) ∧ ob' = []) := by
  refine VC_of_vwp_k ent_64 Try.func64 rfl (by simp) fun R hR => ?_
  refine vwp_sq [0, 1] fun K1 hK1 => vwp_region hT ?_
  simp
  refine hK1 _ ?_
  try clear hK1 K1
  refine vwp_sq [2, 3] fun K2 hK2 => vwp_region hT ?_
  simp
  refine vcall_z [] (rtruck_spec2 w.ts ht id) (by rintro r ob' ⟨rfl, rfl⟩; simp) ?_
  rintro r ob' ⟨rfl, rfl⟩
  simp
  refine hK2 _ ?_
  try clear hK2 K2
  refine vwp_ret (hR _ _ ?_)
  exact ret_k [4] [] ([]) (.int .i64 (oI (fndT w.ts id))) (⟨rfl, rfl⟩) (hr := by simp [fndT])
theorem dfind_spec (os : List Od) (ho : os.length < 1099511627776) (id : Int) : VC P 81 [odV os, .int .i64 id] [] (fun r ob' => r = .int .i64 (oI (fndO os id)) ∧ ob' = []) := by
  refine VC_of_vwp_k ent_81 Try.func81 rfl (by simp) fun R hR => ?_
  refine vwp_sq [0, 1] fun K1 hK1 => vwp_region hT ?_
  simp
  refine hK1 _ ?_
  try clear hK1 K1
  refine vwp_seq_k fun K2 hK2 => ?_
  refine vwp_sq [0, 1] fun K3 hK3 => vwp_region hT ?_
  simp
  refine hK3 _ ?_
  try clear hK3 K3
  refine vwp_block ?_
  refine vwp_loop_s (fun i : Nat => ⟨[(0, odV os), (1, .int .i64 id), (5, .int .i64 (i : Int))], []⟩) (fun i => i ≤ os.length ∧ ∀ (j : Nat) s, j < i → os[j]? = some s → (s.id == id) = false) (fun i => os.length - i) (0) (Gh.to_k [0, 1, 5] []) (⟨by omega, fun j s hj _ => by omega⟩) ?_
  rintro i ⟨hi, hno⟩
  intro K4 hK4
  refine vwp_seq_k fun K5 hK5 => ?_
  refine vwp_sq [0, 1, 5] fun K6 hK6 => vwp_region hT ?_
  simp
  refine hK6 _ ?_
  try clear hK6 K6
  refine vwp_cond (by first | rfl | (simp; rfl)) (fun h1 => ?_) fun h1 => ?_
  · simp -failIfUnchanged at h1; all_goals
   refine vwp_skip ?_
   refine hK5 _ ?_
   try clear hK5 K5
   refine vwp_seq_k fun K7 hK7 => ?_
   refine vwp_block ?_
   obtain ⟨s, hs⟩ := getI (l := os) (i := i) (by omega)
   have hgs := (getOd hs).1
   have hlen := lenOd (os)
   have li : i * 8 < (os).length * 8 := by omega
   refine vwp_sq [0, 1, 5] fun K8 hK8 => vwp_region hT ?_
   simp [hgs, hlen]
   repeat refine ⟨by first | assumption | omega | (intros; omega), ?_⟩
   refine hK8 _ ?_
   try clear hK8 K8
   refine vwp_cond (by first | rfl | (simp; rfl)) (fun h2 => ?_) fun h2 => ?_
   · simp -failIfUnchanged at h2; all_goals
    have q := h2
    have hp : (s.id == id) = true := by simpa using q
    have hfi := findIdx_some (p := fun s => s.id == id) hs hp fun j y hj hy => hno j y hj hy
    refine vwp_sq [5] fun K9 hK9 => vwp_region hT ?_
    simp
    refine hK9 _ ?_
    try clear hK9 K9
    refine vwp_ret (hR _ _ ?_)
    rw [fndO, hfi]
    exact ret_k [4] [] ([]) (.int .i64 (oI (some i))) (⟨rfl, rfl⟩) (hr := by simp [oI])
   · simp -failIfUnchanged at h2; all_goals
    have q := h2
    have hp : (s.id == id) = false := by simpa using q
    refine vwp_skip ?_
    refine hK7 _ ?_
    try clear hK7 K7
    have w1 : IntKind.i64.wrap ((i : Int) + 1) = i + 1 := w64 (by omega) (by omega)
    refine vwp_live [0, 1, 5] (vwp_region hT ?_)
    simp [w1]
    exact hK4 (i + 1) _ (Gh.to_k [0, 1, 5] []) (⟨by omega, fun j y hj hy => by
        rcases Nat.lt_or_ge j i with q | q
        · exact hno j y q hy
        · obtain rfl : j = i := by omega
          rw [hs] at hy; cases hy; exact hp⟩) (by omega)
  · simp -failIfUnchanged at h1; all_goals
   refine vwp_exit ?_
   simp only [inBlk, thenQ, if_true]
   refine hK2 _ ?_
   try clear hK2 K2
   refine vwp_sq [] fun K10 hK10 => vwp_region hT ?_
   simp
   refine hK10 _ ?_
   try clear hK10 K10
   refine vwp_ret (hR _ _ ?_)
   have hfi := findIdx_none (p := fun s => s.id == id) (l := os) fun j y hj hy => hno j y (by omega) hy
   rw [fndO, hfi]
   exact ret_k [4] [] ([]) (.int .i64 (oI none)) (⟨rfl, rfl⟩) (hr := by simp [oI])
theorem dtruckI_spec (w : Wd) (ht : w.ts.length < 1099511627776) (id : Int) : VC P 93 [.agg w.c, .int .i64 id] [] (fun r ob' => r = .int .i64 (oI (fndT w.ts id)) ∧ ob' = []) := by
  refine VC_of_vwp_k ent_93 Try.func93 rfl (by simp) fun R hR => ?_
  refine vwp_sq [0, 1] fun K1 hK1 => vwp_region hT ?_
  simp
  refine hK1 _ ?_
  try clear hK1 K1
  refine vwp_seq_k fun K2 hK2 => ?_
  refine vwp_sq [1, 2] fun K3 hK3 => vwp_region hT ?_
  simp
  refine hK3 _ ?_
  try clear hK3 K3
  refine vwp_block ?_
  refine vwp_loop_s (fun i : Nat => ⟨[(1, .int .i64 id), (2, .ptr 0 5 0), (5, .int .i64 (i : Int))], [.live w.c]⟩) (fun i => i ≤ w.ts.length ∧ ∀ (j : Nat) s, j < i → w.ts[j]? = some s → (s.id == id) = false) (fun i => w.ts.length - i) (0) (Gh.to_k [1, 2, 5] [0]) (⟨by omega, fun j s hj _ => by omega⟩) ?_
  rintro i ⟨hi, hno⟩
  intro K4 hK4
  refine vwp_seq_k fun K5 hK5 => ?_
  refine vwp_sq [1, 2, 5] fun K6 hK6 => vwp_region hT ?_
  simp
  refine hK6 _ ?_
  try clear hK6 K6
  refine vwp_cond (by first | rfl | (simp; rfl)) (fun h1 => ?_) fun h1 => ?_
  · simp -failIfUnchanged at h1; all_goals
   refine vwp_skip ?_
   refine hK5 _ ?_
   try clear hK5 K5
   refine vwp_seq_k fun K7 hK7 => ?_
   refine vwp_block ?_
   obtain ⟨s, hs⟩ := getI (l := w.ts) (i := i) (by omega)
   have hgs := (getTk hs).1
   have hlen := lenTk (w.ts)
   have li : i * 7 < (w.ts).length * 7 := by omega
   refine vwp_sq [1, 2, 5] fun K8 hK8 => vwp_region hT ?_
   simp [hgs, hlen]
   repeat refine ⟨by first | assumption | omega | (intros; omega), ?_⟩
   refine hK8 _ ?_
   try clear hK8 K8
   refine vwp_cond (by first | rfl | (simp; rfl)) (fun h2 => ?_) fun h2 => ?_
   · simp -failIfUnchanged at h2; all_goals
    have q := h2
    have hp : (s.id == id) = true := by simpa using q
    have hfi := findIdx_some (p := fun s => s.id == id) hs hp fun j y hj hy => hno j y hj hy
    refine vwp_sq [5] fun K9 hK9 => vwp_region hT ?_
    simp
    refine hK9 _ ?_
    try clear hK9 K9
    refine vwp_ret (hR _ _ ?_)
    rw [fndT, hfi]
    exact ret_k [4] [] ([]) (.int .i64 (oI (some i))) (⟨rfl, rfl⟩) (hr := by simp [oI])
   · simp -failIfUnchanged at h2; all_goals
    have q := h2
    have hp : (s.id == id) = false := by simpa using q
    refine vwp_skip ?_
    refine hK7 _ ?_
    try clear hK7 K7
    have w1 : IntKind.i64.wrap ((i : Int) + 1) = i + 1 := w64 (by omega) (by omega)
    refine vwp_live [1, 2, 5] (vwp_region hT ?_)
    simp [w1]
    exact hK4 (i + 1) _ (Gh.to_k [1, 2, 5] [0]) (⟨by omega, fun j y hj hy => by
        rcases Nat.lt_or_ge j i with q | q
        · exact hno j y q hy
        · obtain rfl : j = i := by omega
          rw [hs] at hy; cases hy; exact hp⟩) (by omega)
  · simp -failIfUnchanged at h1; all_goals
   refine vwp_exit ?_
   simp only [inBlk, thenQ, if_true]
   refine hK2 _ ?_
   try clear hK2 K2
   refine vwp_sq [] fun K10 hK10 => vwp_region hT ?_
   simp
   refine hK10 _ ?_
   try clear hK10 K10
   refine vwp_ret (hR _ _ ?_)
   have hfi := findIdx_none (p := fun s => s.id == id) (l := w.ts) fun j y hj hy => hno j y (by omega) hy
   rw [fndT, hfi]
   exact ret_k [4] [] ([]) (.int .i64 (oI none)) (⟨rfl, rfl⟩) (hr := by simp [oI])

theorem fndO_some {os : List Od} {id : Int} {i : Nat} (h : fndO os id = some i) : ∃ o, os[i]? = some o ∧ o.id = id := by
  obtain ⟨h1, h2, _⟩ := List.findIdx?_eq_some_iff_getElem.1 h
  exact ⟨_, List.getElem?_eq_getElem h1, by simpa using h2⟩
theorem fndT_some {ts : List Tk} {id : Int} {i : Nat} (h : fndT ts id = some i) : ∃ o, ts[i]? = some o ∧ o.id = id := by
  obtain ⟨h1, h2, _⟩ := List.findIdx?_eq_some_iff_getElem.1 h
  exact ⟨_, List.getElem?_eq_getElem h1, by simpa using h2⟩
theorem fndO_none {os : List Od} {id : Int} (h : fndO os id = none) : ∀ o ∈ os, o.id ≠ id := by
  intro o ho
  have := List.findIdx?_eq_none_iff.1 h o ho
  simpa using this
end Go.Proofs.Ytinigjmfjabicaa
