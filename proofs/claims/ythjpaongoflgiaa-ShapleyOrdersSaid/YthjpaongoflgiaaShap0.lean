/- What the small functions of shapley, and of the document, tell. -/
import Derived.Test.YthjpaongoflgiaaIter1
import Derived.Test.YthjpaongoflgiaaQuota1
import Derived.Test.YthjpaongoflgiaaVXc
namespace Go.Proofs.Ythjpaongoflgiaa
open Go Go.VX Go.RowKit
set_option linter.unusedVariables false
set_option linter.unusedSimpArgs false
set_option maxHeartbeats 20000000
set_option maxRecDepth 100000

def p2 : Nat → Nat
  | 0 => 1
  | n + 1 => 2 * p2 n
theorem p2_le : ∀ n, n ≤ 6 → p2 n ≤ 64 := by decide
theorem p2_pos : ∀ n, 0 < p2 n
  | 0 => by decide
  | n + 1 => by have := p2_pos n; simp only [p2]; omega
theorem p2_eq : ∀ n, p2 n = 2 ^ n
  | 0 => rfl
  | n + 1 => by rw [p2, p2_eq n, Nat.pow_succ]; omega
theorem p2_succ {n : Nat} : p2 (n + 1) = 2 * p2 n := rfl

abbrev big : Int := 1099511627776
def offB (n : Int) : Bool := decide (n < -1099511627776) || decide (1099511627776 < n)
def mayB (n : Int) (g : List Int) : Bool := decide (0 ≤ n) && decide (n ≤ 6) && decide (g.length = p2 n.toNat) && decide (g[0]? = some 0) && !(g.any offB)
theorem may1_spec (n : Int) : VC P 61 [.int .i64 n] [] (fun r ob' => r = .bool (offB n) ∧ ob' = []) := by
  refine VC_of_vwp_k ent_61 Try.func61 rfl (by simp) fun R hR => ?_
  refine vwp_sq [0] fun K1 hK1 => vwp_region hT ?_
  simp
  refine hK1 _ ?_
  try clear hK1 K1
  refine vwp_sq [0] fun K2 hK2 => vwp_region hT ?_
  simp
  refine hK2 _ ?_
  try clear hK2 K2
  refine vwp_ret (hR _ _ ?_)
  exact ret_k [2] [] ([]) (.bool (offB n)) (⟨rfl, rfl⟩) (hr := by simp [offB])
theorem indexFunc_mayw (l : List Int) (hl : l.length < 9223372036854775807)  : VC P 66 [sI l, .fn 61 []] [] (fun r ob' => r = .int .i64 (oI (l.findIdx? (offB))) ∧ ob' = []) := by
  refine VC_of_vwp_k ent_66 Try.func66 rfl (by simp) fun R hR => ?_
  refine vwp_sq [0, 1] fun K1 hK1 => vwp_region hT ?_
  simp
  refine hK1 _ ?_
  try clear hK1 K1
  refine vwp_seq_k fun K2 hK2 => ?_
  refine vwp_sq [0, 1] fun K3 hK3 => vwp_region hT ?_
  simp
  refine hK3 _ ?_
  try clear hK3 K3
  refine vwp_block ?_
  refine vwp_loop_s (fun i : Nat => ⟨[(0, sI l), (1, .fn 61 []), (7, .int .i64 l.length), (8, .int .i64 (i : Int))], []⟩) (fun i => i ≤ l.length ∧ ∀ j y, j < i → l[j]? = some y → (offB) y = false) (fun i => l.length - i) (0) (Gh.to_k [0, 1, 7, 8] []) (⟨by omega, fun j y h => by omega⟩) ?_
  rintro i ⟨hie, hno⟩
  intro K4 hK4
  refine vwp_sq [0, 1, 7, 8] fun K5 hK5 => vwp_region hT ?_
  simp
  refine hK5 _ ?_
  try clear hK5 K5
  refine vwp_seq_k fun K6 hK6 => ?_
  refine vwp_cond (by first | rfl | (simp; rfl)) (fun h1 => ?_) fun h1 => ?_
  · simp -failIfUnchanged at h1; all_goals
   refine vwp_skip ?_
   refine hK6 _ ?_
   try clear hK6 K6
   refine vwp_seq_k fun K7 hK7 => ?_
   refine vwp_block ?_
   refine vwp_sq [0, 1, 7, 8] fun K8 hK8 => vwp_region hT ?_
   simp
   refine hK8 _ ?_
   try clear hK8 K8
   obtain ⟨x, hx⟩ := getI (l := l) (i := i) (by omega)
   refine vwp_sq [0, 1, 5, 7, 8] fun K9 hK9 => vwp_region hT ?_
   simp [hx]
   repeat refine ⟨by first | assumption | omega | (intros; omega), ?_⟩
   refine vcall_k [] (may1_spec x) ?_
   rintro r ob' ⟨rfl, rfl⟩
   simp [hx]
   repeat refine ⟨by first | assumption | omega | (intros; omega), ?_⟩
   refine hK9 _ ?_
   try clear hK9 K9
   refine vwp_cond (by first | rfl | (simp; rfl)) (fun h2 => ?_) fun h2 => ?_
   · simp -failIfUnchanged at h2; all_goals
    refine vwp_sq [5] fun K10 hK10 => vwp_region hT ?_
    simp
    refine hK10 _ ?_
    try clear hK10 K10
    refine vwp_ret (hR _ _ ?_)
    rw [findIdx_some (p := offB) hx (by simpa using h2) hno]
    exact ret_k [4] [] ([]) (.int .i64 (i : Int)) (⟨rfl, rfl⟩)
   · simp -failIfUnchanged at h2; all_goals
    refine vwp_skip ?_
    refine hK7 _ ?_
    try clear hK7 K7
    have w1 : IntKind.i64.wrap ((i : Int) + 1) = i + 1 := w64 (by omega) (by omega)
    refine vwp_live [0, 1, 7, 8] (vwp_region hT ?_)
    simp [w1]
    exact hK4 (i + 1) _ (Gh.to_k [0, 1, 7, 8] []) (⟨by omega, fun j y hj hy => by
      by_cases e : j = i
      · subst e; rw [hx] at hy; cases hy; simpa using h2
      · exact hno j y (by omega) hy⟩) (by omega)
  · simp -failIfUnchanged at h1; all_goals
   refine vwp_exit ?_
   simp only [inBlk, thenQ, if_true]
   refine hK2 _ ?_
   try clear hK2 K2
   refine vwp_sq [] fun K11 hK11 => vwp_region hT ?_
   simp
   refine hK11 _ ?_
   try clear hK11 K11
   refine vwp_ret (hR _ _ ?_)
   rw [findIdx_none (p := offB) fun j y hj hy => hno j y (by omega) hy]
   exact ret_k [4] [] ([]) (.int .i64 (-1)) (⟨rfl, rfl⟩)

theorem oI_ge {α : Type} (l : List α) (p : α → Bool) : decide (0 ≤ oI (l.findIdx? p)) = l.any p := by
  rcases h : l.findIdx? p with _ | i
  · rw [List.findIdx?_eq_none_iff] at h
    have : l.any p = false := by simpa using h
    rw [this]; rfl
  · have : l.any p = true := by
      obtain ⟨h1, h2, _⟩ := List.findIdx?_eq_some_iff_getElem.1 h
      exact List.any_eq_true.2 ⟨_, List.getElem_mem h1, h2⟩
    rw [this]
    simp [oI]
theorem containsFunc_mayw (l : List Int) (hl : l.length < 9223372036854775807)  : VC P 54 [sI l, .fn 61 []] [] (fun r ob' => r = .bool (l.any (offB)) ∧ ob' = []) := by
  refine VC_of_vwp_k ent_54 Try.func54 rfl (by simp) fun R hR => ?_
  refine vwp_sq [0, 1] fun K1 hK1 => vwp_region hT ?_
  simp
  refine hK1 _ ?_
  try clear hK1 K1
  refine vwp_sq [0, 1] fun K2 hK2 => vwp_region hT ?_
  simp
  refine vcall_k [] (indexFunc_mayw l hl ) ?_
  rintro r ob' ⟨rfl, rfl⟩
  simp
  refine hK2 _ ?_
  try clear hK2 K2
  refine vwp_ret (hR _ _ ?_)
  exact ret_k [4] [] ([]) (.bool (l.any (offB))) (⟨rfl, rfl⟩) (hr := by simp [← oI_ge])
theorem many_spec (n : Nat) (hn : n ≤ 6) : VC P 64 [.int .i64 n] [] (fun r ob' => r = .int .i64 (p2 n : Int) ∧ ob' = []) := by
  refine VC_of_vwp_k ent_64 Try.func64 rfl (by simp) fun R hR => ?_
  refine vwp_sq [0] fun K1 hK1 => vwp_region hT ?_
  simp
  refine hK1 _ ?_
  try clear hK1 K1
  refine vwp_sq [0] fun K2 hK2 => vwp_region hT ?_
  simp
  refine hK2 _ ?_
  try clear hK2 K2
  refine vwp_seq_k fun K3 hK3 => ?_
  refine vwp_sq [0, 3] fun K4 hK4 => vwp_region hT ?_
  simp
  refine hK4 _ ?_
  try clear hK4 K4
  refine vwp_block ?_
  refine vwp_loop_s (fun i : Nat => ⟨[(0, .int .i64 n), (3, .int .i64 (p2 i : Int)), (4, .int .i64 (i : Int))], []⟩) (fun i => i ≤ n) (fun i => n - i) (0) (Gh.to_k [0, 3, 4] [] (he := by simp [p2])) (by omega) ?_
  rintro i hi
  intro K5 hK5
  refine vwp_seq_k fun K6 hK6 => ?_
  refine vwp_sq [0, 3, 4] fun K7 hK7 => vwp_region hT ?_
  simp
  refine hK7 _ ?_
  try clear hK7 K7
  refine vwp_cond (by first | rfl | (simp; rfl)) (fun h1 => ?_) fun h1 => ?_
  · simp -failIfUnchanged at h1; all_goals
   refine vwp_skip ?_
   refine hK6 _ ?_
   try clear hK6 K6
   refine vwp_seq_k fun K8 hK8 => ?_
   refine vwp_block ?_
   have hp := p2_le i (by omega)
   have w2 : IntKind.i64.wrap (2 * (p2 i : Int)) = (p2 (i + 1) : Int) := by
     rw [w64 (by omega) (by omega), p2_succ]; omega
   refine vwp_live [0, 3, 4] (vwp_region hT ?_)
   simp [w2]
   refine hK8 _ ?_
   try clear hK8 K8
   have w1 : IntKind.i64.wrap ((i : Int) + 1) = i + 1 := w64 (by omega) (by omega)
   refine vwp_live [0, 3, 4] (vwp_region hT ?_)
   simp [w1]
   exact hK5 (i + 1) _ (Gh.to_k [0, 3, 4] [] (he := by simp)) (by omega) (by omega)
  · simp -failIfUnchanged at h1; all_goals
   refine vwp_exit ?_
   simp only [inBlk, thenQ, if_true]
   refine hK3 _ ?_
   try clear hK3 K3
   refine vwp_sq [3] fun K9 hK9 => vwp_region hT ?_
   simp
   refine hK9 _ ?_
   try clear hK9 K9
   refine vwp_ret (hR _ _ ?_)
   have e : i = n := by omega
   subst e
   exact ret_k [2] [] ([]) (.int .i64 (p2 i : Int)) (⟨rfl, rfl⟩)

def fct : Nat → Nat
  | 0 => 1
  | n + 1 => (n + 1) * fct n
theorem fct_le : ∀ n, n ≤ 6 → fct n ≤ 720 := by decide
theorem fct_succ {n : Nat} : fct (n + 1) = (n + 1) * fct n := rfl
theorem fact_spec (n : Nat) (hn : n ≤ 6) : VC P 43 [.int .i64 n] [] (fun r ob' => r = .int .i64 (fct n : Int) ∧ ob' = []) := by
  refine VC_of_vwp_k ent_43 Try.func43 rfl (by simp) fun R hR => ?_
  refine vwp_sq [0] fun K1 hK1 => vwp_region hT ?_
  simp
  refine hK1 _ ?_
  try clear hK1 K1
  refine vwp_sq [0] fun K2 hK2 => vwp_region hT ?_
  simp
  refine hK2 _ ?_
  try clear hK2 K2
  refine vwp_seq_k fun K3 hK3 => ?_
  refine vwp_sq [0, 3] fun K4 hK4 => vwp_region hT ?_
  simp
  refine hK4 _ ?_
  try clear hK4 K4
  refine vwp_block ?_
  refine vwp_loop_s (fun i : Nat => ⟨[(0, .int .i64 n), (3, .int .i64 (fct i : Int)), (4, .int .i64 ((i : Int) + 1))], []⟩) (fun i => 1 ≤ i ∧ (i ≤ n ∨ i = 1)) (fun i => n - i) (1) (Gh.to_k [0, 3, 4] [] (he := by simp [fct])) (⟨by omega, by omega⟩) ?_
  rintro i ⟨hi, hi2⟩
  intro K5 hK5
  refine vwp_seq_k fun K6 hK6 => ?_
  refine vwp_sq [0, 3, 4] fun K7 hK7 => vwp_region hT ?_
  simp
  refine hK7 _ ?_
  try clear hK7 K7
  refine vwp_cond (by first | rfl | (simp; rfl)) (fun h1 => ?_) fun h1 => ?_
  · simp -failIfUnchanged at h1; all_goals
   refine vwp_skip ?_
   refine hK6 _ ?_
   try clear hK6 K6
   refine vwp_seq_k fun K8 hK8 => ?_
   refine vwp_block ?_
   have hp := fct_le i (by omega)
   have hp2 := fct_le (i + 1) (by omega)
   have w2 : IntKind.i64.wrap ((fct i : Int) * ((i : Int) + 1)) = (fct (i + 1) : Int) := by
     have e : (fct i : Int) * ((i : Int) + 1) = ((fct (i + 1) : Nat) : Int) := by rw [fct_succ, Nat.mul_comm]; push_cast; rfl
     rw [e]; exact w64 (by omega) (by omega)
   refine vwp_live [0, 3, 4] (vwp_region hT ?_)
   simp [w2]
   refine hK8 _ ?_
   try clear hK8 K8
   have w1 : IntKind.i64.wrap ((i : Int) + 1 + 1) = ((i + 1 : Nat) : Int) + 1 := (w64 (by omega) (by omega)).trans (by omega)
   refine vwp_live [0, 3, 4] (vwp_region hT ?_)
   simp [w1]
   exact hK5 (i + 1) _ (Gh.to_k [0, 3, 4] []) (⟨by omega, by omega⟩) (by omega)
  · simp -failIfUnchanged at h1; all_goals
   refine vwp_exit ?_
   simp only [inBlk, thenQ, if_true]
   refine hK3 _ ?_
   try clear hK3 K3
   refine vwp_sq [3] fun K9 hK9 => vwp_region hT ?_
   simp
   refine hK9 _ ?_
   try clear hK9 K9
   refine vwp_ret (hR _ _ ?_)
   have e : fct i = fct n := by
     rcases hi2 with h | h
     · have : i = n := by omega
       rw [this]
     · subst h
       have : n = 0 ∨ n = 1 := by omega
       rcases this with rfl | rfl <;> rfl
   rw [← e]
   exact ret_k [2] [] ([]) (.int .i64 (fct i : Int)) (⟨rfl, rfl⟩)

/-- How many bits. -/
def pop (c : Nat) : Nat := if h : c = 0 then 0 else 1 + pop (c &&& (c - 1))
termination_by c
decreasing_by
  have := Nat.and_le_right (n := c) (m := c - 1)
  omega
theorem pop_pos {c : Nat} (h : 0 < c) : pop c = 1 + pop (c &&& (c - 1)) := by rw [pop, dif_neg (by omega)]
theorem pop_zero : pop 0 = 0 := by rw [pop, dif_pos rfl]
theorem pop_le : ∀ c, pop c ≤ c := by
  intro c
  induction c using Nat.strongRecOn with
  | _ c ih =>
    by_cases h : c = 0
    · subst h; simp [pop_zero]
    · have h1 := Nat.and_le_right (n := c) (m := c - 1)
      have h2 := ih (c &&& (c - 1)) (by omega)
      rw [pop_pos (by omega)]
      omega
theorem size_spec (c : Nat) (hc : c < 1099511627776) : VC P 42 [.int .i64 c] [] (fun r ob' => r = .int .i64 (pop c : Int) ∧ ob' = []) := by
  refine VC_of_vwp_k ent_42 Try.func42 rfl (by simp) fun R hR => ?_
  refine vwp_sq [0] fun K1 hK1 => vwp_region hT ?_
  simp
  refine hK1 _ ?_
  try clear hK1 K1
  refine vwp_sq [0] fun K2 hK2 => vwp_region hT ?_
  simp
  refine hK2 _ ?_
  try clear hK2 K2
  refine vwp_seq_k fun K3 hK3 => ?_
  refine vwp_block ?_
  refine vwp_loop_s (fun x : Nat × Nat => ⟨[(0, .int .i64 (x.1 : Int)), (3, .int .i64 (x.2 : Int))], []⟩) (fun x => x.2 + pop x.1 = pop c ∧ x.1 ≤ c) (fun x => x.1) ((c, 0)) (Gh.to_k [0, 3] []) (⟨by simp, by simp⟩) ?_
  rintro ⟨d, m⟩ ⟨hd, hd2⟩
  dsimp only at hd hd2 ⊢
  intro K4 hK4
  refine vwp_seq_k fun K5 hK5 => ?_
  refine vwp_sq [0, 3] fun K6 hK6 => vwp_region hT ?_
  simp
  refine hK6 _ ?_
  try clear hK6 K6
  refine vwp_cond (by first | rfl | (simp; rfl)) (fun h1 => ?_) fun h1 => ?_
  · simp -failIfUnchanged at h1; all_goals
   refine vwp_skip ?_
   refine hK5 _ ?_
   try clear hK5 K5
   refine vwp_seq_k fun K7 hK7 => ?_
   refine vwp_block ?_
   have hp := pop_pos (c := d) (by omega)
   have hle := Nat.and_le_right (n := d) (m := d - 1)
   have hpl := pop_le c
   have w1 : IntKind.i64.wrap ((m : Int) + 1) = m + 1 := w64 (by omega) (by omega)
   refine vwp_live [0, 3] (vwp_region hT ?_)
   simp [w1]
   refine hK7 _ ?_
   try clear hK7 K7
   have w2 : IntKind.i64.wrap ((d : Int) - 1) = ((d - 1 : Nat) : Int) := (w64 (by omega) (by omega)).trans (by omega)
   have w3 : ibits .and .i64 (d : Int) ((d - 1 : Nat) : Int) = ((d &&& (d - 1) : Nat) : Int) := by
     rw [and64 (by omega) (by omega) (by omega) (by omega)]; simp
   refine vwp_live [0, 3] (vwp_region hT ?_)
   simp [w2, w3]
   exact hK4 ((d &&& (d - 1), m + 1)) _ (Gh.to_k [0, 3] []) (⟨by dsimp only; omega, by dsimp only; omega⟩) (by dsimp only; omega)
  · simp -failIfUnchanged at h1; all_goals
   refine vwp_exit ?_
   simp only [inBlk, thenQ, if_true]
   refine hK3 _ ?_
   try clear hK3 K3
   refine vwp_sq [3] fun K8 hK8 => vwp_region hT ?_
   simp
   refine hK8 _ ?_
   try clear hK8 K8
   refine vwp_ret (hR _ _ ?_)
   have e : d = 0 := by omega
   subst e
   rw [pop_zero] at hd
   have e2 : m = pop c := by omega
   rw [← e2]
   exact ret_k [2] [] ([]) (.int .i64 (m : Int)) (⟨rfl, rfl⟩)

def rangeI (n : Nat) : List Int := (List.range n).map fun (i : Nat) => (i : Int)
theorem rangeI_succ {n : Nat} : rangeI (n + 1) = rangeI n ++ [(n : Int)] := by simp [rangeI, List.range_succ]
theorem rangeI_len {n : Nat} : (rangeI n).length = n := by simp [rangeI]
theorem left_spec (n : Nat) (hn : n ≤ 6) : VC P 48 [.int .i64 n] [] (fun r ob' => r = .sl 0 n 1 0 n ∧ ob' = [.live ((rangeI n).map (.int .i64))]) := by
  refine VC_of_vwp_k ent_48 Try.func48 rfl (by simp) fun R hR => ?_
  refine vwp_sq [0] fun K1 hK1 => vwp_region hT ?_
  simp
  refine hK1 _ ?_
  try clear hK1 K1
  refine vwp_sq [0] fun K2 hK2 => vwp_region hT ?_
  simp
  refine hK2 _ ?_
  try clear hK2 K2
  refine vwp_seq_k fun K3 hK3 => ?_
  refine vwp_gh (Gh.virt 3 1 (by rfl)) ?_
  simp
  refine vwp_sq [0, 3] fun K4 hK4 => vwp_region hT ?_
  simp
  refine hK4 _ ?_
  try clear hK4 K4
  refine vwp_block ?_
  refine vwp_loop_s (fun i : Nat => ⟨[(3, .sl 0 i 1 0 i), (5, .int .i64 n), (6, .int .i64 (i : Int))], [.live ((rangeI i).map (.int .i64))]⟩) (fun i => i ≤ n) (fun i => n - i) (0) (Gh.to_k [3, 5, 6] [0] (hh := by simp [rangeI])) (by omega) ?_
  rintro i hi
  intro K5 hK5
  refine vwp_sq [3, 5, 6] fun K6 hK6 => vwp_region hT ?_
  simp
  refine hK6 _ ?_
  try clear hK6 K6
  refine vwp_seq_k fun K7 hK7 => ?_
  refine vwp_cond (by first | rfl | (simp; rfl)) (fun h1 => ?_) fun h1 => ?_
  · simp -failIfUnchanged at h1; all_goals
   refine vwp_skip ?_
   refine hK7 _ ?_
   try clear hK7 K7
   refine vwp_seq_k fun K8 hK8 => ?_
   refine vwp_block ?_
   refine vwp_sq [3, 5, 6] fun K9 hK9 => vwp_region hT ?_
   simp
   refine hK9 _ ?_
   try clear hK9 K9
   refine vwp_live [3, 4, 5, 6] (vwp_region hT ?_)
   simp [rangeI_len]
   repeat refine ⟨by first | assumption | omega | (intros; omega), ?_⟩
   refine hK8 _ ?_
   try clear hK8 K8
   have w1 : IntKind.i64.wrap ((i : Int) + 1) = i + 1 := w64 (by omega) (by omega)
   refine vwp_live [3, 5, 6] (vwp_region hT ?_)
   simp [w1]
   exact hK5 (i + 1) _ (Gh.to_k [3, 5, 6] [0] (hh := by simp [rangeI_succ])) (by omega) (by omega)
  · simp -failIfUnchanged at h1; all_goals
   refine vwp_exit ?_
   simp only [inBlk, thenQ, if_true]
   refine hK3 _ ?_
   try clear hK3 K3
   refine vwp_sq [3] fun K10 hK10 => vwp_region hT ?_
   simp
   refine hK10 _ ?_
   try clear hK10 K10
   refine vwp_ret (hR _ _ ?_)
   have e : i = n := by omega
   subst e
   exact ret_k [2] [0] ([.live ((rangeI i).map (.int .i64))]) (.sl 0 i 1 0 i) (⟨rfl, rfl⟩)

def cnt (l : List Int) (x : Int) : Nat := l.countP fun y => y == x
theorem cnt_take {l : List Int} {x y : Int} {i : Nat} (h : l[i]? = some y) : cnt (l.take (i + 1)) x = cnt (l.take i) x + if y = x then 1 else 0 := by
  simp [cnt, List.take_add_one, h, List.countP_append, List.countP_cons]
theorem cnt_le (l : List Int) (x : Int) (i : Nat) : cnt (l.take i) x ≤ i := Nat.le_trans List.countP_le_length (by simp; omega)
theorem in_spec (l : List Int) (x : Int) (hl : l.length < 1099511627776) : VC P 50 [sI l, .int .i64 x] [] (fun r ob' => r = .int .i64 (cnt l x : Int) ∧ ob' = []) := by
  refine VC_of_vwp_k ent_50 Try.func50 rfl (by simp) fun R hR => ?_
  refine vwp_sq [0, 1] fun K1 hK1 => vwp_region hT ?_
  simp
  refine hK1 _ ?_
  try clear hK1 K1
  refine vwp_sq [0, 1] fun K2 hK2 => vwp_region hT ?_
  simp
  refine hK2 _ ?_
  try clear hK2 K2
  refine vwp_seq_k fun K3 hK3 => ?_
  refine vwp_sq [0, 1, 5] fun K4 hK4 => vwp_region hT ?_
  simp
  refine hK4 _ ?_
  try clear hK4 K4
  refine vwp_block ?_
  refine vwp_loop_s (fun i : Nat => ⟨[(0, sI l), (1, .int .i64 x), (5, .int .i64 (cnt (l.take i) x : Int)), (6, .int .i64 (i : Int))], []⟩) (fun i => i ≤ l.length) (fun i => l.length - i) (0) (Gh.to_k [0, 1, 5, 6] [] (he := by simp [cnt])) (by omega) ?_
  rintro i hi
  intro K5 hK5
  refine vwp_seq_k fun K6 hK6 => ?_
  refine vwp_sq [0, 1, 5, 6] fun K7 hK7 => vwp_region hT ?_
  simp
  refine hK7 _ ?_
  try clear hK7 K7
  refine vwp_cond (by first | rfl | (simp; rfl)) (fun h1 => ?_) fun h1 => ?_
  · simp -failIfUnchanged at h1; all_goals
   refine vwp_skip ?_
   refine hK6 _ ?_
   try clear hK6 K6
   refine vwp_seq_k fun K8 hK8 => ?_
   refine vwp_block ?_
   obtain ⟨y, hy⟩ := getI (l := l) (i := i) (by omega)
   have hc := cnt_take (x := x) hy
   have hcl := cnt_le l x i
   refine vwp_sq [0, 1, 5, 6] fun K9 hK9 => vwp_region hT ?_
   simp [hy]
   repeat refine ⟨by first | assumption | omega | (intros; omega), ?_⟩
   refine hK9 _ ?_
   try clear hK9 K9
   refine vwp_cond (by first | rfl | (simp; rfl)) (fun h2 => ?_) fun h2 => ?_
   · simp -failIfUnchanged at h2; all_goals
    have w2 : IntKind.i64.wrap ((cnt (l.take i) x : Int) + 1) = ((cnt (l.take i) x + 1 : Nat) : Int) := w64 (by omega) (by omega)
    refine vwp_live [0, 1, 5, 6] (vwp_region hT ?_)
    simp [w2]
    refine hK8 _ ?_
    try clear hK8 K8
    have he : cnt (l.take (i + 1)) x = cnt (l.take i) x + 1 := by rw [hc, if_pos (by simpa using h2)]
    have w1 : IntKind.i64.wrap ((i : Int) + 1) = i + 1 := w64 (by omega) (by omega)
    refine vwp_live [0, 1, 5, 6] (vwp_region hT ?_)
    simp [w1]
    exact hK5 (i + 1) _ (Gh.to_k [0, 1, 5, 6] [] (he := by simp [he])) (by omega) (by omega)
   · simp -failIfUnchanged at h2; all_goals
    refine vwp_skip ?_
    refine hK8 _ ?_
    try clear hK8 K8
    have he : cnt (l.take (i + 1)) x = cnt (l.take i) x := by rw [hc, if_neg (by simpa using h2)]; rfl
    have w1 : IntKind.i64.wrap ((i : Int) + 1) = i + 1 := w64 (by omega) (by omega)
    refine vwp_live [0, 1, 5, 6] (vwp_region hT ?_)
    simp [w1]
    exact hK5 (i + 1) _ (Gh.to_k [0, 1, 5, 6] [] (he := by simp [he])) (by omega) (by omega)
  · simp -failIfUnchanged at h1; all_goals
   refine vwp_exit ?_
   simp only [inBlk, thenQ, if_true]
   refine hK3 _ ?_
   try clear hK3 K3
   refine vwp_sq [5] fun K10 hK10 => vwp_region hT ?_
   simp
   refine hK10 _ ?_
   try clear hK10 K10
   refine vwp_ret (hR _ _ ?_)
   have e : i = l.length := by omega
   subst e
   exact ret_k [4] [] ([]) (.int .i64 (cnt l x : Int)) (⟨rfl, rfl⟩) (hr := by simp)

/-- Is what is sorted 0, 1, ..? -/
def upB (l : List Int) : Bool := (List.range l.length).all fun (i : Nat) => decide (l[i]? = some (i : Int))
theorem upB_true {l : List Int} (h : ∀ (j : Nat), j < l.length → l[j]? = some (j : Int)) : upB l = true := by
  simp only [upB, List.all_eq_true, List.mem_range, decide_eq_true_eq]
  exact h
theorem upB_false {l : List Int} {i : Nat} {x : Int} (hx : l[i]? = some x) (h : x ≠ (i : Int)) : upB l = false := by
  cases hu : upB l with
  | false => rfl
  | true =>
    simp only [upB, List.all_eq_true, List.mem_range, decide_eq_true_eq] at hu
    have := hu i (List.getElem?_eq_some_iff.1 hx).1
    rw [hx] at this
    exact absurd (Option.some.inj this) h
def isB (n : Int) (l : List Int) : Bool := upB (srt l) && ((l.length : Int) == n)
theorem is_spec (n : Int) (l : List Int) (hl : l.length < 1099511627776) : VC P 44 [.int .i64 n, sI l] [] (fun r ob' => r = .bool (isB n l) ∧ ob' = []) := by
  refine VC_of_vwp_k ent_44 Try.func44 rfl (by simp) fun R hR => ?_
  refine vwp_sq [0, 1] fun K1 hK1 => vwp_region hT ?_
  simp
  refine hK1 _ ?_
  try clear hK1 K1
  refine vwp_sq [0, 1] fun K2 hK2 => vwp_region hT ?_
  simp
  refine vcall_k [] (values_spec l) ?_
  rintro r ob' ⟨rfl, rfl⟩
  simp
  refine vcall_k [0] (sorted_spec l hl) ?_
  rintro r ob' ⟨rfl, rfl⟩
  simp
  obtain ⟨S, hS⟩ : ∃ S, S = srt l := ⟨_, rfl⟩
  have hSl : S.length = l.length := by rw [hS]; simp
  rw [← hS]
  refine hK2 _ ?_
  try clear hK2 K2
  refine vwp_seq_k fun K3 hK3 => ?_
  refine vwp_sq [0, 5] fun K4 hK4 => vwp_region hT ?_
  simp [hSl]
  refine hK4 _ ?_
  try clear hK4 K4
  refine vwp_block ?_
  refine vwp_loop_s (fun i : Nat => ⟨[(0, .int .i64 n), (5, .sl 0 l.length 1 0 l.length), (11, .sl 0 l.length 1 0 l.length), (12, .int .i64 l.length), (13, .int .i64 (i : Int))], [.live (S.map (.int .i64))]⟩) (fun i => i ≤ l.length ∧ ∀ (j : Nat), j < i → S[j]? = some (j : Int)) (fun i => l.length - i) (0) (Gh.to_k [0, 5, 11, 12, 13] [1]) (⟨by omega, fun j h => by omega⟩) ?_
  rintro i ⟨hi, hup⟩
  intro K5 hK5
  refine vwp_sq [0, 5, 11, 12, 13] fun K6 hK6 => vwp_region hT ?_
  simp
  refine hK6 _ ?_
  try clear hK6 K6
  refine vwp_seq_k fun K7 hK7 => ?_
  refine vwp_cond (by first | rfl | (simp; rfl)) (fun h1 => ?_) fun h1 => ?_
  · simp -failIfUnchanged at h1; all_goals
   refine vwp_skip ?_
   refine hK7 _ ?_
   try clear hK7 K7
   refine vwp_seq_k fun K8 hK8 => ?_
   refine vwp_block ?_
   obtain ⟨x, hx⟩ := getI (l := S) (i := i) (by omega)
   refine vwp_sq [0, 5, 11, 12, 13] fun K9 hK9 => vwp_region hT ?_
   simp [hx, hSl]
   repeat refine ⟨by first | assumption | omega | (intros; omega), ?_⟩
   refine hK9 _ ?_
   try clear hK9 K9
   refine vwp_sq [0, 5, 6, 7, 11, 12, 13] fun K10 hK10 => vwp_region hT ?_
   simp
   refine hK10 _ ?_
   try clear hK10 K10
   refine vwp_cond (by first | rfl | (simp; rfl)) (fun h2 => ?_) fun h2 => ?_
   · simp -failIfUnchanged at h2; all_goals
    refine vwp_sq [] fun K11 hK11 => vwp_region hT ?_
    simp
    refine hK11 _ ?_
    try clear hK11 K11
    refine vwp_ret (hR _ _ ?_)
    have hf := upB_false hx (by simpa using h2)
    exact ret_k [4] [] ([]) (.bool (isB n l)) (⟨rfl, rfl⟩) (hr := by simp [isB, ← hS, hf])
   · simp -failIfUnchanged at h2; all_goals
    refine vwp_skip ?_
    refine hK8 _ ?_
    try clear hK8 K8
    have w1 : IntKind.i64.wrap ((i : Int) + 1) = i + 1 := w64 (by omega) (by omega)
    refine vwp_live [0, 5, 11, 12, 13] (vwp_region hT ?_)
    simp [w1]
    exact hK5 (i + 1) _ (Gh.to_k [0, 5, 11, 12, 13] [0]) (⟨by omega, fun j hj => by
      by_cases e : j = i
      · subst e; rw [hx, h2]
      · exact hup j (by omega)⟩) (by omega)
  · simp -failIfUnchanged at h1; all_goals
   refine vwp_exit ?_
   simp only [inBlk, thenQ, if_true]
   refine hK3 _ ?_
   try clear hK3 K3
   refine vwp_sq [0, 5] fun K12 hK12 => vwp_region hT ?_
   simp [hSl]
   refine hK12 _ ?_
   try clear hK12 K12
   refine vwp_ret (hR _ _ ?_)
   have e : i = l.length := by omega
   subst e
   have hf := upB_true (l := S) fun j hj => hup j (by omega)
   exact ret_k [4] [] ([]) (.bool (isB n l)) (⟨rfl, rfl⟩) (hr := by simp [isB, ← hS, hf])
end Go.Proofs.Ythjpaongoflgiaa
