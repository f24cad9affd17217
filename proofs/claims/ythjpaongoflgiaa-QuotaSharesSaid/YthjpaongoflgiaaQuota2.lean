/- Shares and fractions: what the functions of quota tell. -/
import Derived.Test.YthjpaongoflgiaaQSort4
import Derived.Test.YthjpaongoflgiaaMoney
import Derived.Test.YthjpaongoflgiaaQuota1
namespace Go.Proofs.Ythjpaongoflgiaa
open Go Go.VX Go.RowKit
set_option linter.unusedVariables false
set_option linter.unusedSimpArgs false
set_option maxHeartbeats 20000000
set_option maxRecDepth 100000
open Go.VX.Rk Go.VX.Srt

def outB (lo hi n : Int) : Bool := decide (n < lo) || decide (hi < n)
theorem within1_spec (n lo hi : Int) : VC P 55 [.int .i64 n, .fp [.int .i64 lo], .fp [.int .i64 hi]] [] (fun r ob' => r = .bool (outB lo hi n) ∧ ob' = []) := by
  refine VC_of_vwp_k ent_55 Try.func55 rfl (by simp) fun R hR => ?_
  refine vwp_sq [0, 1, 2] fun K1 hK1 => vwp_region hT ?_
  simp
  refine hK1 _ ?_
  try clear hK1 K1
  refine vwp_sq [0, 1, 2] fun K2 hK2 => vwp_region hT ?_
  simp
  refine hK2 _ ?_
  try clear hK2 K2
  refine vwp_ret (hR _ _ ?_)
  exact ret_k [4] [] ([]) (.bool (outB lo hi n)) (⟨rfl, rfl⟩) (hr := by simp [outB])
theorem indexFunc_within (l : List Int) (hl : l.length < 9223372036854775807) (lo hi : Int) : VC P 66 [sI l, .fn 55 [.fp [.int .i64 lo], .fp [.int .i64 hi]]] [] (fun r ob' => r = .int .i64 (oI (l.findIdx? (outB lo hi))) ∧ ob' = []) := by
  refine VC_of_vwp_k ent_66 Try.func66 rfl (by simp) fun R hR => ?_
  refine vwp_sq [0, 1] fun K1 hK1 => vwp_region hT ?_
  simp
  refine hK1 _ ?_
  try clear hK1 K1
  refine vwp_seq_k fun K2 hK2 => ?_
  refine vwp_sq [0, 1] fun K3 hK3 => vwp_region hT ?_
  simp
  refine hK3 _ ?_
  try clear hK3 K3
  refine vwp_block ?_
  refine vwp_loop_s (fun i : Nat => ⟨[(0, sI l), (1, .fn 55 [.fp [.int .i64 lo], .fp [.int .i64 hi]]), (7, .int .i64 l.length), (8, .int .i64 (i : Int))], []⟩) (fun i => i ≤ l.length ∧ ∀ j y, j < i → l[j]? = some y → (outB lo hi) y = false) (fun i => l.length - i) (0) (Gh.to_k [0, 1, 7, 8] []) (⟨by omega, fun j y h => by omega⟩) ?_
  rintro i ⟨hie, hno⟩
  intro K4 hK4
  refine vwp_sq [0, 1, 7, 8] fun K5 hK5 => vwp_region hT ?_
  simp
  refine hK5 _ ?_
  try clear hK5 K5
  refine vwp_seq_k fun K6 hK6 => ?_
  refine vwp_cond (by first | rfl | (simp; rfl)) (fun h1 => ?_) fun h1 => ?_
  · simp -failIfUnchanged at h1; all_goals
   refine vwp_skip ?_
   refine hK6 _ ?_
   try clear hK6 K6
   refine vwp_seq_k fun K7 hK7 => ?_
   refine vwp_block ?_
   refine vwp_sq [0, 1, 7, 8] fun K8 hK8 => vwp_region hT ?_
   simp
   refine hK8 _ ?_
   try clear hK8 K8
   obtain ⟨x, hx⟩ := getI (l := l) (i := i) (by omega)
   refine vwp_sq [0, 1, 5, 7, 8] fun K9 hK9 => vwp_region hT ?_
   simp [hx]
   repeat refine ⟨by first | assumption | omega | (intros; omega), ?_⟩
   refine vcall_k [] (within1_spec x lo hi) ?_
   rintro r ob' ⟨rfl, rfl⟩
   simp [hx]
   repeat refine ⟨by first | assumption | omega | (intros; omega), ?_⟩
   refine hK9 _ ?_
   try clear hK9 K9
   refine vwp_cond (by first | rfl | (simp; rfl)) (fun h2 => ?_) fun h2 => ?_
   · simp -failIfUnchanged at h2; all_goals
    refine vwp_sq [5] fun K10 hK10 => vwp_region hT ?_
    simp
    refine hK10 _ ?_
    try clear hK10 K10
    refine vwp_ret (hR _ _ ?_)
    rw [findIdx_some (p := outB lo hi) hx (by simpa using h2) hno]
    exact ret_k [4] [] ([]) (.int .i64 (i : Int)) (⟨rfl, rfl⟩)
   · simp -failIfUnchanged at h2; all_goals
    refine vwp_skip ?_
    refine hK7 _ ?_
    try clear hK7 K7
    have w1 : IntKind.i64.wrap ((i : Int) + 1) = i + 1 := w64 (by omega) (by omega)
    refine vwp_live [0, 1, 7, 8] (vwp_region hT ?_)
    simp [w1]
    exact hK4 (i + 1) _ (Gh.to_k [0, 1, 7, 8] []) (⟨by omega, fun j y hj hy => by
      by_cases e : j = i
      · subst e; rw [hx] at hy; cases hy; simpa using h2
      · exact hno j y (by omega) hy⟩) (by omega)
  · simp -failIfUnchanged at h1; all_goals
   refine vwp_exit ?_
   simp only [inBlk, thenQ, if_true]
   refine hK2 _ ?_
   try clear hK2 K2
   refine vwp_sq [] fun K11 hK11 => vwp_region hT ?_
   simp
   refine hK11 _ ?_
   try clear hK11 K11
   refine vwp_ret (hR _ _ ?_)
   rw [findIdx_none (p := outB lo hi) fun j y hj hy => hno j y (by omega) hy]
   exact ret_k [4] [] ([]) (.int .i64 (-1)) (⟨rfl, rfl⟩)

theorem oI_ge {α : Type} (l : List α) (p : α → Bool) : decide (0 ≤ oI (l.findIdx? p)) = l.any p := by
  rcases h : l.findIdx? p with _ | i
  · rw [List.findIdx?_eq_none_iff] at h
    have : l.any p = false := by simpa using h
    rw [this]; rfl
  · have : l.any p = true := by
      obtain ⟨h1, h2, _⟩ := List.findIdx?_eq_some_iff_getElem.1 h
      exact List.any_eq_true.2 ⟨_, List.getElem_mem h1, h2⟩
    rw [this]
    simp [oI]
theorem containsFunc_within (l : List Int) (hl : l.length < 9223372036854775807) (lo hi : Int) : VC P 54 [sI l, .fn 55 [.fp [.int .i64 lo], .fp [.int .i64 hi]]] [] (fun r ob' => r = .bool (l.any (outB lo hi)) ∧ ob' = []) := by
  refine VC_of_vwp_k ent_54 Try.func54 rfl (by simp) fun R hR => ?_
  refine vwp_sq [0, 1] fun K1 hK1 => vwp_region hT ?_
  simp
  refine hK1 _ ?_
  try clear hK1 K1
  refine vwp_sq [0, 1] fun K2 hK2 => vwp_region hT ?_
  simp
  refine vcall_k [] (indexFunc_within l hl lo hi) ?_
  rintro r ob' ⟨rfl, rfl⟩
  simp
  refine hK2 _ ?_
  try clear hK2 K2
  refine vwp_ret (hR _ _ ?_)
  exact ret_k [4] [] ([]) (.bool (l.any (outB lo hi))) (⟨rfl, rfl⟩) (hr := by simp [← oI_ge])

def inB (lo hi : Int) (l : List Int) : Bool := l.all fun n => decide (lo ≤ n) && decide (n ≤ hi)
theorem inB_any (lo hi : Int) (l : List Int) : (!l.any (outB lo hi)) = inB lo hi l := by
  unfold inB
  rw [List.not_any_eq_all_not]
  congr 1
  funext n
  rw [Bool.eq_iff_iff]
  simp [outB]
theorem within_spec (l : List Int) (hl : l.length < 9223372036854775807) (lo hi : Int) : VC P 31 [sI l, .int .i64 lo, .int .i64 hi] [] (fun r ob' => r = .bool (inB lo hi l) ∧ ob' = []) := by
  refine VC_of_vwp_k ent_31 Try.func31 rfl (by simp) fun R hR => ?_
  refine vwp_sq [0, 1, 2] fun K1 hK1 => vwp_region hT ?_
  simp
  refine hK1 _ ?_
  try clear hK1 K1
  refine vwp_sq [0, 4, 5] fun K2 hK2 => vwp_region hT ?_
  simp
  refine vcall_z [] (containsFunc_within l hl lo hi) (by rintro r ob' ⟨rfl, rfl⟩; simp) ?_
  rintro r ob' ⟨rfl, rfl⟩
  simp
  refine hK2 _ ?_
  try clear hK2 K2
  refine vwp_ret (hR _ _ ?_)
  exact ret_k [6] [] ([]) (.bool (inB lo hi l)) (⟨rfl, rfl⟩) (hr := by simp [← inB_any])
theorem round1_spec (l : List Int) (over : Int) (i : Nat) (hi : i < l.length) (hp : ∀ n ∈ l, 0 ≤ n ∧ n ≤ 4503599627370496) (ho : 1 ≤ over) : VC P 33 [.int .i64 i, .fp [sI l], .fp [.int .i64 over]] [] (fun r ob' => r = .tup [.int .i64 ((l.map (· / over)).getD i 0), .int .i64 ((l.map (· % over)).getD i 0)] ∧ ob' = []) := by
  refine VC_of_vwp_k ent_33 Try.func33 rfl (by simp) fun R hR => ?_
  refine vwp_sq [0, 1, 2] fun K1 hK1 => vwp_region hT ?_
  simp
  refine hK1 _ ?_
  try clear hK1 K1
  obtain ⟨x, hx⟩ := getI hi
  have hx2 := hp x (List.mem_of_getElem? hx)
  have q1 := Int.ediv_le_self over hx2.1
  have q2 := Int.ediv_nonneg hx2.1 (show 0 ≤ over by omega)
  have w1 : IntKind.i64.wrap (x.tdiv over) = x / over := by rw [tdiv_pos hx2.1]; exact w64 (by omega) (by omega)
  have w2 : x.tmod over = x % over := tmod_pos hx2.1
  refine vwp_sq [0, 1, 2] fun K2 hK2 => vwp_still hT hm (by kernel_rfl) ?_
  simp [hx, w1, w2]
  repeat refine ⟨by first | assumption | omega | (intros; omega), ?_⟩
  refine hK2 _ ?_
  try clear hK2 K2
  refine vwp_ret (hR _ _ ?_)
  exact ret_k [4, 5] [] ([]) (.tup [.int .i64 (x / over), .int .i64 (x % over)]) (by simp [hx])
theorem share1_spec (total all : Int) (w : List Int) (i : Nat) (hi : i < w.length) (t0 : 0 ≤ total) (t1 : total ≤ 4611686018427387903) (hp : ∀ n ∈ w, 0 ≤ n ∧ n ≤ all) (a0 : 1 ≤ all) (a1 : all ≤ 4611686018427387903) : VC P 36 [.int .i64 i, .fp [.int .i64 total], .fp [sI w], .fp [.int .i64 all]] [] (fun r ob' => r = .tup [.int .i64 (((w.map (total * ·)).map (· / all)).getD i 0), .int .i64 (((w.map (total * ·)).map (· % all)).getD i 0)] ∧ ob' = []) := by
  refine VC_of_vwp_k ent_36 Try.func36 rfl (by simp) fun R hR => ?_
  refine vwp_sq [0, 1, 2, 3] fun K1 hK1 => vwp_region hT ?_
  simp
  refine hK1 _ ?_
  try clear hK1 K1
  obtain ⟨x, hx⟩ := getI hi
  have hx2 := hp x (List.mem_of_getElem? hx)
  refine vwp_sq [0, 1, 2, 3] fun K2 hK2 => vwp_calm hT hm (by kernel_rfl) ?_
  simp [hx]
  repeat refine ⟨by first | assumption | omega | (intros; omega), ?_⟩
  refine ⟨.tup [.int .i64 (total * x / all), .int .i64 (total * x % all), .int .i64 0], fun sl => ?_, ?_⟩
  · refine vcall_k [] (share_spec total x all t0 t1 a0 a1 hx2.1 hx2.2) ?_
    rintro r ob' ⟨rfl, rfl⟩
    simp
  simp [hx]
  repeat refine ⟨by first | assumption | omega | (intros; omega), ?_⟩
  refine hK2 _ ?_
  try clear hK2 K2
  refine vwp_sq [7, 8] fun K3 hK3 => vwp_region hT ?_
  simp
  refine hK3 _ ?_
  try clear hK3 K3
  refine vwp_ret (hR _ _ ?_)
  exact ret_k [5, 6] [] ([]) (.tup [.int .i64 (total * x / all), .int .i64 (total * x % all)]) (by simp [hx])
end Go.Proofs.Ythjpaongoflgiaa
