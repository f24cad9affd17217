/- Calls whose answers the document fixes. -/
import Derived.Test.YthjpaongoflgiaaShap14
import Derived.Test.YthjpaongoflgiaaVXc
namespace Go.Proofs.Ythjpaongoflgiaa
open Go Go.VX Go.RowKit
set_option linter.unusedVariables false
set_option linter.unusedSimpArgs false
set_option maxHeartbeats 20000000
set_option maxRecDepth 100000
theorem ints_spec (a b : List Int) (ha : a.length < 9223372036854775807) (hb : b.length < 9223372036854775807) : VC P 16 [sI a, sI b] [] (fun r ob' => r = .bool (decide (a = b)) ∧ ob' = []) := by
  refine VC_of_vwp_k ent_16 Try.func16 rfl (by simp) fun R hR => ?_
  refine vwp_sq [0, 1] fun K1 hK1 => vwp_region hT ?_
  simp
  refine hK1 _ ?_
  try clear hK1 K1
  refine vwp_seq_k fun K2 hK2 => ?_
  refine vwp_sq [0, 1] fun K3 hK3 => vwp_region hT ?_
  simp
  refine hK3 _ ?_
  try clear hK3 K3
  refine vwp_cond (by first | rfl | (simp; rfl)) (fun h1 => ?_) fun h1 => ?_
  · simp -failIfUnchanged at h1; all_goals
   refine vwp_sq [] fun K4 hK4 => vwp_region hT ?_
   simp
   refine hK4 _ ?_
   try clear hK4 K4
   refine vwp_ret (hR _ _ ?_)
   exact ret_k [4] [] ([]) (.bool (decide (a = b))) (⟨rfl, rfl⟩) (hr := by simp; intro e; subst e; omega)
  · simp -failIfUnchanged at h1; all_goals
   refine vwp_skip ?_
   refine hK2 _ ?_
   try clear hK2 K2
   refine vwp_seq_k fun K5 hK5 => ?_
   refine vwp_sq [0, 1] fun K6 hK6 => vwp_region hT ?_
   simp
   refine hK6 _ ?_
   try clear hK6 K6
   refine vwp_block ?_
   refine vwp_loop_s (fun i : Nat => ⟨[(0, sI a), (1, sI b), (5, .int .i64 (i : Int))], []⟩) (fun i => i ≤ a.length ∧ a.take i = b.take i) (fun i => a.length - i) (0) (Gh.to_k [0, 1, 5] []) (⟨by omega, by simp⟩) ?_
   rintro i ⟨hi, hab⟩
   intro K7 hK7
   refine vwp_seq_k fun K8 hK8 => ?_
   refine vwp_sq [0, 1, 5] fun K9 hK9 => vwp_region hT ?_
   simp
   refine hK9 _ ?_
   try clear hK9 K9
   refine vwp_cond (by first | rfl | (simp; rfl)) (fun h2 => ?_) fun h2 => ?_
   · simp -failIfUnchanged at h2; all_goals
    refine vwp_skip ?_
    refine hK8 _ ?_
    try clear hK8 K8
    refine vwp_seq_k fun K10 hK10 => ?_
    refine vwp_block ?_
    obtain ⟨x, hx⟩ := getI (l := a) (i := i) (by omega)
    obtain ⟨y, hy⟩ := getI (l := b) (i := i) (by omega)
    refine vwp_sq [0, 1, 5] fun K11 hK11 => vwp_still hT hm (by kernel_rfl) ?_
    simp [hx, hy]
    repeat refine ⟨by first | assumption | omega | (intros; omega), ?_⟩
    refine hK11 _ ?_
    try clear hK11 K11
    refine vwp_cond (by first | rfl | (simp; rfl)) (fun h3 => ?_) fun h3 => ?_
    · simp -failIfUnchanged at h3; all_goals
     refine vwp_sq [] fun K12 hK12 => vwp_region hT ?_
     simp
     refine hK12 _ ?_
     try clear hK12 K12
     refine vwp_ret (hR _ _ ?_)
     exact ret_k [4] [] ([]) (.bool (decide (a = b))) (⟨rfl, rfl⟩) (hr := by
       simp
       intro e; subst e
       rw [hx] at hy
       exact h3 (Option.some.inj hy))
    · simp -failIfUnchanged at h3; all_goals
     refine vwp_skip ?_
     refine hK10 _ ?_
     try clear hK10 K10
     have w1 : IntKind.i64.wrap ((i : Int) + 1) = i + 1 := w64 (by omega) (by omega)
     refine vwp_live [0, 1, 5] (vwp_region hT ?_)
     simp [w1]
     exact hK7 (i + 1) _ (Gh.to_k [0, 1, 5] []) (⟨by omega, by rw [List.take_add_one, List.take_add_one, hab, hx, hy, h3]⟩) (by omega)
   · simp -failIfUnchanged at h2; all_goals
    refine vwp_exit ?_
    simp only [inBlk, thenQ, if_true]
    refine hK5 _ ?_
    try clear hK5 K5
    refine vwp_sq [] fun K13 hK13 => vwp_region hT ?_
    simp
    refine hK13 _ ?_
    try clear hK13 K13
    refine vwp_ret (hR _ _ ?_)
    exact ret_k [4] [] ([]) (.bool (decide (a = b))) (⟨rfl, rfl⟩) (hr := by
      rw [List.take_of_length_le (by omega), List.take_of_length_le (by omega)] at hab
      simp [hab])

theorem nilw1 {k : Nat} {y : V} {ob : List Ob} {Q : V → List Ob → Prop} (h : VC P k [.fs 0 [], y] ob Q) : VC P k [.nils, y] ob Q := by
  refine h.weak fun E vals h => ?_
  obtain ⟨u, r, e1, a1, h1, h2⟩ := h
  exact ⟨u, r, e1, trivial, h1.nil_fs, h2⟩
theorem nilw2 {k : Nat} {x : V} {ob : List Ob} {Q : V → List Ob → Prop} (h : VC P k [x, .fs 0 []] ob Q) : VC P k [x, .nils] ob Q := by
  refine h.weak fun E vals h => ?_
  obtain ⟨u, r, e1, a1, h1, u2, r2, e2, a2, h2, h3⟩ := h
  exact ⟨u, r, e1, a1, h1, u2, r2, e2, trivial, h2.nil_fs, h3⟩

theorem aw1 : mayB ((2 : Nat) : Int) [0, 6, 4, 8] = true := by decide +kernel
theorem aw2 : exactL 2 [0, 6, 4, 8] = [10, 6] := by rw [exact_samp _ (by decide)]; decide +kernel
theorem aw9 : fct 2 = 2 := rfl
theorem aw3 : mayB 2 [0, 6, 4] = false := by decide +kernel
theorem perm10 : ([1, 0] : List Int).Perm (rangeI 2) := List.Perm.swap 0 1 []
theorem aw4 : sampE ((2 : Nat) : Int) [0, 6, 4, 8] [[1, 0]] = 0 := sampE_0 aw1 (by simp) fun l hl => by
  obtain rfl : l = [1, 0] := by simpa using hl
  exact isB_of_perm perm10
theorem aw5 : sampL 2 [0, 6, 4, 8] [[1, 0]] = [4, 4] := by decide +kernel
theorem aw6 : sampE 2 [0, 6, 4, 8] [[1, 1]] = 2 := sampE_3 (n := 2) aw1 (by simp) (l := [1, 1]) (by simp) (by
  cases h : isB 2 [1, 1] with
  | false => rfl
  | true =>
    have := (isB_perm (m := 2) h).2.nodup_iff.2 rangeI_nodup
    simp at this)
theorem aw7 : ordL 3 [1, 1, 5] = [1, 2, 0] := by decide +kernel
theorem aw8 : ordersL 2 = [[0, 1], [1, 0]] := by decide +kernel
theorem awake_spec  : VC P 19 [] [] (fun r ob' => r = .bool true ∧ ob' = []) := by
  refine VC_of_vwp_k ent_19 Try.func19 rfl (by simp) fun R hR => ?_
  refine vwp_sq [] fun K1 hK1 => vwp_region hT ?_
  simp
  refine hK1 _ ?_
  try clear hK1 K1
  refine vwp_sq [] fun K2 hK2 => vwp_region hT ?_
  simp
  refine hK2 _ ?_
  try clear hK2 K2
  refine vwp_gh (Gh.freeze 0 (by rfl) (by simp)) ?_
  refine vwp_gh (st' := ⟨[(1, sI [0, 6, 4, 8])], []⟩) (Gh.to_k [1] []) ?_
  refine vwp_sq [1] fun K3 hK3 => vwp_region hT ?_
  simp [aw2, aw9]
  refine vcall_k [] (exact_ok (m := 2) (g := [0, 6, 4, 8]) (by simp) aw1) ?_
  rintro r ob' ⟨rfl, rfl⟩
  simp [aw2, aw9]
  refine hK3 _ ?_
  try clear hK3 K3
  refine vwp_sq [1, 2, 3, 4] fun K4 hK4 => vwp_region hT ?_
  simp [aw5]
  refine vcall_freeze 1 (by rfl) (by simp) ?_
  refine vcall_cellFs 1 2 0 (by rfl) (by rfl) (by rfl) (by rfl) ?_
  refine vcall_freeze 2 (by rfl) (by simp) ?_
  refine vcall_k [] (samp_ok (m := 2) (g := [0, 6, 4, 8]) (os := [[1, 0]]) (by simp) (by simp) (by simp) aw4) ?_
  rintro r ob' ⟨rfl, rfl⟩
  simp [aw5]
  refine hK4 _ ?_
  try clear hK4 K4
  refine vwp_sq [1, 2, 3, 4, 5, 6, 7] fun K5 hK5 => vwp_region hT ?_
  simp
  repeat refine ⟨by first | assumption | omega | (intros; omega), ?_⟩
  refine vcall_k [] (exact_bad (n := 2) (g := [0, 6, 4]) (by simp) aw3) ?_
  rintro r ob' ⟨rfl, rfl⟩
  simp
  repeat refine ⟨by first | assumption | omega | (intros; omega), ?_⟩
  refine hK5 _ ?_
  try clear hK5 K5
  refine vwp_sq [1, 2, 3, 4, 5, 6, 7, 10] fun K6 hK6 => vwp_region hT ?_
  simp [aw6]
  refine vcall_freeze 4 (by rfl) (by simp) ?_
  refine vcall_cellFs 4 5 0 (by rfl) (by rfl) (by rfl) (by rfl) ?_
  refine vcall_freeze 5 (by rfl) (by simp) ?_
  refine vcall_k [] (samp_bad (n := 2) (g := [0, 6, 4, 8]) (os := [[1, 1]]) (by simp) (by simp) (by simp) (by rw [aw6]; decide)) ?_
  rintro r ob' ⟨rfl, rfl⟩
  simp [aw6]
  refine hK6 _ ?_
  try clear hK6 K6
  refine vwp_sq [2, 3, 4, 5, 6, 7, 10, 13] fun K7 hK7 => vwp_region hT ?_
  simp [aw7]
  refine vcall_freeze 6 (by rfl) (by simp) ?_
  refine vcall_k [] (order_spec 3 [1, 1, 5] (by decide) rfl) ?_
  rintro r ob' ⟨rfl, rfl⟩
  simp [aw7]
  refine hK7 _ ?_
  try clear hK7 K7
  refine vwp_gh ((Gh.freeze 0 (by rfl) (by simp)).trans ((Gh.freeze 3 (by rfl) (by simp)).trans (Gh.freeze 7 (by rfl) (by simp)))) ?_
  refine vwp_gh (st' := ⟨[(2, sI [10, 6]), (3, .int .i64 2), (4, .int .i64 0), (5, sI [4, 4]), (6, .int .i64 1), (7, .int .i64 0), (10, .int .i64 1), (13, .int .i64 2), (14, sI [1, 2, 0]), (15, .int .i64 0)], []⟩) (Gh.to_k [2, 3, 4, 5, 6, 7, 10, 13, 14, 15] []) ?_
  refine vwp_sq [2, 3, 4, 5, 6, 7, 10, 13, 14, 15] fun K8 hK8 => vwp_region hT ?_
  simp [aw8]
  refine vcall_z [] (ints_spec [10, 6] [10, 6] (by simp) (by simp)) (by rintro r ob' ⟨rfl, rfl⟩; simp) ?_
  rintro r ob' ⟨rfl, rfl⟩
  simp [aw8]
  refine vcall_z [] (ints_spec [4, 4] [4, 4] (by simp) (by simp)) (by rintro r ob' ⟨rfl, rfl⟩; simp) ?_
  rintro r ob' ⟨rfl, rfl⟩
  simp [aw8]
  refine vcall_k [] (orders_spec 2 (by decide)) ?_
  rintro r ob' ⟨rfl, rfl⟩
  simp [aw8]
  refine vcall_freeze 3 (by rfl) (by simp) ?_
  refine vcall_cellFs 3 5 0 (by rfl) (by rfl) (by rfl) (by rfl) ?_
  refine vcall_freeze 4 (by rfl) (by simp) ?_
  refine vcall_cellFs 4 5 1 (by rfl) (by rfl) (by rfl) (by rfl) ?_
  refine vcall_z [] (same2_spec [[0, 1], [1, 0]] [[0, 1], [1, 0]] (by simp) (by simp) (by simp) (by simp)) (by rintro r ob' ⟨rfl, rfl⟩; simp) ?_
  rintro r ob' ⟨rfl, rfl⟩
  simp [aw8]
  refine vcall_z [] (same1_spec [1, 2, 0] [1, 2, 0] (by simp) (by simp)) (by rintro r ob' ⟨rfl, rfl⟩; simp) ?_
  rintro r ob' ⟨rfl, rfl⟩
  simp [aw8]
  refine hK8 _ ?_
  try clear hK8 K8
  refine vwp_ret (hR _ _ ?_)
  exact ret_k [0] [] ([]) (.bool true) (⟨rfl, rfl⟩)
end Go.Proofs.Ythjpaongoflgiaa
