/- When rows are the same. -/
import Derived.Test.YthjpaongoflgiaaShap4
namespace Go.Proofs.Ythjpaongoflgiaa
open Go Go.VX Go.RowKit
set_option linter.unusedVariables false
set_option linter.unusedSimpArgs false
set_option maxHeartbeats 20000000
set_option maxRecDepth 100000
theorem same1_spec (a b : List Int) (ha : a.length < 9223372036854775807) (hb : b.length < 9223372036854775807) : VC P 30 [sI a, sI b] [] (fun r ob' => r = .bool (decide (a = b)) ∧ ob' = []) := by
  refine VC_of_vwp_k ent_30 Try.func30 rfl (by simp) fun R hR => ?_
  refine vwp_sq [0, 1] fun K1 hK1 => vwp_region hT ?_
  simp
  refine hK1 _ ?_
  try clear hK1 K1
  refine vwp_seq_k fun K2 hK2 => ?_
  refine vwp_sq [0, 1] fun K3 hK3 => vwp_region hT ?_
  simp
  refine hK3 _ ?_
  try clear hK3 K3
  refine vwp_cond (by first | rfl | (simp; rfl)) (fun h1 => ?_) fun h1 => ?_
  · simp -failIfUnchanged at h1; all_goals
   refine vwp_sq [] fun K4 hK4 => vwp_region hT ?_
   simp
   refine hK4 _ ?_
   try clear hK4 K4
   refine vwp_ret (hR _ _ ?_)
   exact ret_k [4] [] ([]) (.bool (decide (a = b))) (⟨rfl, rfl⟩) (hr := by simp; intro e; subst e; omega)
  · simp -failIfUnchanged at h1; all_goals
   refine vwp_skip ?_
   refine hK2 _ ?_
   try clear hK2 K2
   refine vwp_seq_k fun K5 hK5 => ?_
   refine vwp_sq [0, 1] fun K6 hK6 => vwp_region hT ?_
   simp
   refine hK6 _ ?_
   try clear hK6 K6
   refine vwp_block ?_
   refine vwp_loop_s (fun i : Nat => ⟨[(0, sI a), (1, sI b), (5, .int .i64 (i : Int))], []⟩) (fun i => i ≤ a.length ∧ a.take i = b.take i) (fun i => a.length - i) (0) (Gh.to_k [0, 1, 5] []) (⟨by omega, by simp⟩) ?_
   rintro i ⟨hi, hab⟩
   intro K7 hK7
   refine vwp_seq_k fun K8 hK8 => ?_
   refine vwp_sq [0, 1, 5] fun K9 hK9 => vwp_region hT ?_
   simp
   refine hK9 _ ?_
   try clear hK9 K9
   refine vwp_cond (by first | rfl | (simp; rfl)) (fun h2 => ?_) fun h2 => ?_
   · simp -failIfUnchanged at h2; all_goals
    refine vwp_skip ?_
    refine hK8 _ ?_
    try clear hK8 K8
    refine vwp_seq_k fun K10 hK10 => ?_
    refine vwp_block ?_
    obtain ⟨x, hx⟩ := getI (l := a) (i := i) (by omega)
    obtain ⟨y, hy⟩ := getI (l := b) (i := i) (by omega)
    refine vwp_sq [0, 1, 5] fun K11 hK11 => vwp_still hT hm (by kernel_rfl) ?_
    simp [hx, hy]
    repeat refine ⟨by first | assumption | omega | (intros; omega), ?_⟩
    refine hK11 _ ?_
    try clear hK11 K11
    refine vwp_cond (by first | rfl | (simp; rfl)) (fun h3 => ?_) fun h3 => ?_
    · simp -failIfUnchanged at h3; all_goals
     refine vwp_sq [] fun K12 hK12 => vwp_region hT ?_
     simp
     refine hK12 _ ?_
     try clear hK12 K12
     refine vwp_ret (hR _ _ ?_)
     exact ret_k [4] [] ([]) (.bool (decide (a = b))) (⟨rfl, rfl⟩) (hr := by
       simp
       intro e; subst e
       rw [hx] at hy
       exact h3 (Option.some.inj hy))
    · simp -failIfUnchanged at h3; all_goals
     refine vwp_skip ?_
     refine hK10 _ ?_
     try clear hK10 K10
     have w1 : IntKind.i64.wrap ((i : Int) + 1) = i + 1 := w64 (by omega) (by omega)
     refine vwp_live [0, 1, 5] (vwp_region hT ?_)
     simp [w1]
     exact hK7 (i + 1) _ (Gh.to_k [0, 1, 5] []) (⟨by omega, by rw [List.take_add_one, List.take_add_one, hab, hx, hy, h3]⟩) (by omega)
   · simp -failIfUnchanged at h2; all_goals
    refine vwp_exit ?_
    simp only [inBlk, thenQ, if_true]
    refine hK5 _ ?_
    try clear hK5 K5
    refine vwp_sq [] fun K13 hK13 => vwp_region hT ?_
    simp
    refine hK13 _ ?_
    try clear hK13 K13
    refine vwp_ret (hR _ _ ?_)
    exact ret_k [4] [] ([]) (.bool (decide (a = b))) (⟨rfl, rfl⟩) (hr := by
      rw [List.take_of_length_le (by omega), List.take_of_length_le (by omega)] at hab
      simp [hab])
theorem same2_spec (a b : List (List Int)) (ha : a.length < 1099511627776) (hb : b.length < 1099511627776) (hal : ∀ l ∈ a, l.length < 1099511627776) (hbl : ∀ l ∈ b, l.length < 1099511627776) : VC P 27 [sLL a, sLL b] [] (fun r ob' => r = .bool (decide (a = b)) ∧ ob' = []) := by
  refine VC_of_vwp_k ent_27 Try.func27 rfl (by simp) fun R hR => ?_
  refine vwp_sq [0, 1] fun K1 hK1 => vwp_region hT ?_
  simp
  refine hK1 _ ?_
  try clear hK1 K1
  refine vwp_seq_k fun K2 hK2 => ?_
  refine vwp_sq [0, 1] fun K3 hK3 => vwp_region hT ?_
  simp
  refine hK3 _ ?_
  try clear hK3 K3
  refine vwp_cond (by first | rfl | (simp; rfl)) (fun h1 => ?_) fun h1 => ?_
  · simp -failIfUnchanged at h1; all_goals
   refine vwp_sq [] fun K4 hK4 => vwp_region hT ?_
   simp
   refine hK4 _ ?_
   try clear hK4 K4
   refine vwp_ret (hR _ _ ?_)
   exact ret_k [4] [] ([]) (.bool (decide (a = b))) (⟨rfl, rfl⟩) (hr := by simp; intro e; subst e; omega)
  · simp -failIfUnchanged at h1; all_goals
   refine vwp_skip ?_
   refine hK2 _ ?_
   try clear hK2 K2
   refine vwp_seq_k fun K5 hK5 => ?_
   refine vwp_sq [0, 1] fun K6 hK6 => vwp_region hT ?_
   simp
   refine hK6 _ ?_
   try clear hK6 K6
   refine vwp_block ?_
   refine vwp_loop_s (fun i : Nat => ⟨[(0, sLL a), (1, sLL b), (5, .int .i64 (i : Int))], []⟩) (fun i => i ≤ a.length ∧ a.take i = b.take i) (fun i => a.length - i) (0) (Gh.to_k [0, 1, 5] []) (⟨by omega, by simp⟩) ?_
   rintro i ⟨hi, hab⟩
   intro K7 hK7
   refine vwp_seq_k fun K8 hK8 => ?_
   refine vwp_sq [0, 1, 5] fun K9 hK9 => vwp_region hT ?_
   simp
   refine hK9 _ ?_
   try clear hK9 K9
   refine vwp_cond (by first | rfl | (simp; rfl)) (fun h2 => ?_) fun h2 => ?_
   · simp -failIfUnchanged at h2; all_goals
    refine vwp_skip ?_
    refine hK8 _ ?_
    try clear hK8 K8
    refine vwp_seq_k fun K10 hK10 => ?_
    refine vwp_block ?_
    refine vwp_seq_k fun K11 hK11 => ?_
    obtain ⟨x, hx⟩ := getI (l := a) (i := i) (by omega)
    obtain ⟨y, hy⟩ := getI (l := b) (i := i) (by omega)
    have hxl := hal x (List.mem_of_getElem? hx)
    have hyl := hbl y (List.mem_of_getElem? hy)
    refine vwp_sq [0, 1, 5] fun K12 hK12 => vwp_still hT hm (by kernel_rfl) ?_
    simp [hx, hy]
    repeat refine ⟨by first | assumption | omega | (intros; omega), ?_⟩
    refine hK12 _ ?_
    try clear hK12 K12
    refine vwp_cond (by first | rfl | (simp; rfl)) (fun h3 => ?_) fun h3 => ?_
    · simp -failIfUnchanged at h3; all_goals
     refine vwp_sq [] fun K13 hK13 => vwp_region hT ?_
     simp
     refine hK13 _ ?_
     try clear hK13 K13
     refine vwp_ret (hR _ _ ?_)
     exact ret_k [4] [] ([]) (.bool (decide (a = b))) (⟨rfl, rfl⟩) (hr := by
       simp
       intro e; subst e
       rw [hx] at hy
       cases hy
       omega)
    · simp -failIfUnchanged at h3; all_goals
     refine vwp_skip ?_
     refine hK11 _ ?_
     try clear hK11 K11
     refine vwp_sq [0, 1, 5] fun K14 hK14 => vwp_region hT ?_
     simp
     refine hK14 _ ?_
     try clear hK14 K14
     refine vwp_block ?_
     refine vwp_loop_s (fun j : Nat => ⟨[(0, sLL a), (1, sLL b), (5, .int .i64 (i : Int)), (6, .int .i64 (j : Int))], []⟩) (fun j => j ≤ x.length ∧ x.take j = y.take j) (fun j => x.length - j) (0) (Gh.to_k [0, 1, 5, 6] []) (⟨by omega, by simp⟩) ?_
     rintro j ⟨hj, hxy⟩
     intro K15 hK15
     refine vwp_seq_k fun K16 hK16 => ?_
     refine vwp_sq [0, 1, 5, 6] fun K17 hK17 => vwp_region hT ?_
     simp [hx]
     repeat refine ⟨by first | assumption | omega | (intros; omega), ?_⟩
     refine hK17 _ ?_
     try clear hK17 K17
     refine vwp_cond (by first | rfl | (simp; rfl)) (fun h4 => ?_) fun h4 => ?_
     · simp -failIfUnchanged at h4; all_goals
      refine vwp_skip ?_
      refine hK16 _ ?_
      try clear hK16 K16
      refine vwp_seq_k fun K18 hK18 => ?_
      refine vwp_block ?_
      obtain ⟨u, hu⟩ := getI (l := x) (i := j) (by omega)
      obtain ⟨v, hv⟩ := getI (l := y) (i := j) (by omega)
      refine vwp_sq [0, 1, 5, 6] fun K19 hK19 => vwp_still hT hm (by kernel_rfl) ?_
      simp [hx, hy, hu, hv]
      repeat refine ⟨by first | assumption | omega | (intros; omega), ?_⟩
      refine hK19 _ ?_
      try clear hK19 K19
      refine vwp_cond (by first | rfl | (simp; rfl)) (fun h5 => ?_) fun h5 => ?_
      · simp -failIfUnchanged at h5; all_goals
       refine vwp_sq [] fun K20 hK20 => vwp_region hT ?_
       simp
       refine hK20 _ ?_
       try clear hK20 K20
       refine vwp_ret (hR _ _ ?_)
       exact ret_k [4] [] ([]) (.bool (decide (a = b))) (⟨rfl, rfl⟩) (hr := by
         simp
         intro e; subst e
         rw [hx] at hy
         cases hy
         rw [hu] at hv
         exact h5 (Option.some.inj hv))
      · simp -failIfUnchanged at h5; all_goals
       refine vwp_skip ?_
       refine hK18 _ ?_
       try clear hK18 K18
       have w1 : IntKind.i64.wrap ((j : Int) + 1) = j + 1 := w64 (by omega) (by omega)
       refine vwp_live [0, 1, 5, 6] (vwp_region hT ?_)
       simp [w1]
       exact hK15 (j + 1) _ (Gh.to_k [0, 1, 5, 6] []) (⟨by omega, by rw [List.take_add_one, List.take_add_one, hxy, hu, hv, h5]⟩) (by omega)
     · simp -failIfUnchanged at h4; all_goals
      refine vwp_exit ?_
      simp only [inBlk, thenQ, if_true]
      refine hK10 _ ?_
      try clear hK10 K10
      have w1 : IntKind.i64.wrap ((i : Int) + 1) = i + 1 := w64 (by omega) (by omega)
      refine vwp_live [0, 1, 5] (vwp_region hT ?_)
      simp [w1]
      exact hK7 (i + 1) _ (Gh.to_k [0, 1, 5] []) (⟨by omega, by
          have e : x = y := by
            rw [List.take_of_length_le (by omega), List.take_of_length_le (by omega)] at hxy
            exact hxy
          rw [List.take_add_one, List.take_add_one, hab, hx, hy, e]⟩) (by omega)
   · simp -failIfUnchanged at h2; all_goals
    refine vwp_exit ?_
    simp only [inBlk, thenQ, if_true]
    refine hK5 _ ?_
    try clear hK5 K5
    refine vwp_sq [] fun K21 hK21 => vwp_region hT ?_
    simp
    refine hK21 _ ?_
    try clear hK21 K21
    refine vwp_ret (hR _ _ ?_)
    exact ret_k [4] [] ([]) (.bool (decide (a = b))) (⟨rfl, rfl⟩) (hr := by
      rw [List.take_of_length_le (by omega), List.take_of_length_le (by omega)] at hab
      simp [hab])
end Go.Proofs.Ythjpaongoflgiaa
