/- Areas: legs; the document's areas: the walk. -/
import Derived.Test.YtinigjmfjabicaaPlA
namespace Go.Proofs.Ytinigjmfjabicaa
open Go Go.VX Go.RowKit
set_option linter.unusedVariables false
set_option linter.unusedSimpArgs false
set_option maxHeartbeats 20000000
set_option maxRecDepth 100000

/-- What stands at a leg's place. -/
def lg (n : Int) (L : List Int) (f t : Int) : Int := L.getD (f.toNat * n.toNat + t.toNat) 0
theorem at_lt {m f t : Nat} (hf : f < m) (ht : t < m) : f * m + t < m * m := by
  have : (f + 1) * m ≤ m * m := Nat.mul_le_mul_right m hf
  rw [Nat.add_mul] at this; omega
/-- A leg's place, of an area that may be. -/
theorem lg_get {n : Int} {D T : List Int} (hA : areaB n D T = true) {f t : Int} (hf : 0 ≤ f ∧ f < n) (ht : 0 ≤ t ∧ t < n) : ∃ m : Nat, n = m ∧ m ≤ 16 ∧ ∃ f' t' : Nat, f = f' ∧ t = t' ∧ f' < m ∧ t' < m ∧ f' * m + t' < 256 ∧ D.length = m * m ∧ T.length = m * m ∧ D[f' * m + t']? = some (lg n D f t) ∧ T[f' * m + t']? = some (lg n T f t) ∧
    (0 ≤ lg n D f t ∧ lg n D f t ≤ 1000000 ∧ (f' = t' → lg n D f t = 0)) ∧ (0 ≤ lg n T f t ∧ lg n T f t ≤ 1000000 ∧ (f' = t' → lg n T f t = 0)) := by
  obtain ⟨m, rfl, h1, h2, h3, h4, h5, h6⟩ := areaB_iff.1 hA
  obtain ⟨f', rfl⟩ := Int.eq_ofNat_of_zero_le hf.1
  obtain ⟨t', rfl⟩ := Int.eq_ofNat_of_zero_le ht.1
  have hf' : f' < m := by omega
  have ht' : t' < m := by omega
  have hlt := at_lt hf' ht'
  have hsq := sq16 h2
  have hD : D[f' * m + t']? = some (lg m D f' t') := by
    unfold lg; rw [List.getD_eq_getElem?_getD, Int.toNat_natCast, Int.toNat_natCast, Int.toNat_natCast, List.getElem?_eq_getElem (by omega)]; rfl
  have hT : T[f' * m + t']? = some (lg m T f' t') := by
    unfold lg; rw [List.getD_eq_getElem?_getD, Int.toNat_natCast, Int.toNat_natCast, Int.toNat_natCast, List.getElem?_eq_getElem (by omega)]; rfl
  have e1 : (f' * m + t') / m = f' := by rw [Nat.mul_comm, Nat.mul_add_div (by omega), Nat.div_eq_of_lt ht']; omega
  have e2 : (f' * m + t') % m = t' := by rw [Nat.mul_comm, Nat.mul_add_mod, Nat.mod_eq_of_lt ht']
  obtain ⟨a1, a2, a3⟩ := legB_iff.1 h5 _ _ hD
  obtain ⟨b1, b2, b3⟩ := legB_iff.1 h6 _ _ hT
  rw [e1, e2] at a3 b3
  exact ⟨m, rfl, h2, f', t', rfl, rfl, hf', ht', by omega, h3, h4, hD, hT, ⟨a1, a2, a3⟩, b1, b2, b3⟩
theorem all_spec {n : Int} {D T : List Int} (hA : areaB n D T = true) (l : List Int) (hl : l.length < 1099511627776) (hin : ∀ x ∈ l, 0 ≤ x ∧ x < n) : VC P 75 [.agg (arC n D T), sI l] [] (fun r ob' => r = .int .i64 0 ∧ ob' = []) := by
  refine VC_of_vwp_k ent_75 Try.func75 rfl (by simp) fun R hR => ?_
  refine vwp_sq [0, 1] fun K1 hK1 => vwp_region hT ?_
  simp
  refine hK1 _ ?_
  try clear hK1 K1
  refine vwp_seq_k fun K2 hK2 => ?_
  have hE := areaE_0.2 hA
  refine vwp_sq [1, 2] fun K3 hK3 => vwp_region hT ?_
  simp
  refine vcall_k [] (acheck_spec n D T) ?_
  rintro r ob' ⟨rfl, rfl⟩
  simp
  refine hK3 _ ?_
  try clear hK3 K3
  refine vwp_sq [1, 2, 5] fun K4 hK4 => vwp_region hT ?_
  simp [hE]
  refine hK4 _ ?_
  try clear hK4 K4
  refine vwp_cond (by first | rfl | (simp; rfl)) (fun h1 => ?_) fun h1 => ?_
  · simp -failIfUnchanged at h1; all_goals
   refine vwp_seq_k fun K5 hK5 => ?_
   simp_all
  · simp -failIfUnchanged at h1; all_goals
   refine vwp_skip ?_
   refine hK2 _ ?_
   try clear hK2 K2
   refine vwp_seq_k fun K6 hK6 => ?_
   refine vwp_sq [1, 2] fun K7 hK7 => vwp_region hT ?_
   simp
   refine hK7 _ ?_
   try clear hK7 K7
   refine vwp_block ?_
   refine vwp_loop_s (fun i : Nat => ⟨[(2, .ptr 0 3 0), (13, sI l), (14, .int .i64 l.length), (15, .int .i64 (i : Int))], [.live (arC n D T)]⟩) (fun i => i ≤ l.length) (fun i => l.length - i) (0) (Gh.to_k [2, 13, 14, 15] [0]) (by omega) ?_
   rintro i hi
   intro K8 hK8
   refine vwp_sq [2, 13, 14, 15] fun K9 hK9 => vwp_region hT ?_
   simp
   refine hK9 _ ?_
   try clear hK9 K9
   refine vwp_seq_k fun K10 hK10 => ?_
   refine vwp_cond (by first | rfl | (simp; rfl)) (fun h2 => ?_) fun h2 => ?_
   · simp -failIfUnchanged at h2; all_goals
    refine vwp_skip ?_
    refine hK10 _ ?_
    try clear hK10 K10
    refine vwp_seq_k fun K11 hK11 => ?_
    refine vwp_block ?_
    obtain ⟨x, hx⟩ := getI (l := l) (i := i) (by omega)
    obtain ⟨hx1, hx2⟩ := hin x (List.mem_of_getElem? hx)
    have q1 : ¬ x < 0 := by omega
    have q2 : ¬ n ≤ x := by omega
    refine vwp_sq [2, 13, 14, 15] fun K12 hK12 => vwp_region hT ?_
    simp [hx]
    repeat refine ⟨by first | assumption | omega | (intros; omega), ?_⟩
    refine hK12 _ ?_
    try clear hK12 K12
    refine vwp_sq [2, 7, 13, 14, 15] fun K13 hK13 => vwp_region hT ?_
    simp [q1, q2]
    refine hK13 _ ?_
    try clear hK13 K13
    refine vwp_cond (by first | rfl | (simp; rfl)) (fun h3 => ?_) fun h3 => ?_
    · simp -failIfUnchanged at h3; all_goals
     refine vwp_seq_k fun K14 hK14 => ?_
     simp_all
    · simp -failIfUnchanged at h3; all_goals
     refine vwp_skip ?_
     refine hK11 _ ?_
     try clear hK11 K11
     have w1 : IntKind.i64.wrap ((i : Int) + 1) = i + 1 := w64 (by omega) (by omega)
     refine vwp_live [2, 13, 14, 15] (vwp_region hT ?_)
     simp [w1]
     exact hK8 (i + 1) _ (Gh.to_k [2, 13, 14, 15] [0]) (by omega) (by omega)
   · simp -failIfUnchanged at h2; all_goals
    refine vwp_exit ?_
    simp only [inBlk, thenQ, if_true]
    refine hK6 _ ?_
    try clear hK6 K6
    refine vwp_sq [] fun K15 hK15 => vwp_region hT ?_
    simp
    refine hK15 _ ?_
    try clear hK15 K15
    refine vwp_ret (hR _ _ ?_)
    exact ret_k [4] [] ([]) (.int .i64 0) (⟨rfl, rfl⟩)
theorem leg_spec {n : Int} {D T : List Int} (hA : areaB n D T = true) (f t : Int) (hf : 0 ≤ f ∧ f < n) (ht : 0 ≤ t ∧ t < n) : VC P 43 [.agg (arC n D T), .int .i64 f, .int .i64 t] [] (fun r ob' => r = .tup [.int .i64 (lg n D f t), .int .i64 (lg n T f t), .int .i64 0] ∧ ob' = []) := by
  obtain ⟨m, hn, hm16, f', t', hfe, hte, hf2, ht2, hlt, dD, dT, gD, gT, _, _⟩ := lg_get hA hf ht
  have wm : IntKind.i64.wrap (f * n) = ((f' * m : Nat) : Int) := by
    have e : f * n = ((f' * m : Nat) : Int) := by rw [hfe, hn]; exact_mod_cast rfl
    rw [e]; exact w64 (by omega) (by omega)
  have wa : IntKind.i64.wrap (((f' * m : Nat) : Int) + t) = ((f' * m + t' : Nat) : Int) := by rw [hte]; exact (w64 (by omega) (by omega)).trans (by omega)
  have wt : IntKind.i64.wrap (((f' * m + t' : Nat) : Int)) = ((f' * m + t' : Nat) : Int) := w64 (by omega) (by omega)
  obtain ⟨x, hx⟩ : ∃ x, x = lg n D f t := ⟨_, rfl⟩
  obtain ⟨y, hy⟩ : ∃ y, y = lg n T f t := ⟨_, rfl⟩
  rw [← hx] at gD ⊢
  rw [← hy] at gT ⊢
  obtain ⟨fm, hfm⟩ : ∃ fm, fm = f' * m := ⟨_, rfl⟩
  rw [← hfm] at wm wa wt gD gT hlt
  obtain ⟨q, hq⟩ : ∃ q, q = fm + t' := ⟨_, rfl⟩
  rw [← hq] at wa wt gD gT hlt
  have lD : q < D.length := (List.getElem?_eq_some_iff.1 gD).1
  have lT : q < T.length := (List.getElem?_eq_some_iff.1 gT).1
  refine VC_of_vwp_k ent_43 Try.func43 rfl (by simp) fun R hR => ?_
  refine vwp_sq [0, 1, 2] fun K1 hK1 => vwp_region hT ?_
  simp
  refine hK1 _ ?_
  try clear hK1 K1
  refine vwp_seq_k fun K2 hK2 => ?_
  refine vwp_sq [1, 2, 3] fun K3 hK3 => vwp_region hT ?_
  simp
  refine vcall_z [] (all_spec hA [f, t] (by simp) (by intro x hx; simp at hx; rcases hx with rfl | rfl <;> assumption)) (by rintro r ob' ⟨rfl, rfl⟩; simp) ?_
  rintro r ob' ⟨rfl, rfl⟩
  simp
  refine hK3 _ ?_
  try clear hK3 K3
  refine vwp_sq [1, 2, 3, 9] fun K4 hK4 => vwp_region hT ?_
  simp
  refine hK4 _ ?_
  try clear hK4 K4
  refine vwp_cond (by first | rfl | (simp; rfl)) (fun h1 => ?_) fun h1 => ?_
  · simp -failIfUnchanged at h1; all_goals
   refine vwp_seq_k fun K5 hK5 => ?_
   simp_all
  · simp -failIfUnchanged at h1; all_goals
   refine vwp_skip ?_
   refine hK2 _ ?_
   try clear hK2 K2
   refine vwp_sq [1, 2, 3] fun K6 hK6 => vwp_region hT ?_
   simp [wm, wa]
   refine hK6 _ ?_
   try clear hK6 K6
   refine vwp_sq [3, 10] fun K7 hK7 => vwp_still hT hm (by kernel_rfl) ?_
   simp [gD, gT]
   repeat refine ⟨by first | assumption | omega | (intros; omega), ?_⟩
   refine hK7 _ ?_
   try clear hK7 K7
   refine vwp_ret (hR _ _ ?_)
   exact ret_k [6, 7, 8] [] ([]) (.tup [.int .i64 x, .int .i64 y, .int .i64 0]) (⟨rfl, rfl⟩)
theorem rin_spec {n : Int} {D T : List Int} (l : List Int) (hl : l.length < 1099511627776) (hin : ∀ x ∈ l, 0 ≤ x ∧ x < n) : VC P 82 [.agg (arC n D T), sI l] [] (fun r ob' => r = .bool true ∧ ob' = []) := by
  refine VC_of_vwp_k ent_82 Try.func82 rfl (by simp) fun R hR => ?_
  refine vwp_sq [0, 1] fun K1 hK1 => vwp_region hT ?_
  simp
  refine hK1 _ ?_
  try clear hK1 K1
  refine vwp_seq_k fun K2 hK2 => ?_
  refine vwp_sq [1, 2] fun K3 hK3 => vwp_region hT ?_
  simp
  refine hK3 _ ?_
  try clear hK3 K3
  refine vwp_block ?_
  refine vwp_loop_s (fun i : Nat => ⟨[(1, sI l), (2, .ptr 0 3 0), (5, .int .i64 (i : Int))], [.live (arC n D T)]⟩) (fun i => i ≤ l.length) (fun i => l.length - i) (0) (Gh.to_k [1, 2, 5] [0]) (by omega) ?_
  rintro i hi
  intro K4 hK4
  refine vwp_seq_k fun K5 hK5 => ?_
  refine vwp_sq [1, 2, 5] fun K6 hK6 => vwp_region hT ?_
  simp
  refine hK6 _ ?_
  try clear hK6 K6
  refine vwp_cond (by first | rfl | (simp; rfl)) (fun h1 => ?_) fun h1 => ?_
  · simp -failIfUnchanged at h1; all_goals
   refine vwp_skip ?_
   refine hK5 _ ?_
   try clear hK5 K5
   refine vwp_seq_k fun K7 hK7 => ?_
   refine vwp_block ?_
   obtain ⟨x, hx⟩ := getI (l := l) (i := i) (by omega)
   obtain ⟨hx1, hx2⟩ := hin x (List.mem_of_getElem? hx)
   have q1 : ¬ x < 0 := by omega
   have q2 : ¬ n ≤ x := by omega
   refine vwp_sq [1, 2, 5] fun K8 hK8 => vwp_still hT hm (by kernel_rfl) ?_
   simp [hx, q1, q2]
   repeat refine ⟨by first | assumption | omega | (intros; omega), ?_⟩
   refine hK8 _ ?_
   try clear hK8 K8
   refine vwp_cond (by first | rfl | (simp; rfl)) (fun h2 => ?_) fun h2 => ?_
   · simp -failIfUnchanged at h2; all_goals
    refine vwp_seq_k fun K9 hK9 => ?_
    simp_all
   · simp -failIfUnchanged at h2; all_goals
    refine vwp_skip ?_
    refine hK7 _ ?_
    try clear hK7 K7
    have w1 : IntKind.i64.wrap ((i : Int) + 1) = i + 1 := w64 (by omega) (by omega)
    refine vwp_live [1, 2, 5] (vwp_region hT ?_)
    simp [w1]
    exact hK4 (i + 1) _ (Gh.to_k [1, 2, 5] [0]) (by omega) (by omega)
  · simp -failIfUnchanged at h1; all_goals
   refine vwp_exit ?_
   simp only [inBlk, thenQ, if_true]
   refine hK2 _ ?_
   try clear hK2 K2
   refine vwp_sq [] fun K10 hK10 => vwp_region hT ?_
   simp
   refine hK10 _ ?_
   try clear hK10 K10
   refine vwp_ret (hR _ _ ?_)
   exact ret_k [4] [] ([]) (.bool true) (⟨rfl, rfl⟩)
end Go.Proofs.Ytinigjmfjabicaa
