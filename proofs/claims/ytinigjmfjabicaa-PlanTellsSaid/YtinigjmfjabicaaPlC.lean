/- The document's areas: the walk. -/
import Derived.Test.YtinigjmfjabicaaPlB
namespace Go.Proofs.Ytinigjmfjabicaa
open Go Go.VX Go.RowKit
set_option linter.unusedVariables false
set_option linter.unusedSimpArgs false
set_option maxHeartbeats 20000000
set_option maxRecDepth 100000

def cellOK (m : Nat) (L : List Int) (i j : Nat) : Prop := ∀ x, L[i * m + j]? = some x → 0 ≤ x ∧ x ≤ 1000000 ∧ (i = j → x = 0)
theorem legB_cells {m : Nat} {L : List Int} (hm0 : 0 < m) (hL : L.length = m * m) : legB m L = true ↔ ∀ i, i < m → ∀ j, j < m → cellOK m L i j := by
  rw [legB_iff]
  constructor
  · intro h i hi j hj x hx
    have e1 : (i * m + j) / m = i := by rw [Nat.mul_comm, Nat.mul_add_div (by omega), Nat.div_eq_of_lt hj]; omega
    have e2 : (i * m + j) % m = j := by rw [Nat.mul_comm, Nat.mul_add_mod, Nat.mod_eq_of_lt hj]
    obtain ⟨h1, h2, h3⟩ := h _ x hx
    rw [e1, e2] at h3
    exact ⟨h1, h2, h3⟩
  · intro h k x hx
    have hk : k < m * m := by rw [← hL]; exact (List.getElem?_eq_some_iff.1 hx).1
    have h1 : k / m < m := (Nat.div_lt_iff_lt_mul hm0).2 hk
    have h2 : k % m < m := Nat.mod_lt _ hm0
    have e : k / m * m + k % m = k := by rw [Nat.mul_comm]; exact Nat.div_add_mod k m
    exact h _ h1 _ h2 x (by rw [e]; exact hx)
theorem rcheck_spec (n : Int) (D T : List Int) : VC P 79 [.agg (arC n D T)] [] (fun r ob' => r = .int .i64 (areaE n D T) ∧ ob' = []) := by
  refine VC_of_vwp_k ent_79 Try.func79 rfl (by simp) fun R hR => ?_
  refine vwp_sq [0] fun K1 hK1 => vwp_region hT ?_
  simp
  refine hK1 _ ?_
  try clear hK1 K1
  refine vwp_seq_k fun K2 hK2 => ?_
  refine vwp_seq_k fun K3 hK3 => ?_
  have hc : n < 1 ∨ (1 ≤ n ∧ 16 < n) ∨ ∃ m : Nat, n = m ∧ 1 ≤ m ∧ m ≤ 16 := by
    by_cases q1 : n < 1
    · exact .inl q1
    by_cases q2 : 16 < n
    · exact .inr (.inl ⟨by omega, q2⟩)
    obtain ⟨m, rfl⟩ := Int.eq_ofNat_of_zero_le (show 0 ≤ n by omega)
    exact .inr (.inr ⟨m, rfl, by omega, by omega⟩)
  rcases hc with c1 | ⟨c1, c2⟩ | ⟨m, rfl, c1, c2⟩
  · refine vwp_live [1] (vwp_region hT ?_)
    simp [c1]
    refine hK3 _ ?_
    try clear hK3 K3
    refine vwp_cond (by first | rfl | (simp; rfl)) (fun h1 => ?_) fun h1 => ?_
    · simp -failIfUnchanged at h1; all_goals
     refine vwp_sq [] fun K4 hK4 => vwp_region hT ?_
     simp
     refine hK4 _ ?_
     try clear hK4 K4
     refine vwp_ret (hR _ _ ?_)
     have hw : areaE n D T = 1 := by
       rw [areaE, if_neg]
       intro q
       obtain ⟨m', q0, q1, q2, q3, q4, q5, q6⟩ := areaB_iff.1 q
       omega
     rw [hw]
     exact ret_k [2] [] ([]) (.int .i64 1) (⟨rfl, rfl⟩)
    · simp -failIfUnchanged at h1; all_goals
     refine vwp_skip ?_
     refine hK2 _ ?_
     try clear hK2 K2
     refine vwp_seq_k fun K5 hK5 => ?_
     refine vwp_seq_k fun K6 hK6 => ?_
     simp_all
  · have c3 : ¬ n < 1 := by omega
    refine vwp_live [1] (vwp_region hT ?_)
    simp [c2, c3]
    refine hK3 _ ?_
    try clear hK3 K3
    refine vwp_cond (by first | rfl | (simp; rfl)) (fun h2 => ?_) fun h2 => ?_
    · simp -failIfUnchanged at h2; all_goals
     refine vwp_sq [] fun K7 hK7 => vwp_region hT ?_
     simp
     refine hK7 _ ?_
     try clear hK7 K7
     refine vwp_ret (hR _ _ ?_)
     have hw : areaE n D T = 1 := by
       rw [areaE, if_neg]
       intro q
       obtain ⟨m', q0, q1, q2, q3, q4, q5, q6⟩ := areaB_iff.1 q
       omega
     rw [hw]
     exact ret_k [2] [] ([]) (.int .i64 1) (⟨rfl, rfl⟩)
    · simp -failIfUnchanged at h2; all_goals
     refine vwp_skip ?_
     refine hK2 _ ?_
     try clear hK2 K2
     refine vwp_seq_k fun K8 hK8 => ?_
     refine vwp_seq_k fun K9 hK9 => ?_
     simp_all
  · have c3 : ¬ (m : Int) < 1 := by omega
    have c4 : ¬ (16 : Int) < m := by omega
    have c5 := sq16 c2
    have w2 : IntKind.i64.wrap ((m : Int) * m) = ((m * m : Nat) : Int) := (w64 (by omega) (by omega)).trans (by omega)
    obtain ⟨mm, hmm⟩ : ∃ mm, mm = m * m := ⟨_, rfl⟩
    rw [← hmm] at w2 c5
    refine vwp_live [1] (vwp_region hT ?_)
    simp [c3, c4, w2]
    refine hK3 _ ?_
    try clear hK3 K3
    refine vwp_cond (by first | rfl | (simp; rfl)) (fun h3 => ?_) fun h3 => ?_
    · simp -failIfUnchanged at h3; all_goals
     refine vwp_sq [] fun K10 hK10 => vwp_region hT ?_
     simp
     refine hK10 _ ?_
     try clear hK10 K10
     refine vwp_ret (hR _ _ ?_)
     have hw : areaE (m : Int) D T = 1 := by
       rw [areaE, if_neg]
       intro q
       obtain ⟨m', q0, q1, q2, q3, q4, q5, q6⟩ := areaB_iff.1 q
       obtain rfl : m = m' := by omega
       rw [← hmm] at q3 q4
       simp_all
     rw [hw]
     exact ret_k [2] [] ([]) (.int .i64 1) (⟨rfl, rfl⟩)
    · simp -failIfUnchanged at h3; all_goals
     have q := h3
     have dD : D.length = mm := by omega
     have dT : T.length = mm := by omega
     refine vwp_skip ?_
     refine hK2 _ ?_
     try clear hK2 K2
     refine vwp_seq_k fun K11 hK11 => ?_
     refine vwp_sq [1] fun K12 hK12 => vwp_region hT ?_
     simp
     refine hK12 _ ?_
     try clear hK12 K12
     refine vwp_block ?_
     refine vwp_loop_s (fun i : Nat => ⟨[(1, .ptr 0 3 0), (3, .int .i64 (i : Int))], [.live (arC (m : Int) D T)]⟩) (fun i => i ≤ m ∧ ∀ a, a < i → ∀ b, b < m → cellOK m D a b ∧ cellOK m T a b) (fun i => m - i) (0) (Gh.to_k [1, 3] [0]) (⟨by omega, fun a ha => by omega⟩) ?_
     rintro i ⟨hi, hil⟩
     intro K13 hK13
     refine vwp_seq_k fun K14 hK14 => ?_
     refine vwp_sq [1, 3] fun K15 hK15 => vwp_region hT ?_
     simp
     refine hK15 _ ?_
     try clear hK15 K15
     refine vwp_cond (by first | rfl | (simp; rfl)) (fun h4 => ?_) fun h4 => ?_
     · simp -failIfUnchanged at h4; all_goals
      refine vwp_skip ?_
      refine hK14 _ ?_
      try clear hK14 K14
      refine vwp_seq_k fun K16 hK16 => ?_
      refine vwp_block ?_
      refine vwp_sq [1, 3] fun K17 hK17 => vwp_region hT ?_
      simp
      refine hK17 _ ?_
      try clear hK17 K17
      refine vwp_block ?_
      refine vwp_loop_s (fun j : Nat => ⟨[(1, .ptr 0 3 0), (3, .int .i64 (i : Int)), (4, .int .i64 (j : Int))], [.live (arC (m : Int) D T)]⟩) (fun j => j ≤ m ∧ ∀ b, b < j → cellOK m D i b ∧ cellOK m T i b) (fun j => m - j) (0) (Gh.to_k [1, 3, 4] [0]) (⟨by omega, fun b hb => by omega⟩) ?_
      rintro j ⟨hj, hjl⟩
      intro K18 hK18
      refine vwp_seq_k fun K19 hK19 => ?_
      refine vwp_sq [1, 3, 4] fun K20 hK20 => vwp_region hT ?_
      simp
      refine hK20 _ ?_
      try clear hK20 K20
      refine vwp_cond (by first | rfl | (simp; rfl)) (fun h5 => ?_) fun h5 => ?_
      · simp -failIfUnchanged at h5; all_goals
       refine vwp_skip ?_
       refine hK19 _ ?_
       try clear hK19 K19
       refine vwp_seq_k fun K21 hK21 => ?_
       refine vwp_block ?_
       have hlt := at_lt (m := m) (f := i) (t := j) (by omega) (by omega)
       rw [← hmm] at hlt
       obtain ⟨x, hx⟩ := getI (l := D) (i := i * m + j) (by omega)
       obtain ⟨y, hy⟩ := getI (l := T) (i := i * m + j) (by omega)
       have hx0 := hx
       have hy0 := hy
       obtain ⟨im, him⟩ : ∃ im, im = i * m := ⟨_, rfl⟩
       rw [← him] at hx hy hlt
       have wm : IntKind.i64.wrap ((i : Int) * m) = (im : Int) := by rw [← Int.natCast_mul, ← him]; exact w64 (by omega) (by omega)
       obtain ⟨q, hq⟩ : ∃ q, q = im + j := ⟨_, rfl⟩
       rw [← hq] at hx hy hlt
       have wa : IntKind.i64.wrap ((im : Int) + j) = (q : Int) := (w64 (by omega) (by omega)).trans (by omega)
       have lD : q < D.length := by omega
       have lT : q < T.length := by omega
       refine vwp_sq [1, 3, 4] fun K22 hK22 => vwp_region hT ?_
       simp [-List.reduceReplicate, wm, wa, hx]
       repeat refine ⟨by first | assumption | omega | (intros; omega), ?_⟩
       refine hK22 _ ?_
       try clear hK22 K22
       refine vwp_sq [1, 3, 4, 5] fun K23 hK23 => vwp_region hT ?_
       simp [wm, wa, hy]
       repeat refine ⟨by first | assumption | omega | (intros; omega), ?_⟩
       refine hK23 _ ?_
       try clear hK23 K23
       refine vwp_sq [1, 3, 4, 5, 6] fun K24 hK24 => vwp_region hT ?_
       simp
       refine hK24 _ ?_
       try clear hK24 K24
       refine vwp_cond (by first | rfl | (simp; rfl)) (fun h6 => ?_) fun h6 => ?_
       · simp -failIfUnchanged at h6; all_goals
        have q := h6
        have hbad : ¬ (cellOK m D i j ∧ cellOK m T i j) := by
          rintro ⟨b1, b2⟩
          have b1 := b1 x hx0
          have b2 := b2 y hy0
          omega
        refine vwp_sq [] fun K25 hK25 => vwp_region hT ?_
        simp
        refine hK25 _ ?_
        try clear hK25 K25
        refine vwp_ret (hR _ _ ?_)
        have hw : areaE (m : Int) D T = 1 := by
          rw [areaE, if_neg]
          intro q
          obtain ⟨m', q0, q1, q2, q3, q4, q5, q6⟩ := areaB_iff.1 q
          obtain rfl : m = m' := by omega
          exact hbad ⟨(legB_cells (by omega) q3).1 q5 i (by omega) j (by omega), (legB_cells (by omega) q4).1 q6 i (by omega) j (by omega)⟩
        rw [hw]
        exact ret_k [2] [] ([]) (.int .i64 1) (⟨rfl, rfl⟩)
       · simp -failIfUnchanged at h6; all_goals
        have q := h6
        have hxx : cellOK m D i j ∧ cellOK m T i j := by
          refine ⟨fun x1 e1 => ?_, fun y1 e1 => ?_⟩
          · rw [hx0] at e1; cases e1; omega
          · rw [hy0] at e1; cases e1; omega
        refine vwp_skip ?_
        refine hK21 _ ?_
        try clear hK21 K21
        have w1 : IntKind.i64.wrap ((j : Int) + 1) = j + 1 := w64 (by omega) (by omega)
        refine vwp_live [1, 3, 4] (vwp_region hT ?_)
        simp [w1]
        exact hK18 (j + 1) _ (Gh.to_k [1, 3, 4] [0]) (⟨by omega, fun b hb => by
            rcases Nat.lt_or_ge b j with q | q
            · exact hjl b q
            · obtain rfl : b = j := by omega
              exact hxx⟩) (by omega)
      · simp -failIfUnchanged at h5; all_goals
       have ej : j = m := by omega
       refine vwp_exit ?_
       simp only [inBlk, thenQ, if_true]
       refine hK16 _ ?_
       try clear hK16 K16
       have w1 : IntKind.i64.wrap ((i : Int) + 1) = i + 1 := w64 (by omega) (by omega)
       refine vwp_live [1, 3] (vwp_region hT ?_)
       simp [w1]
       exact hK13 (i + 1) _ (Gh.to_k [1, 3] [0]) (⟨by omega, fun a ha b hb => by
           rcases Nat.lt_or_ge a i with q | q
           · exact hil a q b hb
           · obtain rfl : a = i := by omega
             exact hjl b (by omega)⟩) (by omega)
     · simp -failIfUnchanged at h4; all_goals
      refine vwp_exit ?_
      simp only [inBlk, thenQ, if_true]
      refine hK11 _ ?_
      try clear hK11 K11
      refine vwp_sq [] fun K26 hK26 => vwp_region hT ?_
      simp
      refine hK26 _ ?_
      try clear hK26 K26
      refine vwp_ret (hR _ _ ?_)
      obtain rfl : i = m := by omega
      have hw : areaE (i : Int) D T = 0 := by
        exact areaE_0.2 (areaB_iff.2 ⟨i, rfl, c1, c2, by rw [dD, hmm], by rw [dT, hmm], (legB_cells (by omega) (by rw [dD, hmm])).2 fun a ha b hb => (hil a ha b hb).1, (legB_cells (by omega) (by rw [dT, hmm])).2 fun a ha b hb => (hil a ha b hb).2⟩)
      rw [hw]
      exact ret_k [2] [] ([]) (.int .i64 0) (⟨rfl, rfl⟩)
theorem rleg_spec {n : Int} {D T : List Int} (hA : areaB n D T = true) (f t : Int) (hf : 0 ≤ f ∧ f < n) (ht : 0 ≤ t ∧ t < n) : VC P 52 [.agg (arC n D T), .int .i64 f, .int .i64 t] [] (fun r ob' => r = .tup [.int .i64 (lg n D f t), .int .i64 (lg n T f t), .int .i64 0] ∧ ob' = []) := by
  obtain ⟨m, hn, hm16, f', t', hfe, hte, hf2, ht2, hlt, dD, dT, gD, gT, _, _⟩ := lg_get hA hf ht
  have wm : IntKind.i64.wrap (f * n) = ((f' * m : Nat) : Int) := by
    have e : f * n = ((f' * m : Nat) : Int) := by rw [hfe, hn]; exact_mod_cast rfl
    rw [e]; exact w64 (by omega) (by omega)
  have wa : IntKind.i64.wrap (((f' * m : Nat) : Int) + t) = ((f' * m + t' : Nat) : Int) := by rw [hte]; exact (w64 (by omega) (by omega)).trans (by omega)
  have wt : IntKind.i64.wrap (((f' * m + t' : Nat) : Int)) = ((f' * m + t' : Nat) : Int) := w64 (by omega) (by omega)
  obtain ⟨x, hx⟩ : ∃ x, x = lg n D f t := ⟨_, rfl⟩
  obtain ⟨y, hy⟩ : ∃ y, y = lg n T f t := ⟨_, rfl⟩
  rw [← hx] at gD ⊢
  rw [← hy] at gT ⊢
  obtain ⟨fm, hfm⟩ : ∃ fm, fm = f' * m := ⟨_, rfl⟩
  rw [← hfm] at wm wa wt gD gT hlt
  obtain ⟨q, hq⟩ : ∃ q, q = fm + t' := ⟨_, rfl⟩
  rw [← hq] at wa wt gD gT hlt
  have lD : q < D.length := (List.getElem?_eq_some_iff.1 gD).1
  have lT : q < T.length := (List.getElem?_eq_some_iff.1 gT).1
  refine VC_of_vwp_k ent_52 Try.func52 rfl (by simp) fun R hR => ?_
  refine vwp_sq [0, 1, 2] fun K1 hK1 => vwp_region hT ?_
  simp
  refine hK1 _ ?_
  try clear hK1 K1
  refine vwp_seq_k fun K2 hK2 => ?_
  have hE := areaE_0.2 hA
  refine vwp_sq [1, 2, 3] fun K3 hK3 => vwp_region hT ?_
  simp [hE]
  refine vcall_k [] (rcheck_spec n D T) ?_
  rintro r ob' ⟨rfl, rfl⟩
  simp [hE]
  refine hK3 _ ?_
  try clear hK3 K3
  refine vwp_cond (by first | rfl | (simp; rfl)) (fun h1 => ?_) fun h1 => ?_
  · simp -failIfUnchanged at h1; all_goals
   refine vwp_seq_k fun K4 hK4 => ?_
   simp_all
  · simp -failIfUnchanged at h1; all_goals
   refine vwp_skip ?_
   refine hK2 _ ?_
   try clear hK2 K2
   refine vwp_seq_k fun K5 hK5 => ?_
   refine vwp_sq [1, 2, 3] fun K6 hK6 => vwp_region hT ?_
   simp
   refine vcall_z [] (rin_spec (n := n) (D := D) (T := T) [f, t] (by simp) (by intro x hx; simp at hx; rcases hx with rfl | rfl <;> assumption)) (by rintro r ob' ⟨rfl, rfl⟩; simp) ?_
   rintro r ob' ⟨rfl, rfl⟩
   simp
   refine hK6 _ ?_
   try clear hK6 K6
   refine vwp_cond (by first | rfl | (simp; rfl)) (fun h2 => ?_) fun h2 => ?_
   · simp -failIfUnchanged at h2; all_goals
    refine vwp_seq_k fun K7 hK7 => ?_
    simp_all
   · simp -failIfUnchanged at h2; all_goals
    refine vwp_skip ?_
    refine hK5 _ ?_
    try clear hK5 K5
    refine vwp_sq [1, 2, 3] fun K8 hK8 => vwp_still hT hm (by kernel_rfl) ?_
    simp [wm, wa, gD, gT]
    repeat refine ⟨by first | assumption | omega | (intros; omega), ?_⟩
    refine hK8 _ ?_
    try clear hK8 K8
    refine vwp_ret (hR _ _ ?_)
    exact ret_k [6, 7, 8] [] ([]) (.tup [.int .i64 x, .int .i64 y, .int .i64 0]) (⟨rfl, rfl⟩)

/-- A tour's sums, from a node on, back to the depot. -/
def tour (n : Int) (L : List Int) : Int → List Int → Int
  | f, [] => lg n L f 0
  | f, t :: r => lg n L f t + tour n L t r
theorem tour_bounds {n : Int} {D T : List Int} (hA : areaB n D T = true) : ∀ (l : List Int) (f : Int), (0 ≤ f ∧ f < n) → (∀ x ∈ l, 0 ≤ x ∧ x < n) → 0 ≤ tour n D f l ∧ tour n D f l ≤ (l.length + 1) * 1000000 ∧ 0 ≤ tour n T f l ∧ tour n T f l ≤ (l.length + 1) * 1000000
  | [], f, hf, _ => by
    obtain ⟨m, hn, _, f', t', _, _, _, _, _, _, _, _, _, a, b⟩ := lg_get hA hf (t := 0) ⟨by omega, by omega⟩
    simp only [tour, List.length_nil]; omega
  | t :: r, f, hf, h => by
    have ht := h t (by simp)
    obtain ⟨m, hn, _, f', t', _, _, _, _, _, _, _, _, _, a, b⟩ := lg_get hA hf ht
    have := tour_bounds hA r t ht fun x hx => h x (by simp [hx])
    simp only [tour, List.length_cons]; omega
theorem tour_snoc {n : Int} {L : List Int} : ∀ (l : List Int) (f t : Int), tour n L f (l ++ [t]) = tour n L f l - lg n L (l.getLastD f) 0 + lg n L (l.getLastD f) t + lg n L t 0
  | [], f, t => by simp [tour]
  | x :: r, f, t => by
    simp only [List.cons_append, tour, tour_snoc r x t]
    have e : (x :: r).getLastD f = r.getLastD x := by cases r <;> simp [List.getLastD]
    rw [e]; omega
end Go.Proofs.Ytinigjmfjabicaa
