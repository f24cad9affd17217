/- The document's tours; sums, orders, trucks, worlds: the walk. -/
import Derived.Test.YtinigjmfjabicaaPlC
namespace Go.Proofs.Ytinigjmfjabicaa
open Go Go.VX Go.RowKit
set_option linter.unusedVariables false
set_option linter.unusedSimpArgs false
set_option maxHeartbeats 20000000
set_option maxRecDepth 100000

/-- The legs of a row of nodes. -/
def legsR (n : Int) (L : List Int) : List Int → Int
  | a :: b :: r => lg n L a b + legsR n L (b :: r)
  | _ => 0
theorem tour_legs (n : Int) (L : List Int) : ∀ (l : List Int) (f : Int), tour n L f l = legsR n L (f :: (l ++ [0]))
  | [], f => by simp [tour, legsR]
  | t :: r, f => by simp only [List.cons_append, tour, legsR, tour_legs n L r t]
theorem drop2 {α : Type} {R : List α} {i : Nat} {a b : α} (ha : R[i]? = some a) (hb : R[i + 1]? = some b) : R.drop i = a :: b :: R.drop (i + 2) := by
  obtain ⟨h1, e1⟩ := List.getElem?_eq_some_iff.1 ha
  obtain ⟨h2, e2⟩ := List.getElem?_eq_some_iff.1 hb
  rw [List.drop_eq_getElem_cons h1, List.drop_eq_getElem_cons h2, e1, e2]
theorem rtour_spec {n : Int} {D T : List Int} (hA : areaB n D T = true) (l : List Int) (hl : l.length ≤ 100) (hin : ∀ x ∈ l, 0 ≤ x ∧ x < n) : VC P 95 [.agg (arC n D T), sI l] [] (fun r ob' => r = .tup [.int .i64 (tour n D 0 l), .int .i64 (tour n T 0 l), .int .i64 0] ∧ ob' = []) := by
  obtain ⟨Z, hR0⟩ : ∃ Z, Z = 0 :: (l ++ [0]) := ⟨_, rfl⟩
  have hRl : Z.length = 1 + l.length + 1 := by rw [hR0]; simp; omega
  have hRin : ∀ x ∈ Z, 0 ≤ x ∧ x < n := by
    obtain ⟨m, hn, hm1, _⟩ := areaB_iff.1 hA
    intro x hx
    rw [hR0] at hx
    simp at hx
    rcases hx with rfl | hx | rfl
    · omega
    · exact hin x hx
    · omega
  have eD := tour_legs n D l 0
  have eT := tour_legs n T l 0
  rw [← hR0] at eD eT
  refine VC_of_vwp_k ent_95 Try.func95 rfl (by simp) fun R hR => ?_
  refine vwp_sq [0, 1] fun K1 hK1 => vwp_region hT ?_
  simp
  refine hK1 _ ?_
  try clear hK1 K1
  refine vwp_seq_k fun K2 hK2 => ?_
  have hE := areaE_0.2 hA
  refine vwp_sq [1, 2] fun K3 hK3 => vwp_region hT ?_
  simp [hE]
  refine vcall_k [] (rcheck_spec n D T) ?_
  rintro r ob' ⟨rfl, rfl⟩
  simp [hE]
  refine hK3 _ ?_
  try clear hK3 K3
  refine vwp_cond (by first | rfl | (simp; rfl)) (fun h1 => ?_) fun h1 => ?_
  · simp -failIfUnchanged at h1; all_goals
   refine vwp_seq_k fun K4 hK4 => ?_
   simp_all
  · simp -failIfUnchanged at h1; all_goals
   refine vwp_skip ?_
   refine hK2 _ ?_
   try clear hK2 K2
   refine vwp_seq_k fun K5 hK5 => ?_
   refine vwp_sq [1, 2] fun K6 hK6 => vwp_region hT ?_
   simp
   refine vcall_z [] (rin_spec (n := n) (D := D) (T := T) l (by omega) hin) (by rintro r ob' ⟨rfl, rfl⟩; simp) ?_
   rintro r ob' ⟨rfl, rfl⟩
   simp
   refine hK6 _ ?_
   try clear hK6 K6
   refine vwp_cond (by first | rfl | (simp; rfl)) (fun h2 => ?_) fun h2 => ?_
   · simp -failIfUnchanged at h2; all_goals
    refine vwp_seq_k fun K7 hK7 => ?_
    simp_all
   · simp -failIfUnchanged at h2; all_goals
    refine vwp_skip ?_
    refine hK5 _ ?_
    try clear hK5 K5
    refine vwp_seq_k fun K8 hK8 => ?_
    refine vwp_sq [1, 2] fun K9 hK9 => vwp_region hT ?_
    simp
    refine hK9 _ ?_
    try clear hK9 K9
    refine vwp_cond (by first | rfl | (simp; rfl)) (fun h3 => ?_) fun h3 => ?_
    · simp -failIfUnchanged at h3; all_goals
     refine vwp_seq_k fun K10 hK10 => ?_
     omega
    · simp -failIfUnchanged at h3; all_goals
     refine vwp_skip ?_
     refine hK8 _ ?_
     try clear hK8 K8
     refine vwp_sq [1, 2] fun K11 hK11 => vwp_region hT ?_
     simp
     repeat refine ⟨by first | assumption | omega | (intros; omega), ?_⟩
     refine hK11 _ ?_
     try clear hK11 K11
     refine vwp_sq [2, 7] fun K12 hK12 => vwp_region hT ?_
     simp
     refine hK12 _ ?_
     try clear hK12 K12
     refine vwp_sq [2, 7, 8] fun K13 hK13 => vwp_region hT ?_
     simp
     refine hK13 _ ?_
     try clear hK13 K13
     refine vwp_seq_k fun K14 hK14 => ?_
     refine vwp_sq [2, 7, 8, 9] fun K15 hK15 => vwp_region hT ?_
     simp
     refine hK15 _ ?_
     try clear hK15 K15
     refine vwp_block ?_
     refine vwp_loop_s (fun u : Nat × Int × Int => ⟨[(2, .ptr 0 3 0), (7, .sl 1 Z.length 1 0 Z.length), (8, .int .i64 u.2.1), (9, .int .i64 u.2.2), (10, .int .i64 (u.1 + 1 : Nat))], [.live (arC n D T), .live (ints Z)]⟩) (fun u => u.1 < Z.length ∧ u.2.1 + legsR n D (Z.drop u.1) = tour n D 0 l ∧ u.2.2 + legsR n T (Z.drop u.1) = tour n T 0 l ∧ 0 ≤ u.2.1 ∧ u.2.1 ≤ u.1 * 1000000 ∧ 0 ≤ u.2.2 ∧ u.2.2 ≤ u.1 * 1000000) (fun u => Z.length - u.1) ((0, 0, 0)) (Gh.to_k [2, 7, 8, 9, 10] [0, 1] (he := by simp [hRl]) (hh := by simp [hR0])) (⟨by dsimp only; omega, by simp [eD], by simp [eT], by simp, by simp, by simp, by simp⟩) ?_
     rintro ⟨i, d, t⟩ ⟨hi, hd, ht, d0, d1, t0, t1⟩
     dsimp only at hi hd ht d0 d1 t0 t1 ⊢
     intro K16 hK16
     refine vwp_seq_k fun K17 hK17 => ?_
     refine vwp_sq [2, 7, 8, 9, 10] fun K18 hK18 => vwp_region hT ?_
     simp
     refine hK18 _ ?_
     try clear hK18 K18
     refine vwp_cond (by first | rfl | (simp; rfl)) (fun h4 => ?_) fun h4 => ?_
     · simp -failIfUnchanged at h4; all_goals
      obtain ⟨a, ha⟩ := getI (l := Z) (i := i) (by omega)
      obtain ⟨b, hb⟩ := getI (l := Z) (i := i + 1) (by omega)
      have dr := drop2 ha hb
      have dr1 : Z.drop (i + 1) = b :: Z.drop (i + 2) := by
        obtain ⟨h1, e1⟩ := List.getElem?_eq_some_iff.1 hb
        rw [List.drop_eq_getElem_cons h1, e1]
      have hva := hRin a (List.mem_of_getElem? ha)
      have hvb := hRin b (List.mem_of_getElem? hb)
      obtain ⟨_, _, _, _, _, _, _, _, _, _, _, _, _, _, bD, bT⟩ := lg_get hA hva hvb
      refine vwp_skip ?_
      refine hK17 _ ?_
      try clear hK17 K17
      refine vwp_seq_k fun K19 hK19 => ?_
      refine vwp_block ?_
      have w3 : IntKind.i64.wrap (i : Int) = (i : Int) := w64 (by omega) (by omega)
      refine vwp_sq [2, 7, 8, 9, 10] fun K20 hK20 => vwp_calm hT hm (by kernel_rfl) ?_
      simp [ha, hb, w3]
      repeat refine ⟨by first | assumption | omega | (intros; omega), ?_⟩
      refine ⟨.tup [.int .i64 (lg n D a b), .int .i64 (lg n T a b), .int .i64 0], fun sl => ?_, ?_⟩
      · refine vcall_z [] (rleg_spec hA a b hva hvb) (by rintro r ob' ⟨rfl, rfl⟩; simp) ?_
        rintro r ob' ⟨rfl, rfl⟩
        simp
      simp [ha, hb, w3]
      repeat refine ⟨by first | assumption | omega | (intros; omega), ?_⟩
      refine hK20 _ ?_
      try clear hK20 K20
      have w4 : IntKind.i64.wrap (d + lg n D a b) = d + lg n D a b := w64 (by omega) (by omega)
      refine vwp_sq [2, 7, 8, 9, 10, 11, 12] fun K21 hK21 => vwp_region hT ?_
      simp [w4]
      refine hK21 _ ?_
      try clear hK21 K21
      have w5 : IntKind.i64.wrap (t + lg n T a b) = t + lg n T a b := w64 (by omega) (by omega)
      refine vwp_live [2, 7, 8, 9, 10, 12] (vwp_region hT ?_)
      simp [w5]
      refine hK19 _ ?_
      try clear hK19 K19
      have w6 : IntKind.i64.wrap ((i : Int) + 1 + 1) = (i : Int) + 1 + 1 := w64 (by omega) (by omega)
      refine vwp_live [2, 7, 8, 9, 10] (vwp_region hT ?_)
      simp [w6]
      exact hK16 ((i + 1, d + lg n D a b, t + lg n T a b)) _ (Gh.to_k [2, 7, 8, 9, 10] [0, 1]) (⟨by dsimp only; omega, by dsimp only; rw [dr] at hd; simp only [legsR] at hd; rw [dr1]; omega, by dsimp only; rw [dr] at ht; simp only [legsR] at ht; rw [dr1]; omega, by dsimp only; omega, by dsimp only; omega, by dsimp only; omega, by dsimp only; omega⟩) (by dsimp only; omega)
     · simp -failIfUnchanged at h4; all_goals
      have ei : i + 1 = Z.length := by omega
      refine vwp_exit ?_
      simp only [inBlk, thenQ, if_true]
      refine hK14 _ ?_
      try clear hK14 K14
      refine vwp_sq [8, 9] fun K22 hK22 => vwp_region hT ?_
      simp
      refine hK22 _ ?_
      try clear hK22 K22
      refine vwp_ret (hR _ _ ?_)
      have e0 : Z.drop i = [Z[i]'hi] := by rw [List.drop_eq_getElem_cons hi, List.drop_eq_nil_of_le (by omega)]
      rw [e0] at hd ht
      simp only [legsR] at hd ht
      have hd' : tour n D 0 l = d := by omega
      have ht' : tour n T 0 l = t := by omega
      rw [hd', ht']
      exact ret_k [4, 5, 6] [] ([]) (.tup [.int .i64 d, .int .i64 t, .int .i64 0]) (⟨rfl, rfl⟩)
end Go.Proofs.Ytinigjmfjabicaa
