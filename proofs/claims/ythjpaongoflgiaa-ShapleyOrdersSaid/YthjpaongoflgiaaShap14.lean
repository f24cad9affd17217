/- The order that draws tell, by the document: the same. -/
import Derived.Test.YthjpaongoflgiaaShap13
namespace Go.Proofs.Ythjpaongoflgiaa
open Go Go.VX Go.RowKit
set_option linter.unusedVariables false
set_option linter.unusedSimpArgs false
set_option maxHeartbeats 20000000
set_option maxRecDepth 100000

/-- What is free of the first so many. -/
def freeL (o : List Int) (p : Nat) : List Int := (rangeI p).filter fun x => cnt o x == 0
theorem freeL_zero (o : List Int) : freeL o 0 = [] := rfl
theorem freeL_yes {o : List Int} {p : Nat} (h : cnt o (p : Int) = 0) : freeL o (p + 1) = freeL o p ++ [(p : Int)] := by
  simp [freeL, rangeI_succ, h]
theorem freeL_no {o : List Int} {p : Nat} (h : cnt o (p : Int) ≠ 0) : freeL o (p + 1) = freeL o p := by
  simp [freeL, rangeI_succ, h]
theorem freeL_pre (o : List Int) (p : Nat) : ∀ m, p ≤ m → ∃ G, freeL o m = freeL o p ++ G
  | 0, h => ⟨[], by obtain rfl : p = 0 := by omega
                    simp⟩
  | m + 1, h => by
    by_cases e : p = m + 1
    · subst e; exact ⟨[], by simp⟩
    · obtain ⟨G, hG⟩ := freeL_pre o p m (by omega)
      by_cases hc : cnt o (m : Int) = 0
      · exact ⟨G ++ [(m : Int)], by rw [freeL_yes hc, hG, List.append_assoc]⟩
      · exact ⟨G, by rw [freeL_no hc, hG]⟩
theorem freeL_nodup (o : List Int) (m : Nat) : (freeL o m).Nodup := rangeI_nodup.filter _
theorem freeL_pick {o : List Int} {p m : Nat} (hp : p < m) (hc : cnt o (p : Int) = 0) : (freeL o m).getD (freeL o p).length 0 = (p : Int) ∧ (freeL o m).eraseIdx (freeL o p).length = freeL (o ++ [(p : Int)]) m := by
  obtain ⟨G, hG⟩ := freeL_pre o (p + 1) m hp
  rw [freeL_yes hc, List.append_assoc] at hG
  have hn := freeL_nodup o m
  rw [hG] at hn
  have e1 : freeL (o ++ [(p : Int)]) m = (freeL o m).filter fun x => !(x == (p : Int)) := by
    unfold freeL
    rw [List.filter_filter]
    congr 1
    funext x
    simp only [cnt, List.countP_append, List.countP_cons, List.countP_nil]
    by_cases e : (p : Int) = x
    · subst e; simp
    · have e' : ¬ x = (p : Int) := fun q => e q.symm
      simp [e, e']
  obtain ⟨hn1, hn2, hn3⟩ := List.nodup_append.1 hn
  constructor
  · rw [hG]; simp
  · rw [e1, hG, List.eraseIdx_append_of_length_le (Nat.le_refl _)]
    simp only [Nat.sub_self, List.singleton_append, List.eraseIdx_cons_zero, List.filter_append, List.filter_cons, beq_self_eq_true, Bool.not_true, Bool.false_eq_true, if_false]
    have a1 : (freeL o p).filter (fun x => !(x == (p : Int))) = freeL o p := by
      rw [List.filter_eq_self]
      intro a ha
      have := hn3 a ha (p : Int) (by simp)
      simpa using this
    have a2 : G.filter (fun x => !(x == (p : Int))) = G := by
      rw [List.filter_eq_self]
      intro a ha
      have := (List.nodup_cons.1 hn2).1
      simp only [Bool.not_eq_true', beq_eq_false_iff_ne, ne_eq]
      intro e
      subst e
      exact this ha
    rw [a1, a2]
theorem freeL_nil (m : Nat) : freeL [] m = rangeI m := by
  unfold freeL
  rw [List.filter_eq_self]
  intro a _
  rfl
theorem rorder_spec (m : Nat) (ds : List Int) (h6 : m ≤ 6) (hd : ds.length = m) : VC P 26 [.int .i64 m, sI ds] [] (fun r ob' => r = .tup [.sl 0 m 1 0 m, .int .i64 0] ∧ ob' = [.live ((ordL m ds).map (.int .i64))]) := by
  refine VC_of_vwp_k ent_26 Try.func26 rfl (by simp) fun R hR => ?_
  refine vwp_sq [0, 1] fun K1 hK1 => vwp_region hT ?_
  simp
  refine hK1 _ ?_
  try clear hK1 K1
  refine vwp_seq_k fun K2 hK2 => ?_
  have k1 : ¬ ((m : Int) < 0) := by omega
  have k2 : ¬ ((6 : Int) < m) := by omega
  refine vwp_sq [0, 1] fun K3 hK3 => vwp_regionI hT ?_
  simp [k1, k2, hd]
  refine hK3 _ ?_
  try clear hK3 K3
  refine vwp_cond (by first | rfl | (simp; rfl)) (fun h1 => ?_) fun h1 => ?_
  · simp -failIfUnchanged at h1; all_goals
   refine vwp_seq_k fun K4 hK4 => ?_
   skip
  · simp -failIfUnchanged at h1; all_goals
   refine vwp_skip ?_
   refine hK2 _ ?_
   try clear hK2 K2
   refine vwp_sq [0, 1] fun K5 hK5 => vwp_region hT ?_
   simp
   refine hK5 _ ?_
   try clear hK5 K5
   refine vwp_seq_k fun K6 hK6 => ?_
   refine vwp_sq [0, 1, 6] fun K7 hK7 => vwp_region hT ?_
   simp
   refine hK7 _ ?_
   try clear hK7 K7
   refine vwp_block ?_
   refine vwp_loop_s (fun x : Nat × List Int × List Int => ⟨[(0, .int .i64 m), (1, sI ds), (6, .sl 0 x.1 1 0 x.1), (7, .int .i64 (x.1 : Int))], [.live (x.2.1.map (.int .i64))]⟩) (fun x => x.1 ≤ m ∧ x.2.1.length = x.1 ∧ x.2.2 = freeL x.2.1 m ∧ x.2.2.length = m - x.1 ∧ (ds.take x.1).foldl ordStep ([], rangeI m) = (x.2.1, x.2.2)) (fun x => m - x.1) ((0, [], rangeI m)) (Gh.to_k [0, 1, 6, 7] [0]) (⟨by simp, by simp, by simp [freeL_nil], by simp [rangeI_len], by simp⟩) ?_
   rintro ⟨i, o, r⟩ ⟨hi, hol, hr, hrl, hf⟩
   dsimp only at hi hol hr hrl hf ⊢
   intro K8 hK8
   refine vwp_seq_k fun K9 hK9 => ?_
   refine vwp_sq [0, 1, 6, 7] fun K10 hK10 => vwp_region hT ?_
   simp
   refine hK10 _ ?_
   try clear hK10 K10
   refine vwp_cond (by first | rfl | (simp; rfl)) (fun h2 => ?_) fun h2 => ?_
   · simp -failIfUnchanged at h2; all_goals
    refine vwp_skip ?_
    refine hK9 _ ?_
    try clear hK9 K9
    refine vwp_seq_k fun K11 hK11 => ?_
    refine vwp_block ?_
    obtain ⟨d, hdx⟩ := getI (l := ds) (i := i) (by omega)
    have w2 : IntKind.i64.wrap ((m : Int) - (i : Int)) = ((m - i : Nat) : Int) := (w64 (by omega) (by omega)).trans (by omega)
    have k4 : ¬ (((m - i : Nat) : Int) = 0) := by omega
    have hlt := tmod_abs d (k := m - i) (by omega)
    obtain ⟨e, he⟩ : ∃ e, e = d.tmod ((m - i : Nat) : Int) := ⟨_, rfl⟩
    obtain ⟨K, hK⟩ : ∃ K, K = (d.tmod ((m - i : Nat) : Int)).natAbs := ⟨_, rfl⟩
    rw [← hK] at hlt
    have hKe : K = e.natAbs := by rw [hK, he]
    refine vwp_sq [0, 1, 6, 7] fun K12 hK12 => vwp_region hT ?_
    simp [hdx, w2, k4, ← he]
    repeat refine ⟨by first | assumption | omega | (intros; omega), ?_⟩
    refine hK12 _ ?_
    try clear hK12 K12
    refine vwp_seq_k fun K13 hK13 => ?_
    refine vwp_sq [0, 1, 6, 7, 8] fun K14 hK14 => vwp_region hT ?_
    simp
    refine hK14 _ ?_
    try clear hK14 K14
    refine vwp_cond (by first | rfl | (simp; rfl)) (fun h3 => ?_) fun h3 => ?_
    · simp -failIfUnchanged at h3; all_goals
     have hen : e < 0 := h3
     have hek : IntKind.i64.wrap (-e) = (K : Int) := (w64 (by omega) (by omega)).trans (by omega)
     refine vwp_live [0, 1, 6, 7, 8] (vwp_region hT ?_)
     simp
     refine hK13 _ ?_
     try clear hK13 K13
     refine vwp_sq [0, 1, 6, 7, 8] fun K15 hK15 => vwp_region hT ?_
     simp
     refine hK15 _ ?_
     try clear hK15 K15
     refine vwp_block ?_
     refine vwp_loop_s (fun p : Nat => ⟨[(0, .int .i64 m), (1, sI ds), (6, .sl 0 i 1 0 i), (7, .int .i64 (i : Int)), (8, .int .i64 ((K - (freeL o p).length : Nat) : Int)), (9, .int .i64 (p : Int))], [.live (o.map (.int .i64))]⟩) (fun p => p ≤ m ∧ (freeL o p).length ≤ K) (fun p => m - p) (0) (Gh.to_k [0, 1, 6, 7, 8, 9] [0] (he := by simp [freeL_zero, hek])) (⟨by omega, by simp [freeL_zero]⟩) ?_
     rintro p ⟨hp, hq⟩
     intro K16 hK16
     refine vwp_seq_k fun K17 hK17 => ?_
     refine vwp_sq [0, 1, 6, 7, 8, 9] fun K18 hK18 => vwp_region hT ?_
     simp
     refine hK18 _ ?_
     try clear hK18 K18
     refine vwp_cond (by first | rfl | (simp; rfl)) (fun h4 => ?_) fun h4 => ?_
     · simp -failIfUnchanged at h4; all_goals
      refine vwp_skip ?_
      refine hK17 _ ?_
      try clear hK17 K17
      refine vwp_seq_k fun K19 hK19 => ?_
      refine vwp_block ?_
      refine vwp_seq_k fun K20 hK20 => ?_
      have hpm : p < m := by omega
      refine vwp_sq [0, 1, 6, 7, 8, 9] fun K21 hK21 => vwp_region hT ?_
      simp
      refine vcall_z [] (in_spec o (p : Int) (by omega)) (fun r ob' q => by obtain ⟨rfl, rfl⟩ := q; exact ⟨rfl, fun o h => by simp at h⟩) ?_ (ha := by simp [hol]; exact List.take_of_length_le (by simp [hol])) (hok := by simp [hol])
      rintro r ob' ⟨rfl, rfl⟩
      simp
      refine hK21 _ ?_
      try clear hK21 K21
      refine vwp_cond (by first | rfl | (simp; rfl)) (fun h5 => ?_) fun h5 => ?_
      · simp -failIfUnchanged at h5; all_goals
       have hc : cnt o (p : Int) ≠ 0 := by
         have q := h5
         omega
       have hq2 := congrArg List.length (freeL_no (o := o) (p := p) hc)
       have hq3 : (freeL o (p + 1)).length ≤ K := by omega
       refine vwp_exit ?_
       simp only [inBlk, thenQ, if_true]
       refine hK19 _ ?_
       try clear hK19 K19
       have w1 : IntKind.i64.wrap ((p : Int) + 1) = p + 1 := w64 (by omega) (by omega)
       refine vwp_live [0, 1, 6, 7, 8, 9] (vwp_region hT ?_)
       simp [w1]
       exact hK16 (p + 1) _ (Gh.to_k [0, 1, 6, 7, 8, 9] [0] (he := by simp [hq2])) (⟨by omega, hq3⟩) (by omega)
      · simp -failIfUnchanged at h5; all_goals
       have hc : cnt o (p : Int) = 0 := by
         have q := h5
         omega
       have hq2 := congrArg List.length (freeL_yes (o := o) (p := p) hc)
       rw [List.length_append, List.length_singleton] at hq2
       refine vwp_skip ?_
       refine hK20 _ ?_
       try clear hK20 K20
       refine vwp_seq_k fun K22 hK22 => ?_
       refine vwp_sq [0, 1, 6, 7, 8, 9] fun K23 hK23 => vwp_region hT ?_
       simp
       refine hK23 _ ?_
       try clear hK23 K23
       refine vwp_cond (by first | rfl | (simp; rfl)) (fun h6 => ?_) fun h6 => ?_
       · simp -failIfUnchanged at h6; all_goals
        have hpk : (freeL o p).length = K := by
          have q := h6
          omega
        refine vwp_sq [0, 1, 6, 7, 9] fun K24 hK24 => vwp_region hT ?_
        simp [hol]
        repeat refine ⟨by first | assumption | omega | (intros; omega), ?_⟩
        refine hK24 _ ?_
        try clear hK24 K24
        refine vwp_exit ?_
        simp only [inBlk, thenQ, if_true]
        refine hK11 _ ?_
        try clear hK11 K11
        have w1 : IntKind.i64.wrap ((i : Int) + 1) = i + 1 := w64 (by omega) (by omega)
        refine vwp_live [0, 1, 6, 7] (vwp_region hT ?_)
        simp [w1]
        exact hK8 ((i + 1, o ++ [(p : Int)], r.eraseIdx K)) _ (Gh.to_k [0, 1, 6, 7] [0] (hh := by simp [hol])) (⟨by dsimp only; omega, by simp [hol], by dsimp only; rw [hr, ← hpk]; exact (freeL_pick hpm hc).2, by dsimp only; rw [List.length_eraseIdx, if_pos (by omega)]; omega, by
            dsimp only
            rw [take_foldl hdx, hf]
            simp only [ordStep, hrl, ← hK]
            have e := (freeL_pick hpm hc).1
            rw [← hr, hpk] at e
            rw [e]⟩) (by dsimp only; omega)
       · simp -failIfUnchanged at h6; all_goals
        have hpk : (freeL o p).length < K := by
          have q := h6
          omega
        have hq3 : (freeL o (p + 1)).length ≤ K := by omega
        have w3 : IntKind.i64.wrap (((K - (freeL o p).length : Nat) : Int) - 1) = ((K - ((freeL o p).length + 1) : Nat) : Int) := (w64 (by omega) (by omega)).trans (by omega)
        refine vwp_skip ?_
        refine hK22 _ ?_
        try clear hK22 K22
        refine vwp_live [0, 1, 6, 7, 8, 9] (vwp_region hT ?_)
        simp [w3]
        refine hK19 _ ?_
        try clear hK19 K19
        have w1 : IntKind.i64.wrap ((p : Int) + 1) = p + 1 := w64 (by omega) (by omega)
        refine vwp_live [0, 1, 6, 7, 8, 9] (vwp_region hT ?_)
        simp [w1]
        exact hK16 (p + 1) _ (Gh.to_k [0, 1, 6, 7, 8, 9] [0] (he := by simp [hq2])) (⟨by omega, hq3⟩) (by omega)
     · simp -failIfUnchanged at h4; all_goals
      refine vwp_exit ?_
      simp only [inBlk, thenQ, if_true]
      refine hK11 _ ?_
      try clear hK11 K11
      exfalso
      have e1 : p = m := by omega
      rw [e1, ← hr, hrl] at hq
      omega
    · simp -failIfUnchanged at h3; all_goals
     have hek : e = (K : Int) := by omega
     refine vwp_skip ?_
     refine hK13 _ ?_
     try clear hK13 K13
     refine vwp_sq [0, 1, 6, 7, 8] fun K25 hK25 => vwp_region hT ?_
     simp
     refine hK25 _ ?_
     try clear hK25 K25
     refine vwp_block ?_
     refine vwp_loop_s (fun p : Nat => ⟨[(0, .int .i64 m), (1, sI ds), (6, .sl 0 i 1 0 i), (7, .int .i64 (i : Int)), (8, .int .i64 ((K - (freeL o p).length : Nat) : Int)), (9, .int .i64 (p : Int))], [.live (o.map (.int .i64))]⟩) (fun p => p ≤ m ∧ (freeL o p).length ≤ K) (fun p => m - p) (0) (Gh.to_k [0, 1, 6, 7, 8, 9] [0] (he := by simp [freeL_zero, hek])) (⟨by omega, by simp [freeL_zero]⟩) ?_
     rintro p ⟨hp, hq⟩
     intro K26 hK26
     refine vwp_seq_k fun K27 hK27 => ?_
     refine vwp_sq [0, 1, 6, 7, 8, 9] fun K28 hK28 => vwp_region hT ?_
     simp
     refine hK28 _ ?_
     try clear hK28 K28
     refine vwp_cond (by first | rfl | (simp; rfl)) (fun h7 => ?_) fun h7 => ?_
     · simp -failIfUnchanged at h7; all_goals
      refine vwp_skip ?_
      refine hK27 _ ?_
      try clear hK27 K27
      refine vwp_seq_k fun K29 hK29 => ?_
      refine vwp_block ?_
      refine vwp_seq_k fun K30 hK30 => ?_
      have hpm : p < m := by omega
      refine vwp_sq [0, 1, 6, 7, 8, 9] fun K31 hK31 => vwp_region hT ?_
      simp
      refine vcall_z [] (in_spec o (p : Int) (by omega)) (fun r ob' q => by obtain ⟨rfl, rfl⟩ := q; exact ⟨rfl, fun o h => by simp at h⟩) ?_ (ha := by simp [hol]; exact List.take_of_length_le (by simp [hol])) (hok := by simp [hol])
      rintro r ob' ⟨rfl, rfl⟩
      simp
      refine hK31 _ ?_
      try clear hK31 K31
      refine vwp_cond (by first | rfl | (simp; rfl)) (fun h8 => ?_) fun h8 => ?_
      · simp -failIfUnchanged at h8; all_goals
       have hc : cnt o (p : Int) ≠ 0 := by
         have q := h8
         omega
       have hq2 := congrArg List.length (freeL_no (o := o) (p := p) hc)
       have hq3 : (freeL o (p + 1)).length ≤ K := by omega
       refine vwp_exit ?_
       simp only [inBlk, thenQ, if_true]
       refine hK29 _ ?_
       try clear hK29 K29
       have w1 : IntKind.i64.wrap ((p : Int) + 1) = p + 1 := w64 (by omega) (by omega)
       refine vwp_live [0, 1, 6, 7, 8, 9] (vwp_region hT ?_)
       simp [w1]
       exact hK26 (p + 1) _ (Gh.to_k [0, 1, 6, 7, 8, 9] [0] (he := by simp [hq2])) (⟨by omega, hq3⟩) (by omega)
      · simp -failIfUnchanged at h8; all_goals
       have hc : cnt o (p : Int) = 0 := by
         have q := h8
         omega
       have hq2 := congrArg List.length (freeL_yes (o := o) (p := p) hc)
       rw [List.length_append, List.length_singleton] at hq2
       refine vwp_skip ?_
       refine hK30 _ ?_
       try clear hK30 K30
       refine vwp_seq_k fun K32 hK32 => ?_
       refine vwp_sq [0, 1, 6, 7, 8, 9] fun K33 hK33 => vwp_region hT ?_
       simp
       refine hK33 _ ?_
       try clear hK33 K33
       refine vwp_cond (by first | rfl | (simp; rfl)) (fun h9 => ?_) fun h9 => ?_
       · simp -failIfUnchanged at h9; all_goals
        have hpk : (freeL o p).length = K := by
          have q := h9
          omega
        refine vwp_sq [0, 1, 6, 7, 9] fun K34 hK34 => vwp_region hT ?_
        simp [hol]
        repeat refine ⟨by first | assumption | omega | (intros; omega), ?_⟩
        refine hK34 _ ?_
        try clear hK34 K34
        refine vwp_exit ?_
        simp only [inBlk, thenQ, if_true]
        refine hK11 _ ?_
        try clear hK11 K11
        have w1 : IntKind.i64.wrap ((i : Int) + 1) = i + 1 := w64 (by omega) (by omega)
        refine vwp_live [0, 1, 6, 7] (vwp_region hT ?_)
        simp [w1]
        exact hK8 ((i + 1, o ++ [(p : Int)], r.eraseIdx K)) _ (Gh.to_k [0, 1, 6, 7] [0] (hh := by simp [hol])) (⟨by dsimp only; omega, by simp [hol], by dsimp only; rw [hr, ← hpk]; exact (freeL_pick hpm hc).2, by dsimp only; rw [List.length_eraseIdx, if_pos (by omega)]; omega, by
            dsimp only
            rw [take_foldl hdx, hf]
            simp only [ordStep, hrl, ← hK]
            have e := (freeL_pick hpm hc).1
            rw [← hr, hpk] at e
            rw [e]⟩) (by dsimp only; omega)
       · simp -failIfUnchanged at h9; all_goals
        have hpk : (freeL o p).length < K := by
          have q := h9
          omega
        have hq3 : (freeL o (p + 1)).length ≤ K := by omega
        have w3 : IntKind.i64.wrap (((K - (freeL o p).length : Nat) : Int) - 1) = ((K - ((freeL o p).length + 1) : Nat) : Int) := (w64 (by omega) (by omega)).trans (by omega)
        refine vwp_skip ?_
        refine hK32 _ ?_
        try clear hK32 K32
        refine vwp_live [0, 1, 6, 7, 8, 9] (vwp_region hT ?_)
        simp [w3]
        refine hK29 _ ?_
        try clear hK29 K29
        have w1 : IntKind.i64.wrap ((p : Int) + 1) = p + 1 := w64 (by omega) (by omega)
        refine vwp_live [0, 1, 6, 7, 8, 9] (vwp_region hT ?_)
        simp [w1]
        exact hK26 (p + 1) _ (Gh.to_k [0, 1, 6, 7, 8, 9] [0] (he := by simp [hq2])) (⟨by omega, hq3⟩) (by omega)
     · simp -failIfUnchanged at h7; all_goals
      refine vwp_exit ?_
      simp only [inBlk, thenQ, if_true]
      refine hK11 _ ?_
      try clear hK11 K11
      exfalso
      have e1 : p = m := by omega
      rw [e1, ← hr, hrl] at hq
      omega
   · simp -failIfUnchanged at h2; all_goals
    refine vwp_exit ?_
    simp only [inBlk, thenQ, if_true]
    refine hK6 _ ?_
    try clear hK6 K6
    refine vwp_sq [6] fun K35 hK35 => vwp_region hT ?_
    simp
    refine hK35 _ ?_
    try clear hK35 K35
    refine vwp_ret (hR _ _ ?_)
    have e : i = m := by omega
    subst e
    rw [← hd, List.take_length] at hf
    have e2 : ordL i ds = o := by simp only [ordL, ← hd, hf]
    rw [e2]
    exact ret_k [4, 5] [0] ([.live (o.map (.int .i64))]) (.tup [.sl 0 i 1 0 i, .int .i64 0]) (⟨rfl, rfl⟩)
end Go.Proofs.Ythjpaongoflgiaa
