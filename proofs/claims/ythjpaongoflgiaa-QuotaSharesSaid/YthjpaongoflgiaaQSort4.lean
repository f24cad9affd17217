/- Sorting that keeps the order of what is alike: all of it. -/
import Derived.Test.YthjpaongoflgiaaQSort3
import Derived.Test.YthjpaongoflgiaaVXc
namespace Go.Proofs.Ythjpaongoflgiaa
open Go Go.VX Go.RowKit
set_option linter.unusedVariables false
set_option linter.unusedSimpArgs false
set_option maxHeartbeats 20000000
set_option maxRecDepth 100000
open Go.VX.Rk Go.VX.Srt
theorem stable_spec (l : List Part) (n : Nat) (hn : l.length = n) (hn2 : n < 1099511627776) : VC P 67 [.sl 0 (n * 3) 3 0 n, .int .i64 n, .fn 57 []] [.live (rowsV (l))] (fun r ob' => r = .tup [] ∧ ∃ Z, Z.Perm l.zipIdx ∧ Sorted moreLeft Z ∧ ob' = [.live (rowsV (Z.map Prod.fst))]) := by
  refine VC_of_vwp_k ent_67 Try.func67 rfl (by simp) fun R hR => ?_
  refine vwp_sq [0, 1, 2] fun K1 hK1 => vwp_region hT ?_
  simp
  refine hK1 _ ?_
  try clear hK1 K1
  refine vwp_sq [0, 1, 2, 6] fun K2 hK2 => vwp_region hT ?_
  simp
  refine hK2 _ ?_
  try clear hK2 K2
  refine vwp_seq_k fun K3 hK3 => ?_
  refine vwp_block ?_
  refine vwp_loop_s (fun x : List (Part × Nat) × Nat => ⟨[(0, .sl 0 (n * 3) 3 0 n), (1, .int .i64 n), (2, .fn 57 []), (6, .int .i64 20), (7, .int .i64 (x.2 : Int)), (8, .int .i64 ((x.2 : Int) + 20))], [.live (rowsV ((x.1).map Prod.fst))]⟩) (fun x => x.1.Perm l.zipIdx ∧ (∃ k, x.2 = k * 20) ∧ x.2 ≤ n ∧ (∀ c, (c + 1) * 20 ≤ x.2 → SB moreLeft x.1 (c * 20) ((c + 1) * 20)) ∧ x.1.drop x.2 = l.zipIdx.drop x.2) (fun x => n - x.2) ((l.zipIdx, 0)) (Gh.to_k [0, 1, 2, 6, 7, 8] [0] (hh := by simp)) (⟨List.Perm.refl _, ⟨0, rfl⟩, by simp, fun c h => absurd h (by dsimp only; omega), rfl⟩) ?_
  rintro ⟨L, a⟩ ⟨hp, ⟨k, hk⟩, ha, hB, hd⟩
  dsimp only at hp hk ha hB hd ⊢
  have hl := hp.length_eq
  rw [List.length_zipIdx, hn] at hl
  intro K4 hK4
  refine vwp_seq_k fun K5 hK5 => ?_
  refine vwp_sq [0, 1, 2, 6, 7, 8] fun K6 hK6 => vwp_region hT ?_
  simp
  refine hK6 _ ?_
  try clear hK6 K6
  refine vwp_cond (by first | rfl | (simp; rfl)) (fun h1 => ?_) fun h1 => ?_
  · simp -failIfUnchanged at h1; all_goals
   refine vwp_skip ?_
   refine hK5 _ ?_
   try clear hK5 K5
   refine vwp_block ?_
   have hv := insort_spec L n a (a + 20) hl hn2 (by omega) (by omega) (by rw [seg_drop hd]; exact (zip_seg l _ _).1)
   refine vwp_sq [0, 1, 2, 6, 7, 8] fun K7 hK7 => vwp_region hT ?_
   simp
   refine vcall_k [0] (hv) ?_
   rintro r' ob' ⟨rfl, S, hS, sS, rfl⟩
   simp
   refine hK7 _ ?_
   try clear hK7 K7
   obtain ⟨i1, i2, i3, i4⟩ := SB.ins (lt := moreLeft) (l := l) (L := L) (a := a) (b := a + 20) (by omega) (by omega) hd hS sS
   have w1 : IntKind.i64.wrap ((a : Int) + 20 + 20) = (a : Int) + 20 + 20 := w64 (by omega) (by omega)
   refine vwp_sq [0, 1, 2, 6, 8] fun K8 hK8 => vwp_region hT ?_
   simp
   refine hK8 _ ?_
   try clear hK8 K8
   refine vwp_live [0, 1, 2, 6, 7, 8] (vwp_region hT ?_)
   simp [w1]
   exact hK4 ((L.take a ++ S ++ L.drop (a + 20), a + 20)) _ (Gh.to_k [0, 1, 2, 6, 7, 8] [0] (he := by simp <;> omega)) (⟨i1.trans hp, ⟨k + 1, by dsimp only; omega⟩, by dsimp only; omega, fun c hc => by
     dsimp only at hc ⊢
     by_cases h : (c + 1) * 20 ≤ a
     · exact i3 _ _ (.inl h) (hB c h)
     · have e : c = k := by omega
       subst e
       rw [← hk, show (c + 1) * 20 = a + 20 by omega]; exact i2, i4⟩) (by dsimp only; omega)
  · simp -failIfUnchanged at h1; all_goals
   refine vwp_exit ?_
   simp only [inBlk, thenQ, if_true]
   refine hK3 _ ?_
   try clear hK3 K3
   have hv := insort_spec L n a n hl hn2 ha (Nat.le_refl _) (by rw [seg_drop hd]; exact (zip_seg l _ _).1)
   refine vwp_sq [0, 1, 2, 6, 7] fun K9 hK9 => vwp_region hT ?_
   simp [-List.append_assoc]
   refine vcall_k [0] (hv) ?_
   rintro r' ob' ⟨rfl, S, hS, sS, rfl⟩
   simp [-List.append_assoc]
   obtain ⟨i1, i2, i3, i4⟩ := SB.ins (lt := moreLeft) (l := l) (L := L) (a := a) (b := n) (by omega) (by omega) hd hS sS
   obtain ⟨L1, hL1⟩ : ∃ L1, L1 = L.take a ++ S ++ L.drop n := ⟨_, rfl⟩
   rw [← hL1] at i1 i2 i3
   have hp1 := i1.trans hp
   have hl1 := hp1.length_eq
   rw [List.length_zipIdx, hn] at hl1
   have hB1 : ∀ c, SB moreLeft L1 (c * 20) ((c + 1) * 20) := fun c => by
     by_cases h : (c + 1) * 20 ≤ a
     · exact i3 _ _ (.inl h) (hB c h)
     · by_cases e : c = k
       · subst e
         rw [← hk]; exact i2.wide (by omega) (by omega)
       · exact SB.out (by omega)
   have eL1 : L1.map Prod.fst = (L.take a ++ S ++ L.drop n).map Prod.fst := by rw [hL1]
   simp only [List.map_append, List.map_take, List.map_drop] at eL1
   rw [← eL1]
   clear eL1 hL1 i1 i2 i3 i4 hS sS hB hd hv hl
   refine hK9 _ ?_
   try clear hK9 K9
   refine vwp_block ?_
   refine vwp_loop_s (fun x : List (Part × Nat) × Nat => ⟨[(0, .sl 0 (n * 3) 3 0 n), (1, .int .i64 n), (2, .fn 57 []), (6, .int .i64 (x.2 : Int))], [.live (rowsV ((x.1).map Prod.fst))]⟩) (fun x => x.1.Perm l.zipIdx ∧ (0 < x.2 ∧ x.2 < 4398046511104) ∧ ∀ c, SB moreLeft x.1 (c * x.2) ((c + 1) * x.2)) (fun x => n - x.2) ((L1, 20)) (Gh.to_k [0, 1, 2, 6] [0]) (⟨hp1, ⟨by simp, by simp⟩, hB1⟩) ?_
   clear hp1 hl1 hB1 hp hk ha
   rintro ⟨L, bs⟩ ⟨hp, hbs, hB⟩
   dsimp only at hp hbs hB ⊢
   have hl := hp.length_eq
   rw [List.length_zipIdx, hn] at hl
   intro K10 hK10
   refine vwp_seq_k fun K11 hK11 => ?_
   refine vwp_sq [0, 1, 2, 6] fun K12 hK12 => vwp_region hT ?_
   simp
   refine hK12 _ ?_
   try clear hK12 K12
   refine vwp_cond (by first | rfl | (simp; rfl)) (fun h2 => ?_) fun h2 => ?_
   · simp -failIfUnchanged at h2; all_goals
    refine vwp_skip ?_
    refine hK11 _ ?_
    try clear hK11 K11
    refine vwp_block ?_
    have w2 : IntKind.i64.wrap (2 * (bs : Int)) = 2 * bs := w64 (by omega) (by omega)
    refine vwp_sq [0, 1, 2, 6] fun K13 hK13 => vwp_region hT ?_
    simp [w2]
    refine hK13 _ ?_
    try clear hK13 K13
    refine vwp_seq_k fun K14 hK14 => ?_
    refine vwp_block ?_
    refine vwp_loop_s (fun x : List (Part × Nat) × Nat => ⟨[(0, .sl 0 (n * 3) 3 0 n), (1, .int .i64 n), (2, .fn 57 []), (6, .int .i64 (bs : Int)), (7, .int .i64 (x.2 : Int)), (8, .int .i64 ((x.2 : Int) + 2 * bs))], [.live (rowsV ((x.1).map Prod.fst))]⟩) (fun x => x.1.Perm l.zipIdx ∧ (∃ k, x.2 = k * (2 * bs)) ∧ x.2 ≤ n ∧ (∀ c, (c + 1) * (2 * bs) ≤ x.2 → SB moreLeft x.1 (c * (2 * bs)) ((c + 1) * (2 * bs))) ∧ (∀ c, x.2 ≤ c * bs → SB moreLeft x.1 (c * bs) ((c + 1) * bs))) (fun x => n - x.2) ((L, 0)) (Gh.to_k [0, 1, 2, 6, 7, 8] [0]) (⟨hp, ⟨0, by simp⟩, by simp, fun c h => absurd h (by dsimp only; have := Nat.mul_pos (Nat.succ_pos c) (show 0 < 2 * bs by omega); simp only [Nat.succ_eq_add_one] at this; omega), fun c _ => hB c⟩) ?_
    clear hp hB hl
    rintro ⟨L, a⟩ ⟨hp, ⟨k, hk⟩, ha, hB, hC⟩
    dsimp only at hp hk ha hB hC ⊢
    have hl := hp.length_eq
    rw [List.length_zipIdx, hn] at hl
    have s1 : SB moreLeft L a (a + bs) := by
      have := hC (2 * k) (by rw [Nat.mul_comm 2 k, Nat.mul_assoc]; omega)
      rwa [Nat.add_mul, Nat.mul_comm 2 k, Nat.mul_assoc, ← hk, Nat.one_mul] at this
    have s2 : SB moreLeft L (a + bs) (a + 2 * bs) := by
      have e1 : (2 * k + 1) * bs = a + bs := by rw [Nat.add_mul, Nat.mul_comm 2 k, Nat.mul_assoc, ← hk, Nat.one_mul]
      have := hC (2 * k + 1) (by omega)
      rwa [Nat.add_mul (2 * k + 1) 1, e1, show a + bs + 1 * bs = a + 2 * bs by omega] at this
    intro K15 hK15
    refine vwp_seq_k fun K16 hK16 => ?_
    refine vwp_sq [0, 1, 2, 6, 7, 8] fun K17 hK17 => vwp_region hT ?_
    simp
    refine hK17 _ ?_
    try clear hK17 K17
    refine vwp_cond (by first | rfl | (simp; rfl)) (fun h3 => ?_) fun h3 => ?_
    · simp -failIfUnchanged at h3; all_goals
     refine vwp_skip ?_
     refine hK16 _ ?_
     try clear hK16 K16
     refine vwp_block ?_
     have hv := symMerge_spec _ (L.take a) (seg L a (a + bs)) (seg L (a + bs) (a + 2 * bs)) (L.drop (a + 2 * bs)) n a (a + bs) (a + 2 * bs) (Nat.le_refl _) (by rw [← seg_parts L (by omega) (by omega)]; exact hl) hn2 (by simp; omega) (by rw [seg_length (by omega)]; simp; omega) (by rw [seg_length (by omega), seg_length (by omega)]; simp; omega) (by rw [seg_length (by omega)]; omega) (by rw [seg_length (by omega)]; omega) s1.1 s2.1 (s1.below s2)
     rw [← seg_parts L (by omega) (by omega)] at hv
     have w3 : IntKind.i64.wrap ((a : Int) + bs) = (a : Int) + bs := w64 (by omega) (by omega)
     refine vwp_sq [0, 1, 2, 6, 7, 8] fun K18 hK18 => vwp_region hT ?_
     simp [w3]
     refine vcall_k [0] (hv) ?_
     rintro r' ob' ⟨rfl, W, hW, rfl⟩
     simp [w3]
     refine hK18 _ ?_
     try clear hK18 K18
     obtain ⟨i1, i2, i3⟩ := SB.merge (by omega) (by omega) (by omega) s1 s2 hW
     refine vwp_sq [0, 1, 2, 6, 8] fun K19 hK19 => vwp_region hT ?_
     simp
     refine hK19 _ ?_
     try clear hK19 K19
     have w4 : IntKind.i64.wrap ((a : Int) + 2 * bs + 2 * bs) = (a : Int) + 2 * bs + 2 * bs := w64 (by omega) (by omega)
     refine vwp_live [0, 1, 2, 6, 7, 8] (vwp_region hT ?_)
     simp [w2, w4]
     exact hK15 ((L.take a ++ W ++ L.drop (a + 2 * bs), a + 2 * bs)) _ (Gh.to_k [0, 1, 2, 6, 7, 8] [0] (he := by simp <;> omega)) (⟨i1.trans hp, ⟨k + 1, by dsimp only; rw [Nat.add_mul, ← hk]; omega⟩, by dsimp only; omega, fun c hc => by
       dsimp only at hc ⊢
       by_cases h : (c + 1) * (2 * bs) ≤ a
       · exact i3 _ _ (.inl h) (hB c h)
       · have e : c = k := by
           have h1 : k < c + 1 := Nat.lt_of_mul_lt_mul_right (a := 2 * bs) (by omega)
           have h2 : c + 1 < k + 2 := Nat.lt_of_mul_lt_mul_right (a := 2 * bs) (by rw [Nat.add_mul k 2]; omega)
           omega
         subst e
         rw [Nat.add_mul, ← hk, Nat.one_mul]; exact i2, fun c hc => i3 _ _ (.inr hc) (hC c (by dsimp only at hc; omega))⟩) (by dsimp only; omega)
    · simp -failIfUnchanged at h3; all_goals
     refine vwp_exit ?_
     simp only [inBlk, thenQ, if_true]
     refine hK14 _ ?_
     try clear hK14 K14
     refine vwp_cut_s (fun x : List (Part × Nat) => ⟨[(0, .sl 0 (n * 3) 3 0 n), (1, .int .i64 n), (2, .fn 57 []), (6, .int .i64 (bs : Int))], [.live (rowsV ((x).map Prod.fst))]⟩) (fun x => x.Perm l.zipIdx ∧ ∀ c, SB moreLeft x (c * (2 * bs)) ((c + 1) * (2 * bs))) (fun K20 hK20 => ?_) ?_
     · have w3 : IntKind.i64.wrap ((a : Int) + bs) = (a : Int) + bs := w64 (by omega) (by omega)
       refine vwp_sq [0, 1, 2, 6, 7] fun K21 hK21 => vwp_region hT ?_
       simp [w3]
       refine hK21 _ ?_
       try clear hK21 K21
       refine vwp_sq [0, 1, 2, 6, 7, 9] fun K22 hK22 => vwp_region hT ?_
       simp
       refine hK22 _ ?_
       try clear hK22 K22
       refine vwp_cond (by first | rfl | (simp; rfl)) (fun h4 => ?_) fun h4 => ?_
       · simp -failIfUnchanged at h4; all_goals
        have s3 : SB moreLeft L (a + bs) n := by
          have e : seg L (a + bs) n = seg L (a + bs) (a + 2 * bs) := by rw [seg_all (by omega), seg_all (by omega)]
          unfold SB at s2 ⊢
          rw [e]
          refine ⟨s2.1, fun x hx => ⟨(s2.2 x hx).1, ?_⟩⟩
          have hx2 : x ∈ L := by unfold seg at hx; exact List.mem_of_mem_take (List.mem_of_mem_drop hx)
          have := hp.mem_iff.1 hx2
          have := List.snd_lt_of_mem_zipIdx this
          omega
        have hv := symMerge_spec _ (L.take a) (seg L a (a + bs)) (seg L (a + bs) n) (L.drop n) n a (a + bs) n (Nat.le_refl _) (by rw [← seg_parts L (by omega) (by omega)]; exact hl) hn2 (by simp; omega) (by rw [seg_length (by omega)]; simp; omega) (by rw [seg_length (by omega), seg_length (by omega)]; simp; omega) (by rw [seg_length (by omega)]; omega) (by rw [seg_length (by omega)]; omega) s1.1 s3.1 (s1.below s3)
        rw [← seg_parts L (by omega) (by omega)] at hv
        refine vwp_live [0, 1, 2, 6, 7, 9] (vwp_region hT ?_)
        simp
        refine vcall_k [0] (hv) ?_
        rintro r' ob' ⟨rfl, W, hW, rfl⟩
        simp
        obtain ⟨i1, i2, i3⟩ := SB.merge (by omega) (by omega) (by omega) s1 s3 hW
        refine hK20 (L.take a ++ W ++ L.drop n) _ (Gh.to_k [0, 1, 2, 6] [0]) ⟨i1.trans hp, fun c => ?_⟩
        by_cases h : (c + 1) * (2 * bs) ≤ a
        · exact i3 _ _ (.inl h) (hB c h)
        · by_cases e : c = k
          · subst e
            rw [← hk]
            exact i2.wide (by rw [i1.length_eq]; omega) (by rw [Nat.add_mul, ← hk]; omega)
          · refine SB.out ?_
            have h1 : k < c + 1 := Nat.lt_of_mul_lt_mul_right (a := 2 * bs) (by omega)
            have h2 : (k + 1) * (2 * bs) ≤ c * (2 * bs) := Nat.mul_le_mul_right _ (by omega)
            rw [Nat.add_mul, ← hk] at h2
            rw [i1.length_eq]
            omega
       · simp -failIfUnchanged at h4; all_goals
        refine vwp_skip ?_
        have i1 : L.Perm L := List.Perm.refl _
        have i2 : SB moreLeft L a n := by
          have := s1.wide (lt := moreLeft) (c := a + bs) (by omega) (by omega)
          have e : seg L a n = seg L a (a + bs) := by rw [seg_all (by omega), seg_all (by omega)]
          unfold SB at s1 ⊢
          rw [e]
          refine ⟨s1.1, fun x hx => ⟨(s1.2 x hx).1, ?_⟩⟩
          have hx2 : x ∈ L := by unfold seg at hx; exact List.mem_of_mem_take (List.mem_of_mem_drop hx)
          have := hp.mem_iff.1 hx2
          have := List.snd_lt_of_mem_zipIdx this
          omega
        have i3 : ∀ c d, (d ≤ a ∨ n ≤ c) → SB moreLeft L c d → SB moreLeft L c d := fun _ _ _ h => h
        refine hK20 L _ (Gh.to_k [0, 1, 2, 6] [0]) ⟨hp, fun c => ?_⟩
        by_cases h : (c + 1) * (2 * bs) ≤ a
        · exact i3 _ _ (.inl h) (hB c h)
        · by_cases e : c = k
          · subst e
            rw [← hk]
            exact i2.wide (by rw [i1.length_eq]; omega) (by rw [Nat.add_mul, ← hk]; omega)
          · refine SB.out ?_
            have h1 : k < c + 1 := Nat.lt_of_mul_lt_mul_right (a := 2 * bs) (by omega)
            have h2 : (k + 1) * (2 * bs) ≤ c * (2 * bs) := Nat.mul_le_mul_right _ (by omega)
            rw [Nat.add_mul, ← hk] at h2
            rw [i1.length_eq]
            omega
     · rintro L2 ⟨hp2, hB2⟩
       have w5 : IntKind.i64.wrap ((bs : Int) * 2) = (bs * 2 : Nat) := (w64 (by omega) (by omega)).trans (by omega)
       refine vwp_live [0, 1, 2, 6] (vwp_region hT ?_)
       simp [w5]
       exact hK10 (L2, bs * 2) _ (Gh.to_k [0, 1, 2, 6] [0]) ⟨hp2, by dsimp only; omega, fun c => by dsimp only; rw [Nat.mul_comm bs 2]; exact hB2 c⟩ (by dsimp only; omega)
   · simp -failIfUnchanged at h2; all_goals
    refine vwp_exit ?_
    simp only [inBlk, thenQ, if_true]
    refine hR _ _ ?_
    have hS : Sorted moreLeft L := by
      have := (hB 0).1
      rw [Nat.zero_mul, Nat.zero_add, Nat.one_mul, seg_all (by omega), List.drop_zero] at this
      exact this
    exact norm_k [] [0] ([.live (rowsV ((L).map Prod.fst))]) (.tup []) (⟨rfl, L, hp, hS, rfl⟩)
theorem sortStable_spec (l : List Part) (n : Nat) (hn : l.length = n) (hn2 : n < 1099511627776) : VC P 56 [.sl 0 (n * 3) 3 0 n, .fn 57 []] [.live (rowsV (l))] (fun r ob' => r = .tup [] ∧ ∃ Z, Z.Perm l.zipIdx ∧ Sorted moreLeft Z ∧ ob' = [.live (rowsV (Z.map Prod.fst))]) := by
  refine VC_of_vwp_k ent_56 Try.func56 rfl (by simp) fun R hR => ?_
  refine vwp_live [0, 1] (vwp_region hT ?_)
  simp [lenPart, hn]
  refine vcall_k [0] (stable_spec l n hn hn2) ?_
  rintro r' ob' ⟨rfl, Z, h1, h2, rfl⟩
  simp [lenPart, hn]
  refine hR _ _ ?_
  exact norm_k [] [0] ([.live (rowsV (Z.map Prod.fst))]) (.tup []) (⟨rfl, Z, h1, h2, rfl⟩)
end Go.Proofs.Ythjpaongoflgiaa
