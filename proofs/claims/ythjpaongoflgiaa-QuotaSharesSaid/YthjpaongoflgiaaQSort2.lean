/- Sorting: by putting in, by merging: the walk. -/
import Derived.Test.YthjpaongoflgiaaQSort
import Derived.Test.YthjpaongoflgiaaVXc
namespace Go.Proofs.Ythjpaongoflgiaa
open Go Go.VX Go.RowKit
set_option linter.unusedVariables false
set_option linter.unusedSimpArgs false
set_option maxHeartbeats 20000000
set_option maxRecDepth 100000
open Go.VX.Rk Go.VX.Srt
theorem insort_spec (Z : List (Part × Nat)) (n a b : Nat) (hn : Z.length = n) (hn2 : n < 1099511627776) (hab : a ≤ b) (hbn : b ≤ n) (ht : (seg Z a b).Pairwise fun x y => x.2 < y.2) : VC P 72 [.sl 0 (n * 3) 3 0 n, .int .i64 a, .int .i64 b, .fn 57 []] [.live (rowsV ((Z).map Prod.fst))] (fun r ob' => r = .tup [] ∧ ∃ S, S.Perm (seg Z a b) ∧ Sorted moreLeft S ∧ ob' = [.live (rowsV ((Z.take a ++ S ++ Z.drop b).map Prod.fst))]) := by
  refine VC_of_vwp_k ent_72 Try.func72 rfl (by simp) fun R hR => ?_
  have w0 : IntKind.i64.wrap ((a : Int) + 1) = a + 1 := w64 (by omega) (by omega)
  refine vwp_sq [0, 1, 2, 3] fun K1 hK1 => vwp_region hT ?_
  simp [w0]
  refine hK1 _ ?_
  try clear hK1 K1
  refine vwp_block ?_
  refine vwp_loop_s (fun x : List (Part × Nat) × Nat => ⟨[(0, .sl 0 (n * 3) 3 0 n), (1, .int .i64 a), (2, .int .i64 b), (3, .fn 57 []), (8, .int .i64 (x.2 : Int))], [.live (rowsV ((x.1).map Prod.fst))]⟩) (fun x => a + 1 ≤ x.2 ∧ x.2 ≤ max b (a + 1) ∧ x.1.length = n ∧ ∃ S, S.Perm (seg Z a (min x.2 b)) ∧ Sorted moreLeft S ∧ x.1 = Z.take a ++ S ++ Z.drop (min x.2 b)) (fun x => n + 1 - x.2) ((Z, a + 1)) (Gh.to_k [0, 1, 2, 3, 8] [0]) (⟨Nat.le_refl _, by dsimp only; omega, hn, _, List.Perm.refl _, sorted_short (by dsimp only; rw [seg_length (by omega)]; omega), seg_split (by dsimp only; omega)⟩) ?_
  rintro ⟨L, i⟩ ⟨k1, k2, k3, S, hp, hS, hL⟩
  dsimp only at k1 k2 k3 hp hL ⊢
  intro K2 hK2
  refine vwp_seq_k fun K3 hK3 => ?_
  refine vwp_sq [0, 1, 2, 3, 8] fun K4 hK4 => vwp_region hT ?_
  simp
  refine hK4 _ ?_
  try clear hK4 K4
  refine vwp_cond (by first | rfl | (simp; rfl)) (fun h1 => ?_) fun h1 => ?_
  · simp -failIfUnchanged at h1; all_goals
   refine vwp_skip ?_
   refine hK3 _ ?_
   try clear hK3 K3
   refine vwp_seq_k fun K5 hK5 => ?_
   refine vwp_block ?_
   obtain ⟨x, hx⟩ := getI (l := Z) (i := i) (by omega)
   rw [show min i b = i by omega] at hp hL
   have hSl := hp.length_eq
   rw [seg_length (by omega)] at hSl
   have hbel : ∀ y ∈ S, y.2 < x.2 := fun y hy => by
     have h1 := hp.mem_iff.1 hy
     have h2 : (seg Z a (i + 1)).Pairwise fun x y => x.2 < y.2 := by
       refine ht.sublist ?_
       unfold seg
       have e : Z.take (i + 1) = (Z.take b).take (i + 1) := by rw [List.take_take]; congr 1; omega
       rw [e]
       exact (List.take_sublist _ _).drop _
     rw [seg_one hx a (by omega), List.pairwise_append] at h2
     exact h2.2.2 y h1 x (by simp)
   refine vwp_sq [0, 1, 2, 3, 8] fun K6 hK6 => vwp_region hT ?_
   simp
   refine hK6 _ ?_
   try clear hK6 K6
   refine vwp_block ?_
   refine vwp_loop_s (fun s : List (Part × Nat) × Nat => ⟨[(0, .sl 0 (n * 3) 3 0 n), (1, .int .i64 a), (2, .int .i64 b), (3, .fn 57 []), (8, .int .i64 (i : Int)), (9, .int .i64 (s.2 : Int))], [.live (rowsV ((s.1).map Prod.fst))]⟩) (fun s => s.1.length = n ∧ (a ≤ s.2 ∧ s.2 ≤ i) ∧ s.1 = Z.take a ++ (S.take (s.2 - a) ++ x :: S.drop (s.2 - a)) ++ Z.drop (i + 1) ∧ (s.2 - a = S.length ∨ ∃ y, S[s.2 - a]? = some y ∧ moreLeft x.1 y.1 = true)) (fun s => s.2) ((L, i)) (Gh.to_k [0, 1, 2, 3, 8, 9] [0]) (⟨k3, ⟨by dsimp only; omega, Nat.le_refl _⟩, by dsimp only; rw [hL, ← hSl, List.take_length, List.drop_length, drop_one hx]; simp, .inl hSl.symm⟩) ?_
   rintro ⟨L', j⟩ ⟨m0, m1, m2, m3⟩
   dsimp only at m0 m1 m2 m3 ⊢
   intro K7 hK7
   refine vwp_seq_k fun K8 hK8 => ?_
   refine vwp_seq_k fun K9 hK9 => ?_
   rcases Nat.eq_or_lt_of_le m1.1 with hj | hj
   · subst hj
     refine vwp_live [0, 1, 2, 3, 8, 9] (vwp_calm hT hm (by kernel_rfl) ?_)
     simp
     repeat refine ⟨by first | assumption | omega | (intros; omega), ?_⟩
     refine ⟨.int .i64 0, ?_⟩
     simp
     repeat refine ⟨by first | assumption | omega | (intros; omega), ?_⟩
     refine hK9 _ ?_
     try clear hK9 K9
     refine vwp_cond (by first | rfl | (simp; rfl)) (fun h2 => ?_) fun h2 => ?_
     · simp -failIfUnchanged at h2; all_goals
      refine vwp_skip ?_
      refine hK8 _ ?_
      try clear hK8 K8
      refine vwp_seq_k fun K10 hK10 => ?_
      refine vwp_block ?_
      refine vwp_live [0, 1, 2, 3, 8, 9] (vwp_storm hT hm [.pure, .pure, .pure, .pure, .win 0 1, .pure, .pure, .win 0 0, .win 0 0, .win 0 0, .pure, .pure, .win 0 0, .win 0 0, .win 0 0, .mv, .win 1 1, .mv] [[], [], [], [], [3], [], [], [6], [5, 6, 7], [5, 6, 7, 8], [], [], [10, 11], [10, 11, 12], [0, 1, 5, 6, 7, 8, 9, 10, 11, 12, 13], [0, 1, 5, 6, 7, 8, 9, 10, 11, 12, 13, 14], [0, 1, 2, 3, 4, 5, 6, 7, 8, 9, 10, 11, 12, 13, 14, 15], [0, 1, 2, 3, 4, 5, 6, 7, 8, 9, 10, 11, 12, 13, 14, 15, 16]] (by kernel_rfl) ?_)
      simp [w1, rowPart (fst_get hg), rowPart (fst_get hg2), lenPart, splSwp1 (fst_get hg), splSwp2 (fst_get hg) (fst_get hg2), m0]
      repeat refine ⟨by first | assumption | omega | (intros; omega), ?_⟩
      refine hK10 _ ?_
      try clear hK10 K10
      refine vwp_live [0, 1, 2, 3, 8, 9] (vwp_region hT ?_)
      simp [w1]
      exact hK7 (swp L' (j + 1) j, j) _ (Gh.to_k [0, 1, 2, 3, 8, 9] [0] (hh := by simp [swp_map])) ⟨by dsimp only; rw [swp_length]; exact m0, by dsimp only; omega, by
        dsimp only
        rw [m2, swp_comm]
        have := swp_back (A := Z.take a) (U := S) (v := x) (B := Z.drop (i + 1)) (k := j - a) (by omega)
        rw [show (Z.take a).length + (j - a) = j by simp; omega, show j - a + 1 = j + 1 - a by omega] at this
        exact this, .inr ⟨y, hy, by rw [← cmpN_lt]; assumption⟩⟩ (by dsimp only; omega)
     · simp -failIfUnchanged at h2; all_goals
      refine vwp_exit ?_
      simp only [inBlk, thenQ, if_true]
      refine hK5 _ ?_
      try clear hK5 K5
      have w2 : IntKind.i64.wrap ((i : Int) + 1) = i + 1 := w64 (by omega) (by omega)
      refine vwp_live [0, 1, 2, 3, 8] (vwp_region hT ?_)
      simp [w2]
      obtain ⟨s1, s2⟩ := ins_one moreLeft_weak hS (x := x) hbel (k := a - a) (by omega) (.inl (by omega)) m3
      exact hK2 (L', i + 1) _ (Gh.to_k [0, 1, 2, 3, 8] [0]) ⟨by dsimp only; omega, by dsimp only; omega, m0, S.take (a - a) ++ x :: S.drop (a - a), by
        dsimp only
        rw [show min (i + 1) b = i + 1 by omega, seg_one hx a (by omega)]
        exact s2.trans (hp.append_right _), s1, by dsimp only; rw [show min (i + 1) b = i + 1 by omega]; exact m2⟩ (by dsimp only; omega)
   · obtain ⟨j, rfl⟩ : ∃ j', j = j' + 1 := ⟨j - 1, by omega⟩
     have hlt : (a : Int) < (j : Int) + 1 := by omega
     have hg : L'[j + 1]? = some x := by
       rw [m2, get_mid (a := a) (by simp; omega) (by omega) (by simp; omega), List.getElem?_append_right (by simp; omega)]
       simp [show j + 1 - a - min (j + 1 - a) S.length = 0 by omega]
     obtain ⟨y, hy⟩ := getI (l := S) (i := j - a) (by omega)
     have hg2 : L'[j]? = some y := by
       rw [m2, get_mid (a := a) (by simp; omega) (by omega) (by simp; omega), List.getElem?_append_left (by simp; omega), List.getElem?_take, if_pos (by omega), hy]
     have w1 : IntKind.i64.wrap (j : Int) = j := w64 (by omega) (by omega)
     refine vwp_live [0, 1, 2, 3, 8, 9] (vwp_calm hT hm (by kernel_rfl) ?_)
     simp [hlt, w1, rowPart (fst_get hg), rowPart (fst_get hg2), lenPart, m0]
     repeat refine ⟨by first | assumption | omega | (intros; omega), ?_⟩
     refine ⟨.int .i64 (cmpN y.1.left x.1.left), fun sl => ?_, ?_⟩
     · refine vcall_k [] (pcmp_spec x.1 y.1) ?_
       rintro r ob' ⟨rfl, rfl⟩
       simp
     simp [hlt, w1, rowPart (fst_get hg), rowPart (fst_get hg2), lenPart, m0]
     repeat refine ⟨by first | assumption | omega | (intros; omega), ?_⟩
     refine hK9 _ ?_
     try clear hK9 K9
     refine vwp_cond (by first | rfl | (simp; rfl)) (fun h3 => ?_) fun h3 => ?_
     · simp -failIfUnchanged at h3; all_goals
      refine vwp_skip ?_
      refine hK8 _ ?_
      try clear hK8 K8
      refine vwp_seq_k fun K11 hK11 => ?_
      refine vwp_block ?_
      refine vwp_live [0, 1, 2, 3, 8, 9] (vwp_storm hT hm [.pure, .pure, .pure, .pure, .win 0 1, .pure, .pure, .win 0 0, .win 0 0, .win 0 0, .pure, .pure, .win 0 0, .win 0 0, .win 0 0, .mv, .win 1 1, .mv] [[], [], [], [], [3], [], [], [6], [5, 6, 7], [5, 6, 7, 8], [], [], [10, 11], [10, 11, 12], [0, 1, 5, 6, 7, 8, 9, 10, 11, 12, 13], [0, 1, 5, 6, 7, 8, 9, 10, 11, 12, 13, 14], [0, 1, 2, 3, 4, 5, 6, 7, 8, 9, 10, 11, 12, 13, 14, 15], [0, 1, 2, 3, 4, 5, 6, 7, 8, 9, 10, 11, 12, 13, 14, 15, 16]] (by kernel_rfl) ?_)
      simp [w1, rowPart (fst_get hg), rowPart (fst_get hg2), lenPart, splSwp1 (fst_get hg), splSwp2 (fst_get hg) (fst_get hg2), m0]
      repeat refine ⟨by first | assumption | omega | (intros; omega), ?_⟩
      refine hK11 _ ?_
      try clear hK11 K11
      refine vwp_live [0, 1, 2, 3, 8, 9] (vwp_region hT ?_)
      simp [w1]
      exact hK7 (swp L' (j + 1) j, j) _ (Gh.to_k [0, 1, 2, 3, 8, 9] [0] (hh := by simp [swp_map])) ⟨by dsimp only; rw [swp_length]; exact m0, by dsimp only; omega, by
        dsimp only
        rw [m2, swp_comm]
        have := swp_back (A := Z.take a) (U := S) (v := x) (B := Z.drop (i + 1)) (k := j - a) (by omega)
        rw [show (Z.take a).length + (j - a) = j by simp; omega, show j - a + 1 = j + 1 - a by omega] at this
        exact this, .inr ⟨y, hy, by rw [← cmpN_lt]; assumption⟩⟩ (by dsimp only; omega)
     · simp -failIfUnchanged at h3; all_goals
      refine vwp_exit ?_
      simp only [inBlk, thenQ, if_true]
      refine hK5 _ ?_
      try clear hK5 K5
      have w2 : IntKind.i64.wrap ((i : Int) + 1) = i + 1 := w64 (by omega) (by omega)
      refine vwp_live [0, 1, 2, 3, 8] (vwp_region hT ?_)
      simp [w2]
      obtain ⟨s1, s2⟩ := ins_one moreLeft_weak hS (x := x) hbel (k := j + 1 - a) (by omega) (.inr ⟨y, by rw [show j + 1 - a - 1 = j - a by omega]; exact hy, by rw [← Bool.not_eq_true, ← cmpN_lt]; omega⟩) m3
      exact hK2 (L', i + 1) _ (Gh.to_k [0, 1, 2, 3, 8] [0]) ⟨by dsimp only; omega, by dsimp only; omega, m0, S.take (j + 1 - a) ++ x :: S.drop (j + 1 - a), by
        dsimp only
        rw [show min (i + 1) b = i + 1 by omega, seg_one hx a (by omega)]
        exact s2.trans (hp.append_right _), s1, by dsimp only; rw [show min (i + 1) b = i + 1 by omega]; exact m2⟩ (by dsimp only; omega)
  · simp -failIfUnchanged at h1; all_goals
   refine vwp_exit ?_
   simp only [inBlk, thenQ, if_true]
   refine hR _ _ ?_
   exact norm_k [] [0] ([.live (rowsV ((L).map Prod.fst))]) (.tup []) (⟨rfl, S, by rw [show min i b = b by omega] at hp; exact hp, hS, by rw [hL, show min i b = b by omega]⟩)
end Go.Proofs.Ythjpaongoflgiaa
