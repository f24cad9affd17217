/- The document's sorted rows: the walk. -/
import Derived.Test.YtinigjmfjabicaaPlQ
namespace Go.Proofs.Ytinigjmfjabicaa
open Go Go.VX Go.RowKit
set_option linter.unusedVariables false
set_option linter.unusedSimpArgs false
set_option maxHeartbeats 20000000
set_option maxRecDepth 100000

theorem ins_perm {S : List Int} {l : List Int} {i : Nat} {x : Int} (hx : l[i]? = some x) (hp : S.Perm (l.take i)) (at_ : Nat) : (S.take at_ ++ x :: S.drop at_).Perm (l.take (i + 1)) := by
  rw [take_snoc hx]
  refine (List.perm_middle (a := x) (l₁ := S.take at_) (l₂ := S.drop at_)).trans ?_
  rw [List.take_append_drop]
  exact (List.Perm.cons x hp).trans (List.perm_append_singleton x (l.take i)).symm
theorem ins_sorted {S : List Int} {x : Int} {at_ : Nat} (hs : S.Pairwise (· ≤ ·)) (hlo : ∀ (k : Nat) y, k < at_ → S[k]? = some y → y ≤ x) (hhi : ∀ y, S[at_]? = some y → x < y) : (S.take at_ ++ x :: S.drop at_).Pairwise (· ≤ ·) := by
  have hd : ∀ z ∈ S.drop at_, x ≤ z := by
    intro z hz
    obtain ⟨k, hk⟩ := List.mem_iff_getElem?.1 hz
    rw [List.getElem?_drop] at hk
    have hlt := (List.getElem?_eq_some_iff.1 hk).1
    obtain ⟨y, hy⟩ := getI (l := S) (i := at_) (by omega)
    have h1 := hhi y hy
    have h2 := sorted_get hs hy hk (by omega)
    omega
  have ht : ∀ z ∈ S.take at_, z ≤ x := by
    intro z hz
    obtain ⟨k, hk⟩ := List.mem_iff_getElem?.1 hz
    rw [List.getElem?_take] at hk
    split at hk
    · exact hlo k z (by assumption) hk
    · cases hk
  rw [List.pairwise_append]
  refine ⟨hs.sublist (List.take_sublist _ _), ?_, ?_⟩
  · rw [List.pairwise_cons]
    exact ⟨hd, hs.sublist (List.drop_sublist _ _)⟩
  · intro a ha b hb
    have h1 := ht a ha
    rcases List.mem_cons.1 hb with rfl | hb
    · exact h1
    · have := hd b hb; omega
structure KS2 where (i : Nat) (S : List Int)
theorem rsorted_spec (l : List Int) (hl : l.length < 1099511627776) : VC P 49 [sI l] [] (fun r ob' => r = .sl 0 l.length 1 0 l.length ∧ ob' = [.live (ints (srt l))]) := by
  refine VC_of_vwp_k ent_49 Try.func49 rfl (by simp) fun R hR => ?_
  refine vwp_sq [0] fun K1 hK1 => vwp_region hT ?_
  simp
  refine hK1 _ ?_
  try clear hK1 K1
  refine vwp_sq [0] fun K2 hK2 => vwp_region hT ?_
  simp
  refine hK2 _ ?_
  try clear hK2 K2
  refine vwp_seq_k fun K3 hK3 => ?_
  refine vwp_sq [0, 3] fun K4 hK4 => vwp_region hT ?_
  simp
  refine hK4 _ ?_
  try clear hK4 K4
  refine vwp_block ?_
  refine vwp_loop_s (fun u : KS2 => ⟨[(0, sI l), (3, .sl 0 u.S.length 1 0 u.S.length), (4, .int .i64 (u.i : Int))], [.live (ints u.S)]⟩) (fun u => u.i ≤ l.length ∧ u.S.Perm (l.take u.i) ∧ u.S.Pairwise (· ≤ ·)) (fun u => l.length - u.i) (⟨0, []⟩) (Gh.to_k [0, 3, 4] [0]) (⟨by simp, by simp, by simp⟩) ?_
  rintro ⟨i, S⟩ ⟨hi, hpm, hso⟩
  dsimp only at hi hpm hso ⊢
  have hSl := hpm.length_eq
  rw [List.length_take, Nat.min_eq_left hi] at hSl
  intro K5 hK5
  refine vwp_seq_k fun K6 hK6 => ?_
  refine vwp_sq [0, 3, 4] fun K7 hK7 => vwp_region hT ?_
  simp
  refine hK7 _ ?_
  try clear hK7 K7
  refine vwp_cond (by first | rfl | (simp; rfl)) (fun h1 => ?_) fun h1 => ?_
  · simp -failIfUnchanged at h1; all_goals
   refine vwp_skip ?_
   refine hK6 _ ?_
   try clear hK6 K6
   refine vwp_seq_k fun K8 hK8 => ?_
   refine vwp_block ?_
   refine vwp_sq [0, 3, 4] fun K9 hK9 => vwp_region hT ?_
   simp
   refine hK9 _ ?_
   try clear hK9 K9
   refine vwp_seq_k fun K10 hK10 => ?_
   refine vwp_block ?_
   obtain ⟨x, hx⟩ := getI (l := l) (i := i) (by omega)
   refine vwp_loop_s (fun a : Nat => ⟨[(0, sI l), (3, .sl 0 S.length 1 0 S.length), (4, .int .i64 (i : Int)), (5, .int .i64 (a : Int))], [.live (ints S)]⟩) (fun a => a ≤ S.length ∧ ∀ (k : Nat) y, k < a → S[k]? = some y → y ≤ x) (fun a => S.length - a) (0) (Gh.to_k [0, 3, 4, 5] [0]) (⟨by omega, fun k y hk _ => by omega⟩) ?_
   rintro a ⟨ha, hlo⟩
   intro K11 hK11
   refine vwp_seq_k fun K12 hK12 => ?_
   refine vwp_seq_k fun K13 hK13 => ?_
   rcases Nat.lt_or_ge a S.length with hal | hal
   · obtain ⟨y, hy⟩ := getI hal
     have hSa : S[a] = y := (List.getElem?_eq_some_iff.1 hy).2
     refine vwp_live [0, 3, 4, 5] (vwp_still hT hm (by kernel_rfl) ?_)
     simp [hal, hSa, hx]
     repeat refine ⟨by first | assumption | omega | (intros; omega), ?_⟩
     refine hK13 _ ?_
     try clear hK13 K13
     refine vwp_cond (by first | rfl | (simp; rfl)) (fun h2 => ?_) fun h2 => ?_
     · simp -failIfUnchanged at h2; all_goals
      have q := h2
      have hyx : y ≤ x := by simpa using q
      refine vwp_skip ?_
      refine hK12 _ ?_
      try clear hK12 K12
      refine vwp_block ?_
      have w1 : IntKind.i64.wrap ((a : Int) + 1) = a + 1 := w64 (by omega) (by omega)
      refine vwp_live [0, 3, 4, 5] (vwp_region hT ?_)
      simp [w1]
      exact hK11 (a + 1) _ (Gh.to_k [0, 3, 4, 5] [0]) (⟨by omega, fun k z hk hz => by
          rcases Nat.lt_or_ge k a with q | q
          · exact hlo k z q hz
          · obtain rfl : k = a := by omega
            rw [hy] at hz; cases hz; exact hyx⟩) (by omega)
     · simp -failIfUnchanged at h2; all_goals
      have q := h2
      have hhi : ∀ z, S[a]? = some z → x < z := by intro z hz; rw [hy] at hz; cases hz; simpa using q
      refine vwp_exit ?_
      simp only [inBlk, thenQ, if_true]
      refine hK10 _ ?_
      try clear hK10 K10
      have hB : ((∀ z, vsub (a : Int) (S.length : Int) z = z) ∧ a < S.length) ∨ ((∀ z, vsub (a : Int) (S.length : Int) z = .fs 0 []) ∧ S.length = a) := by
        rcases Nat.lt_or_ge a S.length with h | h
        · exact .inl ⟨fun z => vsub_lt (by omega), h⟩
        · exact .inr ⟨fun z => vsub_ge (by omega), by omega⟩
      have htd : List.take (S.length - a) (List.drop a (ints S)) = List.drop a (ints S) := List.take_of_length_le (by simp)
      rcases hB with ⟨hB, hB2⟩ | ⟨hB, hB2⟩
      · refine vwp_live [0, 3, 4, 5] (vwp_storm hT hm [.mv, .pure, .pure, .win 0 1, .mv, .pure, .pure, .win 0 2, .win 0 2, .lit, .mv, .pure, .pure, .win 0 3, .mv, .pure] [[], [], [], [1, 2], [0, 1, 2, 3], [], [], [5, 6], [5, 6, 7], [5, 6, 7, 8], [0, 1, 2, 3, 4, 5, 6, 7, 8, 9], [], [], [11, 12], [0, 1, 2, 3, 4, 5, 6, 7, 8, 9, 10, 11, 12, 13], [0, 1, 2, 3, 4, 5, 6, 7, 8, 9, 10, 11, 12, 13, 14]] (by kernel_rfl) ?_)
        simp [hx, hB]
        repeat refine ⟨by first | assumption | omega | (intros; omega), ?_⟩
        refine hK8 _ ?_
        try clear hK8 K8
        have w1 : IntKind.i64.wrap ((i : Int) + 1) = i + 1 := w64 (by omega) (by omega)
        refine vwp_live [0, 3, 4] (vwp_region hT ?_)
        simp [w1]
        exact hK5 (⟨i + 1, S.take a ++ x :: S.drop a⟩) _ (Gh.to_k [0, 3, 4] [1] (he := by simp; omega) (hh := by simp [htd])) (⟨by dsimp only; omega, ins_perm hx hpm a, ins_sorted hso hlo hhi⟩) (by dsimp only; omega)
      · have hd0 : S.drop a = [] := List.drop_of_length_le (by omega)
        refine vwp_live [0, 3, 4, 5] (vwp_storm hT hm [.mv, .pure, .pure, .win 0 1, .mv, .pure, .pure, .win 0 2, .win 0 2, .lit, .mv, .pure, .pure, .win 0 3, .mv, .pure] [[], [], [], [1, 2], [0, 1, 2, 3], [], [], [5, 6], [5, 6, 7], [5, 6, 7, 8], [0, 1, 2, 3, 4, 5, 6, 7, 8, 9], [], [], [11, 12], [0, 1, 2, 3, 4, 5, 6, 7, 8, 9, 10, 11, 12, 13], [0, 1, 2, 3, 4, 5, 6, 7, 8, 9, 10, 11, 12, 13, 14]] (by kernel_rfl) ?_)
        simp [hx, hB]
        repeat refine ⟨by first | assumption | omega | (intros; omega), ?_⟩
        refine hK8 _ ?_
        try clear hK8 K8
        have w1 : IntKind.i64.wrap ((i : Int) + 1) = i + 1 := w64 (by omega) (by omega)
        refine vwp_live [0, 3, 4] (vwp_region hT ?_)
        simp [w1]
        exact hK5 (⟨i + 1, S.take a ++ x :: S.drop a⟩) _ (Gh.to_k [0, 3, 4] [1] (he := by simp; omega) (hh := by simp [← List.map_drop, hd0])) (⟨by dsimp only; omega, ins_perm hx hpm a, ins_sorted hso hlo hhi⟩) (by dsimp only; omega)
   · have hal2 : ¬ a < S.length := by omega
     refine vwp_live [0, 3, 4, 5] (vwp_storm hT hm [.pure, .pure, .win 0 0, .win 0 0, .pure, .off, .off, .off, .off, .off, .off, .off, .off, .off, .pure] [[], [], [1], [0, 1, 2], [0, 1, 2, 3], [0, 1, 2, 3, 4], [0, 1, 2, 3, 4], [0, 1, 2, 3, 4, 5, 6], [0, 1, 2, 3, 4, 5, 6, 7], [0, 1, 2, 3, 4], [0, 1, 2, 3, 4], [0, 1, 2, 3, 4, 9, 10], [0, 1, 2, 3, 4, 9, 10, 11], [0, 1, 2, 3, 4, 5, 6, 7, 8, 9, 10, 11, 12], [0, 1, 2, 3, 4, 5, 6, 7, 8, 9, 10, 11, 12, 13]] (by kernel_rfl) ?_)
     simp [hal2, hx]
     repeat refine ⟨by first | assumption | omega | (intros; omega), ?_⟩
     refine hK13 _ ?_
     try clear hK13 K13
     refine vwp_cond (by first | rfl | (simp; rfl)) (fun h3 => ?_) fun h3 => ?_
     · simp -failIfUnchanged at h3; all_goals
      refine vwp_skip ?_
      refine hK12 _ ?_
      try clear hK12 K12
      refine vwp_block ?_
      simp_all
     · simp -failIfUnchanged at h3; all_goals
      have hhi : ∀ z, S[a]? = some z → x < z := by intro z hz; have := (List.getElem?_eq_some_iff.1 hz).1; omega
      refine vwp_exit ?_
      simp only [inBlk, thenQ, if_true]
      refine hK10 _ ?_
      try clear hK10 K10
      have hB : ((∀ z, vsub (a : Int) (S.length : Int) z = z) ∧ a < S.length) ∨ ((∀ z, vsub (a : Int) (S.length : Int) z = .fs 0 []) ∧ S.length = a) := by
        rcases Nat.lt_or_ge a S.length with h | h
        · exact .inl ⟨fun z => vsub_lt (by omega), h⟩
        · exact .inr ⟨fun z => vsub_ge (by omega), by omega⟩
      have htd : List.take (S.length - a) (List.drop a (ints S)) = List.drop a (ints S) := List.take_of_length_le (by simp)
      rcases hB with ⟨hB, hB2⟩ | ⟨hB, hB2⟩
      · refine vwp_live [0, 3, 4, 5] (vwp_storm hT hm [.mv, .pure, .pure, .win 0 1, .mv, .pure, .pure, .win 0 2, .win 0 2, .lit, .mv, .pure, .pure, .win 0 3, .mv, .pure] [[], [], [], [1, 2], [0, 1, 2, 3], [], [], [5, 6], [5, 6, 7], [5, 6, 7, 8], [0, 1, 2, 3, 4, 5, 6, 7, 8, 9], [], [], [11, 12], [0, 1, 2, 3, 4, 5, 6, 7, 8, 9, 10, 11, 12, 13], [0, 1, 2, 3, 4, 5, 6, 7, 8, 9, 10, 11, 12, 13, 14]] (by kernel_rfl) ?_)
        simp [hx, hB]
        repeat refine ⟨by first | assumption | omega | (intros; omega), ?_⟩
        refine hK8 _ ?_
        try clear hK8 K8
        have w1 : IntKind.i64.wrap ((i : Int) + 1) = i + 1 := w64 (by omega) (by omega)
        refine vwp_live [0, 3, 4] (vwp_region hT ?_)
        simp [w1]
        exact hK5 (⟨i + 1, S.take a ++ x :: S.drop a⟩) _ (Gh.to_k [0, 3, 4] [1] (he := by simp; omega) (hh := by simp [htd])) (⟨by dsimp only; omega, ins_perm hx hpm a, ins_sorted hso hlo hhi⟩) (by dsimp only; omega)
      · have hd0 : S.drop a = [] := List.drop_of_length_le (by omega)
        refine vwp_live [0, 3, 4, 5] (vwp_storm hT hm [.mv, .pure, .pure, .win 0 1, .mv, .pure, .pure, .win 0 2, .win 0 2, .lit, .mv, .pure, .pure, .win 0 3, .mv, .pure] [[], [], [], [1, 2], [0, 1, 2, 3], [], [], [5, 6], [5, 6, 7], [5, 6, 7, 8], [0, 1, 2, 3, 4, 5, 6, 7, 8, 9], [], [], [11, 12], [0, 1, 2, 3, 4, 5, 6, 7, 8, 9, 10, 11, 12, 13], [0, 1, 2, 3, 4, 5, 6, 7, 8, 9, 10, 11, 12, 13, 14]] (by kernel_rfl) ?_)
        simp [hx, hB]
        repeat refine ⟨by first | assumption | omega | (intros; omega), ?_⟩
        refine hK8 _ ?_
        try clear hK8 K8
        have w1 : IntKind.i64.wrap ((i : Int) + 1) = i + 1 := w64 (by omega) (by omega)
        refine vwp_live [0, 3, 4] (vwp_region hT ?_)
        simp [w1]
        exact hK5 (⟨i + 1, S.take a ++ x :: S.drop a⟩) _ (Gh.to_k [0, 3, 4] [1] (he := by simp; omega) (hh := by simp [← List.map_drop, hd0])) (⟨by dsimp only; omega, ins_perm hx hpm a, ins_sorted hso hlo hhi⟩) (by dsimp only; omega)
  · simp -failIfUnchanged at h1; all_goals
   refine vwp_exit ?_
   simp only [inBlk, thenQ, if_true]
   refine hK3 _ ?_
   try clear hK3 K3
   refine vwp_sq [3] fun K14 hK14 => vwp_region hT ?_
   simp
   refine hK14 _ ?_
   try clear hK14 K14
   refine vwp_ret (hR _ _ ?_)
   obtain rfl : i = l.length := by omega
   rw [List.take_length] at hpm
   rw [srt_eq hpm hso]
   exact ret_k [2] [0] ([.live (ints S)]) (.sl 0 l.length 1 0 l.length) (⟨rfl, rfl⟩) (hr := by simp [hSl])
end Go.Proofs.Ytinigjmfjabicaa
