/- The document's view: the walk. -/
import Derived.Test.YtmpakfpmmkfgpaaLbG
namespace Go.Proofs.Ytmpakfpmmkfgpaa
open Go Go.VX Go.RowKit
set_option linter.unusedVariables false
set_option linter.unusedSimpArgs false
set_option maxHeartbeats 20000000
set_option maxRecDepth 100000

theorem srt_perm (l : List Int) : (srt l).Perm l := List.mergeSort_perm _ _
theorem srt_len (l : List Int) : (srt l).length = l.length := (srt_perm l).length_eq
theorem srt_sorted (l : List Int) : (srt l).Pairwise (· ≤ ·) := by
  have := List.pairwise_mergeSort (le := fun x y : Int => decide (x ≤ y)) (fun a b c h1 h2 => by simp only [decide_eq_true_eq] at *; omega) (fun a b => by simp only [Bool.or_eq_true, decide_eq_true_eq]; omega) l
  exact this.imp fun h => by simpa using h
theorem srt_unique {a b : List Int} (h : a.Perm b) (ha : a.Pairwise (· ≤ ·)) (hb : b.Pairwise (· ≤ ·)) : a = b :=
  h.eq_of_pairwise (fun a b _ _ h1 h2 => by omega) ha hb
theorem srt_eq {a l : List Int} (h : a.Perm l) (ha : a.Pairwise (· ≤ ·)) : srt l = a := srt_unique ((srt_perm l).trans h.symm) (srt_sorted l) ha
theorem sorted_get {L : List Int} (hs : L.Pairwise (· ≤ ·)) {i j : Nat} {a b : Int} (ha : L[i]? = some a) (hb : L[j]? = some b) (h : i ≤ j) : a ≤ b := by
  rcases Nat.lt_or_ge i j with q | q
  · obtain ⟨h1, e1⟩ := List.getElem?_eq_some_iff.1 ha
    obtain ⟨h2, e2⟩ := List.getElem?_eq_some_iff.1 hb
    have := List.pairwise_iff_getElem.1 hs i j h1 h2 q
    rw [e1, e2] at this; exact this
  · obtain rfl : i = j := by omega
    rw [ha] at hb; cases hb; exact Int.le_refl _

theorem ins_perm {S : List Int} {l : List Int} {i : Nat} {x : Int} (hx : l[i]? = some x) (hp : S.Perm (l.take i)) (at_ : Nat) : (S.take at_ ++ x :: S.drop at_).Perm (l.take (i + 1)) := by
  rw [take_snoc hx]
  refine (List.perm_middle (a := x) (l₁ := S.take at_) (l₂ := S.drop at_)).trans ?_
  rw [List.take_append_drop]
  exact (List.Perm.cons x hp).trans (List.perm_append_singleton x (l.take i)).symm
theorem ins_sorted {S : List Int} {x : Int} {at_ : Nat} (hs : S.Pairwise (· ≤ ·)) (hlo : ∀ (k : Nat) y, k < at_ → S[k]? = some y → y ≤ x) (hhi : ∀ y, S[at_]? = some y → x < y) : (S.take at_ ++ x :: S.drop at_).Pairwise (· ≤ ·) := by
  have hd : ∀ z ∈ S.drop at_, x ≤ z := by
    intro z hz
    obtain ⟨k, hk⟩ := List.mem_iff_getElem?.1 hz
    rw [List.getElem?_drop] at hk
    have hlt := (List.getElem?_eq_some_iff.1 hk).1
    obtain ⟨y, hy⟩ := getI (l := S) (i := at_) (by omega)
    have h1 := hhi y hy
    have h2 := sorted_get hs hy hk (by omega)
    omega
  have ht : ∀ z ∈ S.take at_, z ≤ x := by
    intro z hz
    obtain ⟨k, hk⟩ := List.mem_iff_getElem?.1 hz
    rw [List.getElem?_take] at hk
    split at hk
    · exact hlo k z (by assumption) hk
    · cases hk
  rw [List.pairwise_append]
  refine ⟨hs.sublist (List.take_sublist _ _), ?_, ?_⟩
  · rw [List.pairwise_cons]
    exact ⟨hd, hs.sublist (List.drop_sublist _ _)⟩
  · intro a ha b hb
    have h1 := ht a ha
    rcases List.mem_cons.1 hb with rfl | hb
    · exact h1
    · have := hd b hb; omega
structure KS2 where (i : Nat) (S : List Int)
theorem rsorted_spec (l : List Int) (hl : l.length < 1099511627776) : VC P 27 [sI l] [] (fun r ob' => r = .sl 0 l.length 1 0 l.length ∧ ob' = [.live (ints (srt l))]) := by
  refine VC_of_vwp_k ent_27 Try.func27 rfl (by simp) fun R hR => ?_
  refine vwp_sq [0] fun K1 hK1 => vwp_region hT ?_
  simp
  refine hK1 _ ?_
  try clear hK1 K1
  refine vwp_sq [0] fun K2 hK2 => vwp_region hT ?_
  simp
  refine hK2 _ ?_
  try clear hK2 K2
  refine vwp_seq_k fun K3 hK3 => ?_
  refine vwp_sq [0, 3] fun K4 hK4 => vwp_region hT ?_
  simp
  refine hK4 _ ?_
  try clear hK4 K4
  refine vwp_block ?_
  refine vwp_loop_s (fun u : KS2 => ⟨[(0, sI l), (3, .sl 0 u.S.length 1 0 u.S.length), (4, .int .i64 (u.i : Int))], [.live (ints u.S)]⟩) (fun u => u.i ≤ l.length ∧ u.S.Perm (l.take u.i) ∧ u.S.Pairwise (· ≤ ·)) (fun u => l.length - u.i) (⟨0, []⟩) (Gh.to_k [0, 3, 4] [0]) (⟨by simp, by simp, by simp⟩) ?_
  rintro ⟨i, S⟩ ⟨hi, hpm, hso⟩
  dsimp only at hi hpm hso ⊢
  have hSl := hpm.length_eq
  rw [List.length_take, Nat.min_eq_left hi] at hSl
  intro K5 hK5
  refine vwp_seq_k fun K6 hK6 => ?_
  refine vwp_sq [0, 3, 4] fun K7 hK7 => vwp_region hT ?_
  simp
  refine hK7 _ ?_
  try clear hK7 K7
  refine vwp_cond (by first | rfl | (simp; rfl)) (fun h1 => ?_) fun h1 => ?_
  · simp -failIfUnchanged at h1; all_goals
   refine vwp_skip ?_
   refine hK6 _ ?_
   try clear hK6 K6
   refine vwp_seq_k fun K8 hK8 => ?_
   refine vwp_block ?_
   refine vwp_sq [0, 3, 4] fun K9 hK9 => vwp_region hT ?_
   simp
   refine hK9 _ ?_
   try clear hK9 K9
   refine vwp_seq_k fun K10 hK10 => ?_
   refine vwp_block ?_
   obtain ⟨x, hx⟩ := getI (l := l) (i := i) (by omega)
   refine vwp_loop_s (fun a : Nat => ⟨[(0, sI l), (3, .sl 0 S.length 1 0 S.length), (4, .int .i64 (i : Int)), (5, .int .i64 (a : Int))], [.live (ints S)]⟩) (fun a => a ≤ S.length ∧ ∀ (k : Nat) y, k < a → S[k]? = some y → y ≤ x) (fun a => S.length - a) (0) (Gh.to_k [0, 3, 4, 5] [0]) (⟨by omega, fun k y hk _ => by omega⟩) ?_
   rintro a ⟨ha, hlo⟩
   intro K11 hK11
   refine vwp_seq_k fun K12 hK12 => ?_
   refine vwp_seq_k fun K13 hK13 => ?_
   rcases Nat.lt_or_ge a S.length with hal | hal
   · obtain ⟨y, hy⟩ := getI hal
     have hSa : S[a] = y := (List.getElem?_eq_some_iff.1 hy).2
     refine vwp_live [0, 3, 4, 5] (vwp_still hT hm (by kernel_rfl) ?_)
     simp [hal, hSa, hx]
     repeat refine ⟨by first | assumption | omega | (intros; omega), ?_⟩
     refine hK13 _ ?_
     try clear hK13 K13
     refine vwp_cond (by first | rfl | (simp; rfl)) (fun h2 => ?_) fun h2 => ?_
     · simp -failIfUnchanged at h2; all_goals
      have q := h2
      have hyx : y ≤ x := by simpa using q
      refine vwp_skip ?_
      refine hK12 _ ?_
      try clear hK12 K12
      refine vwp_block ?_
      have w1 : IntKind.i64.wrap ((a : Int) + 1) = a + 1 := w64 (by omega) (by omega)
      refine vwp_live [0, 3, 4, 5] (vwp_region hT ?_)
      simp [w1]
      exact hK11 (a + 1) _ (Gh.to_k [0, 3, 4, 5] [0]) (⟨by omega, fun k z hk hz => by
          rcases Nat.lt_or_ge k a with q | q
          · exact hlo k z q hz
          · obtain rfl : k = a := by omega
            rw [hy] at hz; cases hz; exact hyx⟩) (by omega)
     · simp -failIfUnchanged at h2; all_goals
      have q := h2
      have hhi : ∀ z, S[a]? = some z → x < z := by intro z hz; rw [hy] at hz; cases hz; simpa using q
      refine vwp_exit ?_
      simp only [inBlk, thenQ, if_true]
      refine hK10 _ ?_
      try clear hK10 K10
      have hB : ((∀ z, vsub (a : Int) (S.length : Int) z = z) ∧ a < S.length) ∨ ((∀ z, vsub (a : Int) (S.length : Int) z = .fs 0 []) ∧ S.length = a) := by
        rcases Nat.lt_or_ge a S.length with h | h
        · exact .inl ⟨fun z => vsub_lt (by omega), h⟩
        · exact .inr ⟨fun z => vsub_ge (by omega), by omega⟩
      have htd : List.take (S.length - a) (List.drop a (ints S)) = List.drop a (ints S) := List.take_of_length_le (by simp)
      rcases hB with ⟨hB, hB2⟩ | ⟨hB, hB2⟩
      · refine vwp_live [0, 3, 4, 5] (vwp_storm hT hm [.mv, .pure, .pure, .win 0 1, .mv, .pure, .pure, .win 0 2, .win 0 2, .lit, .mv, .pure, .pure, .win 0 3, .mv, .pure] [[], [], [], [1, 2], [0, 1, 2, 3], [], [], [5, 6], [5, 6, 7], [5, 6, 7, 8], [0, 1, 2, 3, 4, 5, 6, 7, 8, 9], [], [], [11, 12], [0, 1, 2, 3, 4, 5, 6, 7, 8, 9, 10, 11, 12, 13], [0, 1, 2, 3, 4, 5, 6, 7, 8, 9, 10, 11, 12, 13, 14]] (by kernel_rfl) ?_)
        simp [hx, hB]
        repeat refine ⟨by first | assumption | omega | (intros; omega), ?_⟩
        refine hK8 _ ?_
        try clear hK8 K8
        have w1 : IntKind.i64.wrap ((i : Int) + 1) = i + 1 := w64 (by omega) (by omega)
        refine vwp_live [0, 3, 4] (vwp_region hT ?_)
        simp [w1]
        exact hK5 (⟨i + 1, S.take a ++ x :: S.drop a⟩) _ (Gh.to_k [0, 3, 4] [1] (he := by simp; omega) (hh := by simp [htd])) (⟨by dsimp only; omega, ins_perm hx hpm a, ins_sorted hso hlo hhi⟩) (by dsimp only; omega)
      · have hd0 : S.drop a = [] := List.drop_of_length_le (by omega)
        refine vwp_live [0, 3, 4, 5] (vwp_storm hT hm [.mv, .pure, .pure, .win 0 1, .mv, .pure, .pure, .win 0 2, .win 0 2, .lit, .mv, .pure, .pure, .win 0 3, .mv, .pure] [[], [], [], [1, 2], [0, 1, 2, 3], [], [], [5, 6], [5, 6, 7], [5, 6, 7, 8], [0, 1, 2, 3, 4, 5, 6, 7, 8, 9], [], [], [11, 12], [0, 1, 2, 3, 4, 5, 6, 7, 8, 9, 10, 11, 12, 13], [0, 1, 2, 3, 4, 5, 6, 7, 8, 9, 10, 11, 12, 13, 14]] (by kernel_rfl) ?_)
        simp [hx, hB]
        repeat refine ⟨by first | assumption | omega | (intros; omega), ?_⟩
        refine hK8 _ ?_
        try clear hK8 K8
        have w1 : IntKind.i64.wrap ((i : Int) + 1) = i + 1 := w64 (by omega) (by omega)
        refine vwp_live [0, 3, 4] (vwp_region hT ?_)
        simp [w1]
        exact hK5 (⟨i + 1, S.take a ++ x :: S.drop a⟩) _ (Gh.to_k [0, 3, 4] [1] (he := by simp; omega) (hh := by simp [← List.map_drop, hd0])) (⟨by dsimp only; omega, ins_perm hx hpm a, ins_sorted hso hlo hhi⟩) (by dsimp only; omega)
   · have hal2 : ¬ a < S.length := by omega
     refine vwp_live [0, 3, 4, 5] (vwp_storm hT hm [.pure, .pure, .win 0 0, .win 0 0, .pure, .off, .off, .off, .off, .off, .off, .off, .off, .off, .pure] [[], [], [1], [0, 1, 2], [0, 1, 2, 3], [0, 1, 2, 3, 4], [0, 1, 2, 3, 4], [0, 1, 2, 3, 4, 5, 6], [0, 1, 2, 3, 4, 5, 6, 7], [0, 1, 2, 3, 4], [0, 1, 2, 3, 4], [0, 1, 2, 3, 4, 9, 10], [0, 1, 2, 3, 4, 9, 10, 11], [0, 1, 2, 3, 4, 5, 6, 7, 8, 9, 10, 11, 12], [0, 1, 2, 3, 4, 5, 6, 7, 8, 9, 10, 11, 12, 13]] (by kernel_rfl) ?_)
     simp [hal2, hx]
     repeat refine ⟨by first | assumption | omega | (intros; omega), ?_⟩
     refine hK13 _ ?_
     try clear hK13 K13
     refine vwp_cond (by first | rfl | (simp; rfl)) (fun h3 => ?_) fun h3 => ?_
     · simp -failIfUnchanged at h3; all_goals
      refine vwp_skip ?_
      refine hK12 _ ?_
      try clear hK12 K12
      refine vwp_block ?_
      simp_all
     · simp -failIfUnchanged at h3; all_goals
      have hhi : ∀ z, S[a]? = some z → x < z := by intro z hz; have := (List.getElem?_eq_some_iff.1 hz).1; omega
      refine vwp_exit ?_
      simp only [inBlk, thenQ, if_true]
      refine hK10 _ ?_
      try clear hK10 K10
      have hB : ((∀ z, vsub (a : Int) (S.length : Int) z = z) ∧ a < S.length) ∨ ((∀ z, vsub (a : Int) (S.length : Int) z = .fs 0 []) ∧ S.length = a) := by
        rcases Nat.lt_or_ge a S.length with h | h
        · exact .inl ⟨fun z => vsub_lt (by omega), h⟩
        · exact .inr ⟨fun z => vsub_ge (by omega), by omega⟩
      have htd : List.take (S.length - a) (List.drop a (ints S)) = List.drop a (ints S) := List.take_of_length_le (by simp)
      rcases hB with ⟨hB, hB2⟩ | ⟨hB, hB2⟩
      · refine vwp_live [0, 3, 4, 5] (vwp_storm hT hm [.mv, .pure, .pure, .win 0 1, .mv, .pure, .pure, .win 0 2, .win 0 2, .lit, .mv, .pure, .pure, .win 0 3, .mv, .pure] [[], [], [], [1, 2], [0, 1, 2, 3], [], [], [5, 6], [5, 6, 7], [5, 6, 7, 8], [0, 1, 2, 3, 4, 5, 6, 7, 8, 9], [], [], [11, 12], [0, 1, 2, 3, 4, 5, 6, 7, 8, 9, 10, 11, 12, 13], [0, 1, 2, 3, 4, 5, 6, 7, 8, 9, 10, 11, 12, 13, 14]] (by kernel_rfl) ?_)
        simp [hx, hB]
        repeat refine ⟨by first | assumption | omega | (intros; omega), ?_⟩
        refine hK8 _ ?_
        try clear hK8 K8
        have w1 : IntKind.i64.wrap ((i : Int) + 1) = i + 1 := w64 (by omega) (by omega)
        refine vwp_live [0, 3, 4] (vwp_region hT ?_)
        simp [w1]
        exact hK5 (⟨i + 1, S.take a ++ x :: S.drop a⟩) _ (Gh.to_k [0, 3, 4] [1] (he := by simp; omega) (hh := by simp [htd])) (⟨by dsimp only; omega, ins_perm hx hpm a, ins_sorted hso hlo hhi⟩) (by dsimp only; omega)
      · have hd0 : S.drop a = [] := List.drop_of_length_le (by omega)
        refine vwp_live [0, 3, 4, 5] (vwp_storm hT hm [.mv, .pure, .pure, .win 0 1, .mv, .pure, .pure, .win 0 2, .win 0 2, .lit, .mv, .pure, .pure, .win 0 3, .mv, .pure] [[], [], [], [1, 2], [0, 1, 2, 3], [], [], [5, 6], [5, 6, 7], [5, 6, 7, 8], [0, 1, 2, 3, 4, 5, 6, 7, 8, 9], [], [], [11, 12], [0, 1, 2, 3, 4, 5, 6, 7, 8, 9, 10, 11, 12, 13], [0, 1, 2, 3, 4, 5, 6, 7, 8, 9, 10, 11, 12, 13, 14]] (by kernel_rfl) ?_)
        simp [hx, hB]
        repeat refine ⟨by first | assumption | omega | (intros; omega), ?_⟩
        refine hK8 _ ?_
        try clear hK8 K8
        have w1 : IntKind.i64.wrap ((i : Int) + 1) = i + 1 := w64 (by omega) (by omega)
        refine vwp_live [0, 3, 4] (vwp_region hT ?_)
        simp [w1]
        exact hK5 (⟨i + 1, S.take a ++ x :: S.drop a⟩) _ (Gh.to_k [0, 3, 4] [1] (he := by simp; omega) (hh := by simp [← List.map_drop, hd0])) (⟨by dsimp only; omega, ins_perm hx hpm a, ins_sorted hso hlo hhi⟩) (by dsimp only; omega)
  · simp -failIfUnchanged at h1; all_goals
   refine vwp_exit ?_
   simp only [inBlk, thenQ, if_true]
   refine hK3 _ ?_
   try clear hK3 K3
   refine vwp_sq [3] fun K14 hK14 => vwp_region hT ?_
   simp
   refine hK14 _ ?_
   try clear hK14 K14
   refine vwp_ret (hR _ _ ?_)
   obtain rfl : i = l.length := by omega
   rw [List.take_length] at hpm
   rw [srt_eq hpm hso]
   exact ret_k [2] [0] ([.live (ints S)]) (.sl 0 l.length 1 0 l.length) (⟨rfl, rfl⟩) (hr := by simp [hSl])
theorem equal_spec (a b : List Int) (ha : a.length < 9223372036854775807) (hb : b.length < 9223372036854775807) : VC P 30 [sI a, sI b] [] (fun r ob' => r = .bool (decide (a = b)) ∧ ob' = []) := by
  refine VC_of_vwp_k ent_30 Try.func30 rfl (by simp) fun R hR => ?_
  refine vwp_sq [0, 1] fun K1 hK1 => vwp_region hT ?_
  simp
  refine hK1 _ ?_
  try clear hK1 K1
  refine vwp_seq_k fun K2 hK2 => ?_
  refine vwp_sq [0, 1] fun K3 hK3 => vwp_region hT ?_
  simp
  refine hK3 _ ?_
  try clear hK3 K3
  refine vwp_cond (by first | rfl | (simp; rfl)) (fun h1 => ?_) fun h1 => ?_
  · simp -failIfUnchanged at h1; all_goals
   refine vwp_sq [] fun K4 hK4 => vwp_region hT ?_
   simp
   refine hK4 _ ?_
   try clear hK4 K4
   refine vwp_ret (hR _ _ ?_)
   exact ret_k [4] [] ([]) (.bool (decide (a = b))) (⟨rfl, rfl⟩) (hr := by simp; intro e; subst e; omega)
  · simp -failIfUnchanged at h1; all_goals
   refine vwp_skip ?_
   refine hK2 _ ?_
   try clear hK2 K2
   refine vwp_seq_k fun K5 hK5 => ?_
   refine vwp_sq [0, 1] fun K6 hK6 => vwp_region hT ?_
   simp
   refine hK6 _ ?_
   try clear hK6 K6
   refine vwp_block ?_
   refine vwp_loop_s (fun i : Nat => ⟨[(0, sI a), (1, sI b), (12, .int .i64 a.length), (13, .int .i64 (i : Int))], []⟩) (fun i => i ≤ a.length ∧ a.take i = b.take i) (fun i => a.length - i) (0) (Gh.to_k [0, 1, 12, 13] []) (⟨by omega, by simp⟩) ?_
   rintro i ⟨hi, hab⟩
   intro K7 hK7
   refine vwp_sq [0, 1, 12, 13] fun K8 hK8 => vwp_region hT ?_
   simp
   refine hK8 _ ?_
   try clear hK8 K8
   refine vwp_seq_k fun K9 hK9 => ?_
   refine vwp_cond (by first | rfl | (simp; rfl)) (fun h2 => ?_) fun h2 => ?_
   · simp -failIfUnchanged at h2; all_goals
    refine vwp_skip ?_
    refine hK9 _ ?_
    try clear hK9 K9
    refine vwp_seq_k fun K10 hK10 => ?_
    refine vwp_block ?_
    refine vwp_sq [0, 1, 12, 13] fun K11 hK11 => vwp_region hT ?_
    simp
    refine hK11 _ ?_
    try clear hK11 K11
    obtain ⟨x, hx⟩ := getI (l := a) (i := i) (by omega)
    obtain ⟨y, hy⟩ := getI (l := b) (i := i) (by omega)
    refine vwp_sq [0, 1, 5, 12, 13] fun K12 hK12 => vwp_still hT hm (by kernel_rfl) ?_
    simp [hx, hy]
    repeat refine ⟨by first | assumption | omega | (intros; omega), ?_⟩
    refine hK12 _ ?_
    try clear hK12 K12
    refine vwp_cond (by first | rfl | (simp; rfl)) (fun h3 => ?_) fun h3 => ?_
    · simp -failIfUnchanged at h3; all_goals
     refine vwp_sq [] fun K13 hK13 => vwp_region hT ?_
     simp
     refine hK13 _ ?_
     try clear hK13 K13
     refine vwp_ret (hR _ _ ?_)
     exact ret_k [4] [] ([]) (.bool (decide (a = b))) (⟨rfl, rfl⟩) (hr := by
       simp
       intro e; subst e
       rw [hx] at hy
       exact h3 (Option.some.inj hy))
    · simp -failIfUnchanged at h3; all_goals
     refine vwp_skip ?_
     refine hK10 _ ?_
     try clear hK10 K10
     have w1 : IntKind.i64.wrap ((i : Int) + 1) = i + 1 := w64 (by omega) (by omega)
     refine vwp_live [0, 1, 12, 13] (vwp_region hT ?_)
     simp [w1]
     exact hK7 (i + 1) _ (Gh.to_k [0, 1, 12, 13] []) (⟨by omega, by rw [List.take_add_one, List.take_add_one, hab, hx, hy, h3]⟩) (by omega)
   · simp -failIfUnchanged at h2; all_goals
    refine vwp_exit ?_
    simp only [inBlk, thenQ, if_true]
    refine hK5 _ ?_
    try clear hK5 K5
    refine vwp_sq [] fun K14 hK14 => vwp_region hT ?_
    simp
    refine hK14 _ ?_
    try clear hK14 K14
    refine vwp_ret (hR _ _ ?_)
    exact ret_k [4] [] ([]) (.bool (decide (a = b))) (⟨rfl, rfl⟩) (hr := by
      rw [List.take_of_length_le (by omega), List.take_of_length_le (by omega)] at hab
      simp [hab])
theorem equall_spec (a b : List Int) (ha : a.length < 9223372036854775807) (hb : b.length < 9223372036854775807) : VC P 31 [sI a, sI b] [] (fun r ob' => r = .bool (decide (a = b)) ∧ ob' = []) := by
  refine VC_of_vwp_k ent_31 Try.func31 rfl (by simp) fun R hR => ?_
  refine vwp_sq [0, 1] fun K1 hK1 => vwp_region hT ?_
  simp
  refine hK1 _ ?_
  try clear hK1 K1
  refine vwp_seq_k fun K2 hK2 => ?_
  refine vwp_sq [0, 1] fun K3 hK3 => vwp_region hT ?_
  simp
  refine hK3 _ ?_
  try clear hK3 K3
  refine vwp_cond (by first | rfl | (simp; rfl)) (fun h1 => ?_) fun h1 => ?_
  · simp -failIfUnchanged at h1; all_goals
   refine vwp_sq [] fun K4 hK4 => vwp_region hT ?_
   simp
   refine hK4 _ ?_
   try clear hK4 K4
   refine vwp_ret (hR _ _ ?_)
   exact ret_k [4] [] ([]) (.bool (decide (a = b))) (⟨rfl, rfl⟩) (hr := by simp; intro e; subst e; omega)
  · simp -failIfUnchanged at h1; all_goals
   refine vwp_skip ?_
   refine hK2 _ ?_
   try clear hK2 K2
   refine vwp_seq_k fun K5 hK5 => ?_
   refine vwp_sq [0, 1] fun K6 hK6 => vwp_region hT ?_
   simp
   refine hK6 _ ?_
   try clear hK6 K6
   refine vwp_block ?_
   refine vwp_loop_s (fun i : Nat => ⟨[(0, sI a), (1, sI b), (12, .int .i64 a.length), (13, .int .i64 (i : Int))], []⟩) (fun i => i ≤ a.length ∧ a.take i = b.take i) (fun i => a.length - i) (0) (Gh.to_k [0, 1, 12, 13] []) (⟨by omega, by simp⟩) ?_
   rintro i ⟨hi, hab⟩
   intro K7 hK7
   refine vwp_sq [0, 1, 12, 13] fun K8 hK8 => vwp_region hT ?_
   simp
   refine hK8 _ ?_
   try clear hK8 K8
   refine vwp_seq_k fun K9 hK9 => ?_
   refine vwp_cond (by first | rfl | (simp; rfl)) (fun h2 => ?_) fun h2 => ?_
   · simp -failIfUnchanged at h2; all_goals
    refine vwp_skip ?_
    refine hK9 _ ?_
    try clear hK9 K9
    refine vwp_seq_k fun K10 hK10 => ?_
    refine vwp_block ?_
    refine vwp_sq [0, 1, 12, 13] fun K11 hK11 => vwp_region hT ?_
    simp
    refine hK11 _ ?_
    try clear hK11 K11
    obtain ⟨x, hx⟩ := getI (l := a) (i := i) (by omega)
    obtain ⟨y, hy⟩ := getI (l := b) (i := i) (by omega)
    refine vwp_sq [0, 1, 5, 12, 13] fun K12 hK12 => vwp_still hT hm (by kernel_rfl) ?_
    simp [hx, hy]
    repeat refine ⟨by first | assumption | omega | (intros; omega), ?_⟩
    refine hK12 _ ?_
    try clear hK12 K12
    refine vwp_cond (by first | rfl | (simp; rfl)) (fun h3 => ?_) fun h3 => ?_
    · simp -failIfUnchanged at h3; all_goals
     refine vwp_sq [] fun K13 hK13 => vwp_region hT ?_
     simp
     refine hK13 _ ?_
     try clear hK13 K13
     refine vwp_ret (hR _ _ ?_)
     exact ret_k [4] [] ([]) (.bool (decide (a = b))) (⟨rfl, rfl⟩) (hr := by
       simp
       intro e; subst e
       rw [hx] at hy
       exact h3 (Option.some.inj hy))
    · simp -failIfUnchanged at h3; all_goals
     refine vwp_skip ?_
     refine hK10 _ ?_
     try clear hK10 K10
     have w1 : IntKind.i64.wrap ((i : Int) + 1) = i + 1 := w64 (by omega) (by omega)
     refine vwp_live [0, 1, 12, 13] (vwp_region hT ?_)
     simp [w1]
     exact hK7 (i + 1) _ (Gh.to_k [0, 1, 12, 13] []) (⟨by omega, by rw [List.take_add_one, List.take_add_one, hab, hx, hy, h3]⟩) (by omega)
   · simp -failIfUnchanged at h2; all_goals
    refine vwp_exit ?_
    simp only [inBlk, thenQ, if_true]
    refine hK5 _ ?_
    try clear hK5 K5
    refine vwp_sq [] fun K14 hK14 => vwp_region hT ?_
    simp
    refine hK14 _ ?_
    try clear hK14 K14
    refine vwp_ret (hR _ _ ?_)
    exact ret_k [4] [] ([]) (.bool (decide (a = b))) (⟨rfl, rfl⟩) (hr := by
      rw [List.take_of_length_le (by omega), List.take_of_length_le (by omega)] at hab
      simp [hab])
theorem same_spec (a b : List Int) (ha : a.length < 9223372036854775807) (hb : b.length < 9223372036854775807) : VC P 32 [sI a, sI b] [] (fun r ob' => r = .bool (decide (a = b)) ∧ ob' = []) := by
  refine VC_of_vwp_k ent_32 Try.func32 rfl (by simp) fun R hR => ?_
  refine vwp_sq [0, 1] fun K1 hK1 => vwp_region hT ?_
  simp
  refine hK1 _ ?_
  try clear hK1 K1
  refine vwp_seq_k fun K2 hK2 => ?_
  refine vwp_sq [0, 1] fun K3 hK3 => vwp_region hT ?_
  simp
  refine hK3 _ ?_
  try clear hK3 K3
  refine vwp_cond (by first | rfl | (simp; rfl)) (fun h1 => ?_) fun h1 => ?_
  · simp -failIfUnchanged at h1; all_goals
   refine vwp_sq [] fun K4 hK4 => vwp_region hT ?_
   simp
   refine hK4 _ ?_
   try clear hK4 K4
   refine vwp_ret (hR _ _ ?_)
   exact ret_k [4] [] ([]) (.bool (decide (a = b))) (⟨rfl, rfl⟩) (hr := by simp; intro e; subst e; omega)
  · simp -failIfUnchanged at h1; all_goals
   refine vwp_skip ?_
   refine hK2 _ ?_
   try clear hK2 K2
   refine vwp_seq_k fun K5 hK5 => ?_
   refine vwp_sq [0, 1] fun K6 hK6 => vwp_region hT ?_
   simp
   refine hK6 _ ?_
   try clear hK6 K6
   refine vwp_block ?_
   refine vwp_loop_s (fun i : Nat => ⟨[(0, sI a), (1, sI b), (5, .int .i64 (i : Int))], []⟩) (fun i => i ≤ a.length ∧ a.take i = b.take i) (fun i => a.length - i) (0) (Gh.to_k [0, 1, 5] []) (⟨by omega, by simp⟩) ?_
   rintro i ⟨hi, hab⟩
   intro K7 hK7
   refine vwp_seq_k fun K8 hK8 => ?_
   refine vwp_sq [0, 1, 5] fun K9 hK9 => vwp_region hT ?_
   simp
   refine hK9 _ ?_
   try clear hK9 K9
   refine vwp_cond (by first | rfl | (simp; rfl)) (fun h2 => ?_) fun h2 => ?_
   · simp -failIfUnchanged at h2; all_goals
    refine vwp_skip ?_
    refine hK8 _ ?_
    try clear hK8 K8
    refine vwp_seq_k fun K10 hK10 => ?_
    refine vwp_block ?_
    obtain ⟨x, hx⟩ := getI (l := a) (i := i) (by omega)
    obtain ⟨y, hy⟩ := getI (l := b) (i := i) (by omega)
    refine vwp_sq [0, 1, 5] fun K11 hK11 => vwp_still hT hm (by kernel_rfl) ?_
    simp [hx, hy]
    repeat refine ⟨by first | assumption | omega | (intros; omega), ?_⟩
    refine hK11 _ ?_
    try clear hK11 K11
    refine vwp_cond (by first | rfl | (simp; rfl)) (fun h3 => ?_) fun h3 => ?_
    · simp -failIfUnchanged at h3; all_goals
     refine vwp_sq [] fun K12 hK12 => vwp_region hT ?_
     simp
     refine hK12 _ ?_
     try clear hK12 K12
     refine vwp_ret (hR _ _ ?_)
     exact ret_k [4] [] ([]) (.bool (decide (a = b))) (⟨rfl, rfl⟩) (hr := by
       simp
       intro e; subst e
       rw [hx] at hy
       exact h3 (Option.some.inj hy))
    · simp -failIfUnchanged at h3; all_goals
     refine vwp_skip ?_
     refine hK10 _ ?_
     try clear hK10 K10
     have w1 : IntKind.i64.wrap ((i : Int) + 1) = i + 1 := w64 (by omega) (by omega)
     refine vwp_live [0, 1, 5] (vwp_region hT ?_)
     simp [w1]
     exact hK7 (i + 1) _ (Gh.to_k [0, 1, 5] []) (⟨by omega, by rw [List.take_add_one, List.take_add_one, hab, hx, hy, h3]⟩) (by omega)
   · simp -failIfUnchanged at h2; all_goals
    refine vwp_exit ?_
    simp only [inBlk, thenQ, if_true]
    refine hK5 _ ?_
    try clear hK5 K5
    refine vwp_sq [] fun K13 hK13 => vwp_region hT ?_
    simp
    refine hK13 _ ?_
    try clear hK13 K13
    refine vwp_ret (hR _ _ ?_)
    exact ret_k [4] [] ([]) (.bool (decide (a = b))) (⟨rfl, rfl⟩) (hr := by
      rw [List.take_of_length_le (by omega), List.take_of_length_le (by omega)] at hab
      simp [hab])
theorem ints_spec (a b : List Int) (ha : a.length < 9223372036854775807) (hb : b.length < 9223372036854775807) : VC P 33 [sI a, sI b] [] (fun r ob' => r = .bool (decide (a = b)) ∧ ob' = []) := by
  refine VC_of_vwp_k ent_33 Try.func33 rfl (by simp) fun R hR => ?_
  refine vwp_sq [0, 1] fun K1 hK1 => vwp_region hT ?_
  simp
  refine hK1 _ ?_
  try clear hK1 K1
  refine vwp_seq_k fun K2 hK2 => ?_
  refine vwp_sq [0, 1] fun K3 hK3 => vwp_region hT ?_
  simp
  refine hK3 _ ?_
  try clear hK3 K3
  refine vwp_cond (by first | rfl | (simp; rfl)) (fun h1 => ?_) fun h1 => ?_
  · simp -failIfUnchanged at h1; all_goals
   refine vwp_sq [] fun K4 hK4 => vwp_region hT ?_
   simp
   refine hK4 _ ?_
   try clear hK4 K4
   refine vwp_ret (hR _ _ ?_)
   exact ret_k [4] [] ([]) (.bool (decide (a = b))) (⟨rfl, rfl⟩) (hr := by simp; intro e; subst e; omega)
  · simp -failIfUnchanged at h1; all_goals
   refine vwp_skip ?_
   refine hK2 _ ?_
   try clear hK2 K2
   refine vwp_seq_k fun K5 hK5 => ?_
   refine vwp_sq [0, 1] fun K6 hK6 => vwp_region hT ?_
   simp
   refine hK6 _ ?_
   try clear hK6 K6
   refine vwp_block ?_
   refine vwp_loop_s (fun i : Nat => ⟨[(0, sI a), (1, sI b), (5, .int .i64 (i : Int))], []⟩) (fun i => i ≤ a.length ∧ a.take i = b.take i) (fun i => a.length - i) (0) (Gh.to_k [0, 1, 5] []) (⟨by omega, by simp⟩) ?_
   rintro i ⟨hi, hab⟩
   intro K7 hK7
   refine vwp_seq_k fun K8 hK8 => ?_
   refine vwp_sq [0, 1, 5] fun K9 hK9 => vwp_region hT ?_
   simp
   refine hK9 _ ?_
   try clear hK9 K9
   refine vwp_cond (by first | rfl | (simp; rfl)) (fun h2 => ?_) fun h2 => ?_
   · simp -failIfUnchanged at h2; all_goals
    refine vwp_skip ?_
    refine hK8 _ ?_
    try clear hK8 K8
    refine vwp_seq_k fun K10 hK10 => ?_
    refine vwp_block ?_
    obtain ⟨x, hx⟩ := getI (l := a) (i := i) (by omega)
    obtain ⟨y, hy⟩ := getI (l := b) (i := i) (by omega)
    refine vwp_sq [0, 1, 5] fun K11 hK11 => vwp_still hT hm (by kernel_rfl) ?_
    simp [hx, hy]
    repeat refine ⟨by first | assumption | omega | (intros; omega), ?_⟩
    refine hK11 _ ?_
    try clear hK11 K11
    refine vwp_cond (by first | rfl | (simp; rfl)) (fun h3 => ?_) fun h3 => ?_
    · simp -failIfUnchanged at h3; all_goals
     refine vwp_sq [] fun K12 hK12 => vwp_region hT ?_
     simp
     refine hK12 _ ?_
     try clear hK12 K12
     refine vwp_ret (hR _ _ ?_)
     exact ret_k [4] [] ([]) (.bool (decide (a = b))) (⟨rfl, rfl⟩) (hr := by
       simp
       intro e; subst e
       rw [hx] at hy
       exact h3 (Option.some.inj hy))
    · simp -failIfUnchanged at h3; all_goals
     refine vwp_skip ?_
     refine hK10 _ ?_
     try clear hK10 K10
     have w1 : IntKind.i64.wrap ((i : Int) + 1) = i + 1 := w64 (by omega) (by omega)
     refine vwp_live [0, 1, 5] (vwp_region hT ?_)
     simp [w1]
     exact hK7 (i + 1) _ (Gh.to_k [0, 1, 5] []) (⟨by omega, by rw [List.take_add_one, List.take_add_one, hab, hx, hy, h3]⟩) (by omega)
   · simp -failIfUnchanged at h2; all_goals
    refine vwp_exit ?_
    simp only [inBlk, thenQ, if_true]
    refine hK5 _ ?_
    try clear hK5 K5
    refine vwp_sq [] fun K13 hK13 => vwp_region hT ?_
    simp
    refine hK13 _ ?_
    try clear hK13 K13
    refine vwp_ret (hR _ _ ?_)
    exact ret_k [4] [] ([]) (.bool (decide (a = b))) (⟨rfl, rfl⟩) (hr := by
      rw [List.take_of_length_le (by omega), List.take_of_length_le (by omega)] at hab
      simp [hab])

def hasT (L : List Stp) (t : Int) : Bool := L.any fun y => decide (y.tr = t)
theorem hasT_snoc (L : List Stp) (s : Stp) (t : Int) : hasT (L ++ [s]) t = (hasT L t || decide (s.tr = t)) := by simp [hasT]
theorem leastP_snoc (L : List Stp) (s : Stp) (t : Int) : leastP (L ++ [s]) t = if s.tr = t ∧ (hasT L t = false ∨ s.oi < leastP L t) then s.oi else leastP L t := by
  have he : (L.filter (fun y => y.tr == t)).map (·.oi) = [] ↔ hasT L t = false := by
    rw [List.map_eq_nil_iff, List.filter_eq_nil_iff, hasT, List.any_eq_false]
    simp
  by_cases h : s.tr = t
  · have e : ((L ++ [s]).filter (fun y => y.tr == t)).map (·.oi) = (L.filter (fun y => y.tr == t)).map (·.oi) ++ [s.oi] := by
      rw [List.filter_append, List.map_append]; simp [h]
    unfold leastP
    rw [e, minL_snoc]
    by_cases h1 : hasT L t = false
    · rw [if_pos (he.2 h1), if_pos ⟨h, .inl h1⟩]
    · rw [if_neg (fun q => h1 (he.1 q))]
      by_cases h2 : s.oi < minL ((L.filter (fun y => y.tr == t)).map (·.oi))
      · rw [if_pos h2, if_pos ⟨h, .inr h2⟩]
      · rw [if_neg h2, if_neg (by rintro ⟨_, q | q⟩; exact h1 q; exact h2 q)]
  · have e : (L ++ [s]).filter (fun y => y.tr == t) = L.filter (fun y => y.tr == t) := by
      rw [List.filter_append]; simp [h]
    unfold leastP
    rw [e, if_neg (by rintro ⟨q, _⟩; exact h q)]
theorem least_spec (x : Whl) (hs : x.ss.length < 1099511627776) (ow t : Int) : VC P 42 [.agg x.c, .int .i64 ow, .int .i64 t] [] (fun r ob' => r = .int .i64 (leastP (ownL x.ss ow) t) ∧ ob' = []) := by
  refine VC_of_vwp_k ent_42 Try.func42 rfl (by simp) fun R hR => ?_
  refine vwp_sq [0, 1, 2] fun K1 hK1 => vwp_region hT ?_
  simp
  refine hK1 _ ?_
  try clear hK1 K1
  refine vwp_sq [1, 2, 3] fun K2 hK2 => vwp_region hT ?_
  simp
  refine hK2 _ ?_
  try clear hK2 K2
  refine vwp_sq [1, 2, 3, 7] fun K3 hK3 => vwp_region hT ?_
  simp
  refine hK3 _ ?_
  try clear hK3 K3
  refine vwp_seq_k fun K4 hK4 => ?_
  refine vwp_sq [1, 2, 3, 7, 8] fun K5 hK5 => vwp_region hT ?_
  simp
  refine hK5 _ ?_
  try clear hK5 K5
  refine vwp_block ?_
  refine vwp_loop_s (fun i : Nat => ⟨[(1, .int .i64 ow), (2, .int .i64 t), (3, .ptr 0 6 0), (7, .int .i64 (leastP (ownL (x.ss.take i) ow) t)), (8, .bool (hasT (ownL (x.ss.take i) ow) t)), (9, .int .i64 (i : Int))], [.live x.c]⟩) (fun i => i ≤ x.ss.length) (fun i => x.ss.length - i) (0) (Gh.to_k [1, 2, 3, 7, 8, 9] [0] (he := by simp [ownL, leastP, minL, hasT])) (by omega) ?_
  rintro i hi
  obtain ⟨L, hL⟩ : ∃ L, L = ownL (x.ss.take i) ow := ⟨_, rfl⟩
  rw [← hL]
  intro K6 hK6
  refine vwp_seq_k fun K7 hK7 => ?_
  refine vwp_sq [1, 2, 3, 7, 8, 9] fun K8 hK8 => vwp_region hT ?_
  simp
  refine hK8 _ ?_
  try clear hK8 K8
  refine vwp_cond (by first | rfl | (simp; rfl)) (fun h1 => ?_) fun h1 => ?_
  · simp -failIfUnchanged at h1; all_goals
   refine vwp_skip ?_
   refine hK7 _ ?_
   try clear hK7 K7
   refine vwp_seq_k fun K9 hK9 => ?_
   refine vwp_block ?_
   obtain ⟨s, hs1⟩ := getI (l := x.ss) (i := i) (by omega)
   have hrow := rowStp hs1
   have hlen := lenStp x.ss
   have htk := ownL_take hs1 ow
   rw [← hL] at htk
   refine vwp_sq [1, 2, 3, 7, 8, 9] fun K10 hK10 => vwp_region hT ?_
   simp [hrow, hlen]
   repeat refine ⟨by first | assumption | omega | (intros; omega), ?_⟩
   refine hK10 _ ?_
   try clear hK10 K10
   refine vwp_seq_k fun K11 hK11 => ?_
   by_cases hc1 : s.ow = ow
   · rw [if_pos hc1] at htk
     by_cases hc2 : s.tr = t
     · rcases hh : hasT L t with _ | _
       · have hn1 : leastP (ownL (x.ss.take (i + 1)) ow) t = s.oi := by rw [htk, leastP_snoc, if_pos ⟨hc2, .inl hh⟩]
         have hn2 : hasT (ownL (x.ss.take (i + 1)) ow) t = true := by rw [htk, hasT_snoc]; simp [hc2]
         refine vwp_live [1, 2, 3, 7, 8, 9, 10] (vwp_region hT ?_)
         simp [hc1, hc2, hh]
         refine hK11 _ ?_
         try clear hK11 K11
         refine vwp_cond (by first | rfl | (simp; rfl)) (fun h2 => ?_) fun h2 => ?_
         · simp -failIfUnchanged at h2; all_goals
          refine vwp_sq [1, 2, 3, 9, 10] fun K12 hK12 => vwp_region hT ?_
          simp
          refine hK12 _ ?_
          try clear hK12 K12
          refine vwp_live [1, 2, 3, 7, 9] (vwp_region hT ?_)
          simp
          refine hK9 _ ?_
          try clear hK9 K9
          have w1 : IntKind.i64.wrap ((i : Int) + 1) = i + 1 := w64 (by omega) (by omega)
          refine vwp_live [1, 2, 3, 7, 8, 9] (vwp_region hT ?_)
          simp [w1]
          exact hK6 (i + 1) _ (Gh.to_k [1, 2, 3, 7, 8, 9] [0] (he := by simp [hn1, hn2])) (by omega) (by omega)
         · simp -failIfUnchanged at h2; all_goals
          refine vwp_skip ?_
          refine hK9 _ ?_
          try clear hK9 K9
          simp_all
       · by_cases hc3 : s.oi < leastP L t
         · have hn1 : leastP (ownL (x.ss.take (i + 1)) ow) t = s.oi := by rw [htk, leastP_snoc, if_pos ⟨hc2, .inr hc3⟩]
           have hn2 : hasT (ownL (x.ss.take (i + 1)) ow) t = true := by rw [htk, hasT_snoc]; simp [hc2]
           refine vwp_live [1, 2, 3, 7, 8, 9, 10] (vwp_region hT ?_)
           simp [hc1, hc2, hh, hc3]
           refine hK11 _ ?_
           try clear hK11 K11
           refine vwp_cond (by first | rfl | (simp; rfl)) (fun h3 => ?_) fun h3 => ?_
           · simp -failIfUnchanged at h3; all_goals
            refine vwp_sq [1, 2, 3, 9, 10] fun K13 hK13 => vwp_region hT ?_
            simp
            refine hK13 _ ?_
            try clear hK13 K13
            refine vwp_live [1, 2, 3, 7, 9] (vwp_region hT ?_)
            simp
            refine hK9 _ ?_
            try clear hK9 K9
            have w1 : IntKind.i64.wrap ((i : Int) + 1) = i + 1 := w64 (by omega) (by omega)
            refine vwp_live [1, 2, 3, 7, 8, 9] (vwp_region hT ?_)
            simp [w1]
            exact hK6 (i + 1) _ (Gh.to_k [1, 2, 3, 7, 8, 9] [0] (he := by simp [hn1, hn2])) (by omega) (by omega)
           · simp -failIfUnchanged at h3; all_goals
            refine vwp_skip ?_
            refine hK9 _ ?_
            try clear hK9 K9
            simp_all
         · have hn1 : leastP (ownL (x.ss.take (i + 1)) ow) t = leastP L t := by rw [htk, leastP_snoc, if_neg (by rintro ⟨_, q | q⟩; rw [hh] at q; cases q; exact hc3 q)]
           have hn2 : hasT (ownL (x.ss.take (i + 1)) ow) t = true := by rw [htk, hasT_snoc]; simp [hc2]
           refine vwp_live [1, 2, 3, 7, 8, 9, 10] (vwp_region hT ?_)
           simp [hc1, hc2, hh, hc3]
           refine hK11 _ ?_
           try clear hK11 K11
           refine vwp_cond (by first | rfl | (simp; rfl)) (fun h4 => ?_) fun h4 => ?_
           · simp -failIfUnchanged at h4; all_goals
            refine vwp_seq_k fun K14 hK14 => ?_
            simp_all
           · simp -failIfUnchanged at h4; all_goals
            refine vwp_skip ?_
            refine hK9 _ ?_
            try clear hK9 K9
            have w1 : IntKind.i64.wrap ((i : Int) + 1) = i + 1 := w64 (by omega) (by omega)
            refine vwp_live [1, 2, 3, 7, 8, 9] (vwp_region hT ?_)
            simp [w1]
            exact hK6 (i + 1) _ (Gh.to_k [1, 2, 3, 7, 8, 9] [0] (he := by simp [hn1, hn2])) (by omega) (by omega)
     · have hn1 : leastP (ownL (x.ss.take (i + 1)) ow) t = leastP L t := by rw [htk, leastP_snoc, if_neg (by rintro ⟨q, _⟩; exact hc2 q)]
       have hn2 : hasT (ownL (x.ss.take (i + 1)) ow) t = hasT L t := by rw [htk, hasT_snoc]; simp [hc2]
       refine vwp_live [1, 2, 3, 7, 8, 9, 10] (vwp_region hT ?_)
       simp [hc1, hc2]
       refine hK11 _ ?_
       try clear hK11 K11
       refine vwp_cond (by first | rfl | (simp; rfl)) (fun h5 => ?_) fun h5 => ?_
       · simp -failIfUnchanged at h5; all_goals
        refine vwp_seq_k fun K15 hK15 => ?_
        simp_all
       · simp -failIfUnchanged at h5; all_goals
        refine vwp_skip ?_
        refine hK9 _ ?_
        try clear hK9 K9
        have w1 : IntKind.i64.wrap ((i : Int) + 1) = i + 1 := w64 (by omega) (by omega)
        refine vwp_live [1, 2, 3, 7, 8, 9] (vwp_region hT ?_)
        simp [w1]
        exact hK6 (i + 1) _ (Gh.to_k [1, 2, 3, 7, 8, 9] [0] (he := by simp [hn1, hn2])) (by omega) (by omega)
   · rw [if_neg hc1, List.append_nil] at htk
     have hn1 : leastP (ownL (x.ss.take (i + 1)) ow) t = leastP L t := by rw [htk]
     have hn2 : hasT (ownL (x.ss.take (i + 1)) ow) t = hasT L t := by rw [htk]
     refine vwp_live [1, 2, 3, 7, 8, 9, 10] (vwp_region hT ?_)
     simp [hc1]
     refine hK11 _ ?_
     try clear hK11 K11
     refine vwp_cond (by first | rfl | (simp; rfl)) (fun h6 => ?_) fun h6 => ?_
     · simp -failIfUnchanged at h6; all_goals
      refine vwp_seq_k fun K16 hK16 => ?_
      simp_all
     · simp -failIfUnchanged at h6; all_goals
      refine vwp_skip ?_
      refine hK9 _ ?_
      try clear hK9 K9
      have w1 : IntKind.i64.wrap ((i : Int) + 1) = i + 1 := w64 (by omega) (by omega)
      refine vwp_live [1, 2, 3, 7, 8, 9] (vwp_region hT ?_)
      simp [w1]
      exact hK6 (i + 1) _ (Gh.to_k [1, 2, 3, 7, 8, 9] [0] (he := by simp [hn1, hn2])) (by omega) (by omega)
  · simp -failIfUnchanged at h1; all_goals
   refine vwp_exit ?_
   simp only [inBlk, thenQ, if_true]
   refine hK4 _ ?_
   try clear hK4 K4
   refine vwp_sq [7] fun K17 hK17 => vwp_region hT ?_
   simp
   refine hK17 _ ?_
   try clear hK17 K17
   refine vwp_ret (hR _ _ ?_)
   obtain rfl : i = x.ss.length := by omega
   rw [List.take_length] at hL
   rw [← hL]
   exact ret_k [6] [] ([]) (.int .i64 (leastP L t)) (⟨rfl, rfl⟩)
end Go.Proofs.Ytmpakfpmmkfgpaa
