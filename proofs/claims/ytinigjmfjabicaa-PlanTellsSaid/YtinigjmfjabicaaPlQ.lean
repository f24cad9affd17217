/- Searching, sorting, what comes twice: the walk. -/
import Derived.Test.YtinigjmfjabicaaPlP
import Derived.Test.YtinigjmfjabicaaVXc
namespace Go.Proofs.Ytinigjmfjabicaa
open Go Go.VX Go.RowKit
set_option linter.unusedVariables false
set_option linter.unusedSimpArgs false
set_option maxHeartbeats 20000000
set_option maxRecDepth 100000

theorem sorted_get {L : List Int} (hs : L.Pairwise (· ≤ ·)) {i j : Nat} {a b : Int} (ha : L[i]? = some a) (hb : L[j]? = some b) (h : i ≤ j) : a ≤ b := by
  rcases Nat.lt_or_ge i j with q | q
  · obtain ⟨h1, e1⟩ := List.getElem?_eq_some_iff.1 ha
    obtain ⟨h2, e2⟩ := List.getElem?_eq_some_iff.1 hb
    have := List.pairwise_iff_getElem.1 hs i j h1 h2 q
    rw [e1, e2] at this; exact this
  · obtain rfl : i = j := by omega
    rw [ha] at hb; cases hb; exact Int.le_refl _
theorem fdiv2 (n : Nat) : ((n : Int)).fdiv 2 = ((n / 2 : Nat) : Int) := by
  rw [Int.fdiv_eq_ediv_of_nonneg _ (by omega)]; exact (Int.natCast_ediv n 2).symm
theorem bsearch_spec (L : List Int) (hL : L.length < 1099511627776) (hs : L.Pairwise (· ≤ ·)) (x : Int) : VC P 63 [sI L, .int .i64 x] [] (fun r ob' => ∃ i : Int, r = .tup [.int .i64 i, .bool (hasB L x)] ∧ ob' = []) := by
  refine VC_of_vwp_k ent_63 Try.func63 rfl (by simp) fun R hR => ?_
  refine vwp_sq [0, 1] fun K1 hK1 => vwp_region hT ?_
  simp
  refine hK1 _ ?_
  try clear hK1 K1
  refine vwp_sq [0, 1] fun K2 hK2 => vwp_region hT ?_
  simp
  refine hK2 _ ?_
  try clear hK2 K2
  refine vwp_sq [0, 1, 6] fun K3 hK3 => vwp_region hT ?_
  simp
  refine hK3 _ ?_
  try clear hK3 K3
  refine vwp_seq_k fun K4 hK4 => ?_
  refine vwp_block ?_
  refine vwp_loop_s (fun u : Nat × Nat => ⟨[(0, sI L), (1, .int .i64 x), (6, .int .i64 L.length), (7, .int .i64 (u.1 : Int)), (8, .int .i64 (u.2 : Int))], []⟩) (fun u => u.1 ≤ u.2 ∧ u.2 ≤ L.length ∧ (∀ (k : Nat) y, k < u.1 → L[k]? = some y → y < x) ∧ (∀ (k : Nat) y, u.2 ≤ k → L[k]? = some y → x ≤ y)) (fun u => u.2 - u.1) ((0, L.length)) (Gh.to_k [0, 1, 6, 7, 8] []) (⟨by simp, by simp, fun k y hk _ => by omega, fun k y hk hy => by have := (List.getElem?_eq_some_iff.1 hy).1; dsimp only at hk; omega⟩) ?_
  rintro ⟨i, j⟩ ⟨hij, hj, hlo, hhi⟩
  dsimp only at hij hj hlo hhi ⊢
  intro K5 hK5
  refine vwp_seq_k fun K6 hK6 => ?_
  refine vwp_sq [0, 1, 6, 7, 8] fun K7 hK7 => vwp_region hT ?_
  simp
  refine hK7 _ ?_
  try clear hK7 K7
  refine vwp_cond (by first | rfl | (simp; rfl)) (fun h1 => ?_) fun h1 => ?_
  · simp -failIfUnchanged at h1; all_goals
   refine vwp_skip ?_
   refine hK6 _ ?_
   try clear hK6 K6
   refine vwp_block ?_
   obtain ⟨h, hh⟩ : ∃ h, h = (i + j) / 2 := ⟨_, rfl⟩
   have hh2 : i ≤ h ∧ h < j := by omega
   have w2 : IntKind.i64.wrap ((i : Int) + j) = ((i + j : Nat) : Int) := (w64 (by omega) (by omega)).trans (by omega)
   have w3 : IntKind.u64.wrap ((i + j : Nat) : Int) = ((i + j : Nat) : Int) := by
     obtain ⟨s, hs2⟩ : ∃ s, s = i + j := ⟨_, rfl⟩
     rw [← hs2]
     simp only [IntKind.wrap, IntKind.bits, IntKind.signed]
     simp
     omega
   have w4 : (((i + j : Nat) : Int)).fdiv 2 = (h : Int) := by rw [fdiv2, ← hh]
   have w5 : IntKind.i64.wrap (h : Int) = (h : Int) := w64 (by omega) (by omega)
   obtain ⟨y, hy⟩ := getI (l := L) (i := h) (by omega)
   obtain ⟨s, hs2⟩ : ∃ s, s = i + j := ⟨_, rfl⟩
   rw [← hs2] at w2 w3 w4
   refine vwp_sq [0, 1, 6, 7, 8] fun K8 hK8 => vwp_region hT ?_
   simp [w2, w3, w4, w5]
   repeat refine ⟨by first | assumption | omega | (intros; omega), ?_⟩
   refine hK8 _ ?_
   try clear hK8 K8
   refine vwp_sq [0, 1, 6, 7, 8, 9] fun K9 hK9 => vwp_region hT ?_
   simp [hy]
   repeat refine ⟨by first | assumption | omega | (intros; omega), ?_⟩
   refine vcall_k [] (less_spec y x) ?_
   rintro r ob' ⟨rfl, rfl⟩
   simp [hy]
   repeat refine ⟨by first | assumption | omega | (intros; omega), ?_⟩
   refine hK9 _ ?_
   try clear hK9 K9
   refine vwp_cond (by first | rfl | (simp; rfl)) (fun h2 => ?_) fun h2 => ?_
   · simp -failIfUnchanged at h2; all_goals
    have q := h2
    have hyx : y < x := by simpa using q
    have w6 : IntKind.i64.wrap ((h : Int) + 1) = ((h + 1 : Nat) : Int) := (w64 (by omega) (by omega)).trans (by omega)
    refine vwp_live [0, 1, 6, 8, 9] (vwp_region hT ?_)
    simp [w6]
    exact hK5 (h + 1, j) _ (Gh.to_k [0, 1, 6, 7, 8] []) ⟨by dsimp only; omega, hj, fun k z hk hz => by have := sorted_get hs hz hy (by dsimp only at hk; omega); omega, hhi⟩ (by dsimp only; omega)
   · simp -failIfUnchanged at h2; all_goals
    have q := h2
    have hyx : x ≤ y := by simpa using q
    refine vwp_live [0, 1, 6, 7, 9] (vwp_region hT ?_)
    simp
    exact hK5 (i, h) _ (Gh.to_k [0, 1, 6, 7, 8] []) ⟨by dsimp only; omega, by dsimp only; omega, hlo, fun k z hk hz => by have := sorted_get hs hy hz hk; omega⟩ (by dsimp only; omega)
  · simp -failIfUnchanged at h1; all_goals
   refine vwp_exit ?_
   simp only [inBlk, thenQ, if_true]
   refine hK4 _ ?_
   try clear hK4 K4
   refine vwp_seq_k fun K10 hK10 => ?_
   obtain rfl : i = j := by omega
   have hno : ∀ (k : Nat) y, L[k]? = some y → k ≠ i → y ≠ x ∨ ∃ y0, L[i]? = some y0 ∧ x ≤ y0 ∧ y0 ≤ y := by
     intro k y hy hk
     rcases Nat.lt_or_ge k i with q | q
     · have := hlo k y q hy; exact .inl (by omega)
     · have hlt := (List.getElem?_eq_some_iff.1 hy).1
       obtain ⟨y0, h0⟩ := getI (l := L) (i := i) (by omega)
       exact .inr ⟨y0, h0, hhi i y0 (by omega) h0, sorted_get hs h0 hy q⟩
   rcases Nat.lt_or_ge i L.length with hi | hi
   · obtain ⟨y, hy⟩ := getI hi
     have hxy := hhi i y (by omega) hy
     have hB : hasB L x = decide (y = x) := by
       rw [Bool.eq_iff_iff, hasB_mem, decide_eq_true_eq]
       constructor
       · intro hm1
         obtain ⟨k, hk⟩ := List.mem_iff_getElem?.1 hm1
         by_cases e : k = i
         · subst e; rw [hk] at hy; cases hy; rfl
         · rcases hno k x hk e with h | ⟨y0, h0, h1, h2⟩
           · exact absurd rfl h
           · rw [hy] at h0; cases h0; omega
       · rintro rfl; exact List.mem_of_getElem? hy
     by_cases hyx : y = x
     · have hLi : L[i] = y := (List.getElem?_eq_some_iff.1 hy).2
       have hB2 : hasB L x = true := by rw [hB]; simpa using hyx
       refine vwp_live [0, 1, 6, 7] (vwp_regionG hT ?_)
       simp [hi, hLi, hyx]
       repeat refine ⟨by first | assumption | omega | (intros; omega), ?_⟩
       refine hK10 _ ?_
       try clear hK10 K10
       refine vwp_ret (hR _ _ ?_)
       rw [hB2]
       exact ret_k [4, 5] [] ([]) (.tup [.int .i64 (i : Int), .bool true]) (⟨_, rfl, rfl⟩)
     · have hLi : L[i] = y := (List.getElem?_eq_some_iff.1 hy).2
       have hB2 : hasB L x = false := by rw [hB]; simpa using hyx
       refine vwp_live [0, 1, 6, 7] (vwp_regionG hT ?_)
       simp [hi, hLi, hyx]
       repeat refine ⟨by first | assumption | omega | (intros; omega), ?_⟩
       refine vcall_k [] (isNaNs_spec y) ?_
       rintro r ob' ⟨rfl, rfl⟩
       simp [hi, hLi, hyx]
       repeat refine ⟨by first | assumption | omega | (intros; omega), ?_⟩
       refine hK10 _ ?_
       try clear hK10 K10
       refine vwp_ret (hR _ _ ?_)
       rw [hB2]
       exact ret_k [4, 5] [] ([]) (.tup [.int .i64 (i : Int), .bool false]) (⟨_, rfl, rfl⟩)
   · have hB : hasB L x = false := by
       rw [← Bool.not_eq_true]
       intro hm1
       obtain ⟨k, hk⟩ := List.mem_iff_getElem?.1 (hasB_mem.1 hm1)
       have hlt := (List.getElem?_eq_some_iff.1 hk).1
       have := hlo k x (by omega) hk
       omega
     have hi2 : ¬ i < L.length := by omega
     refine vwp_live [0, 1, 6, 7] (vwp_regionG hT ?_)
     simp [hi2]
     repeat refine ⟨by first | assumption | omega | (intros; omega), ?_⟩
     refine hK10 _ ?_
     try clear hK10 K10
     refine vwp_ret (hR _ _ ?_)
     rw [hB]
     exact ret_k [4, 5] [] ([]) (.tup [.int .i64 (i : Int), .bool false]) (⟨_, rfl, rfl⟩)
theorem twice_spec (l : List Int) (hl : l.length < 1099511627776) : VC P 58 [sI l] [] (fun r ob' => r = .bool (dupB l) ∧ ob' = []) := by
  refine VC_of_vwp_k ent_58 Try.func58 rfl (by simp) fun R hR => ?_
  refine vwp_sq [0] fun K1 hK1 => vwp_region hT ?_
  simp
  refine hK1 _ ?_
  try clear hK1 K1
  refine vwp_sq [0] fun K2 hK2 => vwp_region hT ?_
  simp
  refine vcall_k [] (values_spec l) ?_
  rintro r ob' ⟨rfl, rfl⟩
  simp
  refine vcall_k [0] (sorted_spec l hl) ?_
  rintro r ob' ⟨rfl, rfl⟩
  simp
  refine hK2 _ ?_
  try clear hK2 K2
  have hsl := srt_len l
  obtain ⟨S, hS⟩ : ∃ S, S = srt l := ⟨_, rfl⟩
  have hadj := adjB_srt l
  rw [← hS] at hsl hadj ⊢
  rw [← hsl]
  refine vwp_sq [0] fun K3 hK3 => vwp_region hT ?_
  simp
  refine vcall_z [] (clone_spec S (by omega)) (by rintro r ob' ⟨rfl, rfl⟩; simp) ?_
  rintro r ob' ⟨rfl, rfl⟩
  simp
  refine vcall_k [2] (compact_spec S (by omega)) ?_
  rintro r ob' ⟨m, cs, rfl, rfl, hcl, hm2⟩
  simp
  refine ⟨hcl, ?_⟩
  refine hK3 _ ?_
  try clear hK3 K3
  refine vwp_ret (hR _ _ ?_)
  exact ret_k [2] [] ([]) (.bool (dupB l)) (⟨rfl, rfl⟩) (hr := by simp; rw [Bool.eq_iff_iff, decide_eq_true_eq, hm2, hadj])
end Go.Proofs.Ytinigjmfjabicaa
