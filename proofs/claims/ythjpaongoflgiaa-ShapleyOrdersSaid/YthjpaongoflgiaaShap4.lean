/- What the document tells of some orders: the same. -/
import Derived.Test.YthjpaongoflgiaaShap3
namespace Go.Proofs.Ythjpaongoflgiaa
open Go Go.VX Go.RowKit
set_option linter.unusedVariables false
set_option linter.unusedSimpArgs false
set_option maxHeartbeats 20000000
set_option maxRecDepth 100000
theorem sorted_eq : ∀ {a b : List Int}, a.Pairwise (· ≤ ·) → b.Pairwise (· ≤ ·) → a.Perm b → a = b
  | [], b, _, _, h => (List.nil_perm.1 h).symm ▸ rfl
  | x :: a, [], _, _, h => by simpa using h.length_eq
  | x :: a, y :: b, ha, hb, h => by
    obtain ⟨ha1, ha2⟩ := List.pairwise_cons.1 ha
    obtain ⟨hb1, hb2⟩ := List.pairwise_cons.1 hb
    have h1 : y ≤ x := by
      rcases List.mem_cons.1 (h.mem_iff.1 List.mem_cons_self) with e | e
      · omega
      · exact hb1 x e
    have h2 : x ≤ y := by
      rcases List.mem_cons.1 (h.mem_iff.2 List.mem_cons_self) with e | e
      · omega
      · exact ha1 y e
    have e : x = y := by omega
    subst e
    rw [sorted_eq ha2 hb2 (List.Perm.cons_inv h)]
theorem rangeI_sorted (m : Nat) : (rangeI m).Pairwise (· ≤ ·) := by
  unfold rangeI
  rw [List.pairwise_map]
  exact (List.pairwise_lt_range (n := m)).imp fun h => by omega
theorem srt_sorted (l : List Int) : (srt l).Pairwise (· ≤ ·) := by
  have := List.pairwise_mergeSort (le := fun (x y : Int) => decide (x ≤ y)) (by simp; omega) (by simp; omega) l
  exact this.imp fun h => by simpa using h
theorem isB_of_perm {m : Nat} {l : List Int} (h : l.Perm (rangeI m)) : isB (m : Int) l = true := by
  have e : srt l = rangeI m := sorted_eq (srt_sorted l) (rangeI_sorted m) ((List.mergeSort_perm l _).trans h)
  have hl : l.length = m := by rw [h.length_eq, rangeI_len]
  simp only [isB, e, Bool.and_eq_true, beq_iff_eq]
  refine ⟨upB_true fun j hj => ?_, by omega⟩
  rw [rangeI_len] at hj
  simp [rangeI, hj]
theorem mem_rangeI {q m : Nat} (h : q < m) : (q : Int) ∈ rangeI m := List.mem_map.2 ⟨q, List.mem_range.2 h, rfl⟩
theorem one_rangeI {m : Nat} (x : Int) : List.count x (rangeI m) ≤ 1 := by
  first | exact List.nodup_iff_count.1 rangeI_nodup x | exact List.nodup_iff_count.1 rangeI_nodup
def lowB (m : Nat) (x : Int) : Bool := decide (0 ≤ x) && decide (x < m)
theorem low_count {l : List Int} : ∀ m : Nat, (∀ i, i < m → cnt l (i : Int) = 1) → l.countP (lowB m) = m
  | 0, _ => by
    rw [List.countP_eq_zero]
    intro x _
    simp [lowB]
  | m + 1, h => by
    have ih := low_count m fun i hi => h i (by omega)
    have h1 := h m (by omega)
    have : ∀ l : List Int, l.countP (lowB (m + 1)) = l.countP (lowB m) + cnt l (m : Int) := by
      intro l
      induction l with
      | nil => rfl
      | cons x l ih =>
        simp only [cnt, List.countP_cons] at ih ⊢
        rw [ih]
        have : (if lowB (m + 1) x = true then 1 else 0) = (if lowB m x = true then 1 else 0) + (if (x == (m : Int)) = true then 1 else 0) := by
          simp only [lowB, Bool.and_eq_true, decide_eq_true_eq, beq_iff_eq]
          split <;> split <;> split <;> omega
        omega
    rw [this, ih, h1]
theorem fine_eq {m : Nat} {l : List Int} : ((List.range m).all (fun i => cnt l (i : Int) == 1) && ((l.length : Int) == m)) = isB (m : Int) l := by
  cases hb : isB (m : Int) l with
  | true =>
    obtain ⟨h1, h2⟩ := isB_perm hb
    simp only [Bool.and_eq_true, List.all_eq_true, List.mem_range, beq_iff_eq]
    refine ⟨fun i hi => ?_, by omega⟩
    have : cnt l (i : Int) = cnt (rangeI m) (i : Int) := h2.countP_eq _
    rw [this]
    have h3 : (i : Int) ∈ rangeI m := mem_rangeI hi
    have h := one_rangeI (m := m) (i : Int)
    have h4 : 0 < List.count (i : Int) (rangeI m) := List.count_pos_iff.2 h3
    have h5 : cnt (rangeI m) (i : Int) = List.count (i : Int) (rangeI m) := rfl
    omega
  | false =>
    cases hf : ((List.range m).all (fun i => cnt l (i : Int) == 1) && ((l.length : Int) == m)) with
    | false => rfl
    | true =>
      simp only [Bool.and_eq_true, List.all_eq_true, List.mem_range, beq_iff_eq] at hf
      obtain ⟨h1, h2⟩ := hf
      have h3 := low_count (l := l) m h1
      have h4 : l.countP (lowB m) = l.length := by omega
      rw [List.countP_eq_length] at h4
      have hp : l.Perm (rangeI m) := by
        rw [List.perm_iff_count]
        intro a
        have e1 : List.count a l = cnt l a := rfl
        by_cases ha : lowB m a = true
        · simp only [lowB, Bool.and_eq_true, decide_eq_true_eq] at ha
          obtain ⟨q, rfl⟩ := Int.eq_ofNat_of_zero_le ha.1
          rw [e1, h1 q (by omega)]
          have h6 : 0 < List.count (q : Int) (rangeI m) := List.count_pos_iff.2 (mem_rangeI (by omega))
          have h7 := one_rangeI (m := m) (q : Int)
          omega
        · rw [List.count_eq_zero_of_not_mem (fun hm => ha (h4 a hm)), List.count_eq_zero_of_not_mem]
          intro hm
          simp only [rangeI, List.mem_map, List.mem_range] at hm
          obtain ⟨q, h8, rfl⟩ := hm
          exact ha (by simp [lowB]; omega)
      rw [isB_of_perm hp] at hb
      cases hb

theorem fold_bound {m : Nat} {g l out : List Int} {i : Nat} (hgl : g.length = p2 m) (hgb : ∀ (j : Nat) y, g[j]? = some y → -1099511627776 ≤ y ∧ y ≤ 1099511627776) (hbl : isB (m : Int) l = true) (hol : out.length = m)
    (hb : ∀ (j : Nat) v, out[j]? = some v → -((i : Int) * 13194139533312) ≤ v ∧ v ≤ (i : Int) * 13194139533312) : ∀ k, k ≤ l.length →
    ((l.take k).foldl (stp g) (0, out)).1 < p2 m ∧ ((l.take k).foldl (stp g) (0, out)).2.length = m ∧ ∀ (j : Nat) v, ((l.take k).foldl (stp g) (0, out)).2[j]? = some v → -((i : Int) * 13194139533312 + (k : Int) * 2199023255552) ≤ v ∧ v ≤ (i : Int) * 13194139533312 + (k : Int) * 2199023255552
  | 0, _ => ⟨p2_pos m, hol, fun j v h => by have := hb j v h; omega⟩
  | k + 1, hk => by
    obtain ⟨hc, ho, hv⟩ := fold_bound hgl hgb hbl hol hb k (by omega)
    obtain ⟨p, hp⟩ := getI (l := l) (i := k) (by omega)
    obtain ⟨q, rfl, hq⟩ := isB_mem hbl (List.mem_of_getElem? hp)
    rw [take_foldl hp]
    obtain ⟨s, hs⟩ : ∃ s, s = (l.take k).foldl (stp g) (0, out) := ⟨_, rfl⟩
    rw [← hs] at hc ho hv ⊢
    have hor := or_lt hc hq
    obtain ⟨v, hvv⟩ := getI (l := s.2) (i := q) (by omega)
    obtain ⟨a, ha⟩ := getI (l := g) (i := s.1 ||| p2 q) (by omega)
    obtain ⟨b, hbb⟩ := getI (l := g) (i := s.1) (by omega)
    have hga := hgb _ a ha
    have hgb2 := hgb _ b hbb
    have hv2 := hv q v hvv
    simp only [stp, Int.toNat_natCast, getD_of hvv, getD_of ha, getD_of hbb]
    refine ⟨hor, by simpa using ho, fun j z hz => ?_⟩
    rw [List.getElem?_set] at hz
    split at hz
    · split at hz
      · cases hz; omega
      · cases hz
    · have := hv j z hz; omega
theorem oneO_bound {m : Nat} {g l out : List Int} {i : Nat} (hm6 : m ≤ 6) (hgl : g.length = p2 m) (hgb : ∀ (j : Nat) y, g[j]? = some y → -1099511627776 ≤ y ∧ y ≤ 1099511627776) (hbl : isB (m : Int) l = true) (hol : out.length = m)
    (hb : ∀ (j : Nat) v, out[j]? = some v → -((i : Int) * 13194139533312) ≤ v ∧ v ≤ (i : Int) * 13194139533312) :
    (oneO g out l).length = m ∧ ∀ (j : Nat) v, (oneO g out l)[j]? = some v → -((i : Int) * 13194139533312 + 13194139533312) ≤ v ∧ v ≤ (i : Int) * 13194139533312 + 13194139533312 := by
  obtain ⟨_, h2, h3⟩ := fold_bound hgl hgb hbl hol hb l.length (Nat.le_refl _)
  rw [List.take_length] at h2 h3
  have hlm := (isB_perm hbl).1
  exact ⟨h2, fun j v h => by have := h3 j v h; omega⟩
theorem rsamp_spec (n : Int) (g : List Int) (os : List (List Int)) (hl : g.length < 1099511627776) (ho : os.length < 1099511627776) (hos : ∀ l ∈ os, l.length < 1099511627776) : VC P 24 [.int .i64 n, sI g, sLL os] [] (fun r ob' => (sampE n g os ≠ 0 ∧ r = .tup [.nils, .int .i64 0, .int .i64 (sampE n g os)] ∧ ob' = []) ∨ (sampE n g os = 0 ∧ r = .tup [.sl 0 n.toNat 1 0 n.toNat, .int .i64 os.length, .int .i64 0] ∧ ob' = [.live ((sampL n.toNat g os).map (.int .i64))])) := by
  refine VC_of_vwp_k ent_24 Try.func24 rfl (by simp) fun R hR => ?_
  refine vwp_sq [0, 1, 2] fun K1 hK1 => vwp_region hT ?_
  simp
  refine hK1 _ ?_
  try clear hK1 K1
  refine vwp_seq_k fun K2 hK2 => ?_
  refine vwp_sq [0, 1, 2] fun K3 hK3 => vwp_region hT ?_
  simp
  refine vcall_k [] (rmay_spec n g hl) ?_
  rintro r ob' ⟨rfl, rfl⟩
  simp
  refine hK3 _ ?_
  try clear hK3 K3
  refine vwp_cond (by first | rfl | (simp; rfl)) (fun h1 => ?_) fun h1 => ?_
  · simp -failIfUnchanged at h1; all_goals
   have hm0 : mayB n g = false := by simpa using h1
   refine vwp_sq [] fun K4 hK4 => vwp_region hT ?_
   simp
   refine hK4 _ ?_
   try clear hK4 K4
   refine vwp_ret (hR _ _ ?_)
   have e := sampE_1 (os := os) hm0
   exact ret_k [6, 7, 8] [] ([]) (.tup [.nils, .int .i64 0, .int .i64 (sampE n g os)]) (.inl ⟨by simp [e], rfl, rfl⟩) (hr := by simp [e])
  · simp -failIfUnchanged at h1; all_goals
   have hm0 : mayB n g = true := by simpa using h1
   obtain ⟨m, rfl, hm6, hgl, hgb⟩ := mayB_m hm0
   refine vwp_skip ?_
   refine hK2 _ ?_
   try clear hK2 K2
   refine vwp_seq_k fun K5 hK5 => ?_
   refine vwp_sq [0, 1, 2] fun K6 hK6 => vwp_region hT ?_
   simp
   refine hK6 _ ?_
   try clear hK6 K6
   refine vwp_cond (by first | rfl | (simp; rfl)) (fun h2 => ?_) fun h2 => ?_
   · simp -failIfUnchanged at h2; all_goals
    have hq : os = [] ∨ 1000 < os.length := by
      rcases h2 with h | h
      · exact .inl (List.length_eq_zero_iff.1 (by omega))
      · exact .inr (by omega)
    refine vwp_sq [] fun K7 hK7 => vwp_region hT ?_
    simp
    refine hK7 _ ?_
    try clear hK7 K7
    refine vwp_ret (hR _ _ ?_)
    have e := sampE_2 hm0 hq
    exact ret_k [6, 7, 8] [] ([]) (.tup [.nils, .int .i64 0, .int .i64 (sampE (m : Int) g os)]) (.inl ⟨by simp [e], rfl, rfl⟩) (hr := by simp [e])
   · simp -failIfUnchanged at h2; all_goals
    have hq : ¬ (os = [] ∨ 1000 < os.length) := by
      rintro (h | h)
      · subst h; simp at h2
      · omega
    refine vwp_skip ?_
    refine hK5 _ ?_
    try clear hK5 K5
    refine vwp_sq [0, 1, 2] fun K8 hK8 => vwp_region hT ?_
    simp
    repeat refine ⟨by first | assumption | omega | (intros; omega), ?_⟩
    refine hK8 _ ?_
    try clear hK8 K8
    refine vwp_seq_k fun K9 hK9 => ?_
    refine vwp_sq [0, 1, 2, 9] fun K10 hK10 => vwp_region hT ?_
    simp
    refine hK10 _ ?_
    try clear hK10 K10
    refine vwp_block ?_
    refine vwp_loop_s (fun x : Nat × List Int => ⟨[(0, .int .i64 m), (1, sI g), (2, sLL os), (9, .sl 0 m 1 0 m), (10, .int .i64 (x.1 : Int))], [.live (x.2.map (.int .i64))]⟩) (fun x => x.1 ≤ os.length ∧ x.2 = sampL m g (os.take x.1) ∧ x.2.length = m ∧ (∀ l ∈ os.take x.1, isB (m : Int) l = true) ∧ ∀ (j : Nat) v, x.2[j]? = some v → -((x.1 : Int) * 13194139533312) ≤ v ∧ v ≤ (x.1 : Int) * 13194139533312) (fun x => os.length - x.1) ((0, List.replicate m 0)) (Gh.to_k [0, 1, 2, 9, 10] [0] (hh := by simp)) (⟨by simp, by simp [sampL], by simp, by simp, fun j v h => by
      rw [List.getElem?_replicate] at h
      split at h
      · cases h; simp
      · cases h⟩) ?_
    rintro ⟨i, out⟩ ⟨hi, hS, hol, hall, hb⟩
    dsimp only at hi hS hol hall hb ⊢
    intro K11 hK11
    refine vwp_seq_k fun K12 hK12 => ?_
    refine vwp_sq [0, 1, 2, 9, 10] fun K13 hK13 => vwp_region hT ?_
    simp
    refine hK13 _ ?_
    try clear hK13 K13
    refine vwp_cond (by first | rfl | (simp; rfl)) (fun h3 => ?_) fun h3 => ?_
    · simp -failIfUnchanged at h3; all_goals
     refine vwp_skip ?_
     refine hK12 _ ?_
     try clear hK12 K12
     refine vwp_seq_k fun K14 hK14 => ?_
     refine vwp_block ?_
     refine vwp_seq_k fun K15 hK15 => ?_
     obtain ⟨l, hlx⟩ := getI (l := os) (i := i) (by omega)
     refine vwp_sq [0, 1, 2, 9, 10] fun K16 hK16 => vwp_region hT ?_
     simp [hlx]
     repeat refine ⟨by first | assumption | omega | (intros; omega), ?_⟩
     refine vcall_k [] (fine_spec m l hm6 (hos l (List.mem_of_getElem? hlx))) ?_
     rintro r ob' ⟨rfl, rfl⟩
     simp [hlx]
     repeat refine ⟨by first | assumption | omega | (intros; omega), ?_⟩
     refine hK16 _ ?_
     try clear hK16 K16
     refine vwp_cond (by first | rfl | (simp; rfl)) (fun h4 => ?_) fun h4 => ?_
     · simp -failIfUnchanged at h4; all_goals
      have hbl : isB (m : Int) l = false := by
        cases hq9 : isB (m : Int) l with
        | false => rfl
        | true =>
          rw [← fine_eq] at hq9
          simp at hq9
          rcases h4 with ⟨x, h5, h6⟩ | h5
          · exact absurd (hq9.1 x h5) h6
          · exact absurd hq9.2 h5
      refine vwp_sq [] fun K17 hK17 => vwp_region hT ?_
      simp
      refine hK17 _ ?_
      try clear hK17 K17
      refine vwp_ret (hR _ _ ?_)
      have e := sampE_3 hm0 hq (List.mem_of_getElem? hlx) hbl
      exact ret_k [6, 7, 8] [] ([]) (.tup [.nils, .int .i64 0, .int .i64 (sampE (m : Int) g os)]) (.inl ⟨by simp [e], rfl, rfl⟩) (hr := by simp [e])
     · simp -failIfUnchanged at h4; all_goals
      have hbl : isB (m : Int) l = true := by rw [← fine_eq]; simpa using h4
      have hos1 : i ≤ 1000 := by
        rcases Nat.lt_or_ge 1000 os.length with h | h
        · exact absurd (.inr h) hq
        · omega
      have hone := oneO_bound hm6 hgl hgb hbl hol hb
      refine vwp_skip ?_
      refine hK15 _ ?_
      try clear hK15 K15
      refine vwp_live [0, 1, 2, 9, 10] (vwp_region hT ?_)
      simp [hlx]
      repeat refine ⟨by first | assumption | omega | (intros; omega), ?_⟩
      refine vcall_k [0] (oadd_spec m g l out i hm6 hgl hgb hbl hos1 hol hb) ?_
      rintro r ob' ⟨rfl, rfl⟩
      simp [hlx]
      repeat refine ⟨by first | assumption | omega | (intros; omega), ?_⟩
      refine hK14 _ ?_
      try clear hK14 K14
      have w1 : IntKind.i64.wrap ((i : Int) + 1) = i + 1 := w64 (by omega) (by omega)
      refine vwp_live [0, 1, 2, 9, 10] (vwp_region hT ?_)
      simp [w1]
      exact hK11 ((i + 1, oneO g out l)) _ (Gh.to_k [0, 1, 2, 9, 10] [1]) (⟨by dsimp only; omega, by
          dsimp only
          rw [sampL, take_foldl hlx, hS]; rfl, hone.1, fun l2 hl2 => by
          dsimp only at hl2
          rw [List.take_add_one, hlx] at hl2
          rcases List.mem_append.1 hl2 with h | h
          · exact hall l2 h
          · simp at h; subst h; exact hbl, fun j z hz => by
          have := hone.2 j z hz
          dsimp only
          omega⟩) (by dsimp only; omega)
    · simp -failIfUnchanged at h3; all_goals
     refine vwp_exit ?_
     simp only [inBlk, thenQ, if_true]
     refine hK9 _ ?_
     try clear hK9 K9
     refine vwp_sq [2, 9] fun K18 hK18 => vwp_region hT ?_
     simp
     refine hK18 _ ?_
     try clear hK18 K18
     refine vwp_ret (hR _ _ ?_)
     have e : i = os.length := by omega
     subst e
     rw [List.take_length] at hS hall
     subst hS
     have e0 := sampE_0 hm0 hq hall
     exact ret_k [6, 7, 8] [0] ([.live ((sampL m g os).map (.int .i64))]) (.tup [.sl 0 m 1 0 m, .int .i64 os.length, .int .i64 0]) (.inr ⟨e0, by simp, by simp⟩)
end Go.Proofs.Ythjpaongoflgiaa
