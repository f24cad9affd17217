/- Which games may be, and what orders are, by shapley and by the document. -/
import Derived.Test.YthjpaongoflgiaaShap0
namespace Go.Proofs.Ythjpaongoflgiaa
open Go Go.VX Go.RowKit
set_option linter.unusedVariables false
set_option linter.unusedSimpArgs false
set_option maxHeartbeats 20000000
set_option maxRecDepth 100000

theorem shl1 {m : Nat} (h : m ≤ 6) : IntKind.i64.wrap (2 ^ m) = (p2 m : Int) := by
  have : m = 0 ∨ m = 1 ∨ m = 2 ∨ m = 3 ∨ m = 4 ∨ m = 5 ∨ m = 6 := by omega
  rcases this with rfl | rfl | rfl | rfl | rfl | rfl | rfl <;> rfl

theorem mayC (n : Int) (g : List Int) : n < 0 ∨ (0 ≤ n ∧ 6 < n) ∨ (∃ m : Nat, n = m ∧ m ≤ 6 ∧ g.length ≠ p2 m) ∨ (∃ (m : Nat) (x : Int), n = m ∧ m ≤ 6 ∧ g.length = p2 m ∧ g[0]? = some x ∧ x ≠ 0) ∨ (∃ m : Nat, n = m ∧ m ≤ 6 ∧ g.length = p2 m ∧ g[0]? = some 0) := by
  by_cases h1 : n < 0
  · exact .inl h1
  by_cases h2 : 6 < n
  · exact .inr (.inl ⟨by omega, h2⟩)
  obtain ⟨m, rfl⟩ := Int.eq_ofNat_of_zero_le (Int.not_lt.1 h1)
  by_cases h3 : g.length = p2 m
  · obtain ⟨x, hx⟩ := getI (l := g) (i := 0) (by have := p2_pos m; omega)
    by_cases h4 : x = 0
    · exact .inr (.inr (.inr (.inr ⟨m, rfl, by omega, h3, by rw [hx, h4]⟩)))
    · exact .inr (.inr (.inr (.inl ⟨m, x, rfl, by omega, h3, hx, h4⟩)))
  · exact .inr (.inr (.inl ⟨m, rfl, by omega, h3⟩))
theorem w6 {m : Nat} (h : m ≤ 6) : (¬ ((m : Int) < 0)) ∧ (¬ ((6 : Int) < m)) ∧ min m 64 = m := ⟨by omega, by omega, by omega⟩
theorem may_spec (n : Int) (g : List Int) (hl : g.length < 1099511627776) : VC P 41 [.int .i64 n, sI g] [] (fun r ob' => r = .bool (mayB n g) ∧ ob' = []) := by
  refine VC_of_vwp_k ent_41 Try.func41 rfl (by simp) fun R hR => ?_
  refine vwp_sq [0, 1] fun K1 hK1 => vwp_region hT ?_
  simp
  refine hK1 _ ?_
  try clear hK1 K1
  refine vwp_seq_k fun K2 hK2 => ?_
  refine vwp_seq_k fun K3 hK3 => ?_
  rcases mayC n g with hn | ⟨hn, hn6⟩ | ⟨m, rfl, hm6, hgl⟩ | ⟨m, x, rfl, hm6, hgl, hx, hx0⟩ | ⟨m, rfl, hm6, hgl, hx⟩
  · have hn0 : ¬ 0 ≤ n := by omega
    refine vwp_live [0, 1] (vwp_regionI hT ?_)
    simp [hn]
    repeat refine ⟨by first | assumption | omega | (intros; omega), ?_⟩
    refine hK3 _ ?_
    try clear hK3 K3
    refine vwp_cond (by first | rfl | (simp; rfl)) (fun h1 => ?_) fun h1 => ?_
    · simp -failIfUnchanged at h1; all_goals
     refine vwp_sq [] fun K4 hK4 => vwp_region hT ?_
     simp
     refine hK4 _ ?_
     try clear hK4 K4
     refine vwp_ret (hR _ _ ?_)
     exact ret_k [4] [] ([]) (.bool (mayB n g)) (⟨rfl, rfl⟩) (hr := by simp [mayB, hn0])
    · simp -failIfUnchanged at h1; all_goals
     refine vwp_skip ?_
     refine hK2 _ ?_
     try clear hK2 K2
     refine vwp_sq [1] fun K5 hK5 => vwp_region hT ?_
     simp
     refine hK5 _ ?_
     try clear hK5 K5
     refine vwp_ret (hR _ _ ?_)
     exact ret_k [4] [] ([]) (.bool (mayB n g)) (⟨rfl, rfl⟩) (hr := by simp [mayB, hn0])
  · have hn0 : ¬ n < 0 := by omega
    have hn7 : ¬ n ≤ 6 := by omega
    refine vwp_live [0, 1] (vwp_regionI hT ?_)
    simp [hn0, hn6]
    repeat refine ⟨by first | assumption | omega | (intros; omega), ?_⟩
    refine hK3 _ ?_
    try clear hK3 K3
    refine vwp_cond (by first | rfl | (simp; rfl)) (fun h2 => ?_) fun h2 => ?_
    · simp -failIfUnchanged at h2; all_goals
     refine vwp_sq [] fun K6 hK6 => vwp_region hT ?_
     simp
     refine hK6 _ ?_
     try clear hK6 K6
     refine vwp_ret (hR _ _ ?_)
     exact ret_k [4] [] ([]) (.bool (mayB n g)) (⟨rfl, rfl⟩) (hr := by simp [mayB, hn0, hn7])
    · simp -failIfUnchanged at h2; all_goals
     refine vwp_skip ?_
     refine hK2 _ ?_
     try clear hK2 K2
     refine vwp_sq [1] fun K7 hK7 => vwp_region hT ?_
     simp
     refine hK7 _ ?_
     try clear hK7 K7
     refine vwp_ret (hR _ _ ?_)
     exact ret_k [4] [] ([]) (.bool (mayB n g)) (⟨rfl, rfl⟩) (hr := by simp [mayB, hn0, hn7])
  · obtain ⟨k1, k2, k3⟩ := w6 hm6
    have w1 := shl1 hm6
    have w2 : ¬ ((g.length : Int) = p2 m) := by omega
    refine vwp_live [0, 1] (vwp_regionI hT ?_)
    simp [k1, k2, k3, w1, w2]
    repeat refine ⟨by first | assumption | omega | (intros; omega), ?_⟩
    refine hK3 _ ?_
    try clear hK3 K3
    refine vwp_cond (by first | rfl | (simp; rfl)) (fun h3 => ?_) fun h3 => ?_
    · simp -failIfUnchanged at h3; all_goals
     refine vwp_sq [] fun K8 hK8 => vwp_region hT ?_
     simp
     refine hK8 _ ?_
     try clear hK8 K8
     refine vwp_ret (hR _ _ ?_)
     exact ret_k [4] [] ([]) (.bool (mayB (m : Int) g)) (⟨rfl, rfl⟩) (hr := by simp [mayB, hgl])
    · simp -failIfUnchanged at h3; all_goals
     refine vwp_skip ?_
     refine hK2 _ ?_
     try clear hK2 K2
     refine vwp_sq [1] fun K9 hK9 => vwp_region hT ?_
     simp
     refine hK9 _ ?_
     try clear hK9 K9
     refine vwp_ret (hR _ _ ?_)
     exact ret_k [4] [] ([]) (.bool (mayB (m : Int) g)) (⟨rfl, rfl⟩) (hr := by simp [mayB, hgl])
  · obtain ⟨k1, k2, k3⟩ := w6 hm6
    have w1 := shl1 hm6
    have w2 : (g.length : Int) = p2 m := by omega
    have w3 := p2_pos m
    have w4 : 0 < g.length := by omega
    refine vwp_live [0, 1] (vwp_regionI hT ?_)
    simp [k1, k2, k3, w1, w2, w3, w4, hx, hx0]
    repeat refine ⟨by first | assumption | omega | (intros; omega), ?_⟩
    refine hK3 _ ?_
    try clear hK3 K3
    refine vwp_cond (by first | rfl | (simp; rfl)) (fun h4 => ?_) fun h4 => ?_
    · simp -failIfUnchanged at h4; all_goals
     refine vwp_sq [] fun K10 hK10 => vwp_region hT ?_
     simp
     refine hK10 _ ?_
     try clear hK10 K10
     refine vwp_ret (hR _ _ ?_)
     exact ret_k [4] [] ([]) (.bool (mayB (m : Int) g)) (⟨rfl, rfl⟩) (hr := by simp [mayB, hx, hx0])
    · simp -failIfUnchanged at h4; all_goals
     refine vwp_skip ?_
     refine hK2 _ ?_
     try clear hK2 K2
     refine vwp_seq_k fun K11 hK11 => ?_
     simp_all
  · obtain ⟨k1, k2, k3⟩ := w6 hm6
    have w1 := shl1 hm6
    have w2 : (g.length : Int) = p2 m := by omega
    have w3 := p2_pos m
    have w4 : 0 < g.length := by omega
    refine vwp_live [0, 1] (vwp_regionI hT ?_)
    simp [k1, k2, k3, w1, w2, w3, w4, hx]
    repeat refine ⟨by first | assumption | omega | (intros; omega), ?_⟩
    refine hK3 _ ?_
    try clear hK3 K3
    refine vwp_cond (by first | rfl | (simp; rfl)) (fun h5 => ?_) fun h5 => ?_
    · simp -failIfUnchanged at h5; all_goals
     refine vwp_seq_k fun K12 hK12 => ?_
     exact absurd (List.getElem?_eq_some_iff.1 hx).2 (by assumption)
    · simp -failIfUnchanged at h5; all_goals
     refine vwp_skip ?_
     refine hK2 _ ?_
     try clear hK2 K2
     refine vwp_sq [1] fun K13 hK13 => vwp_region hT ?_
     simp
     refine vcall_k [] (containsFunc_mayw g (by omega)) ?_
     rintro r ob' ⟨rfl, rfl⟩
     simp
     refine hK13 _ ?_
     try clear hK13 K13
     refine vwp_ret (hR _ _ ?_)
     have k4 : (m : Int) ≤ 6 := by omega
     exact ret_k [4] [] ([]) (.bool (mayB (m : Int) g)) (⟨rfl, rfl⟩) (hr := by simp [mayB, hx, hgl, k4])

theorem mayD (n : Int) (g : List Int) : n < 0 ∨ (0 ≤ n ∧ 6 < n) ∨ (∃ m : Nat, n = m ∧ m ≤ 6 ∧ g.length ≠ p2 m) ∨ (∃ (m : Nat) (x : Int), n = m ∧ m ≤ 6 ∧ g.length = p2 m ∧ g[0]? = some x) := by
  rcases mayC n g with h | h | h | ⟨m, x, h1, h2, h3, h4, _⟩ | ⟨m, h1, h2, h3, h4⟩
  · exact .inl h
  · exact .inr (.inl h)
  · exact .inr (.inr (.inl h))
  · exact .inr (.inr (.inr ⟨m, x, h1, h2, h3, h4⟩))
  · exact .inr (.inr (.inr ⟨m, 0, h1, h2, h3, h4⟩))
theorem any_of {l : List Int} {p : Int → Bool} {i : Nat} {x : Int} (hx : l[i]? = some x) (h : p x = true) : l.any p = true := List.any_eq_true.2 ⟨x, List.mem_of_getElem? hx, h⟩
theorem any_none {l : List Int} {p : Int → Bool} (h : ∀ (j : Nat) y, j < l.length → l[j]? = some y → p y = false) : l.any p = false := by
  rw [List.any_eq_false]
  intro x hx
  obtain ⟨j, hj⟩ := List.getElem?_of_mem hx
  rw [h j x (List.getElem?_eq_some_iff.1 hj).1 hj]
  simp
theorem rmay_spec (n : Int) (g : List Int) (hl : g.length < 1099511627776) : VC P 45 [.int .i64 n, sI g] [] (fun r ob' => r = .bool (mayB n g) ∧ ob' = []) := by
  refine VC_of_vwp_k ent_45 Try.func45 rfl (by simp) fun R hR => ?_
  refine vwp_sq [0, 1] fun K1 hK1 => vwp_region hT ?_
  simp
  refine hK1 _ ?_
  try clear hK1 K1
  refine vwp_seq_k fun K2 hK2 => ?_
  refine vwp_seq_k fun K3 hK3 => ?_
  rcases mayD n g with hn | ⟨hn, hn6⟩ | ⟨m, rfl, hm6, hgl⟩ | ⟨m, x, rfl, hm6, hgl, hx⟩
  · have hn0 : ¬ 0 ≤ n := by omega
    refine vwp_live [0, 1] (vwp_regionI hT ?_)
    simp [hn]
    refine hK3 _ ?_
    try clear hK3 K3
    refine vwp_cond (by first | rfl | (simp; rfl)) (fun h1 => ?_) fun h1 => ?_
    · simp -failIfUnchanged at h1; all_goals
     refine vwp_sq [] fun K4 hK4 => vwp_region hT ?_
     simp
     refine hK4 _ ?_
     try clear hK4 K4
     refine vwp_ret (hR _ _ ?_)
     exact ret_k [4] [] ([]) (.bool (mayB n g)) (⟨rfl, rfl⟩) (hr := by simp [mayB, hn0])
    · simp -failIfUnchanged at h1; all_goals
     refine vwp_skip ?_
     refine hK2 _ ?_
     try clear hK2 K2
     refine vwp_seq_k fun K5 hK5 => ?_
     refine vwp_seq_k fun K6 hK6 => ?_
     skip
  · have hn0 : ¬ n < 0 := by omega
    have hn7 : ¬ n ≤ 6 := by omega
    refine vwp_live [0, 1] (vwp_regionI hT ?_)
    simp [hn0, hn6]
    refine hK3 _ ?_
    try clear hK3 K3
    refine vwp_cond (by first | rfl | (simp; rfl)) (fun h2 => ?_) fun h2 => ?_
    · simp -failIfUnchanged at h2; all_goals
     refine vwp_sq [] fun K7 hK7 => vwp_region hT ?_
     simp
     refine hK7 _ ?_
     try clear hK7 K7
     refine vwp_ret (hR _ _ ?_)
     exact ret_k [4] [] ([]) (.bool (mayB n g)) (⟨rfl, rfl⟩) (hr := by simp [mayB, hn0, hn7])
    · simp -failIfUnchanged at h2; all_goals
     refine vwp_skip ?_
     refine hK2 _ ?_
     try clear hK2 K2
     refine vwp_seq_k fun K8 hK8 => ?_
     refine vwp_seq_k fun K9 hK9 => ?_
     skip
  · obtain ⟨k1, k2, k3⟩ := w6 hm6
    have w2 : ¬ ((g.length : Int) = p2 m) := by omega
    refine vwp_live [0, 1] (vwp_regionI hT ?_)
    simp [k1, k2, w2]
    refine vcall_k [] (many_spec m hm6) ?_
    rintro r ob' ⟨rfl, rfl⟩
    simp [k1, k2, w2]
    refine hK3 _ ?_
    try clear hK3 K3
    refine vwp_cond (by first | rfl | (simp; rfl)) (fun h3 => ?_) fun h3 => ?_
    · simp -failIfUnchanged at h3; all_goals
     refine vwp_sq [] fun K10 hK10 => vwp_region hT ?_
     simp
     refine hK10 _ ?_
     try clear hK10 K10
     refine vwp_ret (hR _ _ ?_)
     exact ret_k [4] [] ([]) (.bool (mayB (m : Int) g)) (⟨rfl, rfl⟩) (hr := by simp [mayB, hgl])
    · simp -failIfUnchanged at h3; all_goals
     refine vwp_skip ?_
     refine hK2 _ ?_
     try clear hK2 K2
     refine vwp_seq_k fun K11 hK11 => ?_
     refine vwp_seq_k fun K12 hK12 => ?_
     omega
  · obtain ⟨k1, k2, k3⟩ := w6 hm6
    have w2 : (g.length : Int) = p2 m := by omega
    have w3 := p2_pos m
    have w4 : 0 < g.length := by omega
    have k4 : (m : Int) ≤ 6 := by omega
    refine vwp_live [0, 1] (vwp_regionI hT ?_)
    simp [k1, k2, w2]
    refine vcall_k [] (many_spec m hm6) ?_
    rintro r ob' ⟨rfl, rfl⟩
    simp [k1, k2, w2]
    refine hK3 _ ?_
    try clear hK3 K3
    refine vwp_cond (by first | rfl | (simp; rfl)) (fun h4 => ?_) fun h4 => ?_
    · simp -failIfUnchanged at h4; all_goals
     refine vwp_seq_k fun K13 hK13 => ?_
     skip
    · simp -failIfUnchanged at h4; all_goals
     refine vwp_skip ?_
     refine hK2 _ ?_
     try clear hK2 K2
     refine vwp_seq_k fun K14 hK14 => ?_
     refine vwp_sq [1] fun K15 hK15 => vwp_region hT ?_
     simp
     refine hK15 _ ?_
     try clear hK15 K15
     refine vwp_block ?_
     refine vwp_loop_s (fun i : Nat => ⟨[(1, sI g), (5, .int .i64 (i : Int))], []⟩) (fun i => i ≤ g.length ∧ ∀ (j : Nat) y, j < i → g[j]? = some y → offB y = false) (fun i => g.length - i) (0) (Gh.to_k [1, 5] []) (⟨by omega, fun j y h => by omega⟩) ?_
     rintro i ⟨hie, hno⟩
     intro K16 hK16
     refine vwp_seq_k fun K17 hK17 => ?_
     refine vwp_sq [1, 5] fun K18 hK18 => vwp_region hT ?_
     simp
     refine hK18 _ ?_
     try clear hK18 K18
     refine vwp_cond (by first | rfl | (simp; rfl)) (fun h5 => ?_) fun h5 => ?_
     · simp -failIfUnchanged at h5; all_goals
      refine vwp_skip ?_
      refine hK17 _ ?_
      try clear hK17 K17
      refine vwp_seq_k fun K19 hK19 => ?_
      refine vwp_block ?_
      obtain ⟨y, hy⟩ := getI (l := g) (i := i) (by omega)
      refine vwp_sq [1, 5] fun K20 hK20 => vwp_region hT ?_
      simp [hy]
      repeat refine ⟨by first | assumption | omega | (intros; omega), ?_⟩
      refine hK20 _ ?_
      try clear hK20 K20
      refine vwp_cond (by first | rfl | (simp; rfl)) (fun h6 => ?_) fun h6 => ?_
      · simp -failIfUnchanged at h6; all_goals
       have ho : offB y = true := by simpa [offB] using h6
       refine vwp_sq [] fun K21 hK21 => vwp_region hT ?_
       simp
       refine hK21 _ ?_
       try clear hK21 K21
       refine vwp_ret (hR _ _ ?_)
       have ha := any_of hy ho
       exact ret_k [4] [] ([]) (.bool (mayB (m : Int) g)) (⟨rfl, rfl⟩) (hr := by simp [mayB, ha])
      · simp -failIfUnchanged at h6; all_goals
       have ho : offB y = false := by simpa [offB] using h6
       refine vwp_skip ?_
       refine hK19 _ ?_
       try clear hK19 K19
       have w1 : IntKind.i64.wrap ((i : Int) + 1) = i + 1 := w64 (by omega) (by omega)
       refine vwp_live [1, 5] (vwp_region hT ?_)
       simp [w1]
       exact hK16 (i + 1) _ (Gh.to_k [1, 5] []) (⟨by omega, fun j z hj hz => by
         by_cases e : j = i
         · subst e; rw [hy] at hz; cases hz; exact ho
         · exact hno j z (by omega) hz⟩) (by omega)
     · simp -failIfUnchanged at h5; all_goals
      refine vwp_exit ?_
      simp only [inBlk, thenQ, if_true]
      refine hK14 _ ?_
      try clear hK14 K14
      refine vwp_sq [1] fun K22 hK22 => vwp_region hT ?_
      simp [hx]
      repeat refine ⟨by first | assumption | omega | (intros; omega), ?_⟩
      refine hK22 _ ?_
      try clear hK22 K22
      refine vwp_ret (hR _ _ ?_)
      have ha : g.any offB = false := any_none fun j y hj hy => hno j y (by omega) hy
      exact ret_k [4] [] ([]) (.bool (mayB (m : Int) g)) (⟨rfl, rfl⟩) (hr := by simp [mayB, ha, hx, hgl, k4]; rfl)
theorem fine_spec (n : Nat) (l : List Int) (hn : n ≤ 6) (hl : l.length < 1099511627776) : VC P 46 [.int .i64 n, sI l] [] (fun r ob' => r = .bool ((List.range n).all (fun i => cnt l (i : Int) == 1) && ((l.length : Int) == n)) ∧ ob' = []) := by
  refine VC_of_vwp_k ent_46 Try.func46 rfl (by simp) fun R hR => ?_
  refine vwp_sq [0, 1] fun K1 hK1 => vwp_region hT ?_
  simp
  refine hK1 _ ?_
  try clear hK1 K1
  refine vwp_seq_k fun K2 hK2 => ?_
  refine vwp_sq [0, 1] fun K3 hK3 => vwp_region hT ?_
  simp
  refine hK3 _ ?_
  try clear hK3 K3
  refine vwp_block ?_
  refine vwp_loop_s (fun i : Nat => ⟨[(0, .int .i64 n), (1, sI l), (5, .int .i64 (i : Int))], []⟩) (fun i => i ≤ n ∧ ∀ j, j < i → cnt l (j : Int) = 1) (fun i => n - i) (0) (Gh.to_k [0, 1, 5] []) (⟨by omega, fun j h => by omega⟩) ?_
  rintro i ⟨hie, hno⟩
  intro K4 hK4
  refine vwp_seq_k fun K5 hK5 => ?_
  refine vwp_sq [0, 1, 5] fun K6 hK6 => vwp_region hT ?_
  simp
  refine hK6 _ ?_
  try clear hK6 K6
  refine vwp_cond (by first | rfl | (simp; rfl)) (fun h1 => ?_) fun h1 => ?_
  · simp -failIfUnchanged at h1; all_goals
   refine vwp_skip ?_
   refine hK5 _ ?_
   try clear hK5 K5
   refine vwp_seq_k fun K7 hK7 => ?_
   refine vwp_block ?_
   refine vwp_sq [0, 1, 5] fun K8 hK8 => vwp_region hT ?_
   simp
   refine vcall_k [] (in_spec l (i : Int) hl) ?_
   rintro r ob' ⟨rfl, rfl⟩
   simp
   refine hK8 _ ?_
   try clear hK8 K8
   refine vwp_cond (by first | rfl | (simp; rfl)) (fun h2 => ?_) fun h2 => ?_
   · simp -failIfUnchanged at h2; all_goals
    refine vwp_sq [] fun K9 hK9 => vwp_region hT ?_
    simp
    refine hK9 _ ?_
    try clear hK9 K9
    refine vwp_ret (hR _ _ ?_)
    have hf : (List.range n).all (fun i => cnt l (i : Int) == 1) = false := by
      rw [List.all_eq_false]
      refine ⟨i, by simp; omega, ?_⟩
      simp
      omega
    exact ret_k [4] [] ([]) (.bool ((List.range n).all (fun i => cnt l (i : Int) == 1) && ((l.length : Int) == n))) (⟨rfl, rfl⟩) (hr := by simp only [hf]; rfl)
   · simp -failIfUnchanged at h2; all_goals
    refine vwp_skip ?_
    refine hK7 _ ?_
    try clear hK7 K7
    have w1 : IntKind.i64.wrap ((i : Int) + 1) = i + 1 := w64 (by omega) (by omega)
    refine vwp_live [0, 1, 5] (vwp_region hT ?_)
    simp [w1]
    exact hK4 (i + 1) _ (Gh.to_k [0, 1, 5] []) (⟨by omega, fun j hj => by
      by_cases e : j = i
      · subst e; omega
      · exact hno j (by omega)⟩) (by omega)
  · simp -failIfUnchanged at h1; all_goals
   refine vwp_exit ?_
   simp only [inBlk, thenQ, if_true]
   refine hK2 _ ?_
   try clear hK2 K2
   refine vwp_sq [0, 1] fun K10 hK10 => vwp_region hT ?_
   simp
   refine hK10 _ ?_
   try clear hK10 K10
   refine vwp_ret (hR _ _ ?_)
   have hf : (List.range n).all (fun i => cnt l (i : Int) == 1) = true := by
     simp only [List.all_eq_true, List.mem_range, beq_iff_eq]
     exact fun j hj => hno j (by omega)
   exact ret_k [4] [] ([]) (.bool ((List.range n).all (fun i => cnt l (i : Int) == 1) && ((l.length : Int) == n))) (⟨rfl, rfl⟩) (hr := by simp [hf])
end Go.Proofs.Ythjpaongoflgiaa
