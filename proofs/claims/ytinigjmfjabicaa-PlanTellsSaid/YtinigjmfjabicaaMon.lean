/- Money: what its functions tell. -/
import Derived.Test.YtinigjmfjabicaaBase
import Derived.Test.YtinigjmfjabicaaVXc
namespace Go.Proofs.Ytinigjmfjabicaa
open Go Go.VX Go.RowKit
set_option linter.unusedVariables false
set_option linter.unusedSimpArgs false
set_option maxHeartbeats 20000000
set_option maxRecDepth 100000

def mayN (n : Int) : Bool := decide (-4611686018427387903 ≤ n) && decide (n ≤ 4611686018427387903)
def addN (a b : Int) : Int × Int := if mayN a = false ∨ mayN b = false then (0, 1) else if mayN (a + b) = false then (0, 4) else (a + b, 0)
theorem may_spec (n : Int) : VC P 92 [.int .i64 n] [] (fun r ob' => r = .bool (mayN n) ∧ ob' = []) := by
  refine VC_of_vwp_k ent_92 Try.func92 rfl (by simp) fun R hR => ?_
  refine vwp_sq [0] fun K1 hK1 => vwp_region hT ?_
  simp
  refine hK1 _ ?_
  try clear hK1 K1
  refine vwp_sq [0] fun K2 hK2 => vwp_region hT ?_
  simp
  refine hK2 _ ?_
  try clear hK2 K2
  refine vwp_ret (hR _ _ ?_)
  exact ret_k [2] [] ([]) (.bool (mayN n)) (⟨rfl, rfl⟩) (hr := by simp [mayN])
theorem rmay_spec (n : Int) : VC P 128 [.int .i64 n] [] (fun r ob' => r = .bool (mayN n) ∧ ob' = []) := by
  refine VC_of_vwp_k ent_128 Try.func128 rfl (by simp) fun R hR => ?_
  refine vwp_sq [0] fun K1 hK1 => vwp_region hT ?_
  simp
  refine hK1 _ ?_
  try clear hK1 K1
  refine vwp_sq [0] fun K2 hK2 => vwp_region hT ?_
  simp
  refine hK2 _ ?_
  try clear hK2 K2
  refine vwp_ret (hR _ _ ?_)
  exact ret_k [2] [] ([]) (.bool (mayN n)) (⟨rfl, rfl⟩) (hr := by simp [mayN])
theorem add_spec (a b : Int) : VC P 78 [.int .i64 a, .int .i64 b] [] (fun r ob' => r = .tup [.int .i64 (addN a b).1, .int .i64 (addN a b).2] ∧ ob' = []) := by
  refine VC_of_vwp_k ent_78 Try.func78 rfl (by simp) fun R hR => ?_
  refine vwp_sq [0, 1] fun K1 hK1 => vwp_region hT ?_
  simp
  refine hK1 _ ?_
  try clear hK1 K1
  refine vwp_seq_k fun K2 hK2 => ?_
  refine vwp_block ?_
  refine vwp_seq_k fun K3 hK3 => ?_
  rcases q1 : mayN a with _ | _
  · refine vwp_live [0, 1] (vwp_region hT ?_)
    simp [q1]
    refine vcall_k [] (may_spec a) ?_
    rintro r ob' ⟨rfl, rfl⟩
    simp [q1]
    refine hK3 _ ?_
    try clear hK3 K3
    refine vwp_cond (by first | rfl | (simp; rfl)) (fun h1 => ?_) fun h1 => ?_
    · simp -failIfUnchanged at h1; all_goals
     refine vwp_sq [] fun K4 hK4 => vwp_region hT ?_
     simp
     refine hK4 _ ?_
     try clear hK4 K4
     refine vwp_ret (hR _ _ ?_)
     have hw : addN a b = (0, 1) := by
       unfold addN
       simp [*]
     rw [hw]
     exact ret_k [4, 5] [] ([]) (.tup [.int .i64 (0), .int .i64 1]) (⟨rfl, rfl⟩)
    · simp -failIfUnchanged at h1; all_goals
     have w1 : IntKind.i64.wrap (a + b) = a + b := by
       simp [mayN] at q1 h3
       exact w64 (by omega) (by omega)
     refine vwp_sq [0, 1] fun K5 hK5 => vwp_region hT ?_
     simp [w1]
     refine vcall_k [] (may_spec (a + b)) ?_
     rintro r ob' ⟨rfl, rfl⟩
     simp [w1]
     refine hK5 _ ?_
     try clear hK5 K5
     refine vwp_cond (by first | rfl | (simp; rfl)) (fun h2 => ?_) fun h2 => ?_
     · simp -failIfUnchanged at h2; all_goals
      refine vwp_sq [] fun K6 hK6 => vwp_region hT ?_
      simp
      refine hK6 _ ?_
      try clear hK6 K6
      refine vwp_ret (hR _ _ ?_)
      have hw : addN a b = (0, 4) := by
        unfold addN
        simp [*]
      rw [hw]
      exact ret_k [4, 5] [] ([]) (.tup [.int .i64 (0), .int .i64 4]) (⟨rfl, rfl⟩)
     · simp -failIfUnchanged at h2; all_goals
      refine vwp_skip ?_
      refine hK2 _ ?_
      try clear hK2 K2
      refine vwp_sq [0, 1] fun K7 hK7 => vwp_region hT ?_
      simp [w1]
      refine hK7 _ ?_
      try clear hK7 K7
      refine vwp_ret (hR _ _ ?_)
      have hw : addN a b = (a + b, 0) := by
        unfold addN
        simp [*]
      rw [hw]
      exact ret_k [4, 5] [] ([]) (.tup [.int .i64 (a + b), .int .i64 0]) (⟨rfl, rfl⟩)
  · refine vwp_live [0, 1] (vwp_region hT ?_)
    simp [q1]
    refine vcall_k [] (may_spec a) ?_
    rintro r ob' ⟨rfl, rfl⟩
    simp [q1]
    refine vcall_k [] (may_spec b) ?_
    rintro r ob' ⟨rfl, rfl⟩
    simp [q1]
    refine hK3 _ ?_
    try clear hK3 K3
    refine vwp_cond (by first | rfl | (simp; rfl)) (fun h3 => ?_) fun h3 => ?_
    · simp -failIfUnchanged at h3; all_goals
     refine vwp_sq [] fun K8 hK8 => vwp_region hT ?_
     simp
     refine hK8 _ ?_
     try clear hK8 K8
     refine vwp_ret (hR _ _ ?_)
     have hw : addN a b = (0, 1) := by
       unfold addN
       simp [*]
     rw [hw]
     exact ret_k [4, 5] [] ([]) (.tup [.int .i64 (0), .int .i64 1]) (⟨rfl, rfl⟩)
    · simp -failIfUnchanged at h3; all_goals
     have w1 : IntKind.i64.wrap (a + b) = a + b := by
       simp [mayN] at q1 h3
       exact w64 (by omega) (by omega)
     refine vwp_sq [0, 1] fun K9 hK9 => vwp_region hT ?_
     simp [w1]
     refine vcall_k [] (may_spec (a + b)) ?_
     rintro r ob' ⟨rfl, rfl⟩
     simp [w1]
     refine hK9 _ ?_
     try clear hK9 K9
     refine vwp_cond (by first | rfl | (simp; rfl)) (fun h4 => ?_) fun h4 => ?_
     · simp -failIfUnchanged at h4; all_goals
      refine vwp_sq [] fun K10 hK10 => vwp_region hT ?_
      simp
      refine hK10 _ ?_
      try clear hK10 K10
      refine vwp_ret (hR _ _ ?_)
      have hw : addN a b = (0, 4) := by
        unfold addN
        simp [*]
      rw [hw]
      exact ret_k [4, 5] [] ([]) (.tup [.int .i64 (0), .int .i64 4]) (⟨rfl, rfl⟩)
     · simp -failIfUnchanged at h4; all_goals
      refine vwp_skip ?_
      refine hK2 _ ?_
      try clear hK2 K2
      refine vwp_sq [0, 1] fun K11 hK11 => vwp_region hT ?_
      simp [w1]
      refine hK11 _ ?_
      try clear hK11 K11
      refine vwp_ret (hR _ _ ?_)
      have hw : addN a b = (a + b, 0) := by
        unfold addN
        simp [*]
      rw [hw]
      exact ret_k [4, 5] [] ([]) (.tup [.int .i64 (a + b), .int .i64 0]) (⟨rfl, rfl⟩)

/-- The sum of all, put to what is there. -/
def sumG (a : Int) : List Int → Int × Int
  | [] => (a, 0)
  | n :: l => if (addN a n).2 = 0 then sumG (addN a n).1 l else (0, (addN a n).2)
def sumN (l : List Int) : Int × Int := if l.all mayN = true then sumG 0 l else (0, 1)
theorem sumG_take {l : List Int} {i : Nat} {n c : Int} (hi : l[i]? = some n) (h : sumG 0 l = sumG c (l.drop i)) (h0 : (addN c n).2 = 0) : sumG 0 l = sumG (addN c n).1 (l.drop (i + 1)) := by
  obtain ⟨hl, e⟩ := List.getElem?_eq_some_iff.1 hi
  rw [h, List.drop_eq_getElem_cons hl, e, sumG, if_pos h0]
theorem sumG_bad {l : List Int} {i : Nat} {n c : Int} (hi : l[i]? = some n) (h : sumG 0 l = sumG c (l.drop i)) (h0 : (addN c n).2 ≠ 0) : sumG 0 l = (0, (addN c n).2) := by
  obtain ⟨hl, e⟩ := List.getElem?_eq_some_iff.1 hi
  rw [h, List.drop_eq_getElem_cons hl, e, sumG, if_neg h0]
theorem all_at {l : List Int} {p : Int → Bool} {i : Nat} (hi : i ≤ l.length) (h : ∀ n ∈ l.take i, p n = true) (he : i = l.length) : l.all p = true := by
  subst he
  rw [List.take_length] at h
  exact List.all_eq_true.2 h
theorem sumG_small : ∀ {l : List Int} {c m : Int}, (∀ n ∈ l, 0 ≤ n ∧ n ≤ m) → 0 ≤ c → c + l.length * m ≤ 4611686018427387903 → sumG c l = (c + l.sum, 0)
  | [], c, m, _, _, _ => by simp [sumG]
  | n :: l, c, m, h, h0, hm => by
    have h1 := h n (by simp)
    rw [List.length_cons, Int.natCast_add, Int.add_mul] at hm
    have h2 : 0 ≤ (l.length : Int) * m := Int.mul_nonneg (by omega) (by omega)
    have h3 : addN c n = (c + n, 0) := by
      have a1 : mayN c = true := by simp [mayN]; omega
      have a2 : mayN n = true := by simp [mayN]; omega
      have a3 : mayN (c + n) = true := by simp [mayN]; omega
      simp [addN, a1, a2, a3]
    rw [sumG, h3]
    simp only [if_true, List.sum_cons]
    rw [sumG_small (m := m) (fun x hx => h x (by simp [hx])) (by omega) (by omega)]
    simp; omega
theorem sumN_small {l : List Int} {m : Int} (h : ∀ n ∈ l, 0 ≤ n ∧ n ≤ m) (hm : l.length * m ≤ 4611686018427387903) : sumN l = (l.sum, 0) := by
  have ha : l.all mayN = true := by
    rw [List.all_eq_true]
    intro n hn
    obtain ⟨h1, h2⟩ := h n hn
    have h3 : m ≤ l.length * m := by
      have := List.length_pos_of_mem hn
      have := Int.mul_le_mul_of_nonneg_right (show (1 : Int) ≤ l.length by omega) (show 0 ≤ m by omega)
      omega
    unfold mayN; simp; omega
  rw [sumN, if_pos ha, sumG_small h (by omega) (by omega)]
  simp
theorem sum_spec (l : List Int) (hl : l.length < 9223372036854775807) : VC P 59 [sI l] [] (fun r ob' => r = .tup [.int .i64 (sumN l).1, .int .i64 (sumN l).2] ∧ ob' = []) := by
  refine VC_of_vwp_k ent_59 Try.func59 rfl (by simp) fun R hR => ?_
  refine vwp_sq [0] fun K1 hK1 => vwp_region hT ?_
  simp
  refine hK1 _ ?_
  try clear hK1 K1
  refine vwp_seq_k fun K2 hK2 => ?_
  refine vwp_sq [0] fun K3 hK3 => vwp_region hT ?_
  simp
  refine hK3 _ ?_
  try clear hK3 K3
  refine vwp_block ?_
  refine vwp_loop_s (fun i : Nat => ⟨[(0, sI l), (11, sI l), (12, .int .i64 l.length), (13, .int .i64 (i : Int))], []⟩) (fun i => i ≤ l.length ∧ ∀ n ∈ l.take i, mayN n = true) (fun i => l.length - i) (0) (Gh.to_k [0, 11, 12, 13] []) (⟨by omega, by simp⟩) ?_
  rintro i ⟨hi, hm⟩
  intro K4 hK4
  refine vwp_sq [0, 11, 12, 13] fun K5 hK5 => vwp_region hT ?_
  simp
  refine hK5 _ ?_
  try clear hK5 K5
  refine vwp_seq_k fun K6 hK6 => ?_
  refine vwp_cond (by first | rfl | (simp; rfl)) (fun h1 => ?_) fun h1 => ?_
  · simp -failIfUnchanged at h1; all_goals
   refine vwp_skip ?_
   refine hK6 _ ?_
   try clear hK6 K6
   refine vwp_seq_k fun K7 hK7 => ?_
   refine vwp_block ?_
   obtain ⟨n, hn⟩ := getI (l := l) (i := i) (by omega)
   refine vwp_sq [0, 11, 12, 13] fun K8 hK8 => vwp_region hT ?_
   simp [hn]
   repeat refine ⟨by first | assumption | omega | (intros; omega), ?_⟩
   refine hK8 _ ?_
   try clear hK8 K8
   refine vwp_sq [0, 5, 11, 12, 13] fun K9 hK9 => vwp_region hT ?_
   simp [hn]
   refine vcall_k [] (may_spec n) ?_
   rintro r ob' ⟨rfl, rfl⟩
   simp [hn]
   refine hK9 _ ?_
   try clear hK9 K9
   refine vwp_cond (by first | rfl | (simp; rfl)) (fun h2 => ?_) fun h2 => ?_
   · simp -failIfUnchanged at h2; all_goals
    refine vwp_sq [] fun K10 hK10 => vwp_region hT ?_
    simp
    refine hK10 _ ?_
    try clear hK10 K10
    refine vwp_ret (hR _ _ ?_)
    have hw : sumN l = (0, 1) := by
      unfold sumN
      rw [if_neg]
      simp
      exact ⟨n, List.mem_of_getElem? hn, h2⟩
    rw [hw]
    exact ret_k [2, 3] [] ([]) (.tup [.int .i64 0, .int .i64 1]) (⟨rfl, rfl⟩)
   · simp -failIfUnchanged at h2; all_goals
    refine vwp_skip ?_
    refine hK7 _ ?_
    try clear hK7 K7
    have w1 : IntKind.i64.wrap ((i : Int) + 1) = i + 1 := w64 (by omega) (by omega)
    refine vwp_live [0, 11, 12, 13] (vwp_region hT ?_)
    simp [w1]
    exact hK4 (i + 1) _ (Gh.to_k [0, 11, 12, 13] [] (he := by simp)) (⟨by omega, by rw [take_snoc hn]; simp; exact fun x hx => hx.elim (hm x) (fun e => e ▸ h2)⟩) (by omega)
  · simp -failIfUnchanged at h1; all_goals
   refine vwp_exit ?_
   simp only [inBlk, thenQ, if_true]
   refine hK2 _ ?_
   try clear hK2 K2
   have ha := all_at hi hm (by omega)
   clear hm
   refine vwp_sq [0] fun K11 hK11 => vwp_region hT ?_
   simp
   refine hK11 _ ?_
   try clear hK11 K11
   refine vwp_seq_k fun K12 hK12 => ?_
   refine vwp_sq [0, 6] fun K13 hK13 => vwp_region hT ?_
   simp
   refine hK13 _ ?_
   try clear hK13 K13
   refine vwp_block ?_
   refine vwp_loop_s (fun x : Nat × Int => ⟨[(6, .int .i64 x.2), (21, sI l), (22, .int .i64 l.length), (23, .int .i64 (x.1 : Int))], []⟩) (fun x => x.1 ≤ l.length ∧ sumG 0 l = sumG x.2 (l.drop x.1)) (fun x => l.length - x.1) ((0, 0)) (Gh.to_k [6, 21, 22, 23] []) (⟨by simp, by simp⟩) ?_
   rintro ⟨i, c⟩ ⟨hi, hs⟩
   dsimp only at hi hs ⊢
   intro K14 hK14
   refine vwp_sq [6, 21, 22, 23] fun K15 hK15 => vwp_region hT ?_
   simp
   refine hK15 _ ?_
   try clear hK15 K15
   refine vwp_seq_k fun K16 hK16 => ?_
   refine vwp_cond (by first | rfl | (simp; rfl)) (fun h3 => ?_) fun h3 => ?_
   · simp -failIfUnchanged at h3; all_goals
    refine vwp_skip ?_
    refine hK16 _ ?_
    try clear hK16 K16
    refine vwp_seq_k fun K17 hK17 => ?_
    refine vwp_block ?_
    obtain ⟨n, hn⟩ := getI (l := l) (i := i) (by omega)
    refine vwp_sq [6, 21, 22, 23] fun K18 hK18 => vwp_region hT ?_
    simp [hn]
    repeat refine ⟨by first | assumption | omega | (intros; omega), ?_⟩
    refine hK18 _ ?_
    try clear hK18 K18
    refine vwp_sq [6, 8, 21, 22, 23] fun K19 hK19 => vwp_region hT ?_
    simp [hn]
    refine vcall_k [] (add_spec c n) ?_
    rintro r ob' ⟨rfl, rfl⟩
    simp [hn]
    refine hK19 _ ?_
    try clear hK19 K19
    refine vwp_seq_k fun K20 hK20 => ?_
    refine vwp_sq [9, 10, 21, 22, 23] fun K21 hK21 => vwp_region hT ?_
    simp
    refine hK21 _ ?_
    try clear hK21 K21
    refine vwp_cond (by first | rfl | (simp; rfl)) (fun h4 => ?_) fun h4 => ?_
    · simp -failIfUnchanged at h4; all_goals
     refine vwp_sq [10] fun K22 hK22 => vwp_region hT ?_
     simp
     refine hK22 _ ?_
     try clear hK22 K22
     refine vwp_ret (hR _ _ ?_)
     have hw : sumN l = (0, (addN c n).2) := by
       rw [sumN, if_pos ha, sumG_bad hn hs (by simpa using h4)]
     rw [hw]
     exact ret_k [2, 3] [] ([]) (.tup [.int .i64 0, .int .i64 (addN c n).2]) (⟨rfl, rfl⟩)
    · simp -failIfUnchanged at h4; all_goals
     refine vwp_skip ?_
     refine hK20 _ ?_
     try clear hK20 K20
     refine vwp_live [9, 21, 22, 23] (vwp_region hT ?_)
     simp
     refine hK17 _ ?_
     try clear hK17 K17
     have w1 : IntKind.i64.wrap ((i : Int) + 1) = i + 1 := w64 (by omega) (by omega)
     refine vwp_live [6, 21, 22, 23] (vwp_region hT ?_)
     simp [w1]
     exact hK14 ((i + 1, (addN c n).1)) _ (Gh.to_k [6, 21, 22, 23] []) (⟨by dsimp only; omega, sumG_take hn hs (by simpa using h4)⟩) (by dsimp only; omega)
   · simp -failIfUnchanged at h3; all_goals
    refine vwp_exit ?_
    simp only [inBlk, thenQ, if_true]
    refine hK12 _ ?_
    try clear hK12 K12
    refine vwp_sq [6] fun K23 hK23 => vwp_region hT ?_
    simp
    refine hK23 _ ?_
    try clear hK23 K23
    refine vwp_ret (hR _ _ ?_)
    have hw : sumN l = (c, 0) := by
      rw [sumN, if_pos ha, hs, List.drop_of_length_le (by omega), sumG]
    rw [hw]
    exact ret_k [2, 3] [] ([]) (.tup [.int .i64 c, .int .i64 0]) (⟨rfl, rfl⟩)
theorem radd_spec (a b : Int) : VC P 129 [.int .i64 a, .int .i64 b] [] (fun r ob' => r = .tup [.int .i64 (addN a b).1, .int .i64 (addN a b).2] ∧ ob' = []) := by
  refine VC_of_vwp_k ent_129 Try.func129 rfl (by simp) fun R hR => ?_
  refine vwp_sq [0, 1] fun K1 hK1 => vwp_region hT ?_
  simp
  refine hK1 _ ?_
  try clear hK1 K1
  refine vwp_seq_k fun K2 hK2 => ?_
  refine vwp_seq_k fun K3 hK3 => ?_
  rcases q1 : mayN a with _ | _
  · refine vwp_live [0, 1] (vwp_region hT ?_)
    simp [q1]
    refine vcall_k [] (rmay_spec a) ?_
    rintro r ob' ⟨rfl, rfl⟩
    simp [q1]
    refine hK3 _ ?_
    try clear hK3 K3
    refine vwp_cond (by first | rfl | (simp; rfl)) (fun h1 => ?_) fun h1 => ?_
    · simp -failIfUnchanged at h1; all_goals
     refine vwp_sq [] fun K4 hK4 => vwp_region hT ?_
     simp
     refine hK4 _ ?_
     try clear hK4 K4
     refine vwp_ret (hR _ _ ?_)
     have hw : addN a b = (0, 1) := by
       unfold addN
       simp [*]
     rw [hw]
     exact ret_k [4, 5] [] ([]) (.tup [.int .i64 (0), .int .i64 1]) (⟨rfl, rfl⟩)
    · simp -failIfUnchanged at h1; all_goals
     have q2 := h1
     refine vwp_skip ?_
     refine hK2 _ ?_
     try clear hK2 K2
     refine vwp_seq_k fun K5 hK5 => ?_
     simp [mayN] at q1 q2
     have w1 : 0 < b → IntKind.i64.wrap (4611686018427387903 - b) = 4611686018427387903 - b := fun _ => w64 (by omega) (by omega)
     have w2 : b < 0 → IntKind.i64.wrap (-4611686018427387903 - b) = -4611686018427387903 - b := fun _ => w64 (by omega) (by omega)
     have w3 : IntKind.i64.wrap (a + b) = a + b := w64 (by omega) (by omega)
     have m1 : mayN a = true := by simp [mayN]; omega
     have m2 : mayN b = true := by simp [mayN]; omega
     refine vwp_sq [0, 1] fun K6 hK6 => vwp_region hT ?_
     simp
     refine hK6 _ ?_
     try clear hK6 K6
     refine vwp_cond (by first | rfl | (simp; rfl)) (fun h2 => ?_) fun h2 => ?_
     · simp -failIfUnchanged at h2; all_goals
      have m3 : mayN (a + b) = false := by
        simp [mayN]
        grind
      refine vwp_sq [] fun K7 hK7 => vwp_region hT ?_
      simp
      refine hK7 _ ?_
      try clear hK7 K7
      refine vwp_ret (hR _ _ ?_)
      have hw : addN a b = (0, 4) := by
        unfold addN
        simp [*]
      rw [hw]
      exact ret_k [4, 5] [] ([]) (.tup [.int .i64 (0), .int .i64 4]) (⟨rfl, rfl⟩)
     · simp -failIfUnchanged at h2; all_goals
      have m3 : mayN (a + b) = true := by
        simp [mayN]
        grind
      refine vwp_skip ?_
      refine hK5 _ ?_
      try clear hK5 K5
      refine vwp_sq [0, 1] fun K8 hK8 => vwp_region hT ?_
      simp [w3]
      refine hK8 _ ?_
      try clear hK8 K8
      refine vwp_ret (hR _ _ ?_)
      have hw : addN a b = (a + b, 0) := by
        unfold addN
        simp [*]
      rw [hw]
      exact ret_k [4, 5] [] ([]) (.tup [.int .i64 (a + b), .int .i64 0]) (⟨rfl, rfl⟩)
  · refine vwp_live [0, 1] (vwp_region hT ?_)
    simp [q1]
    refine vcall_k [] (rmay_spec a) ?_
    rintro r ob' ⟨rfl, rfl⟩
    simp [q1]
    refine vcall_k [] (rmay_spec b) ?_
    rintro r ob' ⟨rfl, rfl⟩
    simp [q1]
    refine hK3 _ ?_
    try clear hK3 K3
    refine vwp_cond (by first | rfl | (simp; rfl)) (fun h3 => ?_) fun h3 => ?_
    · simp -failIfUnchanged at h3; all_goals
     refine vwp_sq [] fun K9 hK9 => vwp_region hT ?_
     simp
     refine hK9 _ ?_
     try clear hK9 K9
     refine vwp_ret (hR _ _ ?_)
     have hw : addN a b = (0, 1) := by
       unfold addN
       simp [*]
     rw [hw]
     exact ret_k [4, 5] [] ([]) (.tup [.int .i64 (0), .int .i64 1]) (⟨rfl, rfl⟩)
    · simp -failIfUnchanged at h3; all_goals
     have q2 := h3
     refine vwp_skip ?_
     refine hK2 _ ?_
     try clear hK2 K2
     refine vwp_seq_k fun K10 hK10 => ?_
     simp [mayN] at q1 q2
     have w1 : 0 < b → IntKind.i64.wrap (4611686018427387903 - b) = 4611686018427387903 - b := fun _ => w64 (by omega) (by omega)
     have w2 : b < 0 → IntKind.i64.wrap (-4611686018427387903 - b) = -4611686018427387903 - b := fun _ => w64 (by omega) (by omega)
     have w3 : IntKind.i64.wrap (a + b) = a + b := w64 (by omega) (by omega)
     have m1 : mayN a = true := by simp [mayN]; omega
     have m2 : mayN b = true := by simp [mayN]; omega
     refine vwp_sq [0, 1] fun K11 hK11 => vwp_region hT ?_
     simp
     refine hK11 _ ?_
     try clear hK11 K11
     refine vwp_cond (by first | rfl | (simp; rfl)) (fun h4 => ?_) fun h4 => ?_
     · simp -failIfUnchanged at h4; all_goals
      have m3 : mayN (a + b) = false := by
        simp [mayN]
        grind
      refine vwp_sq [] fun K12 hK12 => vwp_region hT ?_
      simp
      refine hK12 _ ?_
      try clear hK12 K12
      refine vwp_ret (hR _ _ ?_)
      have hw : addN a b = (0, 4) := by
        unfold addN
        simp [*]
      rw [hw]
      exact ret_k [4, 5] [] ([]) (.tup [.int .i64 (0), .int .i64 4]) (⟨rfl, rfl⟩)
     · simp -failIfUnchanged at h4; all_goals
      have m3 : mayN (a + b) = true := by
        simp [mayN]
        grind
      refine vwp_skip ?_
      refine hK10 _ ?_
      try clear hK10 K10
      refine vwp_sq [0, 1] fun K13 hK13 => vwp_region hT ?_
      simp [w3]
      refine hK13 _ ?_
      try clear hK13 K13
      refine vwp_ret (hR _ _ ?_)
      have hw : addN a b = (a + b, 0) := by
        unfold addN
        simp [*]
      rw [hw]
      exact ret_k [4, 5] [] ([]) (.tup [.int .i64 (a + b), .int .i64 0]) (⟨rfl, rfl⟩)
theorem rsum_spec (l : List Int) (hl : l.length < 9223372036854775807) : VC P 121 [sI l] [] (fun r ob' => r = .tup [.int .i64 (sumN l).1, .int .i64 (sumN l).2] ∧ ob' = []) := by
  refine VC_of_vwp_k ent_121 Try.func121 rfl (by simp) fun R hR => ?_
  refine vwp_sq [0] fun K1 hK1 => vwp_region hT ?_
  simp
  refine hK1 _ ?_
  try clear hK1 K1
  refine vwp_seq_k fun K2 hK2 => ?_
  refine vwp_sq [0] fun K3 hK3 => vwp_region hT ?_
  simp
  refine hK3 _ ?_
  try clear hK3 K3
  refine vwp_block ?_
  refine vwp_loop_s (fun i : Nat => ⟨[(0, sI l), (4, .int .i64 (i : Int))], []⟩) (fun i => i ≤ l.length ∧ ∀ n ∈ l.take i, mayN n = true) (fun i => l.length - i) (0) (Gh.to_k [0, 4] []) (⟨by omega, by simp⟩) ?_
  rintro i ⟨hi, hm⟩
  intro K4 hK4
  refine vwp_seq_k fun K5 hK5 => ?_
  refine vwp_sq [0, 4] fun K6 hK6 => vwp_region hT ?_
  simp
  refine hK6 _ ?_
  try clear hK6 K6
  refine vwp_cond (by first | rfl | (simp; rfl)) (fun h1 => ?_) fun h1 => ?_
  · simp -failIfUnchanged at h1; all_goals
   refine vwp_skip ?_
   refine hK5 _ ?_
   try clear hK5 K5
   refine vwp_seq_k fun K7 hK7 => ?_
   refine vwp_block ?_
   obtain ⟨n, hn⟩ := getI (l := l) (i := i) (by omega)
   refine vwp_sq [0, 4] fun K8 hK8 => vwp_region hT ?_
   simp [hn]
   repeat refine ⟨by first | assumption | omega | (intros; omega), ?_⟩
   refine vcall_k [] (rmay_spec n) ?_
   rintro r ob' ⟨rfl, rfl⟩
   simp [hn]
   repeat refine ⟨by first | assumption | omega | (intros; omega), ?_⟩
   refine hK8 _ ?_
   try clear hK8 K8
   refine vwp_cond (by first | rfl | (simp; rfl)) (fun h2 => ?_) fun h2 => ?_
   · simp -failIfUnchanged at h2; all_goals
    refine vwp_sq [] fun K9 hK9 => vwp_region hT ?_
    simp
    refine hK9 _ ?_
    try clear hK9 K9
    refine vwp_ret (hR _ _ ?_)
    have hw : sumN l = (0, 1) := by
      unfold sumN
      rw [if_neg]
      simp
      exact ⟨n, List.mem_of_getElem? hn, h2⟩
    rw [hw]
    exact ret_k [2, 3] [] ([]) (.tup [.int .i64 0, .int .i64 1]) (⟨rfl, rfl⟩)
   · simp -failIfUnchanged at h2; all_goals
    refine vwp_skip ?_
    refine hK7 _ ?_
    try clear hK7 K7
    have w1 : IntKind.i64.wrap ((i : Int) + 1) = i + 1 := w64 (by omega) (by omega)
    refine vwp_live [0, 4] (vwp_region hT ?_)
    simp [w1]
    exact hK4 (i + 1) _ (Gh.to_k [0, 4] [] (he := by simp)) (⟨by omega, by rw [take_snoc hn]; simp; exact fun x hx => hx.elim (hm x) (fun e => e ▸ h2)⟩) (by omega)
  · simp -failIfUnchanged at h1; all_goals
   refine vwp_exit ?_
   simp only [inBlk, thenQ, if_true]
   refine hK2 _ ?_
   try clear hK2 K2
   refine vwp_sq [0] fun K10 hK10 => vwp_region hT ?_
   simp
   refine hK10 _ ?_
   try clear hK10 K10
   refine vwp_seq_k fun K11 hK11 => ?_
   have ha := all_at hi hm (by omega)
   clear hm
   refine vwp_sq [0, 5] fun K12 hK12 => vwp_region hT ?_
   simp
   refine hK12 _ ?_
   try clear hK12 K12
   refine vwp_block ?_
   refine vwp_loop_s (fun x : Nat × Int => ⟨[(0, sI l), (5, .int .i64 x.2), (6, .int .i64 (x.1 : Int))], []⟩) (fun x => x.1 ≤ l.length ∧ sumG 0 l = sumG x.2 (l.drop x.1)) (fun x => l.length - x.1) ((0, 0)) (Gh.to_k [0, 5, 6] []) (⟨by simp, by simp⟩) ?_
   rintro ⟨i, c⟩ ⟨hi, hs⟩
   dsimp only at hi hs ⊢
   intro K13 hK13
   refine vwp_seq_k fun K14 hK14 => ?_
   refine vwp_sq [0, 5, 6] fun K15 hK15 => vwp_region hT ?_
   simp
   refine hK15 _ ?_
   try clear hK15 K15
   refine vwp_cond (by first | rfl | (simp; rfl)) (fun h3 => ?_) fun h3 => ?_
   · simp -failIfUnchanged at h3; all_goals
    refine vwp_skip ?_
    refine hK14 _ ?_
    try clear hK14 K14
    refine vwp_seq_k fun K16 hK16 => ?_
    refine vwp_block ?_
    obtain ⟨n, hn⟩ := getI (l := l) (i := i) (by omega)
    refine vwp_sq [0, 5, 6] fun K17 hK17 => vwp_region hT ?_
    simp [hn]
    repeat refine ⟨by first | assumption | omega | (intros; omega), ?_⟩
    refine vcall_k [] (radd_spec c n) ?_
    rintro r ob' ⟨rfl, rfl⟩
    simp [hn]
    repeat refine ⟨by first | assumption | omega | (intros; omega), ?_⟩
    refine hK17 _ ?_
    try clear hK17 K17
    refine vwp_seq_k fun K18 hK18 => ?_
    refine vwp_sq [0, 6, 7, 8] fun K19 hK19 => vwp_region hT ?_
    simp
    refine hK19 _ ?_
    try clear hK19 K19
    refine vwp_cond (by first | rfl | (simp; rfl)) (fun h4 => ?_) fun h4 => ?_
    · simp -failIfUnchanged at h4; all_goals
     refine vwp_sq [8] fun K20 hK20 => vwp_region hT ?_
     simp
     refine hK20 _ ?_
     try clear hK20 K20
     refine vwp_ret (hR _ _ ?_)
     have hw : sumN l = (0, (addN c n).2) := by
       rw [sumN, if_pos ha, sumG_bad hn hs (by simpa using h4)]
     rw [hw]
     exact ret_k [2, 3] [] ([]) (.tup [.int .i64 0, .int .i64 (addN c n).2]) (⟨rfl, rfl⟩)
    · simp -failIfUnchanged at h4; all_goals
     refine vwp_skip ?_
     refine hK18 _ ?_
     try clear hK18 K18
     refine vwp_live [0, 6, 7] (vwp_region hT ?_)
     simp
     refine hK16 _ ?_
     try clear hK16 K16
     have w1 : IntKind.i64.wrap ((i : Int) + 1) = i + 1 := w64 (by omega) (by omega)
     refine vwp_live [0, 5, 6] (vwp_region hT ?_)
     simp [w1]
     exact hK13 ((i + 1, (addN c n).1)) _ (Gh.to_k [0, 5, 6] []) (⟨by dsimp only; omega, sumG_take hn hs (by simpa using h4)⟩) (by dsimp only; omega)
   · simp -failIfUnchanged at h3; all_goals
    refine vwp_exit ?_
    simp only [inBlk, thenQ, if_true]
    refine hK11 _ ?_
    try clear hK11 K11
    refine vwp_sq [5] fun K21 hK21 => vwp_region hT ?_
    simp
    refine hK21 _ ?_
    try clear hK21 K21
    refine vwp_ret (hR _ _ ?_)
    have hw : sumN l = (c, 0) := by
      rw [sumN, if_pos ha, hs, List.drop_of_length_le (by omega), sumG]
    rw [hw]
    exact ret_k [2, 3] [] ([]) (.tup [.int .i64 c, .int .i64 0]) (⟨rfl, rfl⟩)
theorem ints_spec (a b : List Int) (ha : a.length < 9223372036854775807) (hb : b.length < 9223372036854775807) : VC P 53 [sI a, sI b] [] (fun r ob' => r = .bool (decide (a = b)) ∧ ob' = []) := by
  refine VC_of_vwp_k ent_53 Try.func53 rfl (by simp) fun R hR => ?_
  refine vwp_sq [0, 1] fun K1 hK1 => vwp_region hT ?_
  simp
  refine hK1 _ ?_
  try clear hK1 K1
  refine vwp_seq_k fun K2 hK2 => ?_
  refine vwp_sq [0, 1] fun K3 hK3 => vwp_region hT ?_
  simp
  refine hK3 _ ?_
  try clear hK3 K3
  refine vwp_cond (by first | rfl | (simp; rfl)) (fun h1 => ?_) fun h1 => ?_
  · simp -failIfUnchanged at h1; all_goals
   refine vwp_sq [] fun K4 hK4 => vwp_region hT ?_
   simp
   refine hK4 _ ?_
   try clear hK4 K4
   refine vwp_ret (hR _ _ ?_)
   exact ret_k [4] [] ([]) (.bool (decide (a = b))) (⟨rfl, rfl⟩) (hr := by simp; intro e; subst e; omega)
  · simp -failIfUnchanged at h1; all_goals
   refine vwp_skip ?_
   refine hK2 _ ?_
   try clear hK2 K2
   refine vwp_seq_k fun K5 hK5 => ?_
   refine vwp_sq [0, 1] fun K6 hK6 => vwp_region hT ?_
   simp
   refine hK6 _ ?_
   try clear hK6 K6
   refine vwp_block ?_
   refine vwp_loop_s (fun i : Nat => ⟨[(0, sI a), (1, sI b), (5, .int .i64 (i : Int))], []⟩) (fun i => i ≤ a.length ∧ a.take i = b.take i) (fun i => a.length - i) (0) (Gh.to_k [0, 1, 5] []) (⟨by omega, by simp⟩) ?_
   rintro i ⟨hi, hab⟩
   intro K7 hK7
   refine vwp_seq_k fun K8 hK8 => ?_
   refine vwp_sq [0, 1, 5] fun K9 hK9 => vwp_region hT ?_
   simp
   refine hK9 _ ?_
   try clear hK9 K9
   refine vwp_cond (by first | rfl | (simp; rfl)) (fun h2 => ?_) fun h2 => ?_
   · simp -failIfUnchanged at h2; all_goals
    refine vwp_skip ?_
    refine hK8 _ ?_
    try clear hK8 K8
    refine vwp_seq_k fun K10 hK10 => ?_
    refine vwp_block ?_
    obtain ⟨x, hx⟩ := getI (l := a) (i := i) (by omega)
    obtain ⟨y, hy⟩ := getI (l := b) (i := i) (by omega)
    refine vwp_sq [0, 1, 5] fun K11 hK11 => vwp_still hT hm (by kernel_rfl) ?_
    simp [hx, hy]
    repeat refine ⟨by first | assumption | omega | (intros; omega), ?_⟩
    refine hK11 _ ?_
    try clear hK11 K11
    refine vwp_cond (by first | rfl | (simp; rfl)) (fun h3 => ?_) fun h3 => ?_
    · simp -failIfUnchanged at h3; all_goals
     refine vwp_sq [] fun K12 hK12 => vwp_region hT ?_
     simp
     refine hK12 _ ?_
     try clear hK12 K12
     refine vwp_ret (hR _ _ ?_)
     exact ret_k [4] [] ([]) (.bool (decide (a = b))) (⟨rfl, rfl⟩) (hr := by
       simp
       intro e; subst e
       rw [hx] at hy
       exact h3 (Option.some.inj hy))
    · simp -failIfUnchanged at h3; all_goals
     refine vwp_skip ?_
     refine hK10 _ ?_
     try clear hK10 K10
     have w1 : IntKind.i64.wrap ((i : Int) + 1) = i + 1 := w64 (by omega) (by omega)
     refine vwp_live [0, 1, 5] (vwp_region hT ?_)
     simp [w1]
     exact hK7 (i + 1) _ (Gh.to_k [0, 1, 5] []) (⟨by omega, by rw [List.take_add_one, List.take_add_one, hab, hx, hy, h3]⟩) (by omega)
   · simp -failIfUnchanged at h2; all_goals
    refine vwp_exit ?_
    simp only [inBlk, thenQ, if_true]
    refine hK5 _ ?_
    try clear hK5 K5
    refine vwp_sq [] fun K13 hK13 => vwp_region hT ?_
    simp
    refine hK13 _ ?_
    try clear hK13 K13
    refine vwp_ret (hR _ _ ?_)
    exact ret_k [4] [] ([]) (.bool (decide (a = b))) (⟨rfl, rfl⟩) (hr := by
      rw [List.take_of_length_le (by omega), List.take_of_length_le (by omega)] at hab
      simp [hab])

theorem mul_small {a b : Int} (h1 : 0 ≤ a) (h2 : a ≤ 1000000) (h3 : 0 ≤ b) (h4 : b ≤ 1000000000) : 0 ≤ a * b ∧ a * b ≤ 1000000000000000 := by
  have e1 := Int.mul_nonneg h1 h3
  have e2 := Int.mul_le_mul h2 h4 h3 (by omega)
  omega
theorem mul_room {a b : Int} (h1 : 0 < a) (h2 : a ≤ 1000000) (h3 : 0 < b) (h4 : b ≤ 1000000000) : ¬ (4611686018427387903 / b < a) := by
  have := (Int.le_ediv_iff_mul_le h3 (a := a) (b := 4611686018427387903)).2 (by have := (mul_small (Int.le_of_lt h1) h2 (Int.le_of_lt h3) h4).2; omega)
  omega
theorem mul_spec (a b : Int) (ha0 : 0 ≤ a) (ha1 : a ≤ 1000000) (hb0 : 0 ≤ b) (hb1 : b ≤ 1000000000) : VC P 77 [.int .i64 a, .int .i64 b] [] (fun r ob' => r = .tup [.int .i64 (a * b), .int .i64 0] ∧ ob' = []) := by
  refine VC_of_vwp_k ent_77 Try.func77 rfl (by simp) fun R hR => ?_
  refine vwp_sq [0, 1] fun K1 hK1 => vwp_region hT ?_
  simp
  refine hK1 _ ?_
  try clear hK1 K1
  refine vwp_seq_k fun K2 hK2 => ?_
  refine vwp_block ?_
  have q1 : mayN a = true := by simp [mayN]; omega
  have q2 : mayN b = true := by simp [mayN]; omega
  refine vwp_sq [0, 1] fun K3 hK3 => vwp_region hT ?_
  simp [q1, q2]
  refine vcall_k [] (may_spec a) ?_
  rintro r ob' ⟨rfl, rfl⟩
  simp [q1, q2]
  refine vcall_k [] (may_spec b) ?_
  rintro r ob' ⟨rfl, rfl⟩
  simp [q1, q2]
  refine hK3 _ ?_
  try clear hK3 K3
  refine vwp_cond (by first | rfl | (simp; rfl)) (fun h1 => ?_) fun h1 => ?_
  · simp -failIfUnchanged at h1; all_goals
   refine vwp_seq_k fun K4 hK4 => ?_
   simp_all
  · simp -failIfUnchanged at h1; all_goals
   refine vwp_sq [0, 1] fun K5 hK5 => vwp_region hT ?_
   simp
   refine hK5 _ ?_
   try clear hK5 K5
   refine vwp_cond (by first | rfl | (simp; rfl)) (fun h2 => ?_) fun h2 => ?_
   · simp -failIfUnchanged at h2; all_goals
    have q := h2
    have e : a * b = 0 := by rcases q with rfl | rfl <;> simp
    refine vwp_sq [] fun K6 hK6 => vwp_region hT ?_
    simp
    refine hK6 _ ?_
    try clear hK6 K6
    refine vwp_ret (hR _ _ ?_)
    rw [e]
    exact ret_k [4, 5] [] ([]) (.tup [.int .i64 0, .int .i64 0]) (⟨rfl, rfl⟩)
   · simp -failIfUnchanged at h2; all_goals
    have q := h2
    have hab : 0 < a ∧ 0 < b := by omega
    have w1 : max a (IntKind.i64.wrap (-a)) = a := by rw [w64 (by omega) (by omega)]; omega
    have w2 : max b (IntKind.i64.wrap (-b)) = b := by rw [w64 (by omega) (by omega)]; omega
    have w3 := mul_room hab.1 ha1 hab.2 hb1
    have w5 := mul_small ha0 ha1 hb0 hb1
    have w4 : IntKind.i64.wrap (a * b) = a * b := w64 (by omega) (by omega)
    have w6 : IntKind.i64.wrap (-a) = -a := w64 (by omega) (by omega)
    have w7 : IntKind.i64.wrap (-b) = -b := w64 (by omega) (by omega)
    have w8 : ¬ (a < -a) := by omega
    have w9 : ¬ (b < -b) := by omega
    have t1 : (4611686018427387903 : Int).tdiv b = 4611686018427387903 / b := Int.tdiv_eq_ediv_of_nonneg (by omega)
    have t2 := Int.ediv_le_self (b := b) (a := 4611686018427387903) (by omega)
    have t3 := Int.ediv_nonneg (a := 4611686018427387903) (b := b) (by omega) (by omega)
    have t4 : IntKind.i64.wrap (4611686018427387903 / b) = 4611686018427387903 / b := w64 (by omega) (by omega)
    refine vwp_skip ?_
    refine hK2 _ ?_
    try clear hK2 K2
    refine vwp_sq [0, 1] fun K7 hK7 => vwp_region hT ?_
    simp [w6, w7, w8, w9]
    repeat refine ⟨by first | assumption | omega | (intros; omega), ?_⟩
    refine hK7 _ ?_
    try clear hK7 K7
    refine vwp_seq_k fun K8 hK8 => ?_
    refine vwp_sq [0, 1, 6, 7] fun K9 hK9 => vwp_region hT ?_
    simp [t1, t4, w3]
    repeat refine ⟨by first | assumption | omega | (intros; omega), ?_⟩
    refine hK9 _ ?_
    try clear hK9 K9
    refine vwp_cond (by first | rfl | (simp; rfl)) (fun h3 => ?_) fun h3 => ?_
    · simp -failIfUnchanged at h3; all_goals
     refine vwp_sq [] fun K10 hK10 => vwp_region hT ?_
     simp
     refine hK10 _ ?_
     try clear hK10 K10
     refine vwp_ret (hR _ _ ?_)
     omega
    · simp -failIfUnchanged at h3; all_goals
     refine vwp_skip ?_
     refine hK8 _ ?_
     try clear hK8 K8
     refine vwp_sq [0, 1] fun K11 hK11 => vwp_region hT ?_
     simp [w4]
     refine hK11 _ ?_
     try clear hK11 K11
     refine vwp_ret (hR _ _ ?_)
     exact ret_k [4, 5] [] ([]) (.tup [.int .i64 (a * b), .int .i64 0]) (⟨rfl, rfl⟩)
end Go.Proofs.Ytinigjmfjabicaa
