/- The small functions of log, on bytes. -/
import Derived.Test.YtifhbgppjblobaaDisk2
import Derived.Test.YtifhbgppjblobaaSame
import Derived.Test.YtifhbgppjblobaaDisk3
import Derived.Test.YtifhbgppjblobaaVXc
import Derived.Test.YtifhbgppjblobaaQuota1
namespace Go.Proofs.Ytifhbgppjblobaa
open Go Go.VX Go.RowKit
set_option linter.unusedVariables false
set_option linter.unusedSimpArgs false
set_option maxHeartbeats 20000000
set_option maxRecDepth 100000

abbrev sB (l : List Int) : V := .fs l.length (bts l)
abbrev sBB (rs : List (List Int)) : V := .fs rs.length (rs.map sB)
@[simp] theorem rn1_sB (f : Nat → Nat) : rn1 f ∘ sB = sB := rfl
@[simp] theorem rn1_u8_comp {α : Type} (f : Nat → Nat) (g : α → Int) : rn1 f ∘ V.int .u8 ∘ g = V.int .u8 ∘ g := rfl
theorem u8_wrap {x : Int} (h0 : 0 ≤ x) : IntKind.u8.wrap x = x % 256 := by rw [IntKind.wrap_u8]
theorem bclone_nil  : VC P 37 [.nils] [] (fun r ob' => r = .nils ∧ ob' = []) := by
  refine VC_of_vwp_k ent_37 Try.func37 rfl (by simp) fun R hR => ?_
  refine vwp_sq [0] fun K1 hK1 => vwp_region hT ?_
  simp
  refine hK1 _ ?_
  try clear hK1 K1
  refine vwp_seq_k fun K2 hK2 => ?_
  refine vwp_sq [0] fun K3 hK3 => vwp_region hT ?_
  simp
  refine hK3 _ ?_
  try clear hK3 K3
  refine vwp_cond (by first | rfl | (simp; rfl)) (fun h1 => ?_) fun h1 => ?_
  · simp -failIfUnchanged at h1; all_goals
   refine vwp_sq [] fun K4 hK4 => vwp_region hT ?_
   simp
   refine hK4 _ ?_
   try clear hK4 K4
   refine vwp_ret (hR _ _ ?_)
   exact ret_k [2] [] ([]) (.nils) (⟨rfl, rfl⟩)
  · simp -failIfUnchanged at h1; all_goals
   refine vwp_skip ?_
   refine hK2 _ ?_
   try clear hK2 K2
   refine vwp_seq_k fun K5 hK5 => ?_
   simp at *
theorem bclone_spec (l : List Int) (hl : l ≠ []) (hln : l.length < 1099511627776) : VC P 37 [sB l] [] (fun r ob' => r = .sl 0 l.length 1 0 l.length ∧ ob' = [.live (bts l)]) := by
  refine VC_of_vwp_k ent_37 Try.func37 rfl (by simp) fun R hR => ?_
  refine vwp_sq [0] fun K1 hK1 => vwp_region hT ?_
  simp
  refine hK1 _ ?_
  try clear hK1 K1
  refine vwp_seq_k fun K2 hK2 => ?_
  have hl0 : l.length ≠ 0 := fun e => hl (List.length_eq_zero_iff.1 e)
  refine vwp_sq [0] fun K3 hK3 => vwp_region hT ?_
  simp [hl0]
  refine hK3 _ ?_
  try clear hK3 K3
  refine vwp_cond (by first | rfl | (simp; rfl)) (fun h1 => ?_) fun h1 => ?_
  · simp -failIfUnchanged at h1; all_goals
   refine vwp_seq_k fun K4 hK4 => ?_
   simp at *
  · simp -failIfUnchanged at h1; all_goals
   refine vwp_skip ?_
   refine hK2 _ ?_
   try clear hK2 K2
   refine vwp_sq [0] fun K5 hK5 => vwp_region hT ?_
   simp
   repeat refine ⟨by first | assumption | omega | (intros; omega), ?_⟩
   refine hK5 _ ?_
   try clear hK5 K5
   refine vwp_ret (hR _ _ ?_)
   exact ret_k [2] [0] ([.live (bts l)]) (.sl 0 l.length 1 0 l.length) (⟨rfl, rfl⟩)
theorem bgrow_spec (n : Nat) (hn : n < 1099511627776) : VC P 74 [.nils, .int .i64 n] [] (fun r ob' => r = .sl 0 n 1 0 0 ∧ ob' = [.live (List.replicate n (.int .u8 0))]) := by
  refine VC_of_vwp_k ent_74 Try.func74 rfl (by simp) fun R hR => ?_
  refine vwp_sq [0, 1] fun K1 hK1 => vwp_region hT ?_
  simp
  refine hK1 _ ?_
  try clear hK1 K1
  refine vwp_seq_k fun K2 hK2 => ?_
  refine vwp_sq [0, 1] fun K3 hK3 => vwp_region hT ?_
  simp
  refine hK3 _ ?_
  try clear hK3 K3
  refine vwp_cond (by first | rfl | (simp; rfl)) (fun h1 => ?_) fun h1 => ?_
  · simp -failIfUnchanged at h1; all_goals
   omega
  · simp -failIfUnchanged at h1; all_goals
   refine vwp_skip ?_
   refine hK2 _ ?_
   try clear hK2 K2
   refine vwp_seq_k fun K4 hK4 => ?_
   have w1 : IntKind.i64.wrap ((n : Int) - IntKind.i64.wrap 0) = n := by
     have e : IntKind.i64.wrap 0 = 0 := rfl
     rw [e, Int.sub_zero]
     exact w64 (by omega) (by omega)
   refine vwp_sq [0, 1] fun K5 hK5 => vwp_region hT ?_
   simp [w1]
   refine hK5 _ ?_
   try clear hK5 K5
   refine vwp_sq [0, 1] fun K6 hK6 => vwp_region hT ?_
   simp
   refine hK6 _ ?_
   try clear hK6 K6
   refine vwp_cond (by first | rfl | (simp; rfl)) (fun h2 => ?_) fun h2 => ?_
   · simp -failIfUnchanged at h2; all_goals
    refine vwp_live [0, 1] (vwp_region hT ?_)
    simp
    repeat refine ⟨by first | assumption | omega | (intros; omega), ?_⟩
    refine hK4 _ ?_
    try clear hK4 K4
    refine vwp_sq [0] fun K7 hK7 => vwp_region hT ?_
    simp
    refine hK7 _ ?_
    try clear hK7 K7
    refine vwp_ret (hR _ _ ?_)
    exact ret_k [4] [0] ([.live (List.replicate n (.int .u8 0))]) (.sl 0 n 1 0 0) (⟨rfl, rfl⟩)
   · simp -failIfUnchanged at h2; all_goals
    obtain rfl : n = 0 := by omega
    refine vwp_skip ?_
    refine hK4 _ ?_
    try clear hK4 K4
    refine vwp_gh (Gh.virt 0 1 (by rfl)) ?_
    simp
    refine vwp_sq [0] fun K8 hK8 => vwp_region hT ?_
    simp
    refine hK8 _ ?_
    try clear hK8 K8
    refine vwp_ret (hR _ _ ?_)
    exact ret_k [4] [0] ([.live []]) (.sl 0 0 1 0 0) (⟨rfl, rfl⟩)

theorem bspl_fill {D l : List Int} {n : Nat} {z : V} (h : D.length + l.length ≤ n) : spl (D.map (V.int .u8) ++ List.replicate (n - D.length) z) D.length (l.map (V.int .u8)) = D.map (V.int .u8) ++ (l.map (V.int .u8) ++ List.replicate (n - (D.length + l.length)) z) := by
  rw [spl_eq (by simp; omega), List.take_left' (by simp), List.drop_append, List.drop_of_length_le (by simp)]
  simp only [List.length_map, List.nil_append, List.drop_replicate, List.append_assoc]
  have e : n - D.length - (D.length + l.length - D.length) = n - (D.length + l.length) := by omega
  rw [e]
def catL (R : List (List Int)) : List Int := R.flatten
theorem cat_take {R : List (List Int)} {i : Nat} {l : List Int} (h : R[i]? = some l) : catL (R.take (i + 1)) = catL (R.take i) ++ l := by
  simp [catL, List.take_add_one, h]
theorem cat_le (R : List (List Int)) (i : Nat) : (catL (R.take i)).length ≤ (catL R).length := by
  have : catL R = catL (R.take i) ++ catL (R.drop i) := by simp only [catL]; rw [← List.flatten_append, List.take_append_drop]
  rw [this, List.length_append]; omega
theorem bconcat_spec (rs : List (List Int)) (hrs : rs.length < 1099511627776) (hn : (catL rs).length < 1099511627776) : VC P 63 [sBB rs] [] (fun r ob' => r = .sl 0 (catL rs).length 1 0 (catL rs).length ∧ ob' = [.live (bts (catL rs))]) := by
  refine VC_of_vwp_k ent_63 Try.func63 rfl (by simp) fun R hR => ?_
  refine vwp_sq [0] fun K1 hK1 => vwp_region hT ?_
  simp
  refine hK1 _ ?_
  try clear hK1 K1
  refine vwp_sq [0] fun K2 hK2 => vwp_region hT ?_
  simp
  refine hK2 _ ?_
  try clear hK2 K2
  refine vwp_seq_k fun K3 hK3 => ?_
  refine vwp_sq [0, 3] fun K4 hK4 => vwp_region hT ?_
  simp
  refine hK4 _ ?_
  try clear hK4 K4
  refine vwp_block ?_
  refine vwp_loop_s (fun i : Nat => ⟨[(0, sBB rs), (3, .int .i64 ((catL (rs.take i)).length : Int)), (9, sBB rs), (10, .int .i64 rs.length), (11, .int .i64 (i : Int))], []⟩) (fun i => i ≤ rs.length) (fun i => rs.length - i) (0) (Gh.to_k [0, 3, 9, 10, 11] [] (he := by simp [catL])) (by omega) ?_
  rintro i hi
  intro K5 hK5
  refine vwp_sq [0, 3, 9, 10, 11] fun K6 hK6 => vwp_region hT ?_
  simp
  refine hK6 _ ?_
  try clear hK6 K6
  refine vwp_seq_k fun K7 hK7 => ?_
  refine vwp_cond (by first | rfl | (simp; rfl)) (fun h1 => ?_) fun h1 => ?_
  · simp -failIfUnchanged at h1; all_goals
   refine vwp_skip ?_
   refine hK7 _ ?_
   try clear hK7 K7
   refine vwp_seq_k fun K8 hK8 => ?_
   refine vwp_block ?_
   obtain ⟨l, hl⟩ := getI (l := rs) (i := i) (by omega)
   have hle := cat_le rs i
   have hle2 := cat_le rs (i + 1)
   rw [cat_take hl, List.length_append] at hle2
   refine vwp_sq [0, 3, 9, 10, 11] fun K9 hK9 => vwp_region hT ?_
   simp [hl]
   repeat refine ⟨by first | assumption | omega | (intros; omega), ?_⟩
   refine hK9 _ ?_
   try clear hK9 K9
   have w1 : IntKind.i64.wrap (((catL (rs.take i)).length : Int) + (l.length : Int)) = ((catL (rs.take i)).length : Int) + (l.length : Int) := w64 (by omega) (by omega)
   refine vwp_sq [0, 3, 5, 9, 10, 11] fun K10 hK10 => vwp_region hT ?_
   simp [w1]
   refine hK10 _ ?_
   try clear hK10 K10
   refine vwp_sq [0, 3, 9, 10, 11] fun K11 hK11 => vwp_region hT ?_
   simp
   refine hK11 _ ?_
   try clear hK11 K11
   refine vwp_cond (by first | rfl | (simp; rfl)) (fun h2 => ?_) fun h2 => ?_
   · simp -failIfUnchanged at h2; all_goals
    omega
   · simp -failIfUnchanged at h2; all_goals
    refine vwp_skip ?_
    refine hK8 _ ?_
    try clear hK8 K8
    have w1 : IntKind.i64.wrap ((i : Int) + 1) = i + 1 := w64 (by omega) (by omega)
    refine vwp_live [0, 3, 9, 10, 11] (vwp_region hT ?_)
    simp [w1]
    exact hK5 (i + 1) _ (Gh.to_k [0, 3, 9, 10, 11] [] (he := by simp [cat_take hl])) (by omega) (by omega)
  · simp -failIfUnchanged at h1; all_goals
   refine vwp_exit ?_
   simp only [inBlk, thenQ, if_true]
   refine hK3 _ ?_
   try clear hK3 K3
   have e : i = rs.length := by omega
   subst e
   rw [List.take_length]
   refine vwp_sq [0, 3] fun K12 hK12 => vwp_region hT ?_
   simp
   refine vcall_k [] (bgrow_spec _ hn) ?_
   rintro r ob' ⟨rfl, rfl⟩
   simp
   refine hK12 _ ?_
   try clear hK12 K12
   refine vwp_seq_k fun K13 hK13 => ?_
   refine vwp_sq [0, 6] fun K14 hK14 => vwp_region hT ?_
   simp
   refine hK14 _ ?_
   try clear hK14 K14
   refine vwp_block ?_
   refine vwp_loop_s (fun x : Nat × List Int => ⟨[(6, .sl 0 (catL rs).length 1 0 x.2.length), (25, sBB rs), (26, .int .i64 rs.length), (27, .int .i64 (x.1 : Int))], [.live ((x.2).map (.int .u8) ++ List.replicate ((catL rs).length - x.2.length) (.int .u8 0))]⟩) (fun x => x.1 ≤ rs.length ∧ x.2 = catL (rs.take x.1)) (fun x => rs.length - x.1) ((0, [])) (Gh.to_k [6, 25, 26, 27] [0]) (⟨by simp, by simp [catL]⟩) ?_
   rintro ⟨i, D⟩ ⟨hi, hD⟩
   dsimp only at hi hD ⊢
   intro K15 hK15
   refine vwp_sq [6, 25, 26, 27] fun K16 hK16 => vwp_region hT ?_
   simp
   refine hK16 _ ?_
   try clear hK16 K16
   refine vwp_seq_k fun K17 hK17 => ?_
   refine vwp_cond (by first | rfl | (simp; rfl)) (fun h3 => ?_) fun h3 => ?_
   · simp -failIfUnchanged at h3; all_goals
    refine vwp_skip ?_
    refine hK17 _ ?_
    try clear hK17 K17
    refine vwp_seq_k fun K18 hK18 => ?_
    refine vwp_block ?_
    obtain ⟨l, hl⟩ := getI (l := rs) (i := i) (by omega)
    have hle2 := cat_le rs (i + 1)
    rw [cat_take hl, List.length_append, ← hD] at hle2
    refine vwp_sq [6, 25, 26, 27] fun K19 hK19 => vwp_region hT ?_
    simp [hl]
    repeat refine ⟨by first | assumption | omega | (intros; omega), ?_⟩
    refine hK19 _ ?_
    try clear hK19 K19
    rcases Nat.lt_or_ge D.length (catL rs).length with hk | hk
    · have hsp := bspl_fill (D := D) (l := l) (n := (catL rs).length) (z := .int .u8 0) hle2
      refine vwp_live [6, 8, 25, 26, 27] (vwp_region hT ?_)
      simp [hk, hsp]
      repeat refine ⟨by first | assumption | omega | (intros; omega), ?_⟩
      refine hK18 _ ?_
      try clear hK18 K18
      have w1 : IntKind.i64.wrap ((i : Int) + 1) = i + 1 := w64 (by omega) (by omega)
      refine vwp_live [6, 25, 26, 27] (vwp_region hT ?_)
      simp [w1]
      exact hK15 ((i + 1, D ++ l)) _ (Gh.to_k [6, 25, 26, 27] [0]) (⟨by dsimp only; omega, by dsimp only; rw [cat_take hl, hD]⟩) (by dsimp only; omega)
    · have hk1 : D.length = (catL rs).length := by omega
      obtain rfl : l = [] := List.length_eq_zero_iff.1 (by omega)
      have hk2 : ¬ D.length < (catL rs).length := by omega
      refine vwp_live [6, 8, 25, 26, 27] (vwp_region hT ?_)
      simp [hk1]
      repeat refine ⟨by first | assumption | omega | (intros; omega), ?_⟩
      refine hK18 _ ?_
      try clear hK18 K18
      have w1 : IntKind.i64.wrap ((i : Int) + 1) = i + 1 := w64 (by omega) (by omega)
      refine vwp_live [6, 25, 26, 27] (vwp_region hT ?_)
      simp [w1]
      exact hK15 (i + 1, D ++ []) _ (Gh.to_k [6, 25, 26, 27] [0] (he := by simp [hk1]) (hh := by simp [hk1])) (⟨by dsimp only; omega, by dsimp only; rw [cat_take hl, hD]⟩) (by dsimp only; omega)
   · simp -failIfUnchanged at h3; all_goals
    refine vwp_exit ?_
    simp only [inBlk, thenQ, if_true]
    refine hK13 _ ?_
    try clear hK13 K13
    refine vwp_sq [6] fun K20 hK20 => vwp_region hT ?_
    simp
    refine hK20 _ ?_
    try clear hK20 K20
    refine vwp_ret (hR _ _ ?_)
    have e : i = rs.length := by omega
    subst e
    rw [List.take_length] at hD
    subst hD
    exact ret_k [2] [0] ([.live (bts (catL rs))]) (.sl 0 (catL rs).length 1 0 (catL rs).length) (⟨rfl, rfl⟩)
theorem bequal_spec (a b : List Int) (ha : a.length < 9223372036854775807) (hb : b.length < 9223372036854775807) : VC P 59 [sB a, sB b] [] (fun r ob' => r = .bool (decide (a = b)) ∧ ob' = []) := by
  refine VC_of_vwp_k ent_59 Try.func59 rfl (by simp) fun R hR => ?_
  refine vwp_sq [0, 1] fun K1 hK1 => vwp_region hT ?_
  simp
  refine hK1 _ ?_
  try clear hK1 K1
  refine vwp_seq_k fun K2 hK2 => ?_
  refine vwp_sq [0, 1] fun K3 hK3 => vwp_region hT ?_
  simp
  refine hK3 _ ?_
  try clear hK3 K3
  refine vwp_cond (by first | rfl | (simp; rfl)) (fun h1 => ?_) fun h1 => ?_
  · simp -failIfUnchanged at h1; all_goals
   refine vwp_sq [] fun K4 hK4 => vwp_region hT ?_
   simp
   refine hK4 _ ?_
   try clear hK4 K4
   refine vwp_ret (hR _ _ ?_)
   exact ret_k [4] [] ([]) (.bool (decide (a = b))) (⟨rfl, rfl⟩) (hr := by simp; intro e; subst e; omega)
  · simp -failIfUnchanged at h1; all_goals
   refine vwp_skip ?_
   refine hK2 _ ?_
   try clear hK2 K2
   refine vwp_seq_k fun K5 hK5 => ?_
   refine vwp_sq [0, 1] fun K6 hK6 => vwp_region hT ?_
   simp
   refine hK6 _ ?_
   try clear hK6 K6
   refine vwp_block ?_
   refine vwp_loop_s (fun i : Nat => ⟨[(0, sB a), (1, sB b), (12, .int .i64 a.length), (13, .int .i64 (i : Int))], []⟩) (fun i => i ≤ a.length ∧ a.take i = b.take i) (fun i => a.length - i) (0) (Gh.to_k [0, 1, 12, 13] []) (⟨by omega, by simp⟩) ?_
   rintro i ⟨hi, hab⟩
   intro K7 hK7
   refine vwp_sq [0, 1, 12, 13] fun K8 hK8 => vwp_region hT ?_
   simp
   refine hK8 _ ?_
   try clear hK8 K8
   refine vwp_seq_k fun K9 hK9 => ?_
   refine vwp_cond (by first | rfl | (simp; rfl)) (fun h2 => ?_) fun h2 => ?_
   · simp -failIfUnchanged at h2; all_goals
    refine vwp_skip ?_
    refine hK9 _ ?_
    try clear hK9 K9
    refine vwp_seq_k fun K10 hK10 => ?_
    refine vwp_block ?_
    refine vwp_sq [0, 1, 12, 13] fun K11 hK11 => vwp_region hT ?_
    simp
    refine hK11 _ ?_
    try clear hK11 K11
    obtain ⟨x, hx⟩ := getI (l := a) (i := i) (by omega)
    obtain ⟨y, hy⟩ := getI (l := b) (i := i) (by omega)
    refine vwp_sq [0, 1, 5, 12, 13] fun K12 hK12 => vwp_still hT hm (by kernel_rfl) ?_
    simp [hx, hy]
    repeat refine ⟨by first | assumption | omega | (intros; omega), ?_⟩
    refine hK12 _ ?_
    try clear hK12 K12
    refine vwp_cond (by first | rfl | (simp; rfl)) (fun h3 => ?_) fun h3 => ?_
    · simp -failIfUnchanged at h3; all_goals
     refine vwp_sq [] fun K13 hK13 => vwp_region hT ?_
     simp
     refine hK13 _ ?_
     try clear hK13 K13
     refine vwp_ret (hR _ _ ?_)
     exact ret_k [4] [] ([]) (.bool (decide (a = b))) (⟨rfl, rfl⟩) (hr := by
       simp
       intro e; subst e
       rw [hx] at hy
       exact h3 (Option.some.inj hy))
    · simp -failIfUnchanged at h3; all_goals
     refine vwp_skip ?_
     refine hK10 _ ?_
     try clear hK10 K10
     have w1 : IntKind.i64.wrap ((i : Int) + 1) = i + 1 := w64 (by omega) (by omega)
     refine vwp_live [0, 1, 12, 13] (vwp_region hT ?_)
     simp [w1]
     exact hK7 (i + 1) _ (Gh.to_k [0, 1, 12, 13] []) (⟨by omega, by rw [List.take_add_one, List.take_add_one, hab, hx, hy, h3]⟩) (by omega)
   · simp -failIfUnchanged at h2; all_goals
    refine vwp_exit ?_
    simp only [inBlk, thenQ, if_true]
    refine hK5 _ ?_
    try clear hK5 K5
    refine vwp_sq [] fun K14 hK14 => vwp_region hT ?_
    simp
    refine hK14 _ ?_
    try clear hK14 K14
    refine vwp_ret (hR _ _ ?_)
    exact ret_k [4] [] ([]) (.bool (decide (a = b))) (⟨rfl, rfl⟩) (hr := by
      rw [List.take_of_length_le (by omega), List.take_of_length_le (by omega)] at hab
      simp [hab])
end Go.Proofs.Ytifhbgppjblobaa
