/- Sums of bytes, by the document: the same. -/
import Derived.Test.YtifhbgppjblobaaLogE
namespace Go.Proofs.Ytifhbgppjblobaa
open Go Go.VX Go.RowKit
set_option linter.unusedVariables false
set_option linter.unusedSimpArgs false
set_option maxHeartbeats 20000000
set_option maxRecDepth 100000

theorem xor_div2 (a b : Nat) : (a ^^^ b) / 2 = (a / 2) ^^^ (b / 2) := by
  apply Nat.eq_of_testBit_eq
  intro i
  rw [Nat.testBit_xor, ← Nat.testBit_succ, ← Nat.testBit_succ, ← Nat.testBit_succ, Nat.testBit_xor]
theorem xor_mod2 (a b : Nat) : (a ^^^ b) % 2 = (a % 2) ^^^ (b % 2) := by
  have := Nat.xor_mod_two_pow (a := a) (b := b) (n := 1)
  simpa using this
theorem step_xor (a b : Nat) : step (a ^^^ b) = step a ^^^ step b := by
  unfold step
  rw [xor_div2, xor_mod2]
  rcases Nat.mod_two_eq_zero_or_one a with ha | ha <;> rcases Nat.mod_two_eq_zero_or_one b with hb | hb <;> rw [ha, hb]
  · simp
  · simp [Nat.xor_assoc]
  · simp only [show (1 ^^^ 0 : Nat) = 1 from rfl, if_true, show ¬ ((0 : Nat) = 1) by decide, if_false]
    rw [Nat.xor_assoc, Nat.xor_comm (b / 2), ← Nat.xor_assoc]
  · simp only [show (1 ^^^ 1 : Nat) = 0 from rfl, if_true, show ¬ ((0 : Nat) = 1) by decide, if_false]
    rw [Nat.xor_assoc, ← Nat.xor_assoc 3988292384, Nat.xor_comm 3988292384 (b / 2), Nat.xor_assoc (b / 2), Nat.xor_self, Nat.xor_zero]
theorem stepK_xor (a b : Nat) : ∀ k, stepK k (a ^^^ b) = stepK k a ^^^ stepK k b
  | 0 => rfl
  | k + 1 => by simp only [stepK]; rw [stepK_xor a b k, step_xor]
theorem step_even (z : Nat) : step (2 * z) = z := by
  unfold step
  rw [if_neg (by omega)]
  omega
theorem stepK_high (y : Nat) : stepK 8 (y * 256) = y := by
  have e : y * 256 = 2 * (2 * (2 * (2 * (2 * (2 * (2 * (2 * y))))))) := by omega
  simp only [stepK, e, step_even]
theorem low_high (c : Nat) : (c % 256) ^^^ (c / 256 * 256) = c := by
  apply Nat.eq_of_testBit_eq
  intro i
  have e1 : (c % 256).testBit i = (decide (i < 8) && c.testBit i) := Nat.testBit_mod_two_pow c 8 i
  have e2 : (c / 256 * 256).testBit i = (decide (8 ≤ i) && c.testBit i) := by
    have h1 := Nat.testBit_mul_two_pow (x := c / 256) (i := 8) (j := i)
    have h2 := Nat.testBit_div_two_pow (n := 8) c (i - 8)
    rw [show (256 : Nat) = 2 ^ 8 from rfl]
    rw [h1, h2]
    by_cases h : 8 ≤ i
    · simp [h]
    · simp [h]
  rw [Nat.testBit_xor, e1, e2]
  by_cases h : i < 8
  · have h2 : ¬ 8 ≤ i := by omega
    simp [h, h2]
  · have h2 : 8 ≤ i := by omega
    simp [h, h2]
theorem crcStep_eq (c x : Nat) : stepK 8 (c ^^^ x) = crcStep c x := by
  have e : c ^^^ x = ((c % 256) ^^^ x) ^^^ (c / 256 * 256) := by
    rw [Nat.xor_assoc, Nat.xor_comm x, ← Nat.xor_assoc, low_high]
  rw [e, stepK_xor, stepK_high]; rfl
theorem eight_spec (n : Nat) (hn : n < 4294967296) : VC P 77 [.int .u32 n] [] (fun r ob' => r = .int .u32 (stepK 8 n : Int) ∧ ob' = []) := by
  refine VC_of_vwp_k ent_77 Try.func77 rfl (by simp) fun R hR => ?_
  refine vwp_sq [0] fun K1 hK1 => vwp_region hT ?_
  simp
  refine hK1 _ ?_
  try clear hK1 K1
  refine vwp_seq_k fun K2 hK2 => ?_
  refine vwp_sq [0] fun K3 hK3 => vwp_region hT ?_
  simp
  refine hK3 _ ?_
  try clear hK3 K3
  refine vwp_block ?_
  refine vwp_loop_s (fun u : Nat × Nat => ⟨[(0, .int .u32 (u.2 : Int)), (3, .int .i64 (u.1 : Int))], []⟩) (fun u => u.1 ≤ 8 ∧ u.2 = stepK u.1 n) (fun u => 8 - u.1) ((0, n)) (Gh.to_k [0, 3] []) (⟨by simp, rfl⟩) ?_
  rintro ⟨i, c⟩ ⟨hi, hc⟩
  dsimp only at hi hc ⊢
  intro K4 hK4
  refine vwp_seq_k fun K5 hK5 => ?_
  refine vwp_sq [0, 3] fun K6 hK6 => vwp_region hT ?_
  simp
  refine hK6 _ ?_
  try clear hK6 K6
  refine vwp_cond (by first | rfl | (simp; rfl)) (fun h1 => ?_) fun h1 => ?_
  · simp -failIfUnchanged at h1; all_goals
   refine vwp_skip ?_
   refine hK5 _ ?_
   try clear hK5 K5
   refine vwp_seq_k fun K7 hK7 => ?_
   refine vwp_block ?_
   have hcl : c < 4294967296 := by rw [hc]; exact stepK_lt hn i
   obtain ⟨c2, hc2⟩ : ∃ c2, c2 = step c := ⟨_, rfl⟩
   obtain ⟨h, hh⟩ : ∃ h, h = c / 2 := ⟨_, rfl⟩
   obtain ⟨b, hb⟩ : ∃ b, b = c % 2 := ⟨_, rfl⟩
   have w2 : (c : Int).tmod 2 = (b : Int) := by rw [hb]; rfl
   have w3 : (c : Int).tdiv 2 = (h : Int) := by rw [hh]; rfl
   have w4 : IntKind.u32.wrap (h : Int) = (h : Int) := wu32 (by omega) (by omega)
   refine vwp_sq [0, 3] fun K8 hK8 => vwp_region hT ?_
   simp [w2]
   repeat refine ⟨by first | assumption | omega | (intros; omega), ?_⟩
   refine hK8 _ ?_
   try clear hK8 K8
   refine vwp_sq [0, 3, 4] fun K9 hK9 => vwp_region hT ?_
   simp [w3, w4]
   repeat refine ⟨by first | assumption | omega | (intros; omega), ?_⟩
   refine hK9 _ ?_
   try clear hK9 K9
   refine vwp_sq [0, 3, 4] fun K10 hK10 => vwp_region hT ?_
   simp
   refine hK10 _ ?_
   try clear hK10 K10
   refine vwp_cond (by first | rfl | (simp; rfl)) (fun h2 => ?_) fun h2 => ?_
   · simp -failIfUnchanged at h2; all_goals
    have hb1 : b = 1 := by
      have q := h2
      omega
    have w5 : ibits .xor .u32 (h : Int) 3988292384 = (c2 : Int) := by
      have e : (3988292384 : Int) = ((3988292384 : Nat) : Int) := rfl
      rw [e, xor32 (by omega) (by omega), hc2, step, if_pos (by omega), hh]
    refine vwp_live [0, 3] (vwp_region hT ?_)
    simp [w5]
    refine hK7 _ ?_
    try clear hK7 K7
    have w1 : IntKind.i64.wrap ((i : Int) + 1) = i + 1 := w64 (by omega) (by omega)
    refine vwp_live [0, 3] (vwp_region hT ?_)
    simp [w1]
    exact hK4 ((i + 1, c2)) _ (Gh.to_k [0, 3] []) (⟨by dsimp only; omega, by dsimp only; rw [hc2, hc]; rfl⟩) (by dsimp only; omega)
   · simp -failIfUnchanged at h2; all_goals
    have hb1 : ¬ b = 1 := by
      have q := h2
      omega
    have w5 : h = c2 := by rw [hc2, step, if_neg (by omega), hh]
    refine vwp_skip ?_
    refine hK7 _ ?_
    try clear hK7 K7
    have w1 : IntKind.i64.wrap ((i : Int) + 1) = i + 1 := w64 (by omega) (by omega)
    refine vwp_live [0, 3] (vwp_region hT ?_)
    simp [w1]
    exact hK4 (i + 1, c2) _ (Gh.to_k [0, 3] [] (he := by simp [w5])) (⟨by dsimp only; omega, by dsimp only; rw [hc2, hc]; rfl⟩) (by dsimp only; omega)
  · simp -failIfUnchanged at h1; all_goals
   refine vwp_exit ?_
   simp only [inBlk, thenQ, if_true]
   refine hK2 _ ?_
   try clear hK2 K2
   refine vwp_sq [0] fun K11 hK11 => vwp_region hT ?_
   simp
   refine hK11 _ ?_
   try clear hK11 K11
   refine vwp_ret (hR _ _ ?_)
   have e8 : i = 8 := by omega
   rw [e8] at hc
   subst hc
   exact ret_k [2] [] ([]) (.int .u32 (stepK 8 n : Int)) (⟨rfl, rfl⟩)
theorem rmore_spec (s : Nat) (l : List Int) (hs : s < 4294967296) (hl : l.length < 1099511627776) (hb : byteL l) : VC P 70 [.int .u32 s, sB l] [] (fun r ob' => r = .int .u32 (moreN s l : Int) ∧ ob' = []) := by
  refine VC_of_vwp_k ent_70 Try.func70 rfl (by simp) fun R hR => ?_
  refine vwp_sq [0, 1] fun K1 hK1 => vwp_region hT ?_
  simp
  refine hK1 _ ?_
  try clear hK1 K1
  obtain ⟨s2, hs2⟩ : ∃ s2, s2 = 4294967295 - s := ⟨_, rfl⟩
  have w1 : IntKind.u32.wrap (4294967295 - (s : Int)) = (s2 : Int) := (wu32 (by omega) (by omega)).trans (by omega)
  refine vwp_sq [0, 1] fun K2 hK2 => vwp_region hT ?_
  simp [w1]
  refine hK2 _ ?_
  try clear hK2 K2
  refine vwp_seq_k fun K3 hK3 => ?_
  refine vwp_sq [1, 5] fun K4 hK4 => vwp_region hT ?_
  simp
  refine hK4 _ ?_
  try clear hK4 K4
  refine vwp_block ?_
  refine vwp_loop_s (fun u : Nat × Nat => ⟨[(1, sB l), (5, .int .u32 (u.2 : Int)), (6, .int .i64 (u.1 : Int))], []⟩) (fun u => u.1 ≤ l.length ∧ u.2 = crcL s2 (l.take u.1) ∧ u.2 < 4294967296) (fun u => l.length - u.1) ((0, s2)) (Gh.to_k [1, 5, 6] []) (⟨by simp, by simp [crcL], by dsimp only; omega⟩) ?_
  rintro ⟨i, c⟩ ⟨hi, hc, hcl⟩
  dsimp only at hi hc hcl ⊢
  intro K5 hK5
  refine vwp_seq_k fun K6 hK6 => ?_
  refine vwp_sq [1, 5, 6] fun K7 hK7 => vwp_region hT ?_
  simp
  refine hK7 _ ?_
  try clear hK7 K7
  refine vwp_cond (by first | rfl | (simp; rfl)) (fun h1 => ?_) fun h1 => ?_
  · simp -failIfUnchanged at h1; all_goals
   refine vwp_skip ?_
   refine hK6 _ ?_
   try clear hK6 K6
   refine vwp_seq_k fun K8 hK8 => ?_
   refine vwp_block ?_
   obtain ⟨x, hx⟩ := getI (l := l) (i := i) (by omega)
   have hxb := hb x (List.mem_of_getElem? hx)
   obtain ⟨y, rfl⟩ := Int.eq_ofNat_of_zero_le hxb.1
   obtain ⟨c2, hc2⟩ : ∃ c2, c2 = crcStep c y := ⟨_, rfl⟩
   have w2 : IntKind.u32.wrap (y : Int) = (y : Int) := wu32 (by omega) (by omega)
   obtain ⟨cx, hcx⟩ : ∃ cx, cx = c ^^^ y := ⟨_, rfl⟩
   have w3 : ibits .xor .u32 (c : Int) (y : Int) = (cx : Int) := by rw [xor32 hcl (by omega), hcx]
   have hcxl : cx < 4294967296 := by rw [hcx]; exact xor_lt32 hcl (by omega)
   have he8 : stepK 8 cx = c2 := by rw [hcx, crcStep_eq, hc2]
   have h8 := eight_spec cx hcxl
   rw [he8] at h8
   refine vwp_live [1, 5, 6] (vwp_region hT ?_)
   simp [hx, w2, w3]
   repeat refine ⟨by first | assumption | omega | (intros; omega), ?_⟩
   refine vcall_k [] (h8) ?_
   rintro r ob' ⟨rfl, rfl⟩
   simp [hx, w2, w3]
   repeat refine ⟨by first | assumption | omega | (intros; omega), ?_⟩
   refine hK8 _ ?_
   try clear hK8 K8
   have w1 : IntKind.i64.wrap ((i : Int) + 1) = i + 1 := w64 (by omega) (by omega)
   refine vwp_live [1, 5, 6] (vwp_region hT ?_)
   simp [w1]
   exact hK5 ((i + 1, c2)) _ (Gh.to_k [1, 5, 6] []) (⟨by dsimp only; omega, by dsimp only; rw [crcL_take hx, ← hc, hc2]; rfl, by dsimp only; rw [hc2]; exact crcStep_lt hcl (by omega)⟩) (by dsimp only; omega)
  · simp -failIfUnchanged at h1; all_goals
   refine vwp_exit ?_
   simp only [inBlk, thenQ, if_true]
   refine hK3 _ ?_
   try clear hK3 K3
   have e : i = l.length := by omega
   rw [e, List.take_length] at hc
   have hm2 : moreN s l = 4294967295 - c := by rw [moreN, ← hs2, ← hc]
   have w1 : IntKind.u32.wrap (4294967295 - (c : Int)) = (moreN s l : Int) := by rw [hm2]; exact (wu32 (by omega) (by omega)).trans (by omega)
   refine vwp_sq [5] fun K9 hK9 => vwp_region hT ?_
   simp [w1]
   refine hK9 _ ?_
   try clear hK9 K9
   refine vwp_ret (hR _ _ ?_)
   exact ret_k [4] [] ([]) (.int .u32 (moreN s l : Int)) (⟨rfl, rfl⟩)
theorem rsum_spec (l : List Int) (hl : l.length < 1099511627776) (hb : byteL l) : VC P 44 [sB l] [] (fun r ob' => r = .int .u32 (moreN 0 l : Int) ∧ ob' = []) := by
  refine VC_of_vwp_k ent_44 Try.func44 rfl (by simp) fun R hR => ?_
  refine vwp_sq [0] fun K1 hK1 => vwp_region hT ?_
  simp
  refine hK1 _ ?_
  try clear hK1 K1
  refine vwp_sq [0] fun K2 hK2 => vwp_region hT ?_
  simp
  refine vcall_k [] (rmore_spec 0 l (by decide) hl hb) ?_
  rintro r ob' ⟨rfl, rfl⟩
  simp
  refine hK2 _ ?_
  try clear hK2 K2
  refine vwp_ret (hR _ _ ?_)
  exact ret_k [2] [] ([]) (.int .u32 (moreN 0 l : Int)) (⟨rfl, rfl⟩)
end Go.Proofs.Ytifhbgppjblobaa
