/- A number's bytes, by the program and by the document. -/
import Derived.Test.YtgmcflbbdpbkeaaDoorPkE
namespace Go.Proofs.YtgmcflbbdpbkeaaDoor
open Go Go.VX Go.RowKit
set_option linter.unusedVariables false
set_option linter.unusedSimpArgs false
set_option maxHeartbeats 20000000
set_option maxRecDepth 100000

theorem wrap_u64 (n : Int) : IntKind.u64.wrap n = n % 18446744073709551616 := by simp [IntKind.wrap, IntKind.bits, IntKind.signed]
theorem wu64 {x : Int} (h : 0 ≤ x) (h2 : x < 18446744073709551616) : IntKind.u64.wrap x = x := by rw [wrap_u64]; omega
theorem wu8 {x : Int} (h1 : 0 ≤ x) : IntKind.u8.wrap x = x % 256 := by rw [IntKind.wrap_u8]
theorem xor_m1 {x : Int} (h : -9223372036854775808 ≤ x) (h2 : x ≤ 9223372036854775807) : ibits .xor .i64 x (-1) = -1 - x := by
  unfold ibits
  show IntKind.i64.wrap _ = _
  have e1 : IntKind.i64.bits = 64 := rfl
  have e2 : BitVec.ofInt 64 (-1) = BitVec.allOnes 64 := by decide
  rw [e1, e2, BitVec.xor_allOnes, BitVec.toNat_not, BitVec.toNat_ofInt, IntKind.wrap_i64]
  simp only [Nat.reducePow]
  omega
theorem xor_0 {x : Int} (h : -9223372036854775808 ≤ x) (h2 : x ≤ 9223372036854775807) : ibits .xor .i64 x 0 = x := by
  unfold ibits
  show IntKind.i64.wrap _ = _
  have e1 : IntKind.i64.bits = 64 := rfl
  have e2 : BitVec.ofInt 64 0 = 0#64 := by decide
  rw [e1, e2, BitVec.xor_zero, BitVec.toNat_ofInt, IntKind.wrap_i64]
  simp only [Nat.reducePow]
  omega
theorem ofInt64 {x : Int} (h : 0 ≤ x) (h2 : x < 18446744073709551616) : (BitVec.ofInt 64 x).toNat = x.toNat := by
  rw [BitVec.toNat_ofInt]; simp only [Nat.reducePow]; rw [Int.emod_eq_of_lt h (by omega)]
theorem ofInt8 {x : Int} (h : 0 ≤ x) (h2 : x < 256) : (BitVec.ofInt 8 x).toNat = x.toNat := by
  rw [BitVec.toNat_ofInt]; simp only [Nat.reducePow]; rw [Int.emod_eq_of_lt h (by omega)]
theorem or_u64 {x y : Nat} (hx : x < 18446744073709551616) (hy : y < 18446744073709551616) : ibits .or .u64 x y = ((x ||| y : Nat) : Int) := by
  unfold ibits
  show IntKind.u64.wrap _ = _
  simp only [BitVec.toNat_or]
  have e1 : IntKind.u64.bits = 64 := rfl
  rw [e1, ofInt64 (by omega) (by omega), ofInt64 (by omega) (by omega)]
  have : x ||| y < 2 ^ 64 := Nat.or_lt_two_pow (by omega) (by omega)
  simp only [Int.toNat_natCast]
  exact wu64 (by omega) (by omega)
theorem and1_u64 {x : Nat} (hx : x < 18446744073709551616) : ibits .and .u64 x 1 = ((x % 2 : Nat) : Int) := by
  unfold ibits
  show IntKind.u64.wrap _ = _
  simp only [BitVec.toNat_and]
  have e1 : IntKind.u64.bits = 64 := rfl
  have e2 : (1 : Int).toNat = 1 := rfl
  rw [e1, ofInt64 (by omega) (by omega), ofInt64 (by omega) (by omega), e2, Nat.and_one_is_mod]
  simp only [Int.toNat_natCast]
  exact wu64 (by omega) (by omega)
theorem and127 {x : Nat} (hx : x < 256) : ibits .and .u8 x 127 = ((x % 128 : Nat) : Int) := by
  unfold ibits
  show IntKind.u8.wrap _ = _
  simp only [BitVec.toNat_and]
  have e1 : IntKind.u8.bits = 8 := rfl
  have e2 : (127 : Int).toNat = 2 ^ 7 - 1 := rfl
  rw [e1, ofInt8 (by omega) (by omega), ofInt8 (by omega) (by omega), e2, Nat.and_two_pow_sub_one_eq_mod]
  simp only [Int.toNat_natCast]
  rw [wu8 (by omega)]
  omega
theorem or128N : ∀ a : Nat, a < 256 → a ||| 128 = a % 128 + 128 := by decide
theorem or128 {x : Nat} (hx : x < 256) : ibits .or .u8 x 128 = ((x % 128 + 128 : Nat) : Int) := by
  unfold ibits
  show IntKind.u8.wrap _ = _
  simp only [BitVec.toNat_or]
  have e1 : IntKind.u8.bits = 8 := rfl
  have e2 : (128 : Int).toNat = 128 := rfl
  rw [e1, ofInt8 (by omega) (by omega), ofInt8 (by omega) (by omega), e2]
  simp only [Int.toNat_natCast]
  rw [or128N x hx, wu8 (by omega)]
  omega
/-- A number, in turns from 0 away. -/
def zag (n : Int) : Nat := if n < 0 then (-2 * n - 1).toNat else (2 * n).toNat
def zig (u : Nat) : Int := if u % 2 = 1 then -1 - ((u / 2 : Nat) : Int) else ((u / 2 : Nat) : Int)
theorem zag_zig (u : Nat) : zag (zig u) = u := by
  unfold zag zig
  split <;> split <;> omega
theorem zig_zag (n : Int) : zig (zag n) = n := by
  unfold zag zig
  split <;> split <;> omega
def numOK (n : Int) : Bool := decide (-4611686018427387904 ≤ n) && decide (n ≤ 4611686018427387904)
theorem zag_lt {n : Int} (h1 : -4611686018427387904 ≤ n) (h2 : n ≤ 4611686018427387904) : zag n ≤ 9223372036854775808 := by
  unfold zag
  split <;> omega
/-- A number's bytes: by sevens, from the lowest. -/
def varB (u : Nat) : List Int := if h : u < 128 then [(u : Int)] else ((u % 128 + 128 : Nat) : Int) :: varB (u / 128)
termination_by u
decreasing_by omega
theorem varB_lt {u : Nat} (h : u < 128) : varB u = [(u : Int)] := by rw [varB, dif_pos h]
theorem varB_ge {u : Nat} (h : ¬ u < 128) : varB u = ((u % 128 + 128 : Nat) : Int) :: varB (u / 128) := by rw [varB, dif_neg h]
theorem varB_byte (u : Nat) : byteL (varB u) := by
  induction u using Nat.strongRecOn with
  | _ u ih =>
    by_cases h : u < 128
    · rw [varB_lt h]; intro x hx; rw [List.mem_singleton.1 hx]; omega
    · rw [varB_ge h]
      intro x hx
      rcases List.mem_cons.1 hx with e | hx
      · rw [e]; omega
      · exact ih (u / 128) (by omega) x hx
theorem varB_len {u : Nat} : ∀ k, u < 128 ^ (k + 1) → (varB u).length ≤ k + 1 := by
  intro k
  induction k generalizing u with
  | zero => intro h; rw [varB_lt (by simpa using h)]; simp
  | succ k ih =>
    intro h
    by_cases h2 : u < 128
    · rw [varB_lt h2]; simp
    · rw [varB_ge h2, List.length_cons]
      have : u / 128 < 128 ^ (k + 1) := by
        rw [Nat.pow_succ] at h
        exact Nat.div_lt_of_lt_mul (by rw [Nat.mul_comm]; exact h)
      have := ih this
      omega
theorem varB_10 {u : Nat} (h : u < 18446744073709551616) : (varB u).length ≤ 10 := varB_len 9 (by
  have : (128 : Nat) ^ (9 + 1) = 1180591620717411303424 := by decide
  omega)
def numB (n : Int) : List Int := varB (zag n)
theorem number_spec (B : List Int) (n : Int) (h1 : -4611686018427387904 ≤ n) (h2 : n ≤ 4611686018427387904) (hB : B.length < 1099511627776) : VC P 20 [.sl 0 B.length 1 0 B.length, .int .i64 n] [.live (bts B)] (fun r ob' => r = .sl 0 (B ++ numB n).length 1 0 (B ++ numB n).length ∧ ob' = [.live (bts (B ++ numB n))]) := by
  refine VC_of_vwp_k ent_20 Tryd.func20 rfl (by simp) fun R hR => ?_
  refine vwp_sq [0, 1] fun K1 hK1 => vwp_region hT ?_
  simp
  refine hK1 _ ?_
  try clear hK1 K1
  obtain ⟨d2, hd2⟩ : ∃ d2, d2 = IntKind.i64.wrap (n * 2) := ⟨_, rfl⟩
  have hd3 : -9223372036854775808 ≤ d2 ∧ d2 ≤ 9223372036854775807 ∧ d2 % 18446744073709551616 = (2 * n) % 18446744073709551616 := by
    rw [hd2, IntKind.wrap_i64]; omega
  obtain ⟨sg, hsg⟩ : ∃ sg : Int, sg = if n < 0 then -1 else 0 := ⟨_, rfl⟩
  have v1 : n.fdiv (2 ^ min 63 64) = sg := by
    rw [Int.fdiv_eq_ediv_of_nonneg _ (by decide), hsg]
    show n / 9223372036854775808 = _
    split <;> omega
  have v1b : n.fdiv 9223372036854775808 = sg := v1
  obtain ⟨u, hu⟩ : ∃ u, u = zag n := ⟨_, rfl⟩
  have hul : u ≤ 9223372036854775808 := by rw [hu]; exact zag_lt h1 h2
  have v2 : IntKind.u64.wrap (ibits .xor .i64 d2 sg) = (u : Int) := by
    rw [wrap_u64, hsg, hu, zag]
    split
    · rw [xor_m1 hd3.1 hd3.2.1]; omega
    · rw [xor_0 hd3.1 hd3.2.1]; omega
  refine vwp_sq [0, 1] fun K2 hK2 => vwp_region hT ?_
  simp [← hd2, v1, v1b, v2]
  repeat refine ⟨by first | assumption | omega | (intros; omega), ?_⟩
  refine hK2 _ ?_
  try clear hK2 K2
  refine vwp_seq_k fun K3 hK3 => ?_
  refine vwp_block ?_
  refine vwp_loop_s (fun z : List Int × Nat => ⟨[(0, .sl 0 z.1.length 1 0 z.1.length), (5, .int .u64 (z.2 : Int))], [.live (bts z.1)]⟩) (fun z => z.2 ≤ u ∧ z.1 ++ varB z.2 = B ++ varB u ∧ z.1.length + (varB z.2).length < 1099511637776) (fun z => z.2) ((B, u)) (Gh.to_k [0, 5] [0]) (⟨Nat.le_refl _, rfl, by have := varB_10 (u := u) (by omega); dsimp only; omega⟩) ?_
  rintro ⟨C, x⟩ ⟨hx, hC, hlen⟩
  dsimp only at hx hC hlen ⊢
  intro K4 hK4
  refine vwp_seq_k fun K5 hK5 => ?_
  refine vwp_sq [0, 5] fun K6 hK6 => vwp_region hT ?_
  simp
  refine hK6 _ ?_
  try clear hK6 K6
  refine vwp_cond (by first | rfl | (simp; rfl)) (fun h1 => ?_) fun h1 => ?_
  · simp -failIfUnchanged at h1; all_goals
   have q := h1
   have hx1 : ¬ x < 128 := by omega
   refine vwp_skip ?_
   refine hK5 _ ?_
   try clear hK5 K5
   refine vwp_seq_k fun K7 hK7 => ?_
   refine vwp_block ?_
   obtain ⟨x8, hx8⟩ : ∃ x8, x8 = x % 256 := ⟨_, rfl⟩
   have w1 : IntKind.u8.wrap (x : Int) = (x8 : Int) := (wu8 (by omega)).trans (by omega)
   have w2 : ibits .or .u8 (x8 : Int) 128 = ((x % 128 + 128 : Nat) : Int) := by rw [or128 (by omega)]; congr 2; omega
   have htk : List.take C.length (bts C) = bts C := List.take_of_length_le (by simp)
   refine vwp_live [0, 5] (vwp_region hT ?_)
   simp [w1, w2, htk]
   repeat refine ⟨by first | assumption | omega | (intros; omega), ?_⟩
   refine hK7 _ ?_
   try clear hK7 K7
   have w3 : (x : Int).fdiv (2 ^ min 7 64) = ((x / 128 : Nat) : Int) := by
     rw [Int.fdiv_eq_ediv_of_nonneg _ (by decide)]; show (x : Int) / 128 = _; omega
   have w3b : (x : Int).fdiv 128 = ((x / 128 : Nat) : Int) := w3
   refine vwp_live [0, 5] (vwp_region hT ?_)
   simp [w3, w3b]
   repeat refine ⟨by first | assumption | omega | (intros; omega), ?_⟩
   exact hK4 ((C ++ [((x % 128 + 128 : Nat) : Int)], x / 128)) _ (Gh.to_k [0, 5] [0] (he := by simp) (hh := by simp)) (⟨by dsimp only; omega, by dsimp only; rw [← hC, varB_ge hx1, List.append_assoc]; rfl, by dsimp only; rw [varB_ge hx1] at hlen; simp only [List.length_cons, List.length_append, List.length_nil] at hlen ⊢; omega⟩) (by dsimp only; omega)
  · simp -failIfUnchanged at h1; all_goals
   have q := h1
   have hx1 : x < 128 := by omega
   refine vwp_exit ?_
   simp only [inBlk, thenQ, if_true]
   refine hK3 _ ?_
   try clear hK3 K3
   have w1 : IntKind.u8.wrap (x : Int) = (x : Int) := (wu8 (by omega)).trans (by omega)
   have htk : List.take C.length (bts C) = bts C := List.take_of_length_le (by simp)
   refine vwp_sq [0, 5] fun K8 hK8 => vwp_region hT ?_
   simp [w1, htk]
   repeat refine ⟨by first | assumption | omega | (intros; omega), ?_⟩
   refine hK8 _ ?_
   try clear hK8 K8
   refine vwp_ret (hR _ _ ?_)
   rw [varB_lt hx1] at hC
   rw [numB, ← hu, ← hC]
   exact ret_k [4] [0] ([.live (bts (C ++ [(x : Int)]))]) (.sl 0 (C ++ [(x : Int)]).length 1 0 (C ++ [(x : Int)]).length) (⟨rfl, rfl⟩) (hh := by simp) (hr := by simp)
theorem number_nil (n : Int) (h1 : -4611686018427387904 ≤ n) (h2 : n ≤ 4611686018427387904) : VC P 20 [.nils, .int .i64 n] [] (fun r ob' => r = .sl 0 (([] : List Int) ++ numB n).length 1 0 (([] : List Int) ++ numB n).length ∧ ob' = [.live (bts (([] : List Int) ++ numB n))]) := by
  refine VC_of_vwp_k ent_20 Tryd.func20 rfl (by simp) fun R hR => ?_
  refine vwp_sq [0, 1] fun K1 hK1 => vwp_region hT ?_
  simp
  refine hK1 _ ?_
  try clear hK1 K1
  refine vwp_gh (Gh.virt 0 1 (by rfl)) ?_
  simp
  obtain ⟨B, hBe⟩ : ∃ B : List Int, B = [] := ⟨_, rfl⟩
  have hB : B.length < 1099511627776 := by rw [hBe]; simp
  refine vwp_gh (st' := ⟨[(0, .sl 0 B.length 1 0 B.length), (1, .int .i64 n)], [.live (bts B)]⟩) (Gh.to_k [0, 1] [0] (he := by simp [hBe]) (hh := by simp [hBe])) ?_
  obtain ⟨d2, hd2⟩ : ∃ d2, d2 = IntKind.i64.wrap (n * 2) := ⟨_, rfl⟩
  have hd3 : -9223372036854775808 ≤ d2 ∧ d2 ≤ 9223372036854775807 ∧ d2 % 18446744073709551616 = (2 * n) % 18446744073709551616 := by
    rw [hd2, IntKind.wrap_i64]; omega
  obtain ⟨sg, hsg⟩ : ∃ sg : Int, sg = if n < 0 then -1 else 0 := ⟨_, rfl⟩
  have v1 : n.fdiv (2 ^ min 63 64) = sg := by
    rw [Int.fdiv_eq_ediv_of_nonneg _ (by decide), hsg]
    show n / 9223372036854775808 = _
    split <;> omega
  have v1b : n.fdiv 9223372036854775808 = sg := v1
  obtain ⟨u, hu⟩ : ∃ u, u = zag n := ⟨_, rfl⟩
  have hul : u ≤ 9223372036854775808 := by rw [hu]; exact zag_lt h1 h2
  have v2 : IntKind.u64.wrap (ibits .xor .i64 d2 sg) = (u : Int) := by
    rw [wrap_u64, hsg, hu, zag]
    split
    · rw [xor_m1 hd3.1 hd3.2.1]; omega
    · rw [xor_0 hd3.1 hd3.2.1]; omega
  refine vwp_sq [0, 1] fun K2 hK2 => vwp_region hT ?_
  simp [← hd2, v1, v1b, v2]
  repeat refine ⟨by first | assumption | omega | (intros; omega), ?_⟩
  refine hK2 _ ?_
  try clear hK2 K2
  refine vwp_seq_k fun K3 hK3 => ?_
  refine vwp_block ?_
  refine vwp_loop_s (fun z : List Int × Nat => ⟨[(0, .sl 0 z.1.length 1 0 z.1.length), (5, .int .u64 (z.2 : Int))], [.live (bts z.1)]⟩) (fun z => z.2 ≤ u ∧ z.1 ++ varB z.2 = B ++ varB u ∧ z.1.length + (varB z.2).length < 1099511637776) (fun z => z.2) ((B, u)) (Gh.to_k [0, 5] [0]) (⟨Nat.le_refl _, rfl, by have := varB_10 (u := u) (by omega); dsimp only; omega⟩) ?_
  rintro ⟨C, x⟩ ⟨hx, hC, hlen⟩
  dsimp only at hx hC hlen ⊢
  intro K4 hK4
  refine vwp_seq_k fun K5 hK5 => ?_
  refine vwp_sq [0, 5] fun K6 hK6 => vwp_region hT ?_
  simp
  refine hK6 _ ?_
  try clear hK6 K6
  refine vwp_cond (by first | rfl | (simp; rfl)) (fun h1 => ?_) fun h1 => ?_
  · simp -failIfUnchanged at h1; all_goals
   have q := h1
   have hx1 : ¬ x < 128 := by omega
   refine vwp_skip ?_
   refine hK5 _ ?_
   try clear hK5 K5
   refine vwp_seq_k fun K7 hK7 => ?_
   refine vwp_block ?_
   obtain ⟨x8, hx8⟩ : ∃ x8, x8 = x % 256 := ⟨_, rfl⟩
   have w1 : IntKind.u8.wrap (x : Int) = (x8 : Int) := (wu8 (by omega)).trans (by omega)
   have w2 : ibits .or .u8 (x8 : Int) 128 = ((x % 128 + 128 : Nat) : Int) := by rw [or128 (by omega)]; congr 2; omega
   have htk : List.take C.length (bts C) = bts C := List.take_of_length_le (by simp)
   refine vwp_live [0, 5] (vwp_region hT ?_)
   simp [w1, w2, htk]
   repeat refine ⟨by first | assumption | omega | (intros; omega), ?_⟩
   refine hK7 _ ?_
   try clear hK7 K7
   have w3 : (x : Int).fdiv (2 ^ min 7 64) = ((x / 128 : Nat) : Int) := by
     rw [Int.fdiv_eq_ediv_of_nonneg _ (by decide)]; show (x : Int) / 128 = _; omega
   have w3b : (x : Int).fdiv 128 = ((x / 128 : Nat) : Int) := w3
   refine vwp_live [0, 5] (vwp_region hT ?_)
   simp [w3, w3b]
   repeat refine ⟨by first | assumption | omega | (intros; omega), ?_⟩
   exact hK4 ((C ++ [((x % 128 + 128 : Nat) : Int)], x / 128)) _ (Gh.to_k [0, 5] [0] (he := by simp) (hh := by simp)) (⟨by dsimp only; omega, by dsimp only; rw [← hC, varB_ge hx1, List.append_assoc]; rfl, by dsimp only; rw [varB_ge hx1] at hlen; simp only [List.length_cons, List.length_append, List.length_nil] at hlen ⊢; omega⟩) (by dsimp only; omega)
  · simp -failIfUnchanged at h1; all_goals
   have q := h1
   have hx1 : x < 128 := by omega
   refine vwp_exit ?_
   simp only [inBlk, thenQ, if_true]
   refine hK3 _ ?_
   try clear hK3 K3
   have w1 : IntKind.u8.wrap (x : Int) = (x : Int) := (wu8 (by omega)).trans (by omega)
   have htk : List.take C.length (bts C) = bts C := List.take_of_length_le (by simp)
   refine vwp_sq [0, 5] fun K8 hK8 => vwp_region hT ?_
   simp [w1, htk]
   repeat refine ⟨by first | assumption | omega | (intros; omega), ?_⟩
   refine hK8 _ ?_
   try clear hK8 K8
   refine vwp_ret (hR _ _ ?_)
   rw [varB_lt hx1] at hC
   rw [numB, ← hu, ← hBe, ← hC]
   exact ret_k [4] [0] ([.live (bts (C ++ [(x : Int)]))]) (.sl 0 (C ++ [(x : Int)]).length 1 0 (C ++ [(x : Int)]).length) (⟨rfl, rfl⟩) (hh := by simp) (hr := by simp)
end Go.Proofs.YtgmcflbbdpbkeaaDoor
