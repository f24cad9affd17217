/- Numbers as bytes, and sums of bytes. -/
import Derived.Test.YtifhbgppjblobaaLogB
namespace Go.Proofs.Ytifhbgppjblobaa
open Go Go.VX Go.RowKit
set_option linter.unusedVariables false
set_option linter.unusedSimpArgs false
set_option maxHeartbeats 20000000
set_option maxRecDepth 100000

theorem wu32 {x : Int} (h1 : 0 ≤ x) (h2 : x < 4294967296) : IntKind.u32.wrap x = x := by
  rw [IntKind.wrap_u32]; omega
theorem wu8 {x : Int} (h1 : 0 ≤ x) : IntKind.u8.wrap x = x % 256 := by rw [IntKind.wrap_u8]
theorem ofInt32 {x : Int} (h : 0 ≤ x) (h2 : x < 4294967296) : (BitVec.ofInt 32 x).toNat = x.toNat := by
  rw [BitVec.toNat_ofInt]; simp only [Nat.reducePow]; rw [Int.emod_eq_of_lt h (by omega)]
theorem ofInt8 {x : Int} (h : 0 ≤ x) (h2 : x < 256) : (BitVec.ofInt 8 x).toNat = x.toNat := by
  rw [BitVec.toNat_ofInt]; simp only [Nat.reducePow]; rw [Int.emod_eq_of_lt h (by omega)]
theorem and32 {x y : Nat} (hx : x < 4294967296) (hy : y < 4294967296) : ibits .and .u32 x y = ((x &&& y : Nat) : Int) := by
  unfold ibits
  show IntKind.u32.wrap _ = _
  simp only [BitVec.toNat_and]
  have e1 : IntKind.u32.bits = 32 := rfl
  rw [e1, ofInt32 (by omega) (by omega), ofInt32 (by omega) (by omega)]
  have := Nat.and_le_left (n := x) (m := y)
  simp only [Int.toNat_natCast]
  exact wu32 (by omega) (by omega)
theorem or32 {x y : Nat} (hx : x < 4294967296) (hy : y < 4294967296) : ibits .or .u32 x y = ((x ||| y : Nat) : Int) := by
  unfold ibits
  show IntKind.u32.wrap _ = _
  simp only [BitVec.toNat_or]
  have e1 : IntKind.u32.bits = 32 := rfl
  rw [e1, ofInt32 (by omega) (by omega), ofInt32 (by omega) (by omega)]
  have : x ||| y < 2 ^ 32 := Nat.or_lt_two_pow (by omega) (by omega)
  simp only [Int.toNat_natCast]
  exact wu32 (by omega) (by omega)
theorem xor32 {x y : Nat} (hx : x < 4294967296) (hy : y < 4294967296) : ibits .xor .u32 x y = ((x ^^^ y : Nat) : Int) := by
  unfold ibits
  show IntKind.u32.wrap _ = _
  simp only [BitVec.toNat_xor]
  have e1 : IntKind.u32.bits = 32 := rfl
  rw [e1, ofInt32 (by omega) (by omega), ofInt32 (by omega) (by omega)]
  have : x ^^^ y < 2 ^ 32 := Nat.xor_lt_two_pow (by omega) (by omega)
  simp only [Int.toNat_natCast]
  exact wu32 (by omega) (by omega)
theorem xor8 {x y : Nat} (hx : x < 256) (hy : y < 256) : ibits .xor .u8 x y = ((x ^^^ y : Nat) : Int) := by
  unfold ibits
  show IntKind.u8.wrap _ = _
  simp only [BitVec.toNat_xor]
  have e1 : IntKind.u8.bits = 8 := rfl
  rw [e1, ofInt8 (by omega) (by omega), ofInt8 (by omega) (by omega)]
  have : x ^^^ y < 2 ^ 8 := Nat.xor_lt_two_pow (by omega) (by omega)
  simp only [Int.toNat_natCast]
  rw [wu8 (by omega)]
  omega
/-- The number of bytes. -/
def tellN (l : List Int) : Nat := l.foldl (fun n c => n * 256 + c.toNat) 0
def byteL (l : List Int) : Prop := ∀ x ∈ l, 0 ≤ x ∧ x < 256
theorem tell_take {l : List Int} {i : Nat} {x : Int} (h : l[i]? = some x) : tellN (l.take (i + 1)) = tellN (l.take i) * 256 + x.toNat := by
  simp [tellN, List.take_add_one, h]
theorem tell_lt {l : List Int} (hb : byteL l) : ∀ i, i ≤ l.length → tellN (l.take i) < 256 ^ i
  | 0, _ => by simp [tellN]
  | i + 1, h => by
    obtain ⟨x, hx⟩ := getI (l := l) (i := i) (by omega)
    have ih := tell_lt hb i (by omega)
    have := hb x (List.mem_of_getElem? hx)
    rw [tell_take hx, Nat.pow_succ]
    omega
theorem shl_or {n x : Nat} (hx : x < 256) : (n * 256) ||| x = n * 256 + x := by
  have := Nat.two_pow_add_eq_or_of_lt (i := 8) hx n
  rw [Nat.mul_comm n 256]
  exact this.symm
theorem told_spec (l : List Int) (hl : l.length ≤ 4) (hb : byteL l) : VC P 58 [sB l] [] (fun r ob' => r = .int .u32 (tellN l : Int) ∧ ob' = []) := by
  refine VC_of_vwp_k ent_58 Try.func58 rfl (by simp) fun R hR => ?_
  refine vwp_sq [0] fun K1 hK1 => vwp_region hT ?_
  simp
  refine hK1 _ ?_
  try clear hK1 K1
  refine vwp_sq [0] fun K2 hK2 => vwp_region hT ?_
  simp
  refine hK2 _ ?_
  try clear hK2 K2
  refine vwp_seq_k fun K3 hK3 => ?_
  refine vwp_sq [0, 3] fun K4 hK4 => vwp_region hT ?_
  simp
  refine hK4 _ ?_
  try clear hK4 K4
  refine vwp_block ?_
  refine vwp_loop_s (fun z : Nat × Nat => ⟨[(3, .int .u32 (z.2 : Int)), (6, sB l), (7, .int .i64 l.length), (8, .int .i64 (z.1 : Int))], []⟩) (fun z => z.1 ≤ l.length ∧ z.2 = tellN (l.take z.1)) (fun z => l.length - z.1) ((0, 0)) (Gh.to_k [3, 6, 7, 8] []) (⟨by simp, by simp [tellN]⟩) ?_
  rintro ⟨i, n⟩ ⟨hi, hn⟩
  dsimp only at hi hn ⊢
  intro K5 hK5
  refine vwp_sq [3, 6, 7, 8] fun K6 hK6 => vwp_region hT ?_
  simp
  refine hK6 _ ?_
  try clear hK6 K6
  refine vwp_seq_k fun K7 hK7 => ?_
  refine vwp_cond (by first | rfl | (simp; rfl)) (fun h1 => ?_) fun h1 => ?_
  · simp -failIfUnchanged at h1; all_goals
   refine vwp_skip ?_
   refine hK7 _ ?_
   try clear hK7 K7
   refine vwp_seq_k fun K8 hK8 => ?_
   refine vwp_block ?_
   obtain ⟨x, hx⟩ := getI (l := l) (i := i) (by omega)
   refine vwp_sq [3, 6, 7, 8] fun K9 hK9 => vwp_region hT ?_
   simp [hx]
   repeat refine ⟨by first | assumption | omega | (intros; omega), ?_⟩
   refine hK9 _ ?_
   try clear hK9 K9
   have hx2 := hb x (List.mem_of_getElem? hx)
   have hlt := tell_lt hb i (by omega)
   rw [← hn] at hlt
   have hp : 256 ^ i ≤ 16777216 := by
     have : 256 ^ i ≤ 256 ^ 3 := Nat.pow_le_pow_right (by omega) (by omega)
     simpa using this
   obtain ⟨y, rfl⟩ := Int.eq_ofNat_of_zero_le hx2.1
   obtain ⟨n8, hn8⟩ : ∃ n8, n8 = n * 256 := ⟨_, rfl⟩
   have w1 : IntKind.u32.wrap ((n : Int) * 256) = (n8 : Int) := (wu32 (by omega) (by omega)).trans (by omega)
   have w2 : IntKind.u32.wrap (y : Int) = (y : Int) := wu32 (by omega) (by omega)
   have w3 : ibits .or .u32 (n8 : Int) (y : Int) = ((n8 + y : Nat) : Int) := by rw [or32 (by omega) (by omega), hn8, shl_or (by omega)]
   have w4 : IntKind.u32.wrap ((n : Int) * 2 ^ min 8 32) = (n8 : Int) := w1
   refine vwp_live [3, 5, 6, 7, 8] (vwp_region hT ?_)
   simp [w1, w2, w3, w4]
   repeat refine ⟨by first | assumption | omega | (intros; omega), ?_⟩
   refine hK8 _ ?_
   try clear hK8 K8
   have w1 : IntKind.i64.wrap ((i : Int) + 1) = i + 1 := w64 (by omega) (by omega)
   refine vwp_live [3, 6, 7, 8] (vwp_region hT ?_)
   simp [w1]
   exact hK5 ((i + 1, n * 256 + y)) _ (Gh.to_k [3, 6, 7, 8] [] (he := by simp; omega)) (⟨by dsimp only; omega, by dsimp only; rw [tell_take hx, hn]; rfl⟩) (by dsimp only; omega)
  · simp -failIfUnchanged at h1; all_goals
   refine vwp_exit ?_
   simp only [inBlk, thenQ, if_true]
   refine hK3 _ ?_
   try clear hK3 K3
   refine vwp_sq [3] fun K10 hK10 => vwp_region hT ?_
   simp
   refine hK10 _ ?_
   try clear hK10 K10
   refine vwp_ret (hR _ _ ?_)
   have e : i = l.length := by omega
   rw [e, List.take_length] at hn
   subst hn
   exact ret_k [2] [] ([]) (.int .u32 (tellN l : Int)) (⟨rfl, rfl⟩)

/-- A number's bytes. -/
def laidB (n many : Nat) : List Int := (List.range many).map fun j => ((n / 256 ^ (many - 1 - j) % 256 : Nat) : Int)
theorem laidB_len (n many : Nat) : (laidB n many).length = many := by simp [laidB]
theorem laidB_get {n many j : Nat} (h : j < many) : (laidB n many)[j]? = some ((n / 256 ^ (many - 1 - j) % 256 : Nat) : Int) := by simp [laidB, h]
theorem laidB_byte (n many : Nat) : byteL (laidB n many) := by
  intro x hx
  simp only [laidB, List.mem_map] at hx
  obtain ⟨j, _, rfl⟩ := hx
  omega
theorem laid_spec (n many : Nat) (hn : n < 4294967296) (hm : many ≤ 4) : VC P 64 [.int .u32 n, .int .i64 many] [] (fun r ob' => r = .sl 0 many 1 0 many ∧ ob' = [.live (bts (laidB n many))]) := by
  refine VC_of_vwp_k ent_64 Try.func64 rfl (by simp) fun R hR => ?_
  refine vwp_sq [0, 1] fun K1 hK1 => vwp_region hT ?_
  simp
  refine hK1 _ ?_
  try clear hK1 K1
  refine vwp_sq [0, 1] fun K2 hK2 => vwp_region hT ?_
  simp
  refine hK2 _ ?_
  try clear hK2 K2
  refine vwp_seq_k fun K3 hK3 => ?_
  refine vwp_gh (Gh.virt 5 1 (by rfl)) ?_
  simp only [List.nil_append, List.length_nil]
  have w1 : IntKind.i64.wrap ((many : Int) - 1) = (many : Int) - 1 := w64 (by omega) (by omega)
  refine vwp_sq [0, 1, 5] fun K4 hK4 => vwp_region hT ?_
  simp [w1]
  refine hK4 _ ?_
  try clear hK4 K4
  refine vwp_block ?_
  refine vwp_loop_s (fun j : Nat => ⟨[(0, .int .u32 n), (5, .sl 0 j 1 0 j), (6, .int .i64 ((many : Int) - 1 - j))], [.live (bts ((laidB n many).take j))]⟩) (fun j => j ≤ many) (fun j => many - j) (0) (Gh.to_k [0, 5, 6] [0] (hh := by simp)) (by omega) ?_
  rintro j hj
  intro K5 hK5
  refine vwp_seq_k fun K6 hK6 => ?_
  refine vwp_sq [0, 5, 6] fun K7 hK7 => vwp_region hT ?_
  simp
  refine hK7 _ ?_
  try clear hK7 K7
  refine vwp_cond (by first | rfl | (simp; rfl)) (fun h1 => ?_) fun h1 => ?_
  · simp -failIfUnchanged at h1; all_goals
   refine vwp_skip ?_
   refine hK6 _ ?_
   try clear hK6 K6
   refine vwp_seq_k fun K8 hK8 => ?_
   refine vwp_block ?_
   have hx := laidB_get (n := n) (many := many) (j := j) (by omega)
   obtain ⟨e, he⟩ : ∃ e : Nat, e = many - 1 - j := ⟨_, rfl⟩
   have hei : (many : Int) - 1 - (j : Int) = (e : Int) := by omega
   have hmin : min j (laidB n many).length = j := by rw [laidB_len]; omega
   rw [← he] at hx
   obtain ⟨x, hxx⟩ : ∃ x : Int, x = ((n / 256 ^ e % 256 : Nat) : Int) := ⟨_, rfl⟩
   rw [← hxx] at hx
   obtain ⟨q, hq⟩ : ∃ q : Nat, q = n / 256 ^ e := ⟨_, rfl⟩
   rw [← hq] at hxx
   have w1 : IntKind.i64.wrap (8 * (e : Int)) = 8 * (e : Int) := w64 (by omega) (by omega)
   have wm : min (8 * e) 32 = 8 * e := by omega
   have w2 : (n : Int).fdiv (2 ^ (8 * e)) = (q : Int) := by
     have h2 : (2 : Int) ^ (8 * e) = ((256 ^ e : Nat) : Int) := by
       have h3 : (2 : Nat) ^ (8 * e) = 256 ^ e := by rw [Nat.pow_mul]
       rw [← h3]; simp
     rw [Int.fdiv_eq_ediv_of_nonneg _ (by exact Int.pow_nonneg (by omega)), h2, ← Int.natCast_ediv, hq]
   have w3 : IntKind.u8.wrap (q : Int) = x := by rw [hxx, wu8 (by omega)]; omega
   have w4 : (8 * (e : Int)).toNat = 8 * e := by omega
   refine vwp_live [0, 5, 6] (vwp_region hT ?_)
   simp [hei, w1, wm, w2, w3, w4, hmin]
   repeat refine ⟨by first | assumption | omega | (intros; omega), ?_⟩
   refine hK8 _ ?_
   try clear hK8 K8
   have w1 : IntKind.i64.wrap ((e : Int) - 1) = (e : Int) - 1 := w64 (by omega) (by omega)
   refine vwp_live [0, 5, 6] (vwp_region hT ?_)
   simp [w1]
   exact hK5 (j + 1) _ (Gh.to_k [0, 5, 6] [0] (he := by simp; omega) (hh := by simp [List.take_add_one, hx, hmin])) (by omega) (by omega)
  · simp -failIfUnchanged at h1; all_goals
   refine vwp_exit ?_
   simp only [inBlk, thenQ, if_true]
   refine hK3 _ ?_
   try clear hK3 K3
   refine vwp_sq [5] fun K9 hK9 => vwp_region hT ?_
   simp
   refine hK9 _ ?_
   try clear hK9 K9
   refine vwp_ret (hR _ _ ?_)
   have e : j = many := by omega
   subst e
   have ht : (laidB n j).take j = laidB n j := List.take_of_length_le (by rw [laidB_len]; omega)
   exact ret_k [4] [0] ([.live (bts (laidB n j))]) (.sl 0 j 1 0 j) (⟨rfl, rfl⟩) (hh := by simp [List.take_of_length_le, laidB_len])
end Go.Proofs.Ytifhbgppjblobaa
