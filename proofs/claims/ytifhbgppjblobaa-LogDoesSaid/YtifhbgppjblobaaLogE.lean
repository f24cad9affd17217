/- Sums of bytes: by the table, and bit by bit; they are the same. -/
import Derived.Test.YtifhbgppjblobaaLogD
namespace Go.Proofs.Ytifhbgppjblobaa
open Go Go.VX Go.RowKit
set_option linter.unusedVariables false
set_option linter.unusedSimpArgs false
set_option maxHeartbeats 20000000
set_option maxRecDepth 100000

def crcStep (c x : Nat) : Nat := stepK 8 ((c % 256) ^^^ x) ^^^ (c / 256)
def crcL (c : Nat) (l : List Int) : Nat := l.foldl (fun c x => crcStep c x.toNat) c
def moreN (s : Nat) (l : List Int) : Nat := 4294967295 - crcL (4294967295 - s) l
theorem xor_lt8 {a b : Nat} (ha : a < 256) (hb : b < 256) : a ^^^ b < 256 := by
  have : a ^^^ b < 2 ^ 8 := Nat.xor_lt_two_pow (by omega) (by omega)
  simpa using this
theorem xor_lt32 {a b : Nat} (ha : a < 4294967296) (hb : b < 4294967296) : a ^^^ b < 4294967296 := by
  have : a ^^^ b < 2 ^ 32 := Nat.xor_lt_two_pow (by omega) (by omega)
  simpa using this
theorem crcStep_lt {c x : Nat} (hc : c < 4294967296) (hx : x < 256) : crcStep c x < 4294967296 :=
  xor_lt32 (stepK_lt (by have := xor_lt8 (a := c % 256) (b := x) (by omega) hx; omega) 8) (by omega)
theorem crcL_lt {l : List Int} (hb : byteL l) : ∀ {c : Nat}, c < 4294967296 → crcL c l < 4294967296 := by
  induction l with
  | nil => intro c hc; exact hc
  | cons x l ih =>
    intro c hc
    have hx := hb x (by simp)
    exact ih (fun y hy => hb y (by simp [hy])) (crcStep_lt hc (by omega))
theorem crcL_take {l : List Int} {c i : Nat} {x : Int} (h : l[i]? = some x) : crcL c (l.take (i + 1)) = crcStep (crcL c (l.take i)) x.toNat := by
  simp [crcL, List.take_add_one, h]
theorem moreN_lt (s : Nat) (l : List Int) : moreN s l < 4294967296 := by unfold moreN; omega
theorem not32 {n : Nat} (h : n < 4294967296) : ibits .xor .u32 4294967295 (n : Int) = ((4294967295 - n : Nat) : Int) := by
  unfold ibits
  show IntKind.u32.wrap _ = _
  have e1 : IntKind.u32.bits = 32 := rfl
  have e2 : BitVec.ofInt 32 4294967295 = BitVec.allOnes 32 := by decide
  rw [e1, e2, ← BitVec.not_def, BitVec.toNat_not, ofInt32 (by omega) (by omega)]
  simp only [Int.toNat_natCast]
  exact (wu32 (by omega) (by omega)).trans (by omega)
theorem more_spec (s : Nat) (l : List Int) (hs : s < 4294967296) (hl : l.length < 1099511627776) (hb : byteL l) : VC P 65 [.int .u32 s, sB l] [] (fun r ob' => r = .int .u32 (moreN s l : Int) ∧ ob' = []) := by
  refine VC_of_vwp_k ent_65 Try.func65 rfl (by simp) fun R hR => ?_
  refine vwp_sq [0, 1] fun K1 hK1 => vwp_region hT ?_
  simp [-List.reduceReplicate]
  refine hK1 _ ?_
  try clear hK1 K1
  have hl256 := tabL_len
  have hspl : spl (List.replicate 256 (V.int .u32 0)) 0 (tabL.map (V.int .u32)) = tabL.map (V.int .u32) := by
    rw [spl_eq (by simp [-List.reduceReplicate, hl256]), List.drop_of_length_le (by simp [-List.reduceReplicate, hl256])]; simp
  have ht256 : List.take 256 (tabL.map (V.int .u32)) = tabL.map (V.int .u32) := List.take_of_length_le (by simp [hl256])
  refine vwp_sq [0, 1] fun K2 hK2 => vwp_region hT ?_
  simp [-List.reduceReplicate, hspl, ht256, hl256]
  repeat refine ⟨by first | assumption | omega | (intros; omega), ?_⟩
  refine vcall_k [] (table_spec) ?_
  rintro r ob' ⟨rfl, rfl⟩
  simp [-List.reduceReplicate, hspl, ht256, hl256]
  repeat refine ⟨by first | assumption | omega | (intros; omega), ?_⟩
  refine hK2 _ ?_
  try clear hK2 K2
  obtain ⟨s2, hs2⟩ : ∃ s2, s2 = 4294967295 - s := ⟨_, rfl⟩
  have w1 := not32 hs
  rw [← hs2] at w1
  have w2 : IntKind.u32.max = 4294967295 := rfl
  have w3 : IntKind.u32.signed = false := rfl
  refine vwp_sq [0, 1, 5] fun K3 hK3 => vwp_region hT ?_
  simp [-List.reduceReplicate, w1, w2, w3]
  refine hK3 _ ?_
  try clear hK3 K3
  refine vwp_seq_k fun K4 hK4 => ?_
  refine vwp_sq [1, 5, 6] fun K5 hK5 => vwp_region hT ?_
  simp [-List.reduceReplicate]
  refine hK5 _ ?_
  try clear hK5 K5
  refine vwp_block ?_
  refine vwp_loop_s (fun u : Nat × Nat => ⟨[(5, .ptr 0 256 0), (6, .int .u32 (u.2 : Int)), (12, sB l), (13, .int .i64 l.length), (14, .int .i64 (u.1 : Int))], [.live (tabL.map (.int .u32))]⟩) (fun u => u.1 ≤ l.length ∧ u.2 = crcL s2 (l.take u.1) ∧ u.2 < 4294967296) (fun u => l.length - u.1) ((0, s2)) (Gh.to_k [5, 6, 12, 13, 14] [0] (he := by simp [-List.reduceReplicate, hl256]) (hh := by simp [-List.reduceReplicate, hspl])) (⟨by simp, by simp [crcL], by dsimp only; omega⟩) ?_
  rintro ⟨i, c⟩ ⟨hi, hc, hcl⟩
  dsimp only at hi hc hcl ⊢
  intro K6 hK6
  refine vwp_sq [5, 6, 12, 13, 14] fun K7 hK7 => vwp_region hT ?_
  simp [-List.reduceReplicate]
  refine hK7 _ ?_
  try clear hK7 K7
  refine vwp_seq_k fun K8 hK8 => ?_
  refine vwp_cond (by first | rfl | (simp; rfl)) (fun h1 => ?_) fun h1 => ?_
  · simp -failIfUnchanged at h1; all_goals
   refine vwp_skip ?_
   refine hK8 _ ?_
   try clear hK8 K8
   refine vwp_seq_k fun K9 hK9 => ?_
   refine vwp_block ?_
   obtain ⟨x, hx⟩ := getI (l := l) (i := i) (by omega)
   refine vwp_sq [5, 6, 12, 13, 14] fun K10 hK10 => vwp_region hT ?_
   simp [-List.reduceReplicate, hx]
   repeat refine ⟨by first | assumption | omega | (intros; omega), ?_⟩
   refine hK10 _ ?_
   try clear hK10 K10
   have hxb := hb x (List.mem_of_getElem? hx)
   obtain ⟨y, rfl⟩ := Int.eq_ofNat_of_zero_le hxb.1
   obtain ⟨lo, hlo⟩ : ∃ lo, lo = c % 256 := ⟨_, rfl⟩
   obtain ⟨hi8, hhi⟩ : ∃ hi8, hi8 = c / 256 := ⟨_, rfl⟩
   obtain ⟨ix, hix⟩ : ∃ ix, ix = lo ^^^ y := ⟨_, rfl⟩
   have hix2 : ix < 256 := by rw [hix]; exact xor_lt8 (by omega) (by omega)
   obtain ⟨tv, htv⟩ : ∃ tv, tv = stepK 8 ix := ⟨_, rfl⟩
   have htv2 : tv < 4294967296 := by rw [htv]; exact stepK_lt (by omega) 8
   have htg := tabL_get hix2
   rw [← htv] at htg
   obtain ⟨c2, hc2⟩ : ∃ c2, c2 = crcStep c y := ⟨_, rfl⟩
   have w1 : IntKind.u8.wrap (c : Int) = (lo : Int) := by rw [wu8 (by omega), hlo]; omega
   have w2 : ibits .xor .u8 (lo : Int) (y : Int) = (ix : Int) := by rw [xor8 (by omega) (by omega), hix]
   have w3 : (c : Int).fdiv (2 ^ min 8 32) = (hi8 : Int) := by
     rw [Int.fdiv_eq_ediv_of_nonneg _ (by decide)]; show (c : Int) / 256 = hi8; omega
   have w3b : (c : Int).fdiv 256 = (hi8 : Int) := w3
   have w4 : ibits .xor .u32 (tv : Int) (hi8 : Int) = (c2 : Int) := by rw [xor32 htv2 (by omega), hc2, htv, hix, hlo, hhi]; rfl
   refine vwp_live [5, 6, 8, 12, 13, 14] (vwp_region hT ?_)
   simp [-List.reduceReplicate, w1, w2, w3, w3b, w4, htg]
   repeat refine ⟨by first | assumption | omega | (intros; omega), ?_⟩
   refine hK9 _ ?_
   try clear hK9 K9
   have w1 : IntKind.i64.wrap ((i : Int) + 1) = i + 1 := w64 (by omega) (by omega)
   refine vwp_live [5, 6, 12, 13, 14] (vwp_region hT ?_)
   simp [-List.reduceReplicate, w1]
   exact hK6 ((i + 1, c2)) _ (Gh.to_k [5, 6, 12, 13, 14] [0] (he := by simp [hl256])) (⟨by dsimp only; omega, by dsimp only; rw [crcL_take hx, ← hc, hc2]; rfl, by dsimp only; rw [hc2]; exact crcStep_lt hcl (by omega)⟩) (by dsimp only; omega)
  · simp -failIfUnchanged at h1; all_goals
   refine vwp_exit ?_
   simp only [inBlk, thenQ, if_true]
   refine hK4 _ ?_
   try clear hK4 K4
   have e : i = l.length := by omega
   rw [e, List.take_length] at hc
   have w1 := not32 hcl
   have w2 : IntKind.u32.max = 4294967295 := rfl
   have w3 : IntKind.u32.signed = false := rfl
   have hm2 : moreN s l = 4294967295 - c := by rw [moreN, ← hs2, ← hc]
   rw [← hm2] at w1
   refine vwp_sq [6] fun K11 hK11 => vwp_region hT ?_
   simp [-List.reduceReplicate, w1, w2, w3]
   refine hK11 _ ?_
   try clear hK11 K11
   refine vwp_ret (hR _ _ ?_)
   exact ret_k [4] [] ([]) (.int .u32 (moreN s l : Int)) (⟨rfl, rfl⟩)
theorem sum_spec (l : List Int) (hl : l.length < 1099511627776) (hb : byteL l) : VC P 66 [sB l] [] (fun r ob' => r = .int .u32 (moreN 0 l : Int) ∧ ob' = []) := by
  refine VC_of_vwp_k ent_66 Try.func66 rfl (by simp) fun R hR => ?_
  refine vwp_sq [0] fun K1 hK1 => vwp_region hT ?_
  simp
  refine hK1 _ ?_
  try clear hK1 K1
  refine vwp_sq [0] fun K2 hK2 => vwp_region hT ?_
  simp
  refine vcall_k [] (more_spec 0 l (by decide) hl hb) ?_
  rintro r ob' ⟨rfl, rfl⟩
  simp
  refine hK2 _ ?_
  try clear hK2 K2
  refine vwp_ret (hR _ _ ?_)
  exact ret_k [2] [] ([]) (.int .u32 (moreN 0 l : Int)) (⟨rfl, rfl⟩)
end Go.Proofs.Ytifhbgppjblobaa
