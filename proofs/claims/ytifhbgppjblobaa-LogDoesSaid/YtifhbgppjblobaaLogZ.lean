/- The document's bytes of a number, and of a record. -/
import Derived.Test.YtifhbgppjblobaaLogY
namespace Go.Proofs.Ytifhbgppjblobaa
open Go Go.VX Go.RowKit
set_option linter.unusedVariables false
set_option linter.unusedSimpArgs false
set_option maxHeartbeats 20000000
set_option maxRecDepth 100000

theorem laidB4 (n : Nat) : laidB n 4 = [((n / 16777216 % 256 : Nat) : Int), ((n / 65536 % 256 : Nat) : Int), ((n / 256 % 256 : Nat) : Int), ((n % 256 : Nat) : Int)] := by simp [laidB, List.range, List.range.loop]
theorem laidB2 (n : Nat) : laidB n 2 = [((n / 256 % 256 : Nat) : Int), ((n % 256 : Nat) : Int)] := by simp [laidB, List.range, List.range.loop]
theorem crcL_append (c : Nat) (a b : List Int) : crcL c (a ++ b) = crcL (crcL c a) b := by simp [crcL]
theorem moreN_append {a b : List Int} (ha : byteL a) (s : Nat) : moreN (moreN s a) b = moreN s (a ++ b) := by
  have h := crcL_lt (c := 4294967295 - s) ha (by omega)
  unfold moreN
  rw [crcL_append]
  congr 2
  omega
theorem four_spec (n : Nat) (hn : n < 1099511627776) : VC P 43 [.int .i64 (n : Int)] [] (fun r ob' => r = .sl 0 4 1 0 4 ∧ ob' = [.live (bts (laidB n 4))]) := by
  refine VC_of_vwp_k ent_43 Try.func43 rfl (by simp) fun R hR => ?_
  refine vwp_sq [0] fun K1 hK1 => vwp_region hT ?_
  simp
  refine hK1 _ ?_
  try clear hK1 K1
  obtain ⟨a, ha⟩ : ∃ a, a = n / 16777216 := ⟨_, rfl⟩
  obtain ⟨b, hb⟩ : ∃ b, b = n / 65536 := ⟨_, rfl⟩
  obtain ⟨c, hc⟩ : ∃ c, c = n / 256 := ⟨_, rfl⟩
  have t1 : (n : Int).tdiv 16777216 = (a : Int) := by rw [ha]; rfl
  have t2 : (n : Int).tdiv 65536 = (b : Int) := by rw [hb]; rfl
  have t3 : (n : Int).tdiv 256 = (c : Int) := by rw [hc]; rfl
  have x1 : IntKind.i64.wrap (a : Int) = (a : Int) := w64 (by omega) (by omega)
  have x2 : IntKind.i64.wrap (b : Int) = (b : Int) := w64 (by omega) (by omega)
  have x3 : IntKind.i64.wrap (c : Int) = (c : Int) := w64 (by omega) (by omega)
  have w1 : IntKind.u8.wrap (((a : Nat) : Int)) = (((a) % 256 : Nat) : Int) := (wu8 (by omega)).trans (by omega)
  have w2 : IntKind.u8.wrap (((b : Nat) : Int)) = (((b) % 256 : Nat) : Int) := (wu8 (by omega)).trans (by omega)
  have w3 : IntKind.u8.wrap (((c : Nat) : Int)) = (((c) % 256 : Nat) : Int) := (wu8 (by omega)).trans (by omega)
  have w4 : IntKind.u8.wrap (((n : Nat) : Int)) = (((n) % 256 : Nat) : Int) := (wu8 (by omega)).trans (by omega)
  refine vwp_sq [0] fun K2 hK2 => vwp_region hT ?_
  simp [t1, t2, t3, x1, x2, x3, w1, w2, w3, w4]
  repeat refine ⟨by first | assumption | omega | (intros; omega), ?_⟩
  refine hK2 _ ?_
  try clear hK2 K2
  refine vwp_ret (hR _ _ ?_)
  have e : laidB n 4 = [((a % 256 : Nat) : Int), ((b % 256 : Nat) : Int), ((c % 256 : Nat) : Int), ((n % 256 : Nat) : Int)] := by rw [ha, hb, hc]; exact laidB4 n
  rw [e]
  exact ret_k [2] [0] ([.live (bts [((a % 256 : Nat) : Int), ((b % 256 : Nat) : Int), ((c % 256 : Nat) : Int), ((n % 256 : Nat) : Int)])]) (.sl 0 4 1 0 4) (⟨rfl, rfl⟩)
theorem filled_spec (b : List Int) (hb : b.length ≤ 31) : VC P 45 [sB b] [] (fun r ob' => r = .sl 0 32 1 0 32 ∧ ob' = [.live (bts (markL b))]) := by
  refine VC_of_vwp_k ent_45 Try.func45 rfl (by simp) fun R hR => ?_
  refine vwp_sq [0] fun K1 hK1 => vwp_region hT ?_
  simp
  refine hK1 _ ?_
  try clear hK1 K1
  obtain ⟨Lb, hLb⟩ : ∃ Lb, Lb = b.length := ⟨_, rfl⟩
  refine vwp_sq [0] fun K2 hK2 => vwp_region hT ?_
  simp
  repeat refine ⟨by first | assumption | omega | (intros; omega), ?_⟩
  refine hK2 _ ?_
  try clear hK2 K2
  refine vwp_seq_k fun K3 hK3 => ?_
  refine vwp_block ?_
  refine vwp_loop_s (fun i : Nat => ⟨[(3, .sl 0 (Lb + i) 1 0 (Lb + i))], [.live (bts (b ++ List.replicate i 0))]⟩) (fun i => Lb + i ≤ 31) (fun i => 31 - i) (0) (Gh.to_k [3] [0] (he := by simp [hLb]) (hh := by simp)) (by omega) ?_
  rintro i hi
  intro K4 hK4
  refine vwp_seq_k fun K5 hK5 => ?_
  refine vwp_sq [3] fun K6 hK6 => vwp_region hT ?_
  simp [← hLb]
  refine hK6 _ ?_
  try clear hK6 K6
  refine vwp_cond (by first | rfl | (simp; rfl)) (fun h1 => ?_) fun h1 => ?_
  · simp -failIfUnchanged at h1; all_goals
   refine vwp_skip ?_
   refine hK5 _ ?_
   try clear hK5 K5
   refine vwp_block ?_
   have htk : List.take (Lb + i) (bts (b ++ List.replicate i 0)) = bts (b ++ List.replicate i 0) := List.take_of_length_le (by simp; omega)
   refine vwp_live [3] (vwp_region hT ?_)
   simp [htk]
   repeat refine ⟨by first | assumption | omega | (intros; omega), ?_⟩
   exact hK4 (i + 1) _ (Gh.to_k [3] [0] (he := by simp; omega) (hh := by simp [List.replicate_succ'])) (by omega) (by omega)
  · simp -failIfUnchanged at h1; all_goals
   refine vwp_exit ?_
   simp only [inBlk, thenQ, if_true]
   refine hK3 _ ?_
   try clear hK3 K3
   have hi2 : Lb + i = 31 := by omega
   have htk : List.take (Lb + i) (bts (b ++ List.replicate i 0)) = bts (b ++ List.replicate i 0) := List.take_of_length_le (by simp; omega)
   have e : markL b = b ++ List.replicate i 0 ++ [165] := by rw [markL]; congr 3; omega
   refine vwp_sq [3] fun K7 hK7 => vwp_region hT ?_
   simp [hi2, htk]
   repeat refine ⟨by first | assumption | omega | (intros; omega), ?_⟩
   refine hK7 _ ?_
   try clear hK7 K7
   refine vwp_ret (hR _ _ ?_)
   rw [e]
   exact ret_k [2] [0] ([.live (bts (b ++ List.replicate i 0 ++ [165]))]) (.sl 0 32 1 0 32) (⟨rfl, rfl⟩)
end Go.Proofs.Ytifhbgppjblobaa
