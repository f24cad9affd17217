/- A program that refuses everything answers otherwise. -/
import Derived.Test.YtgmcflbbdpbkeaaDoorPkN
namespace Go.Proofs.YtgmcflbbdpbkeaaDoor
open Go Go.VX Go.RowKit
set_option linter.unusedVariables false
set_option linter.unusedSimpArgs false
set_option maxHeartbeats 20000000
set_option maxRecDepth 100000

def a0 : PV := ⟨-1, ⟨#[]⟩⟩
def a1 : PV := ⟨0, ⟨#[97, 98]⟩⟩
theorem aw_w : writeP ⟨#[110, 116]⟩ [a0, a1] = ([1, 4, 97, 98], 0) := by
  have n1 : numB (-1) = [1] := varB_lt (by decide)
  have n2 : numB 2 = [4] := varB_lt (by decide)
  have h1 : formF ⟨#[110, 116]⟩ = true := by kernel_rfl
  have h2 : wrongL (sL (formS ⟨#[110, 116]⟩)) (formA ⟨#[110, 116]⟩) 2 = false := by kernel_rfl
  have h3 : fitsV (sL (formS ⟨#[110, 116]⟩)) 0 [a0, a1] = true := by kernel_rfl
  have h4 : bytesP (sL (formS ⟨#[110, 116]⟩)) 0 [a0, a1] = numB (-1) ++ ((numB 2 ++ [97, 98]) ++ []) := by kernel_rfl
  rw [writeP, if_neg (by rw [h1]; decide), if_neg (by rw [show [a0, a1].length = 2 from rfl, h2]; decide), if_neg (by rw [h3]; decide), if_neg (by decide), h4, n1, n2]
  rfl
theorem aw_r1 : readP ⟨#[110, 116]⟩ [1, 4, 97, 98] = ([a0, a1], 0) := by kernel_rfl
theorem aw_r2 : readP ⟨#[110, 116]⟩ [1] = ([], 3) := by kernel_rfl
theorem aw_r3 : readP ⟨#[120]⟩ [] = ([], 1) := by kernel_rfl
theorem aw_r4 : readP ⟨#[110]⟩ [128, 0] = ([], 2) := by kernel_rfl
theorem aw_writes : VC P 9 [.str ⟨#[110, 116]⟩, .fs 2 [.int .i64 (-1), .str ⟨#[]⟩, .int .i64 0, .str ⟨#[97, 98]⟩]] [] (fun r ob' => r = .tup [.sl 0 4 1 0 4, .int .i64 0] ∧ ob' = [.live (bts [1, 4, 97, 98])]) := by
  have h := write_spec ⟨#[110, 116]⟩ (by decide) [a0, a1] (by decide) (by intro x hx; simp at hx; rcases hx with rfl | rfl <;> decide)
  rw [aw_w] at h
  exact h
theorem aw_read {f : ByteArray} {B : List Int} {l : List PV} {e : Int} (hf : f.size < 1099511627776) (hb : byteL B) (hB : B.length < 1099511627776) (h : readP f B = (l, e)) : VC P 15 [.str f, sB B] [] (fun r ob' => r = .tup [.sl 0 (2 * l.length) 2 0 l.length, .int .i64 e] ∧ ob' = [.live (vcs l)]) := by
  have k := read_spec f hf B hb hB
  rw [h] at k
  exact k
theorem aw_reads : VC P 15 [.str ⟨#[110, 116]⟩, .fs 4 (bts [1, 4, 97, 98])] [] (fun r ob' => r = .tup [.sl 0 4 2 0 2, .int .i64 0] ∧ ob' = [.live [.int .i64 (-1), .str ⟨#[]⟩, .int .i64 0, .str ⟨#[97, 98]⟩]]) :=
  aw_read (by decide) (by intro x hx; simp at hx; omega) (by decide) aw_r1
theorem aw_reads2 : VC P 15 [.str ⟨#[110, 116]⟩, .fs 1 [.int .u8 1]] [] (fun r ob' => r = .tup [.sl 0 0 2 0 0, .int .i64 3] ∧ ob' = [.live []]) :=
  aw_read (by decide) (by intro x hx; simp at hx; omega) (by decide) aw_r2
theorem aw_reads3 : VC P 15 [.str ⟨#[120]⟩, .nils] [] (fun r ob' => r = .tup [.sl 0 0 2 0 0, .int .i64 1] ∧ ob' = [.live []]) :=
  VC.weak (aw_read (B := []) (by decide) (by intro x hx; simp at hx) (by decide) aw_r3) fun E vals ⟨u, r, h1, _, h2, v, r2, h3, _, h4, h5⟩ => ⟨u, r, h1, trivial, h2, v, r2, h3, trivial, ⟨none, 0, [], h4, Nat.le_refl _, by simp [VReps], fun h => by cases h⟩, h5⟩
theorem aw_reads4 : VC P 15 [.str ⟨#[110]⟩, .fs 2 [.int .u8 128, .int .u8 0]] [] (fun r ob' => r = .tup [.sl 0 0 2 0 0, .int .i64 2] ∧ ob' = [.live []]) :=
  aw_read (by decide) (by intro x hx; simp at hx; omega) (by decide) aw_r4
theorem awake_spec  : VC P 7 [] [] (fun r ob' => r = .bool true ∧ ob' = []) := by
  refine VC_of_vwp_k ent_7 Tryd.func7 rfl (by simp) fun R hR => ?_
  refine vwp_sq [] fun K1 hK1 => vwp_region hT ?_
  simp
  refine hK1 _ ?_
  try clear hK1 K1
  have hz2 : zerosV [.int .i64 0, .str ⟨#[]⟩] 2 = [.int .i64 0, .str ⟨#[]⟩, .int .i64 0, .str ⟨#[]⟩] := rfl
  refine vwp_sq [] fun K2 hK2 => vwp_region hT ?_
  simp [hz2]
  refine vcall_k [] (Number_spec (-1)) ?_
  rintro r ob' ⟨rfl, rfl⟩
  simp [hz2]
  refine vcall_k [] (Text_spec ⟨#[97, 98]⟩) ?_
  rintro r ob' ⟨rfl, rfl⟩
  simp [hz2]
  refine vcall_freeze 0 (by rfl) (by intro c hc; simp at hc; (first | (rcases hc with rfl | rfl | rfl | rfl <;> rfl) | (rcases hc with rfl | rfl <;> rfl) | (subst hc; rfl))) ?_
  refine vcall_k [] (aw_writes) ?_
  rintro r ob' ⟨rfl, rfl⟩
  simp [hz2]
  refine hK2 _ ?_
  try clear hK2 K2
  refine vwp_sq [1, 2] fun K3 hK3 => vwp_region hT ?_
  simp
  refine vcall_freeze 1 (by rfl) (by intro c hc; simp at hc; (first | (rcases hc with rfl | rfl | rfl | rfl <;> rfl) | (rcases hc with rfl | rfl <;> rfl) | (subst hc; rfl))) ?_
  refine vcall_k [] (aw_reads) ?_
  rintro r ob' ⟨rfl, rfl⟩
  simp
  refine hK3 _ ?_
  try clear hK3 K3
  refine vwp_sq [1, 2, 3, 4] fun K4 hK4 => vwp_region hT ?_
  simp
  refine vcall_freeze 3 (by rfl) (by intro c hc; simp at hc; (first | (rcases hc with rfl | rfl | rfl | rfl <;> rfl) | (rcases hc with rfl | rfl <;> rfl) | (subst hc; rfl))) ?_
  refine vcall_k [] (aw_reads2) ?_
  rintro r ob' ⟨rfl, rfl⟩
  simp
  refine hK4 _ ?_
  try clear hK4 K4
  refine vwp_sq [1, 2, 3, 4, 6] fun K5 hK5 => vwp_region hT ?_
  simp
  refine vcall_k [] (aw_reads3) ?_
  rintro r ob' ⟨rfl, rfl⟩
  simp
  refine hK5 _ ?_
  try clear hK5 K5
  refine vwp_sq [1, 2, 3, 4, 6, 8] fun K6 hK6 => vwp_region hT ?_
  simp
  refine vcall_freeze 6 (by rfl) (by intro c hc; simp at hc; (first | (rcases hc with rfl | rfl | rfl | rfl <;> rfl) | (rcases hc with rfl | rfl <;> rfl) | (subst hc; rfl))) ?_
  refine vcall_k [] (aw_reads4) ?_
  rintro r ob' ⟨rfl, rfl⟩
  simp
  refine hK6 _ ?_
  try clear hK6 K6
  have hso : (strOfV [.int .u8 1, .int .u8 4, .int .u8 97, .int .u8 98]).toList = [1, 4, 97, 98] := by rw [ByteArray.toList_eq]; rfl
  refine vwp_sq [1, 2, 3, 4, 6, 8, 10] fun K7 hK7 => vwp_region hT ?_
  simp [hso]
  repeat refine ⟨by first | assumption | omega | (intros; omega), ?_⟩
  refine hK7 _ ?_
  try clear hK7 K7
  refine vwp_ret (hR _ _ ?_)
  exact ret_k [0] [] ([]) (.bool true) (⟨rfl, rfl⟩)
end Go.Proofs.YtgmcflbbdpbkeaaDoor
