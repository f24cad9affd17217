/- Plans that are large; what is fixed of plans: the walk. -/
import Derived.Test.YtinigjmfjabicaaPlW
import Derived.Test.YtinigjmfjabicaaLrg
namespace Go.Proofs.Ytinigjmfjabicaa
open Go Go.VX Go.RowKit
set_option linter.unusedVariables false
set_option linter.unusedSimpArgs false
set_option maxHeartbeats 20000000
set_option maxRecDepth 100000
theorem large_pspec (w : Wd) (l : List Pn) (hl : l.length < 1099511627776) (hl2 : ∀ p ∈ l, p.un.length ≤ 140737488355328 ∧ p.rs.length ≤ 140737488355328 ∧ ∀ r ∈ p.rs, r.st.length ≤ 140737488355328) : VC P 21 [.agg w.c, .fs l.length (rowsV l)] [] (fun r ob' => r = .bool (l.any lrgP || lrgW w 0) ∧ ob' = []) := by
  refine VC_of_vwp_k ent_21 Try.func21 rfl (by simp) fun R hR => ?_
  refine vwp_sq [0, 1] fun K1 hK1 => vwp_region hT ?_
  simp
  refine hK1 _ ?_
  try clear hK1 K1
  refine vwp_seq_k fun K2 hK2 => ?_
  refine vwp_sq [1, 2] fun K3 hK3 => vwp_region hT ?_
  simp
  refine hK3 _ ?_
  try clear hK3 K3
  refine vwp_block ?_
  refine vwp_loop_s (fun i : Nat => ⟨[(2, .ptr 0 5 0), (7, .fs l.length (rowsV l)), (8, .int .i64 l.length), (9, .int .i64 (i : Int))], [.live w.c]⟩) (fun i => i ≤ l.length ∧ (l.take i).any lrgP = false) (fun i => l.length - i) (0) (Gh.to_k [2, 7, 8, 9] [0]) (⟨by omega, by simp⟩) ?_
  rintro i ⟨hi, hno⟩
  intro K4 hK4
  refine vwp_sq [2, 7, 8, 9] fun K5 hK5 => vwp_region hT ?_
  simp
  refine hK5 _ ?_
  try clear hK5 K5
  refine vwp_seq_k fun K6 hK6 => ?_
  refine vwp_cond (by first | rfl | (simp; rfl)) (fun h1 => ?_) fun h1 => ?_
  · simp -failIfUnchanged at h1; all_goals
   refine vwp_skip ?_
   refine hK6 _ ?_
   try clear hK6 K6
   refine vwp_seq_k fun K7 hK7 => ?_
   refine vwp_block ?_
   obtain ⟨s, hs⟩ := getI (l := l) (i := i) (by omega)
   have hrow := rowPn hs
   have hlen := lenPn l
   obtain ⟨b1, b2, b3⟩ := hl2 s (List.mem_of_getElem? hs)
   refine vwp_sq [2, 7, 8, 9] fun K8 hK8 => vwp_region hT ?_
   simp [hrow, hlen]
   repeat refine ⟨by first | assumption | omega | (intros; omega), ?_⟩
   refine hK8 _ ?_
   try clear hK8 K8
   refine vwp_sq [2, 6, 7, 8, 9] fun K9 hK9 => vwp_region hT ?_
   simp
   refine vcall_z [] (lrgP_spec s b1 b2 b3) (by rintro r ob' ⟨rfl, rfl⟩; simp) ?_
   rintro r ob' ⟨rfl, rfl⟩
   simp
   refine hK9 _ ?_
   try clear hK9 K9
   refine vwp_cond (by first | rfl | (simp; rfl)) (fun h2 => ?_) fun h2 => ?_
   · simp -failIfUnchanged at h2; all_goals
    have q := h2
    have hp : lrgP s = true := by simpa using q
    refine vwp_sq [] fun K10 hK10 => vwp_region hT ?_
    simp
    refine hK10 _ ?_
    try clear hK10 K10
    refine vwp_ret (hR _ _ ?_)
    rw [show l.any lrgP = true from List.any_eq_true.2 ⟨s, List.mem_of_getElem? hs, hp⟩]
    exact ret_k [4] [] ([]) (.bool true) (⟨rfl, rfl⟩)
   · simp -failIfUnchanged at h2; all_goals
    have q := h2
    have hp : lrgP s = false := by simpa using q
    refine vwp_skip ?_
    refine hK7 _ ?_
    try clear hK7 K7
    have w1 : IntKind.i64.wrap ((i : Int) + 1) = i + 1 := w64 (by omega) (by omega)
    refine vwp_live [2, 7, 8, 9] (vwp_region hT ?_)
    simp [w1]
    exact hK4 (i + 1) _ (Gh.to_k [2, 7, 8, 9] [0]) (⟨by omega, by rw [take_snoc hs, List.any_append, hno]; simpa using hp⟩) (by omega)
  · simp -failIfUnchanged at h1; all_goals
   refine vwp_exit ?_
   simp only [inBlk, thenQ, if_true]
   refine hK2 _ ?_
   try clear hK2 K2
   obtain rfl : i = l.length := by omega
   rw [List.take_length] at hno
   refine vwp_sq [2] fun K11 hK11 => vwp_region hT ?_
   simp
   refine vcall_z [] (lrgW_spec w 0) (by rintro r ob' ⟨rfl, rfl⟩; simp) ?_
   rintro r ob' ⟨rfl, rfl⟩
   simp
   refine hK11 _ ?_
   try clear hK11 K11
   refine vwp_ret (hR _ _ ?_)
   rw [hno, Bool.false_or]
   exact ret_k [4] [] ([]) (.bool (lrgW w 0)) (⟨rfl, rfl⟩)

def w9 : Wd := ⟨2, [0, 5, 5, 0], [0, 5, 5, 0], [⟨8, 0, 1, 1, 1, 0, 9, 0⟩, ⟨7, 0, 1, 1, 1, 0, 9, 0⟩], [⟨3, 1, 1, 0, 16, 4, 2⟩]⟩
def p9 : Pn := ⟨[⟨3, [7]⟩], [8]⟩
def n9 : Pn := ⟨[], [7, 8]⟩
theorem srt1 (x : Int) : srt [x] = [x] := by simp [srt]
theorem srt78 : srt [8, 7] = [7, 8] := srt_eq (List.Perm.swap 8 7 []) (by decide)
theorem w9_e : w9.e = 0 := by decide +kernel
theorem rest_p9 : restP w9 p9 = [8] := by rw [restP, show unsF w9.os (catR p9.rs) = [8] from by kernel_rfl, srt1]
theorem rest_n9 : restP w9 n9 = [7, 8] := by rw [restP, show unsF w9.os (catR n9.rs) = [8, 7] from by kernel_rfl, srt78]
theorem rest_z9 : restP w9 ⟨[], []⟩ = [7, 8] := by rw [restP, show unsF w9.os (catR []) = [8, 7] from by kernel_rfl, srt78]
theorem cat_p9 : catR p9.rs = [7] := rfl
theorem serv_p9 : servP p9 = [7] := by rw [servP, show catR p9.rs = [7] from rfl, srt1]
theorem ck_p9 : checkP w9 p9 = (24, 0) := by unfold checkP; rw [if_neg (by rw [w9_e]; simp), if_neg (by decide), show runsP w9 p9.rs = (some [24], 0) from by kernel_rfl]; dsimp only; rw [if_neg (by decide), if_neg (by rw [rest_p9]; decide)]; rfl
theorem ck_n9 : checkP w9 n9 = (0, 0) := by unfold checkP; rw [if_neg (by rw [w9_e]; simp), if_neg (by decide), show runsP w9 n9.rs = (some [], 0) from by kernel_rfl]; dsimp only; rw [if_neg (by decide), if_neg (by rw [rest_n9]; decide)]; rfl
theorem ck_z9 : checkP w9 ⟨[], []⟩ = (0, 2) := by unfold checkP; rw [if_neg (by rw [w9_e]; simp), if_neg (by decide), show runsP w9 [] = (some [], 0) from by kernel_rfl]; dsimp only; rw [if_neg (by decide), if_pos (by rw [rest_z9]; decide)]
theorem le_pn : lessP w9 p9 n9 = true := by unfold lessP; rw [ck_p9, ck_n9]; decide
theorem le_np : lessP w9 n9 p9 = false := by unfold lessP; rw [ck_p9, ck_n9]; decide
theorem few_p9 : p9.few := ⟨by decide, by decide, by decide⟩
theorem few_n9 : n9.few := ⟨by decide, by decide, by decide⟩
theorem few_z9 : (⟨[], []⟩ : Pn).few := ⟨by decide, by decide, by decide⟩
end Go.Proofs.Ytinigjmfjabicaa
