/- No order: what was asked may not be. -/
import Derived.Test.YthjpaongoflgiaaShap7
namespace Go.Proofs.Ythjpaongoflgiaa
open Go Go.VX Go.RowKit
set_option linter.unusedVariables false
set_option linter.unusedSimpArgs false
set_option maxHeartbeats 20000000
set_option maxRecDepth 100000
theorem order_bad (n : Int) (ds : List Int) (hd : ds.length < 9223372036854775807) (h : n < 0 ∨ 6 < n ∨ (ds.length : Int) ≠ n) : VC P 25 [.int .i64 n, sI ds] [] (fun r ob' => r = .tup [.nils, .int .i64 1] ∧ ob' = []) := by
  refine VC_of_vwp_k ent_25 Try.func25 rfl (by simp) fun R hR => ?_
  refine vwp_sq [0, 1] fun K1 hK1 => vwp_region hT ?_
  simp
  refine hK1 _ ?_
  try clear hK1 K1
  refine vwp_seq_k fun K2 hK2 => ?_
  refine vwp_seq_k fun K3 hK3 => ?_
  have hc : n < 0 ∨ (0 ≤ n ∧ 6 < n) ∨ (0 ≤ n ∧ n ≤ 6 ∧ (ds.length : Int) ≠ n) := by omega
  rcases hc with hn | ⟨hn, hn6⟩ | ⟨hn, hn6, hne⟩
  · refine vwp_live [0, 1] (vwp_regionI hT ?_)
    simp [hn]
    refine hK3 _ ?_
    try clear hK3 K3
    refine vwp_cond (by first | rfl | (simp; rfl)) (fun h1 => ?_) fun h1 => ?_
    · simp -failIfUnchanged at h1; all_goals
     refine vwp_sq [] fun K4 hK4 => vwp_region hT ?_
     simp
     refine hK4 _ ?_
     try clear hK4 K4
     refine vwp_ret (hR _ _ ?_)
     exact ret_k [4, 5] [] ([]) (.tup [.nils, .int .i64 1]) (⟨rfl, rfl⟩)
    · simp -failIfUnchanged at h1; all_goals
     refine vwp_skip ?_
     refine hK2 _ ?_
     try clear hK2 K2
     refine vwp_seq_k fun K5 hK5 => ?_
     skip
  · have k1 : ¬ n < 0 := by omega
    refine vwp_live [0, 1] (vwp_regionI hT ?_)
    simp [k1, hn6]
    refine hK3 _ ?_
    try clear hK3 K3
    refine vwp_cond (by first | rfl | (simp; rfl)) (fun h2 => ?_) fun h2 => ?_
    · simp -failIfUnchanged at h2; all_goals
     refine vwp_sq [] fun K6 hK6 => vwp_region hT ?_
     simp
     refine hK6 _ ?_
     try clear hK6 K6
     refine vwp_ret (hR _ _ ?_)
     exact ret_k [4, 5] [] ([]) (.tup [.nils, .int .i64 1]) (⟨rfl, rfl⟩)
    · simp -failIfUnchanged at h2; all_goals
     refine vwp_skip ?_
     refine hK2 _ ?_
     try clear hK2 K2
     refine vwp_seq_k fun K7 hK7 => ?_
     skip
  · have k1 : ¬ n < 0 := by omega
    have k2 : ¬ 6 < n := by omega
    refine vwp_live [0, 1] (vwp_regionI hT ?_)
    simp [k1, k2, hne]
    refine hK3 _ ?_
    try clear hK3 K3
    refine vwp_cond (by first | rfl | (simp; rfl)) (fun h3 => ?_) fun h3 => ?_
    · simp -failIfUnchanged at h3; all_goals
     refine vwp_sq [] fun K8 hK8 => vwp_region hT ?_
     simp
     refine hK8 _ ?_
     try clear hK8 K8
     refine vwp_ret (hR _ _ ?_)
     exact ret_k [4, 5] [] ([]) (.tup [.nils, .int .i64 1]) (⟨rfl, rfl⟩)
    · simp -failIfUnchanged at h3; all_goals
     refine vwp_skip ?_
     refine hK2 _ ?_
     try clear hK2 K2
     refine vwp_seq_k fun K9 hK9 => ?_
     exact absurd (by assumption) hne
end Go.Proofs.Ythjpaongoflgiaa
