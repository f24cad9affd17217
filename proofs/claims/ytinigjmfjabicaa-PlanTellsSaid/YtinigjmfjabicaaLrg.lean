/- Worlds that are large: the walk. -/
import Derived.Test.YtinigjmfjabicaaPlA
namespace Go.Proofs.Ytinigjmfjabicaa
open Go Go.VX Go.RowKit
set_option linter.unusedVariables false
set_option linter.unusedSimpArgs false
set_option maxHeartbeats 20000000
set_option maxRecDepth 100000

def lrgW (w : Wd) (n : Int) : Bool := decide (50 < w.os.length ∨ 50 < w.ts.length ∨ 400 < w.D.length ∨ 400 < w.T.length ∨ 100 < n)
theorem lrgW_spec (w : Wd) (n : Int) : VC P 18 [.agg w.c, .int .i64 n] [] (fun r ob' => r = .bool (lrgW w n) ∧ ob' = []) := by
  refine VC_of_vwp_k ent_18 Try.func18 rfl (by simp) fun R hR => ?_
  refine vwp_sq [0, 1] fun K1 hK1 => vwp_region hT ?_
  simp
  refine hK1 _ ?_
  try clear hK1 K1
  refine vwp_sq [1, 2] fun K2 hK2 => vwp_region hT ?_
  simp
  refine hK2 _ ?_
  try clear hK2 K2
  refine vwp_ret (hR _ _ ?_)
  exact ret_k [4] [] ([]) (.bool (lrgW w n)) (⟨rfl, rfl⟩) (hr := by simp [lrgW]; rw [Bool.eq_iff_iff]; simp; omega)
end Go.Proofs.Ytinigjmfjabicaa
