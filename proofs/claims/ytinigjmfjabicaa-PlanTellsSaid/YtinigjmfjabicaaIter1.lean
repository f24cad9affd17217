/- Go's sort of ints, and of what an iterator gives: the walk. -/
import Derived.Test.YtinigjmfjabicaaIter0
import Derived.Test.YtinigjmfjabicaaSortLay
import Derived.Test.YtinigjmfjabicaaVXc
namespace Go.Proofs.Ytinigjmfjabicaa
open Go Go.VX Go.RowKit
set_option linter.unusedVariables false
set_option linter.unusedSimpArgs false
set_option maxHeartbeats 20000000
set_option maxRecDepth 100000

abbrev srt (L : List Int) : List Int := L.mergeSort fun x y => decide (x ≤ y)
theorem sort_spec (L : List Int) (hL : L.length < 1099511627776) : VC P 62 [.sl 0 L.length 1 0 L.length] [.live (L.map (.int .i64))] (fun r ob' => r = .tup [] ∧ ob' = [.live ((srt L).map (.int .i64))]) :=
  VC_inplace (by simp) ent_62 (fun b cap w hH hb => AnyM.slices_Sort_int lays5 b 0 cap L w (fun j hj => by simpa using hH j (by simpa using hj)) hb (by omega)) (fun _ p cap w => AnyM.slices_Sort_int_none lays5 p cap w)
theorem sorted_spec (L : List Int) (hL : L.length < 1099511627776) : VC P 35 [.fn 70 [.ptr 0 1 0]] [.live [.fs L.length (L.map (.int .i64))]] (fun r ob' => r = .sl 1 L.length 1 0 L.length ∧ ob' = [.live [.fs L.length (L.map (.int .i64))], .live ((srt L).map (.int .i64))]) := by
  refine VC_of_vwp_k ent_35 Try.func35 rfl (by simp) fun R hR => ?_
  refine vwp_sq [0] fun K1 hK1 => vwp_region hT ?_
  simp
  refine hK1 _ ?_
  try clear hK1 K1
  refine vwp_sq [0] fun K2 hK2 => vwp_region hT ?_
  simp
  refine vcall_k [0] (collect_spec L hL) ?_
  rintro r ob' ⟨rfl, rfl⟩
  simp
  refine hK2 _ ?_
  try clear hK2 K2
  refine vwp_sq [3] fun K3 hK3 => vwp_region hT ?_
  simp
  refine vcall_k [1] (sort_spec L hL) ?_
  rintro r ob' ⟨rfl, rfl⟩
  simp
  refine hK3 _ ?_
  try clear hK3 K3
  refine vwp_sq [3] fun K4 hK4 => vwp_region hT ?_
  simp
  refine hK4 _ ?_
  try clear hK4 K4
  refine vwp_ret (hR _ _ ?_)
  exact ret_k [2] [0, 1] ([.live [.fs L.length (L.map (.int .i64))], .live ((srt L).map (.int .i64))]) (.sl 1 L.length 1 0 L.length) (⟨rfl, rfl⟩)
end Go.Proofs.Ytinigjmfjabicaa
