/- Of this program. -/
import Derived.Test.YtinigjmfjabicaaVXc
import Derived.Test.YtinigjmfjabicaaTabA
namespace Go.Proofs.Ytinigjmfjabicaa
open Go Go.VX Go.RowKit
set_option linter.unusedVariables false
set_option linter.unusedSimpArgs false
set_option maxHeartbeats 20000000
set_option maxRecDepth 100000

noncomputable abbrev P := Try.prog
theorem hm : P.follows .mixedOrders = true := by kernel_rfl
abbrev ints (l : List Int) : List V := l.map (V.int .i64)
abbrev sI (l : List Int) : V := .fs l.length (ints l)
@[simp] theorem i64_wrap_wrap (x : Int) : IntKind.i64.wrap (IntKind.i64.wrap x) = IntKind.i64.wrap x := by
  simp only [IntKind.wrap_i64]; omega
end Go.Proofs.Ytinigjmfjabicaa
