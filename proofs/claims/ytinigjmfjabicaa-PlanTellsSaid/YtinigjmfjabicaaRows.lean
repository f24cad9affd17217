/-
  No cell of these rows narrows 'for every input' (looked for: loops, veiled, ifaces, maps, wideKeys, modest, calm, conditions, laid).
  DERIVED. THE GIVEN ROWS OF THIS SEAT. 8 by the template 'for every input the law returns true; each argument reads behind the call as it read before'; 0 by the template 'total and deterministic' (their statements: YtinigjmfjabicaaTotals.lean).
  GIVEN WITH THE SEED: the statements are not yours to turn. If you find one false, say at which input.
  Laid BY PROGRAM, IN A SANDBOX (cutbox-rows.mjs): the forced cells as the released guide's own fill.sh prints them over the translation e25d50ef6d461528… (all of the seat's roots in one cut). By AI agents, Wed Nov 11 2026. No macro, syntax, notation, axiom, sorry.
-/
import Derived.Test.YtinigjmfjabicaaChecked
import GoSem.Claim
import GoSem.ClaimJoined
import GoSem.ClaimMapViews
import Derived.JoinedTies
import Derived.KernelRfl
namespace Go.Proofs.Ytinigjmfjabicaa
/- THE CELL 'sum', in the pinned program and in every row, IS THE sha256 OF THE DUMP (.gsa) THAT YtinigjmfjabicaaProg.lean LOADS. Nothing in Lean hashes anything: it is a label: what it is worth is what the hold of that sum in a sandbox is worth. -/
noncomputable def Try.pinned : Pinned := { name := "ytinigjmfjabicaa", sum := "e25d50ef6d4615288cb0a508d2a0f3cd64c6c50b2a7887f929c4f2d981e79c43", checked := Try.checked }
namespace Rows
def none {H : Type} : Left H := { results := [], args := [] }

/-- 'groupagelaw12.BoundTells': WHATEVER THE INPUT: true; the input reads as it did. -/
def boundTellsSpec : ChangeSpec := { name := "boundTells", fn := fun _ => fun
  | [d1, d2, d3] => { results := [.lit (.bool true)], args := [d1, d2, d3] }
  | _ => none }
def boundTellsRow : OpenClaim := { program := "ytinigjmfjabicaa", sum := "e25d50ef6d4615288cb0a508d2a0f3cd64c6c50b2a7887f929c4f2d981e79c43", func := "groupage/groupagelaw12.BoundTells", spec := "boundTells", unfollowed := true, recurses := true, apart := false }
def BoundTellsSaid : Prop := boundTellsRow.holds Try.pinned (OpenSpec.ofChange boundTellsSpec)

/-- ITS FALSE NEIGHBOUR: 'it returns false'. Refute it at one input. -/
def boundTellsWrong : ChangeSpec := { name := "boundTells", fn := fun _ => fun
  | [d1, d2, d3] => { results := [.lit (.bool false)], args := [d1, d2, d3] }
  | _ => none }
def BoundTellsWrongFalsely : Prop := boundTellsRow.holds Try.pinned (OpenSpec.ofChange boundTellsWrong)

/-- 'groupagelaw12.BoundFar': WHATEVER THE INPUT: true; the input reads as it did. -/
def boundFarSpec : ChangeSpec := { name := "boundFar", fn := fun _ => fun
  | [d1, d2, d3] => { results := [.lit (.bool true)], args := [d1, d2, d3] }
  | _ => none }
def boundFarRow : OpenClaim := { program := "ytinigjmfjabicaa", sum := "e25d50ef6d4615288cb0a508d2a0f3cd64c6c50b2a7887f929c4f2d981e79c43", func := "groupage/groupagelaw12.BoundFar", spec := "boundFar", unfollowed := true, recurses := true, apart := false }
def BoundFarSaid : Prop := boundFarRow.holds Try.pinned (OpenSpec.ofChange boundFarSpec)

/-- ITS FALSE NEIGHBOUR: 'it returns false'. Refute it at one input. -/
def boundFarWrong : ChangeSpec := { name := "boundFar", fn := fun _ => fun
  | [d1, d2, d3] => { results := [.lit (.bool false)], args := [d1, d2, d3] }
  | _ => none }
def BoundFarWrongFalsely : Prop := boundFarRow.holds Try.pinned (OpenSpec.ofChange boundFarWrong)

/-- 'groupagelaw09.PlanTells': WHATEVER THE INPUT: true; the input reads as it did. -/
def planTellsSpec : ChangeSpec := { name := "planTells", fn := fun _ => fun
  | [d1, d2, d3] => { results := [.lit (.bool true)], args := [d1, d2, d3] }
  | _ => none }
def planTellsRow : OpenClaim := { program := "ytinigjmfjabicaa", sum := "e25d50ef6d4615288cb0a508d2a0f3cd64c6c50b2a7887f929c4f2d981e79c43", func := "groupage/groupagelaw09.PlanTells", spec := "planTells", unfollowed := true, recurses := true, apart := false }
def PlanTellsSaid : Prop := planTellsRow.holds Try.pinned (OpenSpec.ofChange planTellsSpec)

/-- ITS FALSE NEIGHBOUR: 'it returns false'. Refute it at one input. -/
def planTellsWrong : ChangeSpec := { name := "planTells", fn := fun _ => fun
  | [d1, d2, d3] => { results := [.lit (.bool false)], args := [d1, d2, d3] }
  | _ => none }
def PlanTellsWrongFalsely : Prop := planTellsRow.holds Try.pinned (OpenSpec.ofChange planTellsWrong)

/-- 'groupagelaw09.PlanWithout': WHATEVER THE INPUT: true; the input reads as it did. -/
def planWithoutSpec : ChangeSpec := { name := "planWithout", fn := fun _ => fun
  | [d1, d2, d3] => { results := [.lit (.bool true)], args := [d1, d2, d3] }
  | _ => none }
def planWithoutRow : OpenClaim := { program := "ytinigjmfjabicaa", sum := "e25d50ef6d4615288cb0a508d2a0f3cd64c6c50b2a7887f929c4f2d981e79c43", func := "groupage/groupagelaw09.PlanWithout", spec := "planWithout", unfollowed := true, recurses := true, apart := false }
def PlanWithoutSaid : Prop := planWithoutRow.holds Try.pinned (OpenSpec.ofChange planWithoutSpec)

/-- ITS FALSE NEIGHBOUR: 'it returns false'. Refute it at one input. -/
def planWithoutWrong : ChangeSpec := { name := "planWithout", fn := fun _ => fun
  | [d1, d2, d3] => { results := [.lit (.bool false)], args := [d1, d2, d3] }
  | _ => none }
def PlanWithoutWrongFalsely : Prop := planWithoutRow.holds Try.pinned (OpenSpec.ofChange planWithoutWrong)

/-- 'groupagelaw09.PlanOnce': WHATEVER THE INPUT: true; the input reads as it did. -/
def planOnceSpec : ChangeSpec := { name := "planOnce", fn := fun _ => fun
  | [d1, d2] => { results := [.lit (.bool true)], args := [d1, d2] }
  | _ => none }
def planOnceRow : OpenClaim := { program := "ytinigjmfjabicaa", sum := "e25d50ef6d4615288cb0a508d2a0f3cd64c6c50b2a7887f929c4f2d981e79c43", func := "groupage/groupagelaw09.PlanOnce", spec := "planOnce", unfollowed := true, recurses := true, apart := false }
def PlanOnceSaid : Prop := planOnceRow.holds Try.pinned (OpenSpec.ofChange planOnceSpec)

/-- ITS FALSE NEIGHBOUR: 'it returns false'. Refute it at one input. -/
def planOnceWrong : ChangeSpec := { name := "planOnce", fn := fun _ => fun
  | [d1, d2] => { results := [.lit (.bool false)], args := [d1, d2] }
  | _ => none }
def PlanOnceWrongFalsely : Prop := planOnceRow.holds Try.pinned (OpenSpec.ofChange planOnceWrong)

/-- 'groupagelaw09.PlanOrder': WHATEVER THE INPUT: true; the input reads as it did. -/
def planOrderSpec : ChangeSpec := { name := "planOrder", fn := fun _ => fun
  | [d1, d2, d3, d4] => { results := [.lit (.bool true)], args := [d1, d2, d3, d4] }
  | _ => none }
def planOrderRow : OpenClaim := { program := "ytinigjmfjabicaa", sum := "e25d50ef6d4615288cb0a508d2a0f3cd64c6c50b2a7887f929c4f2d981e79c43", func := "groupage/groupagelaw09.PlanOrder", spec := "planOrder", unfollowed := true, recurses := true, apart := false }
def PlanOrderSaid : Prop := planOrderRow.holds Try.pinned (OpenSpec.ofChange planOrderSpec)

/-- ITS FALSE NEIGHBOUR: 'it returns false'. Refute it at one input. -/
def planOrderWrong : ChangeSpec := { name := "planOrder", fn := fun _ => fun
  | [d1, d2, d3, d4] => { results := [.lit (.bool false)], args := [d1, d2, d3, d4] }
  | _ => none }
def PlanOrderWrongFalsely : Prop := planOrderRow.holds Try.pinned (OpenSpec.ofChange planOrderWrong)

/-- 'groupagelaw12.BoundLess': WHATEVER THE INPUT: true; the input reads as it did. -/
def boundLessSpec : ChangeSpec := { name := "boundLess", fn := fun _ => fun
  | [d1, d2, d3] => { results := [.lit (.bool true)], args := [d1, d2, d3] }
  | _ => none }
def boundLessRow : OpenClaim := { program := "ytinigjmfjabicaa", sum := "e25d50ef6d4615288cb0a508d2a0f3cd64c6c50b2a7887f929c4f2d981e79c43", func := "groupage/groupagelaw12.BoundLess", spec := "boundLess", unfollowed := true, recurses := true, apart := false }
def BoundLessSaid : Prop := boundLessRow.holds Try.pinned (OpenSpec.ofChange boundLessSpec)

/-- ITS FALSE NEIGHBOUR: 'it returns false'. Refute it at one input. -/
def boundLessWrong : ChangeSpec := { name := "boundLess", fn := fun _ => fun
  | [d1, d2, d3] => { results := [.lit (.bool false)], args := [d1, d2, d3] }
  | _ => none }
def BoundLessWrongFalsely : Prop := boundLessRow.holds Try.pinned (OpenSpec.ofChange boundLessWrong)

/-- 'groupagelaw12.BoundPlan': WHATEVER THE INPUT: true; the input reads as it did. -/
def boundPlanSpec : ChangeSpec := { name := "boundPlan", fn := fun _ => fun
  | [d1, d2, d3] => { results := [.lit (.bool true)], args := [d1, d2, d3] }
  | _ => none }
def boundPlanRow : OpenClaim := { program := "ytinigjmfjabicaa", sum := "e25d50ef6d4615288cb0a508d2a0f3cd64c6c50b2a7887f929c4f2d981e79c43", func := "groupage/groupagelaw12.BoundPlan", spec := "boundPlan", unfollowed := true, recurses := true, apart := false }
def BoundPlanSaid : Prop := boundPlanRow.holds Try.pinned (OpenSpec.ofChange boundPlanSpec)

/-- ITS FALSE NEIGHBOUR: 'it returns false'. Refute it at one input. -/
def boundPlanWrong : ChangeSpec := { name := "boundPlan", fn := fun _ => fun
  | [d1, d2, d3] => { results := [.lit (.bool false)], args := [d1, d2, d3] }
  | _ => none }
def BoundPlanWrongFalsely : Prop := boundPlanRow.holds Try.pinned (OpenSpec.ofChange boundPlanWrong)

/- THE SECOND FORM. 'bulk': how many values and letters a reading holds, each counted each time it is reached (what is shared counts as often as it is met; a slice's spare places count too). A statement '..UptoSaid' is the law's where the arguments, and the package variables that the reading takes, are together of bulk at most 1048576: NARROWER than '..Said'. Prove '..Said' where nothing that the law and all that it calls make is longer than what came in: it says more and counts as full. Else prove '..UptoSaid'. A law counts once. -/
mutual
def uptoBulk {H : Type} : DataW H → Nat
  | .lit (.string bytes) => bytes.length + 1
  | .lit _ => 1
  | .nil => 1
  | .ptr d => uptoBulk d + 1
  | .slice elems spare => uptoBulkAll elems + uptoBulkAll spare + 1
  | .agg parts => uptoBulkAll parts + 1
  | .iface _ d => uptoBulk d + 1
  | .map entries => uptoBulkEntries entries + 1
  | .held _ => 1
def uptoBulkAll {H : Type} : List (DataW H) → Nat
  | [] => 0
  | d :: r => uptoBulk d + uptoBulkAll r
def uptoBulkEntries {H : Type} : List (Lit × DataW H) → Nat
  | [] => 0
  | x :: r => uptoBulkEntry x + uptoBulkEntries r
def uptoBulkEntry {H : Type} : Lit × DataW H → Nat
  | (.string bytes, d) => bytes.length + uptoBulk d + 1
  | (_, d) => uptoBulk d + 1
 end
def uptoSmall : (H : Type) → List (DataW H) → Bool := fun _ ds => decide (uptoBulkAll ds ≤ 1048576)
def OpenSpec.upto (s : _root_.Go.ChangeSpec) : _root_.Go.OpenSpec := { _root_.Go.OpenSpec.ofChange s with cond := some uptoSmall }

/-- 'groupagelaw12.BoundTells', WHERE WHAT IT READS IS OF BULK AT MOST 1048576: true; the input reads as it did. -/
def boundTellsUptoRow : OpenClaim := { program := "ytinigjmfjabicaa", sum := "e25d50ef6d4615288cb0a508d2a0f3cd64c6c50b2a7887f929c4f2d981e79c43", func := "groupage/groupagelaw12.BoundTells", spec := "boundTells", unfollowed := true, recurses := true, apart := false, narrowed := true }
def BoundTellsUptoSaid : Prop := boundTellsUptoRow.holds Try.pinned (OpenSpec.upto boundTellsSpec)

/-- 'groupagelaw12.BoundFar', WHERE WHAT IT READS IS OF BULK AT MOST 1048576: true; the input reads as it did. -/
def boundFarUptoRow : OpenClaim := { program := "ytinigjmfjabicaa", sum := "e25d50ef6d4615288cb0a508d2a0f3cd64c6c50b2a7887f929c4f2d981e79c43", func := "groupage/groupagelaw12.BoundFar", spec := "boundFar", unfollowed := true, recurses := true, apart := false, narrowed := true }
def BoundFarUptoSaid : Prop := boundFarUptoRow.holds Try.pinned (OpenSpec.upto boundFarSpec)

/-- 'groupagelaw09.PlanTells', WHERE WHAT IT READS IS OF BULK AT MOST 1048576: true; the input reads as it did. -/
def planTellsUptoRow : OpenClaim := { program := "ytinigjmfjabicaa", sum := "e25d50ef6d4615288cb0a508d2a0f3cd64c6c50b2a7887f929c4f2d981e79c43", func := "groupage/groupagelaw09.PlanTells", spec := "planTells", unfollowed := true, recurses := true, apart := false, narrowed := true }
def PlanTellsUptoSaid : Prop := planTellsUptoRow.holds Try.pinned (OpenSpec.upto planTellsSpec)

/-- 'groupagelaw09.PlanWithout', WHERE WHAT IT READS IS OF BULK AT MOST 1048576: true; the input reads as it did. -/
def planWithoutUptoRow : OpenClaim := { program := "ytinigjmfjabicaa", sum := "e25d50ef6d4615288cb0a508d2a0f3cd64c6c50b2a7887f929c4f2d981e79c43", func := "groupage/groupagelaw09.PlanWithout", spec := "planWithout", unfollowed := true, recurses := true, apart := false, narrowed := true }
def PlanWithoutUptoSaid : Prop := planWithoutUptoRow.holds Try.pinned (OpenSpec.upto planWithoutSpec)

/-- 'groupagelaw09.PlanOnce', WHERE WHAT IT READS IS OF BULK AT MOST 1048576: true; the input reads as it did. -/
def planOnceUptoRow : OpenClaim := { program := "ytinigjmfjabicaa", sum := "e25d50ef6d4615288cb0a508d2a0f3cd64c6c50b2a7887f929c4f2d981e79c43", func := "groupage/groupagelaw09.PlanOnce", spec := "planOnce", unfollowed := true, recurses := true, apart := false, narrowed := true }
def PlanOnceUptoSaid : Prop := planOnceUptoRow.holds Try.pinned (OpenSpec.upto planOnceSpec)

/-- 'groupagelaw09.PlanOrder', WHERE WHAT IT READS IS OF BULK AT MOST 1048576: true; the input reads as it did. -/
def planOrderUptoRow : OpenClaim := { program := "ytinigjmfjabicaa", sum := "e25d50ef6d4615288cb0a508d2a0f3cd64c6c50b2a7887f929c4f2d981e79c43", func := "groupage/groupagelaw09.PlanOrder", spec := "planOrder", unfollowed := true, recurses := true, apart := false, narrowed := true }
def PlanOrderUptoSaid : Prop := planOrderUptoRow.holds Try.pinned (OpenSpec.upto planOrderSpec)

/-- 'groupagelaw12.BoundLess', WHERE WHAT IT READS IS OF BULK AT MOST 1048576: true; the input reads as it did. -/
def boundLessUptoRow : OpenClaim := { program := "ytinigjmfjabicaa", sum := "e25d50ef6d4615288cb0a508d2a0f3cd64c6c50b2a7887f929c4f2d981e79c43", func := "groupage/groupagelaw12.BoundLess", spec := "boundLess", unfollowed := true, recurses := true, apart := false, narrowed := true }
def BoundLessUptoSaid : Prop := boundLessUptoRow.holds Try.pinned (OpenSpec.upto boundLessSpec)

/-- 'groupagelaw12.BoundPlan', WHERE WHAT IT READS IS OF BULK AT MOST 1048576: true; the input reads as it did. -/
def boundPlanUptoRow : OpenClaim := { program := "ytinigjmfjabicaa", sum := "e25d50ef6d4615288cb0a508d2a0f3cd64c6c50b2a7887f929c4f2d981e79c43", func := "groupage/groupagelaw12.BoundPlan", spec := "boundPlan", unfollowed := true, recurses := true, apart := false, narrowed := true }
def BoundPlanUptoSaid : Prop := boundPlanUptoRow.holds Try.pinned (OpenSpec.upto boundPlanSpec)

end Rows
end Go.Proofs.Ytinigjmfjabicaa
