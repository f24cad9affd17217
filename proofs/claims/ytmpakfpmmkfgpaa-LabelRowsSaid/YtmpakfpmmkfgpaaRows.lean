/-
  No cell of these rows narrows 'for every input' (looked for: loops, veiled, ifaces, maps, wideKeys, modest, calm, conditions, laid).
  DERIVED. THE GIVEN ROWS OF THIS SEAT. 4 by the template 'for every input the law returns true; each argument reads behind the call as it read before'; 0 by the template 'total and deterministic' (their statements: YtmpakfpmmkfgpaaTotals.lean).
  GIVEN WITH THE SEED: the statements are not yours to turn. If you find one false, say at which input.
  Laid BY PROGRAM, IN A SANDBOX (cutbox-rows.mjs): the forced cells as the released guide's own fill.sh prints them over the translation ca05b54f69cb88f0… (all of the seat's roots in one cut). By AI agents, Wed Nov 11 2026. No macro, syntax, notation, axiom, sorry.
-/
import Derived.Test.YtmpakfpmmkfgpaaChecked
import GoSem.Claim
import GoSem.ClaimJoined
import GoSem.ClaimMapViews
import Derived.JoinedTies
import Derived.KernelRfl
namespace Go.Proofs.Ytmpakfpmmkfgpaa
/- THE CELL 'sum', in the pinned program and in every row, IS THE sha256 OF THE DUMP (.gsa) THAT YtmpakfpmmkfgpaaProg.lean LOADS. Nothing in Lean hashes anything: it is a label: what it is worth is what the hold of that sum in a sandbox is worth. -/
noncomputable def Try.pinned : Pinned := { name := "ytmpakfpmmkfgpaa", sum := "ca05b54f69cb88f058ab7ee89988efa4c969df3a73309ae3fbfed3d09ca883c2", checked := Try.checked }
namespace Rows
def none {H : Type} : Left H := { results := [], args := [] }

/-- 'groupagelaw17.LabelTells': WHATEVER THE INPUT: true; the input reads as it did. -/
def labelTellsSpec : ChangeSpec := { name := "labelTells", fn := fun _ => fun
  | [d1, d2, d3, d4] => { results := [.lit (.bool true)], args := [d1, d2, d3, d4] }
  | _ => none }
def labelTellsRow : OpenClaim := { program := "ytmpakfpmmkfgpaa", sum := "ca05b54f69cb88f058ab7ee89988efa4c969df3a73309ae3fbfed3d09ca883c2", func := "groupage/groupagelaw17.LabelTells", spec := "labelTells", unfollowed := true, recurses := true, apart := false }
def LabelTellsSaid : Prop := labelTellsRow.holds Try.pinned (OpenSpec.ofChange labelTellsSpec)

/-- ITS FALSE NEIGHBOUR: 'it returns false'. Refute it at one input. -/
def labelTellsWrong : ChangeSpec := { name := "labelTells", fn := fun _ => fun
  | [d1, d2, d3, d4] => { results := [.lit (.bool false)], args := [d1, d2, d3, d4] }
  | _ => none }
def LabelTellsWrongFalsely : Prop := labelTellsRow.holds Try.pinned (OpenSpec.ofChange labelTellsWrong)

/-- 'groupagelaw17.LabelApart': WHATEVER THE INPUT: true; the input reads as it did. -/
def labelApartSpec : ChangeSpec := { name := "labelApart", fn := fun _ => fun
  | [d1, d2] => { results := [.lit (.bool true)], args := [d1, d2] }
  | _ => none }
def labelApartRow : OpenClaim := { program := "ytmpakfpmmkfgpaa", sum := "ca05b54f69cb88f058ab7ee89988efa4c969df3a73309ae3fbfed3d09ca883c2", func := "groupage/groupagelaw17.LabelApart", spec := "labelApart", unfollowed := true, recurses := true, apart := false }
def LabelApartSaid : Prop := labelApartRow.holds Try.pinned (OpenSpec.ofChange labelApartSpec)

/-- ITS FALSE NEIGHBOUR: 'it returns false'. Refute it at one input. -/
def labelApartWrong : ChangeSpec := { name := "labelApart", fn := fun _ => fun
  | [d1, d2] => { results := [.lit (.bool false)], args := [d1, d2] }
  | _ => none }
def LabelApartWrongFalsely : Prop := labelApartRow.holds Try.pinned (OpenSpec.ofChange labelApartWrong)

/-- 'groupagelaw17.LabelTrucks': WHATEVER THE INPUT: true; the input reads as it did. -/
def labelTrucksSpec : ChangeSpec := { name := "labelTrucks", fn := fun _ => fun
  | [d1, d2, d3, d4] => { results := [.lit (.bool true)], args := [d1, d2, d3, d4] }
  | _ => none }
def labelTrucksRow : OpenClaim := { program := "ytmpakfpmmkfgpaa", sum := "ca05b54f69cb88f058ab7ee89988efa4c969df3a73309ae3fbfed3d09ca883c2", func := "groupage/groupagelaw17.LabelTrucks", spec := "labelTrucks", unfollowed := true, recurses := true, apart := false }
def LabelTrucksSaid : Prop := labelTrucksRow.holds Try.pinned (OpenSpec.ofChange labelTrucksSpec)

/-- ITS FALSE NEIGHBOUR: 'it returns false'. Refute it at one input. -/
def labelTrucksWrong : ChangeSpec := { name := "labelTrucks", fn := fun _ => fun
  | [d1, d2, d3, d4] => { results := [.lit (.bool false)], args := [d1, d2, d3, d4] }
  | _ => none }
def LabelTrucksWrongFalsely : Prop := labelTrucksRow.holds Try.pinned (OpenSpec.ofChange labelTrucksWrong)

/-- 'groupagelaw17.LabelRows': WHATEVER THE INPUT: true; the input reads as it did. -/
def labelRowsSpec : ChangeSpec := { name := "labelRows", fn := fun _ => fun
  | [d1, d2, d3] => { results := [.lit (.bool true)], args := [d1, d2, d3] }
  | _ => none }
def labelRowsRow : OpenClaim := { program := "ytmpakfpmmkfgpaa", sum := "ca05b54f69cb88f058ab7ee89988efa4c969df3a73309ae3fbfed3d09ca883c2", func := "groupage/groupagelaw17.LabelRows", spec := "labelRows", unfollowed := true, recurses := true, apart := false }
def LabelRowsSaid : Prop := labelRowsRow.holds Try.pinned (OpenSpec.ofChange labelRowsSpec)

/-- ITS FALSE NEIGHBOUR: 'it returns false'. Refute it at one input. -/
def labelRowsWrong : ChangeSpec := { name := "labelRows", fn := fun _ => fun
  | [d1, d2, d3] => { results := [.lit (.bool false)], args := [d1, d2, d3] }
  | _ => none }
def LabelRowsWrongFalsely : Prop := labelRowsRow.holds Try.pinned (OpenSpec.ofChange labelRowsWrong)

/- THE SECOND FORM. 'bulk': how many values and letters a reading holds, each counted each time it is reached (what is shared counts as often as it is met; a slice's spare places count too). A statement '..UptoSaid' is the law's where the arguments, and the package variables that the reading takes, are together of bulk at most 1048576: NARROWER than '..Said'. Prove '..Said' where nothing that the law and all that it calls make is longer than what came in: it says more and counts as full. Else prove '..UptoSaid'. A law counts once. -/
mutual
def uptoBulk {H : Type} : DataW H → Nat
  | .lit (.string bytes) => bytes.length + 1
  | .lit _ => 1
  | .nil => 1
  | .ptr d => uptoBulk d + 1
  | .slice elems spare => uptoBulkAll elems + uptoBulkAll spare + 1
  | .agg parts => uptoBulkAll parts + 1
  | .iface _ d => uptoBulk d + 1
  | .map entries => uptoBulkEntries entries + 1
  | .held _ => 1
def uptoBulkAll {H : Type} : List (DataW H) → Nat
  | [] => 0
  | d :: r => uptoBulk d + uptoBulkAll r
def uptoBulkEntries {H : Type} : List (Lit × DataW H) → Nat
  | [] => 0
  | x :: r => uptoBulkEntry x + uptoBulkEntries r
def uptoBulkEntry {H : Type} : Lit × DataW H → Nat
  | (.string bytes, d) => bytes.length + uptoBulk d + 1
  | (_, d) => uptoBulk d + 1
 end
def uptoSmall : (H : Type) → List (DataW H) → Bool := fun _ ds => decide (uptoBulkAll ds ≤ 1048576)
def OpenSpec.upto (s : _root_.Go.ChangeSpec) : _root_.Go.OpenSpec := { _root_.Go.OpenSpec.ofChange s with cond := some uptoSmall }

/-- 'groupagelaw17.LabelTells', WHERE WHAT IT READS IS OF BULK AT MOST 1048576: true; the input reads as it did. -/
def labelTellsUptoRow : OpenClaim := { program := "ytmpakfpmmkfgpaa", sum := "ca05b54f69cb88f058ab7ee89988efa4c969df3a73309ae3fbfed3d09ca883c2", func := "groupage/groupagelaw17.LabelTells", spec := "labelTells", unfollowed := true, recurses := true, apart := false, narrowed := true }
def LabelTellsUptoSaid : Prop := labelTellsUptoRow.holds Try.pinned (OpenSpec.upto labelTellsSpec)

/-- 'groupagelaw17.LabelApart', WHERE WHAT IT READS IS OF BULK AT MOST 1048576: true; the input reads as it did. -/
def labelApartUptoRow : OpenClaim := { program := "ytmpakfpmmkfgpaa", sum := "ca05b54f69cb88f058ab7ee89988efa4c969df3a73309ae3fbfed3d09ca883c2", func := "groupage/groupagelaw17.LabelApart", spec := "labelApart", unfollowed := true, recurses := true, apart := false, narrowed := true }
def LabelApartUptoSaid : Prop := labelApartUptoRow.holds Try.pinned (OpenSpec.upto labelApartSpec)

/-- 'groupagelaw17.LabelTrucks', WHERE WHAT IT READS IS OF BULK AT MOST 1048576: true; the input reads as it did. -/
def labelTrucksUptoRow : OpenClaim := { program := "ytmpakfpmmkfgpaa", sum := "ca05b54f69cb88f058ab7ee89988efa4c969df3a73309ae3fbfed3d09ca883c2", func := "groupage/groupagelaw17.LabelTrucks", spec := "labelTrucks", unfollowed := true, recurses := true, apart := false, narrowed := true }
def LabelTrucksUptoSaid : Prop := labelTrucksUptoRow.holds Try.pinned (OpenSpec.upto labelTrucksSpec)

/-- 'groupagelaw17.LabelRows', WHERE WHAT IT READS IS OF BULK AT MOST 1048576: true; the input reads as it did. -/
def labelRowsUptoRow : OpenClaim := { program := "ytmpakfpmmkfgpaa", sum := "ca05b54f69cb88f058ab7ee89988efa4c969df3a73309ae3fbfed3d09ca883c2", func := "groupage/groupagelaw17.LabelRows", spec := "labelRows", unfollowed := true, recurses := true, apart := false, narrowed := true }
def LabelRowsUptoSaid : Prop := labelRowsUptoRow.holds Try.pinned (OpenSpec.upto labelRowsSpec)

end Rows
end Go.Proofs.Ytmpakfpmmkfgpaa
