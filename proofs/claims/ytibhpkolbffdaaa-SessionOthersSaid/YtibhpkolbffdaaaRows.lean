/-
  No cell of these rows narrows 'for every input' (looked for: loops, veiled, ifaces, maps, wideKeys, modest, calm, conditions, laid).
  DERIVED. THE GIVEN ROWS OF THIS SEAT. 7 by the template 'for every input the law returns true; each argument reads behind the call as it read before'; 0 by the template 'total and deterministic' (their statements: YtibhpkolbffdaaaTotals.lean).
  GIVEN WITH THE SEED: the statements are not yours to turn. If you find one false, say at which input.
  Laid BY PROGRAM, IN A SANDBOX (cutbox-rows.mjs): the forced cells as the released guide's own fill.sh prints them over the translation 4549295e85e10837… (all of the seat's roots in one cut). By AI agents, Wed Nov 11 2026. No macro, syntax, notation, axiom, sorry.
-/
import Derived.Test.YtibhpkolbffdaaaChecked
import GoSem.Claim
import GoSem.ClaimJoined
import GoSem.ClaimMapViews
import Derived.JoinedTies
import Derived.KernelRfl
namespace Go.Proofs.Ytibhpkolbffdaaa
/- THE CELL 'sum', in the pinned program and in every row, IS THE sha256 OF THE DUMP (.gsa) THAT YtibhpkolbffdaaaProg.lean LOADS. Nothing in Lean hashes anything: it is a label: what it is worth is what the hold of that sum in a sandbox is worth. -/
noncomputable def Try.pinned : Pinned := { name := "ytibhpkolbffdaaa", sum := "4549295e85e108374ebfa9ccf556db64e32eaec024cadd81bcb64c0b9ec583d7", checked := Try.checked }
namespace Rows
def none {H : Type} : Left H := { results := [], args := [] }

/-- 'groupagelaw04.DiskDoes': WHATEVER THE INPUT: true; the input reads as it did. -/
def diskDoesSpec : ChangeSpec := { name := "diskDoes", fn := fun _ => fun
  | [d1, d2] => { results := [.lit (.bool true)], args := [d1, d2] }
  | _ => none }
def diskDoesRow : OpenClaim := { program := "ytibhpkolbffdaaa", sum := "4549295e85e108374ebfa9ccf556db64e32eaec024cadd81bcb64c0b9ec583d7", func := "groupage/groupagelaw04.DiskDoes", spec := "diskDoes", apart := false }
def DiskDoesSaid : Prop := diskDoesRow.holds Try.pinned (OpenSpec.ofChange diskDoesSpec)

/-- ITS FALSE NEIGHBOUR: 'it returns false'. Refute it at one input. -/
def diskDoesWrong : ChangeSpec := { name := "diskDoes", fn := fun _ => fun
  | [d1, d2] => { results := [.lit (.bool false)], args := [d1, d2] }
  | _ => none }
def DiskDoesWrongFalsely : Prop := diskDoesRow.holds Try.pinned (OpenSpec.ofChange diskDoesWrong)

/-- 'groupagelaw04.DiskLast': WHATEVER THE INPUT: true; the input reads as it did. -/
def diskLastSpec : ChangeSpec := { name := "diskLast", fn := fun _ => fun
  | [d1, d2, d3] => { results := [.lit (.bool true)], args := [d1, d2, d3] }
  | _ => none }
def diskLastRow : OpenClaim := { program := "ytibhpkolbffdaaa", sum := "4549295e85e108374ebfa9ccf556db64e32eaec024cadd81bcb64c0b9ec583d7", func := "groupage/groupagelaw04.DiskLast", spec := "diskLast", apart := false }
def DiskLastSaid : Prop := diskLastRow.holds Try.pinned (OpenSpec.ofChange diskLastSpec)

/-- ITS FALSE NEIGHBOUR: 'it returns false'. Refute it at one input. -/
def diskLastWrong : ChangeSpec := { name := "diskLast", fn := fun _ => fun
  | [d1, d2, d3] => { results := [.lit (.bool false)], args := [d1, d2, d3] }
  | _ => none }
def DiskLastWrongFalsely : Prop := diskLastRow.holds Try.pinned (OpenSpec.ofChange diskLastWrong)

/-- 'groupagelaw04.DiskDown': WHATEVER THE INPUT: true; the input reads as it did. -/
def diskDownSpec : ChangeSpec := { name := "diskDown", fn := fun _ => fun
  | [d1, d2, d3] => { results := [.lit (.bool true)], args := [d1, d2, d3] }
  | _ => none }
def diskDownRow : OpenClaim := { program := "ytibhpkolbffdaaa", sum := "4549295e85e108374ebfa9ccf556db64e32eaec024cadd81bcb64c0b9ec583d7", func := "groupage/groupagelaw04.DiskDown", spec := "diskDown", apart := false }
def DiskDownSaid : Prop := diskDownRow.holds Try.pinned (OpenSpec.ofChange diskDownSpec)

/-- ITS FALSE NEIGHBOUR: 'it returns false'. Refute it at one input. -/
def diskDownWrong : ChangeSpec := { name := "diskDown", fn := fun _ => fun
  | [d1, d2, d3] => { results := [.lit (.bool false)], args := [d1, d2, d3] }
  | _ => none }
def DiskDownWrongFalsely : Prop := diskDownRow.holds Try.pinned (OpenSpec.ofChange diskDownWrong)

/-- 'groupagelaw18.SessionDoes': WHATEVER THE INPUT: true; the input reads as it did. -/
def sessionDoesSpec : ChangeSpec := { name := "sessionDoes", fn := fun _ => fun
  | [d1, d2, d3] => { results := [.lit (.bool true)], args := [d1, d2, d3] }
  | _ => none }
def sessionDoesRow : OpenClaim := { program := "ytibhpkolbffdaaa", sum := "4549295e85e108374ebfa9ccf556db64e32eaec024cadd81bcb64c0b9ec583d7", func := "groupage/groupagelaw18.SessionDoes", spec := "sessionDoes", apart := false }
def SessionDoesSaid : Prop := sessionDoesRow.holds Try.pinned (OpenSpec.ofChange sessionDoesSpec)

/-- ITS FALSE NEIGHBOUR: 'it returns false'. Refute it at one input. -/
def sessionDoesWrong : ChangeSpec := { name := "sessionDoes", fn := fun _ => fun
  | [d1, d2, d3] => { results := [.lit (.bool false)], args := [d1, d2, d3] }
  | _ => none }
def SessionDoesWrongFalsely : Prop := sessionDoesRow.holds Try.pinned (OpenSpec.ofChange sessionDoesWrong)

/-- 'groupagelaw18.SessionQuota': WHATEVER THE INPUT: true; the input reads as it did. -/
def sessionQuotaSpec : ChangeSpec := { name := "sessionQuota", fn := fun _ => fun
  | [d1, d2, d3] => { results := [.lit (.bool true)], args := [d1, d2, d3] }
  | _ => none }
def sessionQuotaRow : OpenClaim := { program := "ytibhpkolbffdaaa", sum := "4549295e85e108374ebfa9ccf556db64e32eaec024cadd81bcb64c0b9ec583d7", func := "groupage/groupagelaw18.SessionQuota", spec := "sessionQuota", apart := false }
def SessionQuotaSaid : Prop := sessionQuotaRow.holds Try.pinned (OpenSpec.ofChange sessionQuotaSpec)

/-- ITS FALSE NEIGHBOUR: 'it returns false'. Refute it at one input. -/
def sessionQuotaWrong : ChangeSpec := { name := "sessionQuota", fn := fun _ => fun
  | [d1, d2, d3] => { results := [.lit (.bool false)], args := [d1, d2, d3] }
  | _ => none }
def SessionQuotaWrongFalsely : Prop := sessionQuotaRow.holds Try.pinned (OpenSpec.ofChange sessionQuotaWrong)

/-- 'groupagelaw18.SessionTells': WHATEVER THE INPUT: true; the input reads as it did. -/
def sessionTellsSpec : ChangeSpec := { name := "sessionTells", fn := fun _ => fun
  | [d1, d2, d3] => { results := [.lit (.bool true)], args := [d1, d2, d3] }
  | _ => none }
def sessionTellsRow : OpenClaim := { program := "ytibhpkolbffdaaa", sum := "4549295e85e108374ebfa9ccf556db64e32eaec024cadd81bcb64c0b9ec583d7", func := "groupage/groupagelaw18.SessionTells", spec := "sessionTells", apart := false }
def SessionTellsSaid : Prop := sessionTellsRow.holds Try.pinned (OpenSpec.ofChange sessionTellsSpec)

/-- ITS FALSE NEIGHBOUR: 'it returns false'. Refute it at one input. -/
def sessionTellsWrong : ChangeSpec := { name := "sessionTells", fn := fun _ => fun
  | [d1, d2, d3] => { results := [.lit (.bool false)], args := [d1, d2, d3] }
  | _ => none }
def SessionTellsWrongFalsely : Prop := sessionTellsRow.holds Try.pinned (OpenSpec.ofChange sessionTellsWrong)

/-- 'groupagelaw18.SessionOthers': WHATEVER THE INPUT: true; the input reads as it did. -/
def sessionOthersSpec : ChangeSpec := { name := "sessionOthers", fn := fun _ => fun
  | [d1, d2, d3, d4, d5] => { results := [.lit (.bool true)], args := [d1, d2, d3, d4, d5] }
  | _ => none }
def sessionOthersRow : OpenClaim := { program := "ytibhpkolbffdaaa", sum := "4549295e85e108374ebfa9ccf556db64e32eaec024cadd81bcb64c0b9ec583d7", func := "groupage/groupagelaw18.SessionOthers", spec := "sessionOthers", unfollowed := true, recurses := true, apart := false }
def SessionOthersSaid : Prop := sessionOthersRow.holds Try.pinned (OpenSpec.ofChange sessionOthersSpec)

/-- ITS FALSE NEIGHBOUR: 'it returns false'. Refute it at one input. -/
def sessionOthersWrong : ChangeSpec := { name := "sessionOthers", fn := fun _ => fun
  | [d1, d2, d3, d4, d5] => { results := [.lit (.bool false)], args := [d1, d2, d3, d4, d5] }
  | _ => none }
def SessionOthersWrongFalsely : Prop := sessionOthersRow.holds Try.pinned (OpenSpec.ofChange sessionOthersWrong)

/- THE SECOND FORM. 'bulk': how many values and letters a reading holds, each counted each time it is reached (what is shared counts as often as it is met; a slice's spare places count too). A statement '..UptoSaid' is the law's where the arguments, and the package variables that the reading takes, are together of bulk at most 1048576: NARROWER than '..Said'. Prove '..Said' where nothing that the law and all that it calls make is longer than what came in: it says more and counts as full. Else prove '..UptoSaid'. A law counts once. -/
mutual
def uptoBulk {H : Type} : DataW H → Nat
  | .lit (.string bytes) => bytes.length + 1
  | .lit _ => 1
  | .nil => 1
  | .ptr d => uptoBulk d + 1
  | .slice elems spare => uptoBulkAll elems + uptoBulkAll spare + 1
  | .agg parts => uptoBulkAll parts + 1
  | .iface _ d => uptoBulk d + 1
  | .map entries => uptoBulkEntries entries + 1
  | .held _ => 1
def uptoBulkAll {H : Type} : List (DataW H) → Nat
  | [] => 0
  | d :: r => uptoBulk d + uptoBulkAll r
def uptoBulkEntries {H : Type} : List (Lit × DataW H) → Nat
  | [] => 0
  | x :: r => uptoBulkEntry x + uptoBulkEntries r
def uptoBulkEntry {H : Type} : Lit × DataW H → Nat
  | (.string bytes, d) => bytes.length + uptoBulk d + 1
  | (_, d) => uptoBulk d + 1
 end
def uptoSmall : (H : Type) → List (DataW H) → Bool := fun _ ds => decide (uptoBulkAll ds ≤ 1048576)
def OpenSpec.upto (s : _root_.Go.ChangeSpec) : _root_.Go.OpenSpec := { _root_.Go.OpenSpec.ofChange s with cond := some uptoSmall }

/-- 'groupagelaw04.DiskDoes', WHERE WHAT IT READS IS OF BULK AT MOST 1048576: true; the input reads as it did. -/
def diskDoesUptoRow : OpenClaim := { program := "ytibhpkolbffdaaa", sum := "4549295e85e108374ebfa9ccf556db64e32eaec024cadd81bcb64c0b9ec583d7", func := "groupage/groupagelaw04.DiskDoes", spec := "diskDoes", apart := false, narrowed := true }
def DiskDoesUptoSaid : Prop := diskDoesUptoRow.holds Try.pinned (OpenSpec.upto diskDoesSpec)

/-- 'groupagelaw04.DiskLast', WHERE WHAT IT READS IS OF BULK AT MOST 1048576: true; the input reads as it did. -/
def diskLastUptoRow : OpenClaim := { program := "ytibhpkolbffdaaa", sum := "4549295e85e108374ebfa9ccf556db64e32eaec024cadd81bcb64c0b9ec583d7", func := "groupage/groupagelaw04.DiskLast", spec := "diskLast", apart := false, narrowed := true }
def DiskLastUptoSaid : Prop := diskLastUptoRow.holds Try.pinned (OpenSpec.upto diskLastSpec)

/-- 'groupagelaw04.DiskDown', WHERE WHAT IT READS IS OF BULK AT MOST 1048576: true; the input reads as it did. -/
def diskDownUptoRow : OpenClaim := { program := "ytibhpkolbffdaaa", sum := "4549295e85e108374ebfa9ccf556db64e32eaec024cadd81bcb64c0b9ec583d7", func := "groupage/groupagelaw04.DiskDown", spec := "diskDown", apart := false, narrowed := true }
def DiskDownUptoSaid : Prop := diskDownUptoRow.holds Try.pinned (OpenSpec.upto diskDownSpec)

/-- 'groupagelaw18.SessionDoes', WHERE WHAT IT READS IS OF BULK AT MOST 1048576: true; the input reads as it did. -/
def sessionDoesUptoRow : OpenClaim := { program := "ytibhpkolbffdaaa", sum := "4549295e85e108374ebfa9ccf556db64e32eaec024cadd81bcb64c0b9ec583d7", func := "groupage/groupagelaw18.SessionDoes", spec := "sessionDoes", apart := false, narrowed := true }
def SessionDoesUptoSaid : Prop := sessionDoesUptoRow.holds Try.pinned (OpenSpec.upto sessionDoesSpec)

/-- 'groupagelaw18.SessionQuota', WHERE WHAT IT READS IS OF BULK AT MOST 1048576: true; the input reads as it did. -/
def sessionQuotaUptoRow : OpenClaim := { program := "ytibhpkolbffdaaa", sum := "4549295e85e108374ebfa9ccf556db64e32eaec024cadd81bcb64c0b9ec583d7", func := "groupage/groupagelaw18.SessionQuota", spec := "sessionQuota", apart := false, narrowed := true }
def SessionQuotaUptoSaid : Prop := sessionQuotaUptoRow.holds Try.pinned (OpenSpec.upto sessionQuotaSpec)

/-- 'groupagelaw18.SessionTells', WHERE WHAT IT READS IS OF BULK AT MOST 1048576: true; the input reads as it did. -/
def sessionTellsUptoRow : OpenClaim := { program := "ytibhpkolbffdaaa", sum := "4549295e85e108374ebfa9ccf556db64e32eaec024cadd81bcb64c0b9ec583d7", func := "groupage/groupagelaw18.SessionTells", spec := "sessionTells", apart := false, narrowed := true }
def SessionTellsUptoSaid : Prop := sessionTellsUptoRow.holds Try.pinned (OpenSpec.upto sessionTellsSpec)

/-- 'groupagelaw18.SessionOthers', WHERE WHAT IT READS IS OF BULK AT MOST 1048576: true; the input reads as it did. -/
def sessionOthersUptoRow : OpenClaim := { program := "ytibhpkolbffdaaa", sum := "4549295e85e108374ebfa9ccf556db64e32eaec024cadd81bcb64c0b9ec583d7", func := "groupage/groupagelaw18.SessionOthers", spec := "sessionOthers", unfollowed := true, recurses := true, apart := false, narrowed := true }
def SessionOthersUptoSaid : Prop := sessionOthersUptoRow.holds Try.pinned (OpenSpec.upto sessionOthersSpec)

end Rows
end Go.Proofs.Ytibhpkolbffdaaa
