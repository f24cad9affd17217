/-
  No cell of these rows narrows 'for every input' (looked for: loops, veiled, ifaces, maps, wideKeys, modest, calm, conditions, laid).
  DERIVED. THE GIVEN ROWS OF THIS SEAT. 3 by the template 'for every input the law returns true; each argument reads behind the call as it read before'; 0 by the template 'total and deterministic' (their statements: YtifhbgppjblobaaTotals.lean).
  GIVEN WITH THE SEED: the statements are not yours to turn. If you find one false, say at which input.
  Laid BY PROGRAM, IN A SANDBOX (cutbox-rows.mjs): the forced cells as the released guide's own fill.sh prints them over the translation 89080a9d352ad7a2… (all of the seat's roots in one cut). By AI agents, Wed Nov 11 2026. No macro, syntax, notation, axiom, sorry.
-/
import Derived.Test.YtifhbgppjblobaaChecked
import GoSem.Claim
import GoSem.ClaimJoined
import GoSem.ClaimMapViews
import Derived.JoinedTies
import Derived.KernelRfl
namespace Go.Proofs.Ytifhbgppjblobaa
/- THE CELL 'sum', in the pinned program and in every row, IS THE sha256 OF THE DUMP (.gsa) THAT YtifhbgppjblobaaProg.lean LOADS. Nothing in Lean hashes anything: it is a label: what it is worth is what the hold of that sum in a sandbox is worth. -/
noncomputable def Try.pinned : Pinned := { name := "ytifhbgppjblobaa", sum := "89080a9d352ad7a2a1639e2476f772b4fd6b518d55af9b079ede98ea0c8bfa66", checked := Try.checked }
namespace Rows
def none {H : Type} : Left H := { results := [], args := [] }

/-- 'groupagelaw05.LogSure': WHATEVER THE INPUT: true; the input reads as it did. -/
def logSureSpec : ChangeSpec := { name := "logSure", fn := fun _ => fun
  | [d1, d2, d3] => { results := [.lit (.bool true)], args := [d1, d2, d3] }
  | _ => none }
def logSureRow : OpenClaim := { program := "ytifhbgppjblobaa", sum := "89080a9d352ad7a2a1639e2476f772b4fd6b518d55af9b079ede98ea0c8bfa66", func := "groupage/groupagelaw05.LogSure", spec := "logSure", unfollowed := true, recurses := true, apart := false }
def LogSureSaid : Prop := logSureRow.holds Try.pinned (OpenSpec.ofChange logSureSpec)

/-- ITS FALSE NEIGHBOUR: 'it returns false'. Refute it at one input. -/
def logSureWrong : ChangeSpec := { name := "logSure", fn := fun _ => fun
  | [d1, d2, d3] => { results := [.lit (.bool false)], args := [d1, d2, d3] }
  | _ => none }
def LogSureWrongFalsely : Prop := logSureRow.holds Try.pinned (OpenSpec.ofChange logSureWrong)

/-- 'groupagelaw05.LogGoes': WHATEVER THE INPUT: true; the input reads as it did. -/
def logGoesSpec : ChangeSpec := { name := "logGoes", fn := fun _ => fun
  | [d1, d2, d3] => { results := [.lit (.bool true)], args := [d1, d2, d3] }
  | _ => none }
def logGoesRow : OpenClaim := { program := "ytifhbgppjblobaa", sum := "89080a9d352ad7a2a1639e2476f772b4fd6b518d55af9b079ede98ea0c8bfa66", func := "groupage/groupagelaw05.LogGoes", spec := "logGoes", unfollowed := true, recurses := true, apart := false }
def LogGoesSaid : Prop := logGoesRow.holds Try.pinned (OpenSpec.ofChange logGoesSpec)

/-- ITS FALSE NEIGHBOUR: 'it returns false'. Refute it at one input. -/
def logGoesWrong : ChangeSpec := { name := "logGoes", fn := fun _ => fun
  | [d1, d2, d3] => { results := [.lit (.bool false)], args := [d1, d2, d3] }
  | _ => none }
def LogGoesWrongFalsely : Prop := logGoesRow.holds Try.pinned (OpenSpec.ofChange logGoesWrong)

/-- 'groupagelaw05.LogDoes': WHATEVER THE INPUT: true; the input reads as it did. -/
def logDoesSpec : ChangeSpec := { name := "logDoes", fn := fun _ => fun
  | [d1, d2] => { results := [.lit (.bool true)], args := [d1, d2] }
  | _ => none }
def logDoesRow : OpenClaim := { program := "ytifhbgppjblobaa", sum := "89080a9d352ad7a2a1639e2476f772b4fd6b518d55af9b079ede98ea0c8bfa66", func := "groupage/groupagelaw05.LogDoes", spec := "logDoes", unfollowed := true, recurses := true, apart := false }
def LogDoesSaid : Prop := logDoesRow.holds Try.pinned (OpenSpec.ofChange logDoesSpec)

/-- ITS FALSE NEIGHBOUR: 'it returns false'. Refute it at one input. -/
def logDoesWrong : ChangeSpec := { name := "logDoes", fn := fun _ => fun
  | [d1, d2] => { results := [.lit (.bool false)], args := [d1, d2] }
  | _ => none }
def LogDoesWrongFalsely : Prop := logDoesRow.holds Try.pinned (OpenSpec.ofChange logDoesWrong)

/- THE SECOND FORM. 'bulk': how many values and letters a reading holds, each counted each time it is reached (what is shared counts as often as it is met; a slice's spare places count too). A statement '..UptoSaid' is the law's where the arguments, and the package variables that the reading takes, are together of bulk at most 1048576: NARROWER than '..Said'. Prove '..Said' where nothing that the law and all that it calls make is longer than what came in: it says more and counts as full. Else prove '..UptoSaid'. A law counts once. -/
mutual
def uptoBulk {H : Type} : DataW H → Nat
  | .lit (.string bytes) => bytes.length + 1
  | .lit _ => 1
  | .nil => 1
  | .ptr d => uptoBulk d + 1
  | .slice elems spare => uptoBulkAll elems + uptoBulkAll spare + 1
  | .agg parts => uptoBulkAll parts + 1
  | .iface _ d => uptoBulk d + 1
  | .map entries => uptoBulkEntries entries + 1
  | .held _ => 1
def uptoBulkAll {H : Type} : List (DataW H) → Nat
  | [] => 0
  | d :: r => uptoBulk d + uptoBulkAll r
def uptoBulkEntries {H : Type} : List (Lit × DataW H) → Nat
  | [] => 0
  | x :: r => uptoBulkEntry x + uptoBulkEntries r
def uptoBulkEntry {H : Type} : Lit × DataW H → Nat
  | (.string bytes, d) => bytes.length + uptoBulk d + 1
  | (_, d) => uptoBulk d + 1
 end
def uptoSmall : (H : Type) → List (DataW H) → Bool := fun _ ds => decide (uptoBulkAll ds ≤ 1048576)
def OpenSpec.upto (s : _root_.Go.ChangeSpec) : _root_.Go.OpenSpec := { _root_.Go.OpenSpec.ofChange s with cond := some uptoSmall }

/-- 'groupagelaw05.LogSure', WHERE WHAT IT READS IS OF BULK AT MOST 1048576: true; the input reads as it did. -/
def logSureUptoRow : OpenClaim := { program := "ytifhbgppjblobaa", sum := "89080a9d352ad7a2a1639e2476f772b4fd6b518d55af9b079ede98ea0c8bfa66", func := "groupage/groupagelaw05.LogSure", spec := "logSure", unfollowed := true, recurses := true, apart := false, narrowed := true }
def LogSureUptoSaid : Prop := logSureUptoRow.holds Try.pinned (OpenSpec.upto logSureSpec)

/-- 'groupagelaw05.LogGoes', WHERE WHAT IT READS IS OF BULK AT MOST 1048576: true; the input reads as it did. -/
def logGoesUptoRow : OpenClaim := { program := "ytifhbgppjblobaa", sum := "89080a9d352ad7a2a1639e2476f772b4fd6b518d55af9b079ede98ea0c8bfa66", func := "groupage/groupagelaw05.LogGoes", spec := "logGoes", unfollowed := true, recurses := true, apart := false, narrowed := true }
def LogGoesUptoSaid : Prop := logGoesUptoRow.holds Try.pinned (OpenSpec.upto logGoesSpec)

/-- 'groupagelaw05.LogDoes', WHERE WHAT IT READS IS OF BULK AT MOST 1048576: true; the input reads as it did. -/
def logDoesUptoRow : OpenClaim := { program := "ytifhbgppjblobaa", sum := "89080a9d352ad7a2a1639e2476f772b4fd6b518d55af9b079ede98ea0c8bfa66", func := "groupage/groupagelaw05.LogDoes", spec := "logDoes", unfollowed := true, recurses := true, apart := false, narrowed := true }
def LogDoesUptoSaid : Prop := logDoesUptoRow.holds Try.pinned (OpenSpec.upto logDoesSpec)

end Rows
end Go.Proofs.Ytifhbgppjblobaa
