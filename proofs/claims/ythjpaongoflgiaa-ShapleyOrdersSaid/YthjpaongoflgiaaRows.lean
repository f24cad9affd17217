/-
  No cell of these rows narrows 'for every input' (looked for: loops, veiled, ifaces, maps, wideKeys, modest, calm, conditions, laid).
  DERIVED. THE GIVEN ROWS OF THIS SEAT. 8 by the template 'for every input the law returns true; each argument reads behind the call as it read before'; 0 by the template 'total and deterministic' (their statements: YthjpaongoflgiaaTotals.lean).
  GIVEN WITH THE SEED: the statements are not yours to turn. If you find one false, say at which input.
  Laid BY PROGRAM, IN A SANDBOX (cutbox-rows.mjs): the forced cells as the released guide's own fill.sh prints them over the translation f9168a900eed7aa3… (all of the seat's roots in one cut). By AI agents, Wed Nov 11 2026. No macro, syntax, notation, axiom, sorry.
-/
import Derived.Test.YthjpaongoflgiaaChecked
import GoSem.Claim
import GoSem.ClaimJoined
import GoSem.ClaimMapViews
import Derived.JoinedTies
import Derived.KernelRfl
namespace Go.Proofs.Ythjpaongoflgiaa
/- THE CELL 'sum', in the pinned program and in every row, IS THE sha256 OF THE DUMP (.gsa) THAT YthjpaongoflgiaaProg.lean LOADS. Nothing in Lean hashes anything: it is a label: what it is worth is what the hold of that sum in a sandbox is worth. -/
noncomputable def Try.pinned : Pinned := { name := "ythjpaongoflgiaa", sum := "f9168a900eed7aa36ee8909dccf0b40f401b3da4c2eb4dd00eb23b680c4d9d6e", checked := Try.checked }
namespace Rows
def none {H : Type} : Left H := { results := [], args := [] }

/-- 'groupagelaw15.QuotaTells': WHATEVER THE INPUT: true; the input reads as it did. -/
def quotaTellsSpec : ChangeSpec := { name := "quotaTells", fn := fun _ => fun
  | [d1, d2, d3, d4] => { results := [.lit (.bool true)], args := [d1, d2, d3, d4] }
  | _ => none }
def quotaTellsRow : OpenClaim := { program := "ythjpaongoflgiaa", sum := "f9168a900eed7aa36ee8909dccf0b40f401b3da4c2eb4dd00eb23b680c4d9d6e", func := "groupage/groupagelaw15.QuotaTells", spec := "quotaTells", unfollowed := true, recurses := true, apart := false }
def QuotaTellsSaid : Prop := quotaTellsRow.holds Try.pinned (OpenSpec.ofChange quotaTellsSpec)

/-- ITS FALSE NEIGHBOUR: 'it returns false'. Refute it at one input. -/
def quotaTellsWrong : ChangeSpec := { name := "quotaTells", fn := fun _ => fun
  | [d1, d2, d3, d4] => { results := [.lit (.bool false)], args := [d1, d2, d3, d4] }
  | _ => none }
def QuotaTellsWrongFalsely : Prop := quotaTellsRow.holds Try.pinned (OpenSpec.ofChange quotaTellsWrong)

/-- 'groupagelaw15.QuotaWhole': WHATEVER THE INPUT: true; the input reads as it did. -/
def quotaWholeSpec : ChangeSpec := { name := "quotaWhole", fn := fun _ => fun
  | [d1, d2] => { results := [.lit (.bool true)], args := [d1, d2] }
  | _ => none }
def quotaWholeRow : OpenClaim := { program := "ythjpaongoflgiaa", sum := "f9168a900eed7aa36ee8909dccf0b40f401b3da4c2eb4dd00eb23b680c4d9d6e", func := "groupage/groupagelaw15.QuotaWhole", spec := "quotaWhole", unfollowed := true, recurses := true, apart := false }
def QuotaWholeSaid : Prop := quotaWholeRow.holds Try.pinned (OpenSpec.ofChange quotaWholeSpec)

/-- ITS FALSE NEIGHBOUR: 'it returns false'. Refute it at one input. -/
def quotaWholeWrong : ChangeSpec := { name := "quotaWhole", fn := fun _ => fun
  | [d1, d2] => { results := [.lit (.bool false)], args := [d1, d2] }
  | _ => none }
def QuotaWholeWrongFalsely : Prop := quotaWholeRow.holds Try.pinned (OpenSpec.ofChange quotaWholeWrong)

/-- 'groupagelaw15.QuotaShares': WHATEVER THE INPUT: true; the input reads as it did. -/
def quotaSharesSpec : ChangeSpec := { name := "quotaShares", fn := fun _ => fun
  | [d1, d2, d3] => { results := [.lit (.bool true)], args := [d1, d2, d3] }
  | _ => none }
def quotaSharesRow : OpenClaim := { program := "ythjpaongoflgiaa", sum := "f9168a900eed7aa36ee8909dccf0b40f401b3da4c2eb4dd00eb23b680c4d9d6e", func := "groupage/groupagelaw15.QuotaShares", spec := "quotaShares", unfollowed := true, recurses := true, apart := false }
def QuotaSharesSaid : Prop := quotaSharesRow.holds Try.pinned (OpenSpec.ofChange quotaSharesSpec)

/-- ITS FALSE NEIGHBOUR: 'it returns false'. Refute it at one input. -/
def quotaSharesWrong : ChangeSpec := { name := "quotaShares", fn := fun _ => fun
  | [d1, d2, d3] => { results := [.lit (.bool false)], args := [d1, d2, d3] }
  | _ => none }
def QuotaSharesWrongFalsely : Prop := quotaSharesRow.holds Try.pinned (OpenSpec.ofChange quotaSharesWrong)

/-- 'groupagelaw14.ShapleyTells': WHATEVER THE INPUT: true; the input reads as it did. -/
def shapleyTellsSpec : ChangeSpec := { name := "shapleyTells", fn := fun _ => fun
  | [d1, d2, d3, d4] => { results := [.lit (.bool true)], args := [d1, d2, d3, d4] }
  | _ => none }
def shapleyTellsRow : OpenClaim := { program := "ythjpaongoflgiaa", sum := "f9168a900eed7aa36ee8909dccf0b40f401b3da4c2eb4dd00eb23b680c4d9d6e", func := "groupage/groupagelaw14.ShapleyTells", spec := "shapleyTells", unfollowed := true, recurses := true, apart := false }
def ShapleyTellsSaid : Prop := shapleyTellsRow.holds Try.pinned (OpenSpec.ofChange shapleyTellsSpec)

/-- ITS FALSE NEIGHBOUR: 'it returns false'. Refute it at one input. -/
def shapleyTellsWrong : ChangeSpec := { name := "shapleyTells", fn := fun _ => fun
  | [d1, d2, d3, d4] => { results := [.lit (.bool false)], args := [d1, d2, d3, d4] }
  | _ => none }
def ShapleyTellsWrongFalsely : Prop := shapleyTellsRow.holds Try.pinned (OpenSpec.ofChange shapleyTellsWrong)

/-- 'groupagelaw14.ShapleyWhole': WHATEVER THE INPUT: true; the input reads as it did. -/
def shapleyWholeSpec : ChangeSpec := { name := "shapleyWhole", fn := fun _ => fun
  | [d1, d2, d3] => { results := [.lit (.bool true)], args := [d1, d2, d3] }
  | _ => none }
def shapleyWholeRow : OpenClaim := { program := "ythjpaongoflgiaa", sum := "f9168a900eed7aa36ee8909dccf0b40f401b3da4c2eb4dd00eb23b680c4d9d6e", func := "groupage/groupagelaw14.ShapleyWhole", spec := "shapleyWhole", unfollowed := true, recurses := true, apart := false }
def ShapleyWholeSaid : Prop := shapleyWholeRow.holds Try.pinned (OpenSpec.ofChange shapleyWholeSpec)

/-- ITS FALSE NEIGHBOUR: 'it returns false'. Refute it at one input. -/
def shapleyWholeWrong : ChangeSpec := { name := "shapleyWhole", fn := fun _ => fun
  | [d1, d2, d3] => { results := [.lit (.bool false)], args := [d1, d2, d3] }
  | _ => none }
def ShapleyWholeWrongFalsely : Prop := shapleyWholeRow.holds Try.pinned (OpenSpec.ofChange shapleyWholeWrong)

/-- 'groupagelaw14.ShapleyAlike': WHATEVER THE INPUT: true; the input reads as it did. -/
def shapleyAlikeSpec : ChangeSpec := { name := "shapleyAlike", fn := fun _ => fun
  | [d1, d2] => { results := [.lit (.bool true)], args := [d1, d2] }
  | _ => none }
def shapleyAlikeRow : OpenClaim := { program := "ythjpaongoflgiaa", sum := "f9168a900eed7aa36ee8909dccf0b40f401b3da4c2eb4dd00eb23b680c4d9d6e", func := "groupage/groupagelaw14.ShapleyAlike", spec := "shapleyAlike", unfollowed := true, recurses := true, apart := false }
def ShapleyAlikeSaid : Prop := shapleyAlikeRow.holds Try.pinned (OpenSpec.ofChange shapleyAlikeSpec)

/-- ITS FALSE NEIGHBOUR: 'it returns false'. Refute it at one input. -/
def shapleyAlikeWrong : ChangeSpec := { name := "shapleyAlike", fn := fun _ => fun
  | [d1, d2] => { results := [.lit (.bool false)], args := [d1, d2] }
  | _ => none }
def ShapleyAlikeWrongFalsely : Prop := shapleyAlikeRow.holds Try.pinned (OpenSpec.ofChange shapleyAlikeWrong)

/-- 'groupagelaw14.ShapleySums': WHATEVER THE INPUT: true; the input reads as it did. -/
def shapleySumsSpec : ChangeSpec := { name := "shapleySums", fn := fun _ => fun
  | [d1, d2, d3] => { results := [.lit (.bool true)], args := [d1, d2, d3] }
  | _ => none }
def shapleySumsRow : OpenClaim := { program := "ythjpaongoflgiaa", sum := "f9168a900eed7aa36ee8909dccf0b40f401b3da4c2eb4dd00eb23b680c4d9d6e", func := "groupage/groupagelaw14.ShapleySums", spec := "shapleySums", unfollowed := true, recurses := true, apart := false }
def ShapleySumsSaid : Prop := shapleySumsRow.holds Try.pinned (OpenSpec.ofChange shapleySumsSpec)

/-- ITS FALSE NEIGHBOUR: 'it returns false'. Refute it at one input. -/
def shapleySumsWrong : ChangeSpec := { name := "shapleySums", fn := fun _ => fun
  | [d1, d2, d3] => { results := [.lit (.bool false)], args := [d1, d2, d3] }
  | _ => none }
def ShapleySumsWrongFalsely : Prop := shapleySumsRow.holds Try.pinned (OpenSpec.ofChange shapleySumsWrong)

/-- 'groupagelaw14.ShapleyOrders': WHATEVER THE INPUT: true; the input reads as it did. -/
def shapleyOrdersSpec : ChangeSpec := { name := "shapleyOrders", fn := fun _ => fun
  | [d1, d2] => { results := [.lit (.bool true)], args := [d1, d2] }
  | _ => none }
def shapleyOrdersRow : OpenClaim := { program := "ythjpaongoflgiaa", sum := "f9168a900eed7aa36ee8909dccf0b40f401b3da4c2eb4dd00eb23b680c4d9d6e", func := "groupage/groupagelaw14.ShapleyOrders", spec := "shapleyOrders", unfollowed := true, recurses := true, apart := false }
def ShapleyOrdersSaid : Prop := shapleyOrdersRow.holds Try.pinned (OpenSpec.ofChange shapleyOrdersSpec)

/-- ITS FALSE NEIGHBOUR: 'it returns false'. Refute it at one input. -/
def shapleyOrdersWrong : ChangeSpec := { name := "shapleyOrders", fn := fun _ => fun
  | [d1, d2] => { results := [.lit (.bool false)], args := [d1, d2] }
  | _ => none }
def ShapleyOrdersWrongFalsely : Prop := shapleyOrdersRow.holds Try.pinned (OpenSpec.ofChange shapleyOrdersWrong)

/- THE SECOND FORM. 'bulk': how many values and letters a reading holds, each counted each time it is reached (what is shared counts as often as it is met; a slice's spare places count too). A statement '..UptoSaid' is the law's where the arguments, and the package variables that the reading takes, are together of bulk at most 1048576: NARROWER than '..Said'. Prove '..Said' where nothing that the law and all that it calls make is longer than what came in: it says more and counts as full. Else prove '..UptoSaid'. A law counts once. -/
mutual
def uptoBulk {H : Type} : DataW H → Nat
  | .lit (.string bytes) => bytes.length + 1
  | .lit _ => 1
  | .nil => 1
  | .ptr d => uptoBulk d + 1
  | .slice elems spare => uptoBulkAll elems + uptoBulkAll spare + 1
  | .agg parts => uptoBulkAll parts + 1
  | .iface _ d => uptoBulk d + 1
  | .map entries => uptoBulkEntries entries + 1
  | .held _ => 1
def uptoBulkAll {H : Type} : List (DataW H) → Nat
  | [] => 0
  | d :: r => uptoBulk d + uptoBulkAll r
def uptoBulkEntries {H : Type} : List (Lit × DataW H) → Nat
  | [] => 0
  | x :: r => uptoBulkEntry x + uptoBulkEntries r
def uptoBulkEntry {H : Type} : Lit × DataW H → Nat
  | (.string bytes, d) => bytes.length + uptoBulk d + 1
  | (_, d) => uptoBulk d + 1
 end
def uptoSmall : (H : Type) → List (DataW H) → Bool := fun _ ds => decide (uptoBulkAll ds ≤ 1048576)
def OpenSpec.upto (s : _root_.Go.ChangeSpec) : _root_.Go.OpenSpec := { _root_.Go.OpenSpec.ofChange s with cond := some uptoSmall }

/-- 'groupagelaw15.QuotaTells', WHERE WHAT IT READS IS OF BULK AT MOST 1048576: true; the input reads as it did. -/
def quotaTellsUptoRow : OpenClaim := { program := "ythjpaongoflgiaa", sum := "f9168a900eed7aa36ee8909dccf0b40f401b3da4c2eb4dd00eb23b680c4d9d6e", func := "groupage/groupagelaw15.QuotaTells", spec := "quotaTells", unfollowed := true, recurses := true, apart := false, narrowed := true }
def QuotaTellsUptoSaid : Prop := quotaTellsUptoRow.holds Try.pinned (OpenSpec.upto quotaTellsSpec)

/-- 'groupagelaw15.QuotaWhole', WHERE WHAT IT READS IS OF BULK AT MOST 1048576: true; the input reads as it did. -/
def quotaWholeUptoRow : OpenClaim := { program := "ythjpaongoflgiaa", sum := "f9168a900eed7aa36ee8909dccf0b40f401b3da4c2eb4dd00eb23b680c4d9d6e", func := "groupage/groupagelaw15.QuotaWhole", spec := "quotaWhole", unfollowed := true, recurses := true, apart := false, narrowed := true }
def QuotaWholeUptoSaid : Prop := quotaWholeUptoRow.holds Try.pinned (OpenSpec.upto quotaWholeSpec)

/-- 'groupagelaw15.QuotaShares', WHERE WHAT IT READS IS OF BULK AT MOST 1048576: true; the input reads as it did. -/
def quotaSharesUptoRow : OpenClaim := { program := "ythjpaongoflgiaa", sum := "f9168a900eed7aa36ee8909dccf0b40f401b3da4c2eb4dd00eb23b680c4d9d6e", func := "groupage/groupagelaw15.QuotaShares", spec := "quotaShares", unfollowed := true, recurses := true, apart := false, narrowed := true }
def QuotaSharesUptoSaid : Prop := quotaSharesUptoRow.holds Try.pinned (OpenSpec.upto quotaSharesSpec)

/-- 'groupagelaw14.ShapleyTells', WHERE WHAT IT READS IS OF BULK AT MOST 1048576: true; the input reads as it did. -/
def shapleyTellsUptoRow : OpenClaim := { program := "ythjpaongoflgiaa", sum := "f9168a900eed7aa36ee8909dccf0b40f401b3da4c2eb4dd00eb23b680c4d9d6e", func := "groupage/groupagelaw14.ShapleyTells", spec := "shapleyTells", unfollowed := true, recurses := true, apart := false, narrowed := true }
def ShapleyTellsUptoSaid : Prop := shapleyTellsUptoRow.holds Try.pinned (OpenSpec.upto shapleyTellsSpec)

/-- 'groupagelaw14.ShapleyWhole', WHERE WHAT IT READS IS OF BULK AT MOST 1048576: true; the input reads as it did. -/
def shapleyWholeUptoRow : OpenClaim := { program := "ythjpaongoflgiaa", sum := "f9168a900eed7aa36ee8909dccf0b40f401b3da4c2eb4dd00eb23b680c4d9d6e", func := "groupage/groupagelaw14.ShapleyWhole", spec := "shapleyWhole", unfollowed := true, recurses := true, apart := false, narrowed := true }
def ShapleyWholeUptoSaid : Prop := shapleyWholeUptoRow.holds Try.pinned (OpenSpec.upto shapleyWholeSpec)

/-- 'groupagelaw14.ShapleyAlike', WHERE WHAT IT READS IS OF BULK AT MOST 1048576: true; the input reads as it did. -/
def shapleyAlikeUptoRow : OpenClaim := { program := "ythjpaongoflgiaa", sum := "f9168a900eed7aa36ee8909dccf0b40f401b3da4c2eb4dd00eb23b680c4d9d6e", func := "groupage/groupagelaw14.ShapleyAlike", spec := "shapleyAlike", unfollowed := true, recurses := true, apart := false, narrowed := true }
def ShapleyAlikeUptoSaid : Prop := shapleyAlikeUptoRow.holds Try.pinned (OpenSpec.upto shapleyAlikeSpec)

/-- 'groupagelaw14.ShapleySums', WHERE WHAT IT READS IS OF BULK AT MOST 1048576: true; the input reads as it did. -/
def shapleySumsUptoRow : OpenClaim := { program := "ythjpaongoflgiaa", sum := "f9168a900eed7aa36ee8909dccf0b40f401b3da4c2eb4dd00eb23b680c4d9d6e", func := "groupage/groupagelaw14.ShapleySums", spec := "shapleySums", unfollowed := true, recurses := true, apart := false, narrowed := true }
def ShapleySumsUptoSaid : Prop := shapleySumsUptoRow.holds Try.pinned (OpenSpec.upto shapleySumsSpec)

/-- 'groupagelaw14.ShapleyOrders', WHERE WHAT IT READS IS OF BULK AT MOST 1048576: true; the input reads as it did. -/
def shapleyOrdersUptoRow : OpenClaim := { program := "ythjpaongoflgiaa", sum := "f9168a900eed7aa36ee8909dccf0b40f401b3da4c2eb4dd00eb23b680c4d9d6e", func := "groupage/groupagelaw14.ShapleyOrders", spec := "shapleyOrders", unfollowed := true, recurses := true, apart := false, narrowed := true }
def ShapleyOrdersUptoSaid : Prop := shapleyOrdersUptoRow.holds Try.pinned (OpenSpec.upto shapleyOrdersSpec)

end Rows
end Go.Proofs.Ythjpaongoflgiaa
