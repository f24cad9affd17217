/- QuotaTells holds, for every input: any fractions, rounded, and any total, shared by any weights, or why not, are as the document says. -/
import Derived.Test.YthjpaongoflgiaaRows
import Derived.Test.YthjpaongoflgiaaVXTop
import Derived.Test.YthjpaongoflgiaaLaw15b
namespace Go.Proofs.Ythjpaongoflgiaa
open Go Go.VX Go.RowKit Go.ChangeShapes
set_option linter.unusedVariables false
set_option linter.unusedSimpArgs false
set_option maxHeartbeats 1000000
set_option maxRecDepth 100000

theorem own : ownKnob Try.prog.godebug = none := by kernel_rfl
theorem laidOut : laidOutB Try.prog = true := by kernel_rfl
theorem quotaTells_spec_fn (H : Type) (ds : List (DataW H)) (h : ds.length = 4) : Rows.quotaTellsSpec.fn H ds = { results := [.lit (.bool true)], args := ds } := by
  match ds, h with
  | [d0, d1, d2, d3], _ => rfl
set_option maxRecDepth 100000 in
theorem quotaTells_lifted (os : Os) (started : os.Started) (H : Type) (enc : TypeId × Value → H) :
    ReturnsInHanded {} Try.checked os 3 .any (Rows.quotaTellsSpec.pre6 enc Try.prog Try.f3 Rows.quotaTellsRow.domain false) (Rows.quotaTellsSpec.post enc Try.prog Try.f3 false true false false) := by
  refine returnsInHanded_of_change_sized (C := Try.checked) own started (by kernel_rfl) Try.func3
    (ChangeSpec.witness6 (enc := enc) (C := Try.checked) false ⟨#[], #[.slice none 0 0, .int .i64 0, .int .i64 0, .slice none 0 0], []⟩ 8 (by kernel_rfl) (by kernel_rfl) (by kernel_rfl) (by kernel_rfl)) ?_
  intro W base args ds gs before hval hW hcnd hsz _
  refine law_calls (tys := [.slice (.int .i64), .int .i64, .int .i64, .slice (.int .i64)]) laidOut (by kernel_rfl) rfl Try.underlying4 rfl (fun H ds hd => quotaTells_spec_fn H ds hd) hval hW hsz fun xs hx hb => ?_
  obtain ⟨x1, r1, rfl, f1, hx⟩ := allFit_cons hx
  obtain ⟨x2, r2, rfl, f2, hx⟩ := allFit_cons hx
  obtain ⟨x3, r3, rfl, f3, hx⟩ := allFit_cons hx
  obtain ⟨x4, r4, rfl, f4, hx⟩ := allFit_cons hx
  obtain rfl := allFit_nil hx
  obtain ⟨l, rfl, ll, bl⟩ := argFits_ints f1
  obtain ⟨over, rfl, bover⟩ := argFits_int f2
  obtain ⟨total, rfl, btotal⟩ := argFits_int f3
  obtain ⟨w, rfl, lw, bw⟩ := argFits_ints f4
  have h8 : reachBytes ≤ 140737488355328 := by decide
  exact quotaTells_spec l (by omega) over total w (by omega)
theorem quotaTells_over : Rows.quotaTellsRow.holds Try.pinned (OpenSpec.ofChange Rows.quotaTellsSpec) :=
  OpenClaim.holds_of_wide 3 Try.f3 rfl rfl rfl rfl rfl rfl rfl ⟨rfl, rfl, rfl, rfl, rfl⟩ rfl rfl rfl rfl rfl (by kernel_rfl) Try.func3 (by kernel_rfl)
    (of_decide_eq_true (by kernel_rfl)) (by unfold Func.isWrapper; first | (rw [if_pos (by decide +kernel)]; kernel_rfl) | (rw [if_neg (by decide +kernel)]; exact ⟨rfl, rfl⟩))
    (fun os started H enc _ => quotaTells_lifted os started H enc)
/-- The statement. -/
theorem quotaTells_holds : Rows.QuotaTellsSaid := quotaTells_over
end Go.Proofs.Ythjpaongoflgiaa
