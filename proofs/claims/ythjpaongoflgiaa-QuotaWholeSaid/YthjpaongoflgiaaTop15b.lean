/- QuotaWhole holds, for every input: what is rounded is all of it, and each number is less than one from its fraction; of two fractions the greater one is never rounded to less. -/
import Derived.Test.YthjpaongoflgiaaRows
import Derived.Test.YthjpaongoflgiaaVXb
import Derived.Test.YthjpaongoflgiaaLaw15c
namespace Go.Proofs.Ythjpaongoflgiaa
open Go Go.VX Go.RowKit Go.ChangeShapes
set_option linter.unusedVariables false
set_option linter.unusedSimpArgs false
set_option maxHeartbeats 1000000
set_option maxRecDepth 100000

theorem own : ownKnob Try.prog.godebug = none := by kernel_rfl
theorem laidOut : laidOutB Try.prog = true := by kernel_rfl
theorem quotaWhole_spec_fn (H : Type) (ds : List (DataW H)) (h : ds.length = 2) : Rows.quotaWholeSpec.fn H ds = { results := [.lit (.bool true)], args := ds } := by
  match ds, h with
  | [d0, d1], _ => rfl
set_option maxRecDepth 100000 in
theorem quotaWhole_lifted (os : Os) (started : os.Started) (H : Type) (enc : TypeId × Value → H) :
    ReturnsInHanded {} Try.checked os 4 .any (Rows.quotaWholeSpec.pre6 enc Try.prog Try.f4 Rows.quotaWholeRow.domain false) (Rows.quotaWholeSpec.post enc Try.prog Try.f4 false true false false) := by
  refine returnsInHanded_of_change_sized (C := Try.checked) own started (by kernel_rfl) Try.func4
    (ChangeSpec.witness6 (enc := enc) (C := Try.checked) false ⟨#[], #[.slice none 0 0, .int .i64 0], []⟩ 8 (by kernel_rfl) (by kernel_rfl) (by kernel_rfl) (by kernel_rfl)) ?_
  intro W base args ds gs before hval hW hcnd hsz _
  refine law_calls (tys := [.slice (.int .i64), .int .i64]) laidOut (by kernel_rfl) rfl Try.underlying4 rfl (fun H ds hd => quotaWhole_spec_fn H ds hd) hval hW hsz fun xs hx hb => ?_
  obtain ⟨x1, r1, rfl, f1, hx⟩ := allFit_cons hx
  obtain ⟨x2, r2, rfl, f2, hx⟩ := allFit_cons hx
  obtain rfl := allFit_nil hx
  obtain ⟨l, rfl, ll, bl⟩ := argFits_ints f1
  obtain ⟨over, rfl, bover⟩ := argFits_int f2
  have h8 : reachBytes ≤ 140737488355328 := by decide
  exact quotaWhole_spec l (by omega) over
theorem quotaWhole_over : Rows.quotaWholeRow.holds Try.pinned (OpenSpec.ofChange Rows.quotaWholeSpec) :=
  OpenClaim.holds_of_wide 4 Try.f4 rfl rfl rfl rfl rfl rfl rfl ⟨rfl, rfl, rfl, rfl, rfl⟩ rfl rfl rfl rfl rfl (by kernel_rfl) Try.func4 (by kernel_rfl)
    (of_decide_eq_true (by kernel_rfl)) (by unfold Func.isWrapper; first | (rw [if_pos (by decide +kernel)]; kernel_rfl) | (rw [if_neg (by decide +kernel)]; exact ⟨rfl, rfl⟩))
    (fun os started H enc _ => quotaWhole_lifted os started H enc)
/-- The statement. -/
theorem quotaWhole_holds : Rows.QuotaWholeSaid := quotaWhole_over
end Go.Proofs.Ythjpaongoflgiaa
