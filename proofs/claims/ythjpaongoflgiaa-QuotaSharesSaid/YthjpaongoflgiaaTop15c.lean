/- QuotaShares holds, for every input: what is shared is all of the total, each share less than one from what its weight is worth; greater weights never get less; weights that are as many times as great are shared alike. -/
import Derived.Test.YthjpaongoflgiaaRows
import Derived.Test.YthjpaongoflgiaaVXb
import Derived.Test.YthjpaongoflgiaaLaw15d
namespace Go.Proofs.Ythjpaongoflgiaa
open Go Go.VX Go.RowKit Go.ChangeShapes
set_option linter.unusedVariables false
set_option linter.unusedSimpArgs false
set_option maxHeartbeats 1000000
set_option maxRecDepth 100000

theorem own : ownKnob Try.prog.godebug = none := by kernel_rfl
theorem laidOut : laidOutB Try.prog = true := by kernel_rfl
theorem quotaShares_spec_fn (H : Type) (ds : List (DataW H)) (h : ds.length = 3) : Rows.quotaSharesSpec.fn H ds = { results := [.lit (.bool true)], args := ds } := by
  match ds, h with
  | [d0, d1, d2], _ => rfl
set_option maxRecDepth 100000 in
theorem quotaShares_lifted (os : Os) (started : os.Started) (H : Type) (enc : TypeId × Value → H) :
    ReturnsInHanded {} Try.checked os 5 .any (Rows.quotaSharesSpec.pre6 enc Try.prog Try.f5 Rows.quotaSharesRow.domain false) (Rows.quotaSharesSpec.post enc Try.prog Try.f5 false true false false) := by
  refine returnsInHanded_of_change_sized (C := Try.checked) own started (by kernel_rfl) Try.func5
    (ChangeSpec.witness6 (enc := enc) (C := Try.checked) false ⟨#[], #[.int .i64 0, .slice none 0 0, .int .i64 0], []⟩ 8 (by kernel_rfl) (by kernel_rfl) (by kernel_rfl) (by kernel_rfl)) ?_
  intro W base args ds gs before hval hW hcnd hsz _
  refine law_calls (tys := [.int .i64, .slice (.int .i64), .int .i64]) laidOut (by kernel_rfl) rfl Try.underlying4 rfl (fun H ds hd => quotaShares_spec_fn H ds hd) hval hW hsz fun xs hx hb => ?_
  obtain ⟨x1, r1, rfl, f1, hx⟩ := allFit_cons hx
  obtain ⟨x2, r2, rfl, f2, hx⟩ := allFit_cons hx
  obtain ⟨x3, r3, rfl, f3, hx⟩ := allFit_cons hx
  obtain rfl := allFit_nil hx
  obtain ⟨total, rfl, btotal⟩ := argFits_int f1
  obtain ⟨w, rfl, lw, bw⟩ := argFits_ints f2
  obtain ⟨times, rfl, btimes⟩ := argFits_int f3
  have h8 : reachBytes ≤ 140737488355328 := by decide
  exact quotaShares_spec total w (by omega) times
theorem quotaShares_over : Rows.quotaSharesRow.holds Try.pinned (OpenSpec.ofChange Rows.quotaSharesSpec) :=
  OpenClaim.holds_of_wide 5 Try.f5 rfl rfl rfl rfl rfl rfl rfl ⟨rfl, rfl, rfl, rfl, rfl⟩ rfl rfl rfl rfl rfl (by kernel_rfl) Try.func5 (by kernel_rfl)
    (of_decide_eq_true (by kernel_rfl)) (by unfold Func.isWrapper; first | (rw [if_pos (by decide +kernel)]; kernel_rfl) | (rw [if_neg (by decide +kernel)]; exact ⟨rfl, rfl⟩))
    (fun os started H enc _ => quotaShares_lifted os started H enc)
/-- The statement. -/
theorem quotaShares_holds : Rows.QuotaSharesSaid := quotaShares_over
end Go.Proofs.Ythjpaongoflgiaa
