/- LogDoes holds, for every input: call by call, through fuses, torn writes, crashes and bytes that are turned, what a log answers and keeps, and its disk, are as the document says. -/
import Derived.Test.YtifhbgppjblobaaRows
import Derived.Test.YtifhbgppjblobaaVXc
import Derived.Test.YtifhbgppjblobaaL2Z
namespace Go.Proofs.Ytifhbgppjblobaa
open Go Go.VX Go.RowKit Go.ChangeShapes
set_option linter.unusedVariables false
set_option linter.unusedSimpArgs false
set_option maxHeartbeats 1000000
set_option maxRecDepth 100000

theorem own : ownKnob Try.prog.godebug = none := by kernel_rfl
theorem laidOut : laidOutB Try.prog = true := by kernel_rfl
def opTy : Ty := .struct (.cons (.int .i64) (.cons (.int .i64) (.cons (.int .i64) (.cons (.slice (.int .u8)) .nil))))
structure DOp.fine (x : DOp) : Prop where
  a : x.a ≤ 9223372036854775807
  b : x.b.length ≤ 140737488355328
  y : byteL x.b
theorem byteL_fits {b : List Int} (h : ∀ a ∈ b, IntKind.u8.min ≤ a ∧ a ≤ IntKind.u8.max) : byteL b := fun x hx => by
  have h1 := h x hx
  have e1 : IntKind.u8.min = 0 := rfl
  have e2 : IntKind.u8.max = 255 := rfl
  omega
theorem fits_op (cs : List V) (h : Fits opTy cs) : ∃ x : DOp, cs = x.cells ∧ x.fine := by
  simp only [opTy, Fits] at h
  obtain ⟨_, _, rfl, ⟨n1, rfl, a1⟩, _, _, rfl, ⟨n2, rfl, a2⟩, _, _, rfl, ⟨n3, rfl, a3⟩, y, _, rfl, h4, rfl⟩ := h
  obtain ⟨b, rfl, hb, hq⟩ := fits_ints (by simpa only [Fits] using h4)
  have h8 : reachBytes ≤ 140737488355328 := by decide
  exact ⟨⟨n1, n2, n3, b⟩, rfl, a2.2, Nat.le_trans hb h8, byteL_fits hq⟩
theorem argFits_ops {x : V} (h : ArgFits (.slice opTy) x) : ∃ l : List DOp, x = .fs l.length (opsV l) ∧ l.length ≤ 140737488355328 ∧ ∀ x ∈ l, x.fine := by
  obtain ⟨l, h1, h2, h3⟩ := argFits_slice DOp.cells DOp.fine fits_op h
  exact ⟨l, h1, by have : reachBytes ≤ 140737488355328 := by decide
                   omega, h3⟩
theorem logDoes_spec_fn (H : Type) (ds : List (DataW H)) (h : ds.length = 2) : Rows.logDoesSpec.fn H ds = { results := [.lit (.bool true)], args := ds } := by
  match ds, h with
  | [d0, d1], _ => rfl
set_option maxRecDepth 100000 in
theorem logDoes_lifted (os : Os) (started : os.Started) (H : Type) (enc : TypeId × Value → H) :
    ReturnsInHanded {} Try.checked os 5 .any (Rows.logDoesSpec.pre6 enc Try.prog Try.f5 Rows.logDoesRow.domain false) (Rows.logDoesSpec.post enc Try.prog Try.f5 false true false false) := by
  refine returnsInHanded_of_change_sized (C := Try.checked) own started (by kernel_rfl) Try.func5
    (ChangeSpec.witness6 (enc := enc) (C := Try.checked) false ⟨#[], #[.int .i64 0, .slice none 0 0], []⟩ 8 (by kernel_rfl) (by kernel_rfl) (by kernel_rfl) (by kernel_rfl)) ?_
  intro W base args ds gs before hval hW hcnd hsz _
  refine law_calls (tys := [.int .i64, .slice opTy]) laidOut (by kernel_rfl) rfl Try.underlying4 rfl (fun H ds hd => logDoes_spec_fn H ds hd) hval hW hsz fun xs hx hb => ?_
  obtain ⟨x1, r1, rfl, f1, hx⟩ := allFit_cons hx
  obtain ⟨x2, r2, rfl, f2, hx⟩ := allFit_cons hx
  obtain rfl := allFit_nil hx
  obtain ⟨s, rfl, _⟩ := argFits_int f1
  obtain ⟨l, rfl, hl, hf⟩ := argFits_ops f2
  exact logDoes_spec s l hl (fun x hx => ⟨(hf x hx).b, (hf x hx).y, (hf x hx).a⟩)
theorem logDoes_over : Rows.logDoesRow.holds Try.pinned (OpenSpec.ofChange Rows.logDoesSpec) :=
  OpenClaim.holds_of_wide 5 Try.f5 rfl rfl rfl rfl rfl rfl rfl ⟨rfl, rfl, rfl, rfl, rfl⟩ rfl rfl rfl rfl rfl (by kernel_rfl) Try.func5 (by kernel_rfl)
    (of_decide_eq_true (by kernel_rfl)) (by unfold Func.isWrapper; first | (rw [if_pos (by decide +kernel)]; kernel_rfl) | (rw [if_neg (by decide +kernel)]; exact ⟨rfl, rfl⟩))
    (fun os started H enc _ => logDoes_lifted os started H enc)
/-- The statement. -/
theorem logDoes_holds : Rows.LogDoesSaid := logDoes_over
end Go.Proofs.Ytifhbgppjblobaa
