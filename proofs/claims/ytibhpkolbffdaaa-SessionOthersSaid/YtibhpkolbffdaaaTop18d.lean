/- SessionOthers holds, for every input: what others do changes nothing of what a principal is answered. -/
import Derived.Test.YtibhpkolbffdaaaRows
import Derived.Test.YtibhpkolbffdaaaVXTop
import Derived.Test.YtibhpkolbffdaaaSess8
namespace Go.Proofs.Ytibhpkolbffdaaa
open Go Go.VX Go.RowKit Go.ChangeShapes
set_option linter.unusedVariables false
set_option linter.unusedSimpArgs false
set_option maxHeartbeats 1000000
set_option maxRecDepth 100000

theorem own : ownKnob Try.prog.godebug = none := by kernel_rfl
theorem laidOut : laidOutB Try.prog = true := by kernel_rfl
def actTy : Ty := .struct (.cons (.int .i64) (.cons .str (.cons .str (.cons (.int .i64) (.cons (.int .i64) (.cons (.int .i64) .nil))))))
structure Act.fine (x : Act) : Prop where
  a : x.name.size ≤ 140737488355328 ∧ x.secret.size ≤ 140737488355328
  w : -9223372036854775808 ≤ x.who ∧ x.who ≤ 9223372036854775807
  n : -9223372036854775808 ≤ x.now ∧ x.now ≤ 9223372036854775807
theorem fits_act (cs : List V) (h : Fits actTy cs) : ∃ x : Act, cs = x.cells ∧ x.fine := by
  simp only [actTy, Fits] at h
  obtain ⟨_, _, rfl, ⟨n1, rfl, a1⟩, _, _, rfl, ⟨s1, rfl, b1⟩, _, _, rfl, ⟨s2, rfl, b2⟩, _, _, rfl, ⟨n2, rfl, a2⟩, _, _, rfl, ⟨n3, rfl, a3⟩, _, _, rfl, ⟨n4, rfl, a4⟩, rfl⟩ := h
  have h8 : reachBytes ≤ 140737488355328 := by decide
  exact ⟨⟨n1, s1, s2, n2, n3, n4⟩, rfl, ⟨Nat.le_trans b1 h8, Nat.le_trans b2 h8⟩, a2, a4⟩
theorem argFits_acts {x : V} (h : ArgFits (.slice actTy) x) : ∃ l : List Act, x = .fs l.length (rowsV l) ∧ l.length ≤ 140737488355328 ∧ ∀ x ∈ l, x.fine := by
  obtain ⟨l, h1, h2, h3⟩ := argFits_slice Act.cells Act.fine fits_act h
  exact ⟨l, h1, by have : reachBytes ≤ 140737488355328 := by decide
                   omega, h3⟩
theorem sessionOthers_spec_fn (H : Type) (ds : List (DataW H)) (h : ds.length = 5) : Rows.sessionOthersSpec.fn H ds = { results := [.lit (.bool true)], args := ds } := by
  match ds, h with
  | [d0, d1, d2, d3, d4], _ => rfl
set_option maxRecDepth 100000 in
theorem sessionOthers_lifted (os : Os) (started : os.Started) (H : Type) (enc : TypeId × Value → H) :
    ReturnsInHanded {} Try.checked os 9 .any (Rows.sessionOthersSpec.pre6 enc Try.prog Try.f9 Rows.sessionOthersRow.domain false) (Rows.sessionOthersSpec.post enc Try.prog Try.f9 false true false false) := by
  refine returnsInHanded_of_change_sized (C := Try.checked) own started (by kernel_rfl) Try.func9
    (ChangeSpec.witness6 (enc := enc) (C := Try.checked) false ⟨#[], #[.int .i64 0, .int .i64 0, .slice none 0 0, .slice none 0 0, .int .i64 0], []⟩ 8 (by kernel_rfl) (by kernel_rfl) (by kernel_rfl) (by kernel_rfl)) ?_
  intro W base args ds gs before hval hW hcnd hsz _
  refine law_calls (tys := [.int .i64, .int .i64, .slice (.int .i64), .slice actTy, .int .i64]) laidOut (by kernel_rfl) rfl Try.underlying4 rfl (fun H ds hd => sessionOthers_spec_fn H ds hd) hval hW hsz fun xs hx hb => ?_
  obtain ⟨x1, r1, rfl, f1, hx⟩ := allFit_cons hx
  obtain ⟨x2, r2, rfl, f2, hx⟩ := allFit_cons hx
  obtain ⟨x3, r3, rfl, f3, hx⟩ := allFit_cons hx
  obtain ⟨x4, r4, rfl, f4, hx⟩ := allFit_cons hx
  obtain ⟨x5, r5, rfl, f5, hx⟩ := allFit_cons hx
  obtain rfl := allFit_nil hx
  obtain ⟨a, rfl, _⟩ := argFits_int f1
  obtain ⟨b, rfl, hb⟩ := argFits_int f2
  obtain ⟨ns, rfl, hns, _⟩ := argFits_ints f3
  obtain ⟨l, rfl, hl, hf⟩ := argFits_acts f4
  obtain ⟨pr, rfl, _⟩ := argFits_int f5
  have h8 : reachBytes ≤ 140737488355328 := by decide
  exact sothers_spec a b ns l pr (Nat.le_trans hns h8) hl (fun x hx => (hf x hx).a) (fun x hx => (hf x hx).w)
theorem sessionOthers_over : Rows.sessionOthersRow.holds Try.pinned (OpenSpec.ofChange Rows.sessionOthersSpec) :=
  OpenClaim.holds_of_wide 9 Try.f9 rfl rfl rfl rfl rfl rfl rfl ⟨rfl, rfl, rfl, rfl, rfl⟩ rfl rfl rfl rfl rfl (by kernel_rfl) Try.func9 (by kernel_rfl)
    (of_decide_eq_true (by kernel_rfl)) (by unfold Func.isWrapper; first | (rw [if_pos (by decide +kernel)]; kernel_rfl) | (rw [if_neg (by decide +kernel)]; exact ⟨rfl, rfl⟩))
    (fun os started H enc _ => sessionOthers_lifted os started H enc)
/-- The statement. -/
theorem sessionOthers_holds : Rows.SessionOthersSaid := sessionOthers_over
end Go.Proofs.Ytibhpkolbffdaaa
