/- ShapleyOrders holds, for every input: there are n! orders, each of all players once, rising as words in a dictionary; each draw tells one of them. -/
import Derived.Test.YthjpaongoflgiaaRows
import Derived.Test.YthjpaongoflgiaaVXc
import Derived.Test.YthjpaongoflgiaaShap19
namespace Go.Proofs.Ythjpaongoflgiaa
open Go Go.VX Go.RowKit Go.ChangeShapes
set_option linter.unusedVariables false
set_option linter.unusedSimpArgs false
set_option maxHeartbeats 1000000
set_option maxRecDepth 100000

theorem own : ownKnob Try.prog.godebug = none := by kernel_rfl
theorem laidOut : laidOutB Try.prog = true := by kernel_rfl
theorem argFits_rows {x : V} (h : ArgFits (.slice (.slice (.int .i64))) x) : ∃ os : List (List Int), x = sLL os ∧ os.length ≤ reachBytes ∧ ∀ l ∈ os, l.length ≤ reachBytes := by
  obtain ⟨os, rfl, h1, h2⟩ := argFits_slice (fun l : List Int => [sI l]) (fun l => l.length ≤ reachBytes) (fun cs h => by
    obtain ⟨l, rfl, h1, _⟩ := fits_ints h
    exact ⟨l, rfl, h1⟩) h
  exact ⟨os, by rw [flatMap_one], h1, h2⟩
theorem argFits_arr49 {x : V} (h : ArgFits (.arr 49 (.int .i64)) x) : ∃ w : List Int, x = .agg (w.map (.int .i64)) ∧ w.length = 49 := by
  unfold ArgFits at h
  rw [if_neg (by simp [Ty.one])] at h
  obtain ⟨cs, rfl, h⟩ := h
  simp only [Fits] at h
  obtain ⟨l, rfl, h1, h2⟩ := h
  obtain ⟨w, g1, g2, _⟩ := list_of (fun n : Int => [V.int .i64 n]) (fun _ => True) (l := l) fun x hx => by
    obtain ⟨n, e, _⟩ := h2 x hx
    exact ⟨n, e, trivial⟩
  exact ⟨w, by rw [g2, flatMap_one], by omega⟩
theorem shapleyOrders_spec_fn (H : Type) (ds : List (DataW H)) (h : ds.length = 2) : Rows.shapleyOrdersSpec.fn H ds = { results := [.lit (.bool true)], args := ds } := by
  match ds, h with
  | [d0, d1], _ => rfl
set_option maxRecDepth 100000 in
theorem shapleyOrders_lifted (os : Os) (started : os.Started) (H : Type) (enc : TypeId × Value → H) :
    ReturnsInHanded {} Try.checked os 10 .any (Rows.shapleyOrdersSpec.pre6 enc Try.prog Try.f10 Rows.shapleyOrdersRow.domain false) (Rows.shapleyOrdersSpec.post enc Try.prog Try.f10 false true false false) := by
  refine returnsInHanded_of_change_sized (C := Try.checked) own started (by kernel_rfl) Try.func10
    (ChangeSpec.witness6 (enc := enc) (C := Try.checked) false ⟨#[], #[.int .i64 0, .slice none 0 0], []⟩ 8 (by kernel_rfl) (by kernel_rfl) (by kernel_rfl) (by kernel_rfl)) ?_
  intro W base args ds gs before hval hW hcnd hsz _
  refine law_calls (tys := [.int .i64, .slice (.int .i64)]) laidOut (by kernel_rfl) rfl Try.underlying4 rfl (fun H ds hd => shapleyOrders_spec_fn H ds hd) hval hW hsz fun xs hx hb => ?_
  obtain ⟨x1, r1, rfl, f1, hx⟩ := allFit_cons hx
  obtain ⟨x2, r2, rfl, f2, hx⟩ := allFit_cons hx
  obtain rfl := allFit_nil hx
  obtain ⟨n, rfl, bn⟩ := argFits_int f1
  obtain ⟨ds, rfl, lds, bds⟩ := argFits_ints f2
  have h8 : reachBytes ≤ 140737488355328 := by decide
  exact shapleyOrders_spec n ds (by omega)
theorem shapleyOrders_over : Rows.shapleyOrdersRow.holds Try.pinned (OpenSpec.ofChange Rows.shapleyOrdersSpec) :=
  OpenClaim.holds_of_wide 10 Try.f10 rfl rfl rfl rfl rfl rfl rfl ⟨rfl, rfl, rfl, rfl, rfl⟩ rfl rfl rfl rfl rfl (by kernel_rfl) Try.func10 (by kernel_rfl)
    (of_decide_eq_true (by kernel_rfl)) (by unfold Func.isWrapper; first | (rw [if_pos (by decide +kernel)]; kernel_rfl) | (rw [if_neg (by decide +kernel)]; exact ⟨rfl, rfl⟩))
    (fun os started H enc _ => shapleyOrders_lifted os started H enc)
/-- The statement. -/
theorem shapleyOrders_holds : Rows.ShapleyOrdersSaid := shapleyOrders_over
end Go.Proofs.Ythjpaongoflgiaa
