/- Sums of some numbers. -/
import Derived.Test.YtinigjmfjabicaaPlP
namespace Go.Proofs.Ytinigjmfjabicaa
open Go Go.VX Go.RowKit
set_option linter.unusedVariables false
set_option linter.unusedSimpArgs false
set_option maxHeartbeats 20000000
set_option maxRecDepth 100000

theorem adjB_take : ∀ {S : List Int} {i : Nat} {x y : Int}, S[i + 1]? = some x → S[i]? = some y → adjB (S.take (i + 2)) = (adjB (S.take (i + 1)) || (x == y))
  | [], i, x, y, h, _ => by simp at h
  | a :: S, 0, x, y, h1, h2 => by
    simp at h2; subst h2
    cases S with
    | nil => simp at h1
    | cons b S =>
      simp at h1; subst h1
      simp [adjB]
      exact decide_eq_decide.2 ⟨fun e => e.symm, fun e => e.symm⟩
  | a :: S, i + 1, x, y, h1, h2 => by
    have ih := adjB_take (S := S) (i := i) (by simpa using h1) (by simpa using h2)
    cases S with
    | nil => simp at h1
    | cons b S =>
      simp only [List.take_succ_cons, adjB] at ih ⊢
      rw [ih, Bool.or_assoc]
theorem sum_bounds2 : ∀ {D : List Int} {m : Int}, (∀ n ∈ D, 0 ≤ n ∧ n ≤ m) → 0 ≤ D.sum ∧ D.sum ≤ D.length * m
  | [], m, _ => by simp
  | x :: D, m, h => by
    have h1 := h x (by simp)
    have h2 := sum_bounds2 (D := D) (m := m) fun n hn => h n (by simp [hn])
    rw [List.sum_cons, List.length_cons, Int.natCast_add, Int.add_mul]
    omega
end Go.Proofs.Ytinigjmfjabicaa
