/- PlanTells holds, for every input: what a plan costs, whom it serves and whom not, whether it is better, and its copy are as the document says. -/
import Derived.Test.YtinigjmfjabicaaRows
import Derived.Test.YtinigjmfjabicaaVXc
import Derived.Test.YtinigjmfjabicaaPlE1
namespace Go.Proofs.Ytinigjmfjabicaa
open Go Go.VX Go.RowKit Go.ChangeShapes
set_option linter.unusedVariables false
set_option linter.unusedSimpArgs false
set_option maxHeartbeats 1000000
set_option maxRecDepth 100000

theorem own : ownKnob Try.prog.godebug = none := by kernel_rfl
theorem laidOut : laidOutB Try.prog = true := by kernel_rfl
def odTy : Ty := .struct (.cons (.int .i64) (.cons (.int .i64) (.cons (.int .i64) (.cons (.int .i64) (.cons (.int .i64) (.cons (.int .i64) (.cons (.int .i64) (.cons (.int .i64) .nil))))))))
def tkTy : Ty := .struct (.cons (.int .i64) (.cons (.int .i64) (.cons (.int .i64) (.cons (.int .i64) (.cons (.int .i64) (.cons (.int .i64) (.cons (.int .i64) .nil)))))))
def wdTy : Ty := .struct (.cons (.struct (.cons (.int .i64) (.cons (.slice (.int .i64)) (.cons (.slice (.int .i64)) .nil)))) (.cons (.slice odTy) (.cons (.slice tkTy) .nil)))
def rtTy : Ty := .struct (.cons (.int .i64) (.cons (.slice (.int .i64)) .nil))
def pnTy : Ty := .struct (.cons (.slice rtTy) (.cons (.slice (.int .i64)) .nil))
theorem fits_od (cs : List V) (h : Fits odTy cs) : ∃ x : Od, cs = Od.cells x ∧ True := by
  simp only [odTy, Fits] at h
  obtain ⟨_, _, rfl, ⟨a, rfl, _⟩, _, _, rfl, ⟨b, rfl, _⟩, _, _, rfl, ⟨c, rfl, _⟩, _, _, rfl, ⟨d, rfl, _⟩, _, _, rfl, ⟨e, rfl, _⟩, _, _, rfl, ⟨f, rfl, _⟩, _, _, rfl, ⟨g, rfl, _⟩, _, _, rfl, ⟨i, rfl, _⟩, rfl⟩ := h
  exact ⟨⟨a, b, c, d, e, f, g, i⟩, rfl, trivial⟩
theorem fits_tk (cs : List V) (h : Fits tkTy cs) : ∃ x : Tk, cs = Tk.cells x ∧ True := by
  simp only [tkTy, Fits] at h
  obtain ⟨_, _, rfl, ⟨a, rfl, _⟩, _, _, rfl, ⟨b, rfl, _⟩, _, _, rfl, ⟨c, rfl, _⟩, _, _, rfl, ⟨d, rfl, _⟩, _, _, rfl, ⟨e, rfl, _⟩, _, _, rfl, ⟨f, rfl, _⟩, _, _, rfl, ⟨g, rfl, _⟩, rfl⟩ := h
  exact ⟨⟨a, b, c, d, e, f, g⟩, rfl, trivial⟩
theorem argFits_wd {x : V} (h : ArgFits wdTy x) : ∃ w : Wd, x = .agg w.c ∧ w.os.length ≤ reachBytes ∧ w.ts.length ≤ reachBytes ∧ w.D.length ≤ reachBytes ∧ w.T.length ≤ reachBytes := by
  unfold ArgFits at h
  rw [if_neg (by simp [Ty.one, wdTy])] at h
  obtain ⟨cs, rfl, h⟩ := h
  have h2 : Fits (.cons (.struct (.cons (.int .i64) (.cons (.slice (.int .i64)) (.cons (.slice (.int .i64)) .nil)))) (.cons (.slice odTy) (.cons (.slice tkTy) .nil))) cs := by simpa only [wdTy, Fits] using h
  simp only [Fits.eq_def (.cons _ _), Fits.eq_def (.struct _), Fits.eq_def .nil, Fits.eq_def (.int _)] at h2
  obtain ⟨_, _, rfl, ⟨_, _, rfl, ⟨n, rfl, _⟩, _, _, rfl, hD, _, _, rfl, hT, rfl⟩, _, _, rfl, ho, _, _, rfl, ht, rfl⟩ := h2
  obtain ⟨D, rfl, h3, _⟩ := fits_ints hD
  obtain ⟨T, rfl, h4, _⟩ := fits_ints hT
  obtain ⟨os, rfl, h5, _⟩ := fits_slice Od.cells _ fits_od ho
  obtain ⟨ts, rfl, h6, _⟩ := fits_slice Tk.cells _ fits_tk ht
  exact ⟨⟨n, D, T, os, ts⟩, rfl, h5, h6, h3, h4⟩
theorem fits_rt (cs : List V) (h : Fits rtTy cs) : ∃ x : Rt, cs = Rt.cells x ∧ x.st.length ≤ reachBytes := by
  have h2 : Fits (.cons (.int .i64) (.cons (.slice (.int .i64)) .nil)) cs := by simpa only [rtTy, Fits] using h
  simp only [Fits.eq_def (.cons _ _), Fits.eq_def .nil, Fits.eq_def (.int _)] at h2
  obtain ⟨_, _, rfl, ⟨a, rfl, _⟩, _, _, rfl, hD, rfl⟩ := h2
  obtain ⟨D, rfl, h3, _⟩ := fits_ints hD
  exact ⟨⟨a, D⟩, rfl, h3⟩
theorem argFits_pn {x : V} (h : ArgFits pnTy x) : ∃ p : Pn, x = .agg p.c ∧ p.rs.length ≤ reachBytes ∧ p.un.length ≤ reachBytes ∧ ∀ r ∈ p.rs, r.st.length ≤ reachBytes := by
  unfold ArgFits at h
  rw [if_neg (by simp [Ty.one, pnTy])] at h
  obtain ⟨cs, rfl, h⟩ := h
  have h2 : Fits (.cons (.slice rtTy) (.cons (.slice (.int .i64)) .nil)) cs := by simpa only [pnTy, Fits] using h
  simp only [Fits.eq_def (.cons _ _), Fits.eq_def .nil] at h2
  obtain ⟨_, _, rfl, hr, _, _, rfl, hD, rfl⟩ := h2
  obtain ⟨D, rfl, h3, _⟩ := fits_ints hD
  obtain ⟨rs, rfl, h5, h6⟩ := fits_slice Rt.cells _ fits_rt hr
  exact ⟨⟨rs, D⟩, rfl, h5, h3, h6⟩
theorem planTells_spec_fn (H : Type) (ds : List (DataW H)) (h : ds.length = 3) : Rows.planTellsSpec.fn H ds = { results := [.lit (.bool true)], args := ds } := by
  match ds, h with
  | [d0, d1, d2], _ => rfl
set_option maxRecDepth 100000 in
theorem planTells_lifted (os : Os) (started : os.Started) (H : Type) (enc : TypeId × Value → H) :
    ReturnsInHanded {} Try.checked os 5 .any (Rows.planTellsSpec.pre6 enc Try.prog Try.f5 Rows.planTellsRow.domain false) (Rows.planTellsSpec.post enc Try.prog Try.f5 false true false false) := by
  refine returnsInHanded_of_change_sized (C := Try.checked) own started (by kernel_rfl) Try.func5
    (ChangeSpec.witness6 (enc := enc) (C := Try.checked) false ⟨#[], #[.agg #[.int .i64 0, .slice none 0 0, .slice none 0 0, .slice none 0 0, .slice none 0 0], .agg #[.slice none 0 0, .slice none 0 0], .agg #[.slice none 0 0, .slice none 0 0]], []⟩ 8 (by kernel_rfl) (by kernel_rfl) (by kernel_rfl) (by kernel_rfl)) ?_
  intro W base args ds gs before hval hW hcnd hsz _
  refine law_calls (tys := [wdTy, pnTy, pnTy]) laidOut (by kernel_rfl) rfl Try.underlying4 rfl (fun H ds hd => planTells_spec_fn H ds hd) hval hW hsz fun xs hx hb => ?_
  obtain ⟨x1, r1, rfl, f1, hx⟩ := allFit_cons hx
  obtain ⟨x2, r2, rfl, f2, hx⟩ := allFit_cons hx
  obtain ⟨x3, r3, rfl, f3, hx⟩ := allFit_cons hx
  obtain rfl := allFit_nil hx
  obtain ⟨w, rfl, low, ltw, lDw, lTw⟩ := argFits_wd f1
  obtain ⟨a, rfl, lra, lua, lsa⟩ := argFits_pn f2
  obtain ⟨b, rfl, lrb, lub, lsb⟩ := argFits_pn f3
  have h8 : reachBytes ≤ 140737488355328 := by decide
  exact (law_ptells w a b (Nat.le_trans lua h8) (Nat.le_trans lra h8) (fun r hr => Nat.le_trans (lsa r hr) h8) (Nat.le_trans lub h8) (Nat.le_trans lrb h8) (fun r hr => Nat.le_trans (lsb r hr) h8)).mono fun r ob' h => h.1
theorem planTells_over : Rows.planTellsRow.holds Try.pinned (OpenSpec.ofChange Rows.planTellsSpec) :=
  OpenClaim.holds_of_wide 5 Try.f5 rfl rfl rfl rfl rfl rfl rfl ⟨rfl, rfl, rfl, rfl, rfl⟩ rfl rfl rfl rfl rfl (by kernel_rfl) Try.func5 (by kernel_rfl)
    (of_decide_eq_true (by kernel_rfl)) (by unfold Func.isWrapper; first | (rw [if_pos (by decide +kernel)]; kernel_rfl) | (rw [if_neg (by decide +kernel)]; exact ⟨rfl, rfl⟩))
    (fun os started H enc _ => planTells_lifted os started H enc)
/-- The statement. -/
theorem planTells_holds : Rows.PlanTellsSaid := planTells_over
end Go.Proofs.Ytinigjmfjabicaa
