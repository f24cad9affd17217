/- LabelRows holds, for every input: a view's rows are the shipper's orders, rising, with aliases and places that count. -/
import Derived.Test.YtmpakfpmmkfgpaaRows
import Derived.Test.YtmpakfpmmkfgpaaVXc
import Derived.Test.YtmpakfpmmkfgpaaLbR
namespace Go.Proofs.Ytmpakfpmmkfgpaa
open Go Go.VX Go.RowKit Go.ChangeShapes
set_option linter.unusedVariables false
set_option linter.unusedSimpArgs false
set_option maxHeartbeats 1000000
set_option maxRecDepth 100000

theorem own : ownKnob Try.prog.godebug = none := by kernel_rfl
theorem laidOut : laidOutB Try.prog = true := by kernel_rfl
def stTy : Ty := .struct (.cons (.int .i64) (.cons (.int .i64) (.cons (.int .i64) (.cons (.int .i64) .nil))))
def lfTy : Ty := .struct (.cons (.int .i64) (.cons (.int .i64) .nil))
def liTy : Ty := .struct (.cons (.int .i64) (.cons (.int .i64) (.cons (.int .i64) (.cons .bool .nil))))
def whTy : Ty := .struct (.cons (.slice stTy) (.cons (.slice lfTy) (.cons (.slice liTy) (.cons (.int .i64) (.cons (.int .i64) (.cons (.int .i64) .nil))))))
theorem fits_stp (cs : List V) (h : Fits stTy cs) : ∃ x : Stp, cs = Stp.cells x ∧ True := by
  have h2 : Fits (.cons (.int .i64) (.cons (.int .i64) (.cons (.int .i64) (.cons (.int .i64) .nil)))) cs := by simpa only [stTy, Fits] using h
  simp only [Fits.eq_def (.cons _ _), Fits.eq_def .nil, Fits.eq_def (.int _)] at h2
  obtain ⟨_, _, rfl, ⟨a0, rfl, _⟩, _, _, rfl, ⟨a1, rfl, _⟩, _, _, rfl, ⟨a2, rfl, _⟩, _, _, rfl, ⟨a3, rfl, _⟩, rfl⟩ := h2
  exact ⟨⟨a0, a1, a2, a3⟩, rfl, trivial⟩
theorem fits_lft (cs : List V) (h : Fits lfTy cs) : ∃ x : Lft, cs = Lft.cells x ∧ True := by
  have h2 : Fits (.cons (.int .i64) (.cons (.int .i64) .nil)) cs := by simpa only [lfTy, Fits] using h
  simp only [Fits.eq_def (.cons _ _), Fits.eq_def .nil, Fits.eq_def (.int _)] at h2
  obtain ⟨_, _, rfl, ⟨a0, rfl, _⟩, _, _, rfl, ⟨a1, rfl, _⟩, rfl⟩ := h2
  exact ⟨⟨a0, a1⟩, rfl, trivial⟩
theorem fits_lin (cs : List V) (h : Fits liTy cs) : ∃ x : Lin, cs = Lin.cells x ∧ True := by
  have h2 : Fits (.cons (.int .i64) (.cons (.int .i64) (.cons (.int .i64) (.cons .bool .nil)))) cs := by simpa only [liTy, Fits] using h
  simp only [Fits.eq_def (.cons _ _), Fits.eq_def .nil, Fits.eq_def (.int _), Fits.eq_def .bool] at h2
  obtain ⟨_, _, rfl, ⟨a0, rfl, _⟩, _, _, rfl, ⟨a1, rfl, _⟩, _, _, rfl, ⟨a2, rfl, _⟩, _, _, rfl, ⟨a3, rfl⟩, rfl⟩ := h2
  exact ⟨⟨a0, a1, a2, a3⟩, rfl, trivial⟩
theorem argFits_wh {x : V} (h : ArgFits whTy x) : ∃ w : Whl, x = .agg w.c := by
  unfold ArgFits at h
  rw [if_neg (by simp [Ty.one, whTy])] at h
  obtain ⟨cs, rfl, h⟩ := h
  have h2 : Fits (.cons (.slice stTy) (.cons (.slice lfTy) (.cons (.slice liTy) (.cons (.int .i64) (.cons (.int .i64) (.cons (.int .i64) .nil)))))) cs := by simpa only [whTy, Fits] using h
  simp only [Fits.eq_def (.cons _ _), Fits.eq_def .nil, Fits.eq_def (.int _)] at h2
  obtain ⟨_, _, rfl, hs, _, _, rfl, hf, _, _, rfl, hl, _, _, rfl, ⟨a, rfl, _⟩, _, _, rfl, ⟨b, rfl, _⟩, _, _, rfl, ⟨c, rfl, _⟩, rfl⟩ := h2
  obtain ⟨ss, rfl, _, _⟩ := fits_slice Stp.cells _ fits_stp hs
  obtain ⟨fs, rfl, _, _⟩ := fits_slice Lft.cells _ fits_lft hf
  obtain ⟨ls, rfl, _, _⟩ := fits_slice Lin.cells _ fits_lin hl
  exact ⟨⟨ss, fs, ls, a, b, c⟩, rfl⟩
theorem labelRows_spec_fn (H : Type) (ds : List (DataW H)) (h : ds.length = 3) : Rows.labelRowsSpec.fn H ds = { results := [.lit (.bool true)], args := ds } := by
  match ds, h with
  | [d0, d1, d2], _ => rfl
set_option maxRecDepth 100000 in
theorem labelRows_lifted (os : Os) (started : os.Started) (H : Type) (enc : TypeId × Value → H) :
    ReturnsInHanded {} Try.checked os 6 .any (Rows.labelRowsSpec.pre6 enc Try.prog Try.f6 Rows.labelRowsRow.domain false) (Rows.labelRowsSpec.post enc Try.prog Try.f6 false true false false) := by
  refine returnsInHanded_of_change_sized (C := Try.checked) own started (by kernel_rfl) Try.func6
    (ChangeSpec.witness6 (enc := enc) (C := Try.checked) false ⟨#[], #[.agg #[.slice none 0 0, .slice none 0 0, .slice none 0 0, .int .i64 0, .int .i64 0, .int .i64 0], .int .i64 0, .int .i64 0], []⟩ 8 (by kernel_rfl) (by kernel_rfl) (by kernel_rfl) (by kernel_rfl)) ?_
  intro W base args ds gs before hval hW hcnd hsz _
  refine law_calls (tys := [whTy, .int .i64, .int .i64]) laidOut (by kernel_rfl) rfl Try.underlying4 rfl (fun H ds hd => labelRows_spec_fn H ds hd) hval hW hsz fun xs hx hb => ?_
  obtain ⟨x1, r1, rfl, f1, hx⟩ := allFit_cons hx
  obtain ⟨x2, r2, rfl, f2, hx⟩ := allFit_cons hx
  obtain ⟨x3, r3, rfl, f3, hx⟩ := allFit_cons hx
  obtain rfl := allFit_nil hx
  obtain ⟨x, rfl⟩ := argFits_wh f1
  obtain ⟨ow, rfl, bow⟩ := argFits_int f2
  obtain ⟨po, rfl, bpo⟩ := argFits_int f3
  exact (law_lrows x ow po).mono fun r ob' h => h.1
theorem labelRows_over : Rows.labelRowsRow.holds Try.pinned (OpenSpec.ofChange Rows.labelRowsSpec) :=
  OpenClaim.holds_of_wide 6 Try.f6 rfl rfl rfl rfl rfl rfl rfl ⟨rfl, rfl, rfl, rfl, rfl⟩ rfl rfl rfl rfl rfl (by kernel_rfl) Try.func6 (by kernel_rfl)
    (of_decide_eq_true (by kernel_rfl)) (by unfold Func.isWrapper; first | (rw [if_pos (by decide +kernel)]; kernel_rfl) | (rw [if_neg (by decide +kernel)]; exact ⟨rfl, rfl⟩))
    (fun os started H enc _ => labelRows_lifted os started H enc)
/-- The statement. -/
theorem labelRows_holds : Rows.LabelRowsSaid := labelRows_over
end Go.Proofs.Ytmpakfpmmkfgpaa
