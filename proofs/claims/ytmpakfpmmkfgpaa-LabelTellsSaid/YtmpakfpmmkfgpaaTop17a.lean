/- LabelTells holds, for every input: what any shipper sees of any whole, by any policy, or why nothing, whether views are the same, and how much was released, are as the document says. -/
import Derived.Test.YtmpakfpmmkfgpaaRows
import Derived.Test.YtmpakfpmmkfgpaaVXc
import Derived.Test.YtmpakfpmmkfgpaaLbO
namespace Go.Proofs.Ytmpakfpmmkfgpaa
open Go Go.VX Go.RowKit Go.ChangeShapes
set_option linter.unusedVariables false
set_option linter.unusedSimpArgs false
set_option maxHeartbeats 1000000
set_option maxRecDepth 100000

theorem own : ownKnob Try.prog.godebug = none := by kernel_rfl
theorem laidOut : laidOutB Try.prog = true := by kernel_rfl
def stTy : Ty := .struct (.cons (.int .i64) (.cons (.int .i64) (.cons (.int .i64) (.cons (.int .i64) .nil))))
def lfTy : Ty := .struct (.cons (.int .i64) (.cons (.int .i64) .nil))
def liTy : Ty := .struct (.cons (.int .i64) (.cons (.int .i64) (.cons (.int .i64) (.cons .bool .nil))))
def whTy : Ty := .struct (.cons (.slice stTy) (.cons (.slice lfTy) (.cons (.slice liTy) (.cons (.int .i64) (.cons (.int .i64) (.cons (.int .i64) .nil))))))
theorem fits_stp (cs : List V) (h : Fits stTy cs) : ∃ x : Stp, cs = Stp.cells x ∧ True := by
  have h2 : Fits (.cons (.int .i64) (.cons (.int .i64) (.cons (.int .i64) (.cons (.int .i64) .nil)))) cs := by simpa only [stTy, Fits] using h
  simp only [Fits.eq_def (.cons _ _), Fits.eq_def .nil, Fits.eq_def (.int _)] at h2
  obtain ⟨_, _, rfl, ⟨a0, rfl, _⟩, _, _, rfl, ⟨a1, rfl, _⟩, _, _, rfl, ⟨a2, rfl, _⟩, _, _, rfl, ⟨a3, rfl, _⟩, rfl⟩ := h2
  exact ⟨⟨a0, a1, a2, a3⟩, rfl, trivial⟩
theorem fits_lft (cs : List V) (h : Fits lfTy cs) : ∃ x : Lft, cs = Lft.cells x ∧ True := by
  have h2 : Fits (.cons (.int .i64) (.cons (.int .i64) .nil)) cs := by simpa only [lfTy, Fits] using h
  simp only [Fits.eq_def (.cons _ _), Fits.eq_def .nil, Fits.eq_def (.int _)] at h2
  obtain ⟨_, _, rfl, ⟨a0, rfl, _⟩, _, _, rfl, ⟨a1, rfl, _⟩, rfl⟩ := h2
  exact ⟨⟨a0, a1⟩, rfl, trivial⟩
theorem fits_lin (cs : List V) (h : Fits liTy cs) : ∃ x : Lin, cs = Lin.cells x ∧ True := by
  have h2 : Fits (.cons (.int .i64) (.cons (.int .i64) (.cons (.int .i64) (.cons .bool .nil)))) cs := by simpa only [liTy, Fits] using h
  simp only [Fits.eq_def (.cons _ _), Fits.eq_def .nil, Fits.eq_def (.int _), Fits.eq_def .bool] at h2
  obtain ⟨_, _, rfl, ⟨a0, rfl, _⟩, _, _, rfl, ⟨a1, rfl, _⟩, _, _, rfl, ⟨a2, rfl, _⟩, _, _, rfl, ⟨a3, rfl⟩, rfl⟩ := h2
  exact ⟨⟨a0, a1, a2, a3⟩, rfl, trivial⟩
theorem argFits_wh {x : V} (h : ArgFits whTy x) : ∃ w : Whl, x = .agg w.c := by
  unfold ArgFits at h
  rw [if_neg (by simp [Ty.one, whTy])] at h
  obtain ⟨cs, rfl, h⟩ := h
  have h2 : Fits (.cons (.slice stTy) (.cons (.slice lfTy) (.cons (.slice liTy) (.cons (.int .i64) (.cons (.int .i64) (.cons (.int .i64) .nil)))))) cs := by simpa only [whTy, Fits] using h
  simp only [Fits.eq_def (.cons _ _), Fits.eq_def .nil, Fits.eq_def (.int _)] at h2
  obtain ⟨_, _, rfl, hs, _, _, rfl, hf, _, _, rfl, hl, _, _, rfl, ⟨a, rfl, _⟩, _, _, rfl, ⟨b, rfl, _⟩, _, _, rfl, ⟨c, rfl, _⟩, rfl⟩ := h2
  obtain ⟨ss, rfl, _, _⟩ := fits_slice Stp.cells _ fits_stp hs
  obtain ⟨fs, rfl, _, _⟩ := fits_slice Lft.cells _ fits_lft hf
  obtain ⟨ls, rfl, _, _⟩ := fits_slice Lin.cells _ fits_lin hl
  exact ⟨⟨ss, fs, ls, a, b, c⟩, rfl⟩
def rwTy : Ty := .struct (.cons (.int .i64) (.cons (.int .i64) (.cons (.int .i64) (.cons (.int .i64) .nil))))
def vwTy : Ty := .struct (.cons (.slice rwTy) (.cons (.slice (.int .i64)) (.cons (.int .i64) (.cons (.int .i64) (.cons .bool (.cons (.slice (.int .i64)) .nil))))))
theorem fits_rwx (cs : List V) (h : Fits rwTy cs) : ∃ x : Rwx, cs = Rwx.cells x ∧ True := by
  have h2 : Fits (.cons (.int .i64) (.cons (.int .i64) (.cons (.int .i64) (.cons (.int .i64) .nil)))) cs := by simpa only [rwTy, Fits] using h
  simp only [Fits.eq_def (.cons _ _), Fits.eq_def .nil, Fits.eq_def (.int _)] at h2
  obtain ⟨_, _, rfl, ⟨a0, rfl, _⟩, _, _, rfl, ⟨a1, rfl, _⟩, _, _, rfl, ⟨a2, rfl, _⟩, _, _, rfl, ⟨a3, rfl, _⟩, rfl⟩ := h2
  exact ⟨⟨a0, a1, a2, a3⟩, rfl, trivial⟩
theorem fits_vw (cs : List V) (h : Fits vwTy cs) : ∃ x : Vw, cs = Vw.cells x ∧ True := by
  have h2 : Fits (.cons (.slice rwTy) (.cons (.slice (.int .i64)) (.cons (.int .i64) (.cons (.int .i64) (.cons .bool (.cons (.slice (.int .i64)) .nil)))))) cs := by simpa only [vwTy, Fits] using h
  simp only [Fits.eq_def (.cons _ _), Fits.eq_def .nil, Fits.eq_def (.int _), Fits.eq_def .bool] at h2
  obtain ⟨_, _, rfl, hr, _, _, rfl, hf, _, _, rfl, ⟨a, rfl, _⟩, _, _, rfl, ⟨b, rfl, _⟩, _, _, rfl, ⟨c, rfl⟩, _, _, rfl, hg, rfl⟩ := h2
  obtain ⟨rs, rfl, _, _⟩ := fits_slice Rwx.cells _ fits_rwx hr
  obtain ⟨fs, rfl, _, _⟩ := fits_ints hf
  obtain ⟨gs, rfl, _, _⟩ := fits_ints hg
  exact ⟨⟨rs, fs, a, b, c, gs⟩, rfl, trivial⟩
theorem argFits_vws {x : V} (h : ArgFits (.slice vwTy) x) : ∃ l : List Vw, x = fsV l := by
  obtain ⟨l, rfl, _, _⟩ := argFits_slice Vw.cells _ fits_vw h
  exact ⟨l, rfl⟩
theorem labelTells_spec_fn (H : Type) (ds : List (DataW H)) (h : ds.length = 4) : Rows.labelTellsSpec.fn H ds = { results := [.lit (.bool true)], args := ds } := by
  match ds, h with
  | [d0, d1, d2, d3], _ => rfl
set_option maxRecDepth 100000 in
theorem labelTells_lifted (os : Os) (started : os.Started) (H : Type) (enc : TypeId × Value → H) :
    ReturnsInHanded {} Try.checked os 3 .any (Rows.labelTellsSpec.pre6 enc Try.prog Try.f3 Rows.labelTellsRow.domain false) (Rows.labelTellsSpec.post enc Try.prog Try.f3 false true false false) := by
  refine returnsInHanded_of_change_sized (C := Try.checked) own started (by kernel_rfl) Try.func3
    (ChangeSpec.witness6 (enc := enc) (C := Try.checked) false ⟨#[], #[.agg #[.slice none 0 0, .slice none 0 0, .slice none 0 0, .int .i64 0, .int .i64 0, .int .i64 0], .int .i64 0, .int .i64 0, .slice none 0 0], []⟩ 8 (by kernel_rfl) (by kernel_rfl) (by kernel_rfl) (by kernel_rfl)) ?_
  intro W base args ds gs before hval hW hcnd hsz _
  refine law_calls (tys := [whTy, .int .i64, .int .i64, .slice vwTy]) laidOut (by kernel_rfl) rfl Try.underlying4 rfl (fun H ds hd => labelTells_spec_fn H ds hd) hval hW hsz fun xs hx hb => ?_
  obtain ⟨x1, r1, rfl, f1, hx⟩ := allFit_cons hx
  obtain ⟨x2, r2, rfl, f2, hx⟩ := allFit_cons hx
  obtain ⟨x3, r3, rfl, f3, hx⟩ := allFit_cons hx
  obtain ⟨x4, r4, rfl, f4, hx⟩ := allFit_cons hx
  obtain rfl := allFit_nil hx
  obtain ⟨x, rfl⟩ := argFits_wh f1
  obtain ⟨ow, rfl, bow⟩ := argFits_int f2
  obtain ⟨po, rfl, bpo⟩ := argFits_int f3
  obtain ⟨l, rfl⟩ := argFits_vws f4
  exact (law_ltells x ow po l).mono fun r ob' h => h.1
theorem labelTells_over : Rows.labelTellsRow.holds Try.pinned (OpenSpec.ofChange Rows.labelTellsSpec) :=
  OpenClaim.holds_of_wide 3 Try.f3 rfl rfl rfl rfl rfl rfl rfl ⟨rfl, rfl, rfl, rfl, rfl⟩ rfl rfl rfl rfl rfl (by kernel_rfl) Try.func3 (by kernel_rfl)
    (of_decide_eq_true (by kernel_rfl)) (by unfold Func.isWrapper; first | (rw [if_pos (by decide +kernel)]; kernel_rfl) | (rw [if_neg (by decide +kernel)]; exact ⟨rfl, rfl⟩))
    (fun os started H enc _ => labelTells_lifted os started H enc)
/-- The statement. -/
theorem labelTells_holds : Rows.LabelTellsSaid := labelTells_over
end Go.Proofs.Ytmpakfpmmkfgpaa
