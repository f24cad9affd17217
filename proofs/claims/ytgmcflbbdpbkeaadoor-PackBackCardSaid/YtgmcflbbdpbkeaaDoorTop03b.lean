/- PackBack holds, for every input: what is written is read, and no bytes but its own tell values. -/
import Derived.Test.YtgmcflbbdpbkeaaDoorRows
import Derived.Test.YtgmcflbbdpbkeaaDoorCards
import Derived.Test.YtgmcflbbdpbkeaaDoorTie
import Derived.ProofKit
import Derived.OpenShut
import Derived.LaidMore
import Derived.Lay
import Derived.SevenTiedAt
import Derived.Stop.Joined
import Derived.Test.YtgmcflbbdpbkeaaDoorVXc
import Derived.Test.YtgmcflbbdpbkeaaDoorPkT
namespace Go.Proofs.YtgmcflbbdpbkeaaDoor
open Go Go.VX Go.RowKit Go.ChangeShapes
set_option linter.unusedVariables false
set_option linter.unusedSimpArgs false
set_option maxHeartbeats 1000000
set_option maxRecDepth 100000

theorem own : ownKnob Tryd.prog.godebug = none := by kernel_rfl
theorem laidOut : laidOutB Tryd.prog = true := by kernel_rfl
def pvTy : Ty := .struct (.cons (.int .i64) (.cons .str .nil))
theorem fits_pv (cs : List V) (h : Fits pvTy cs) : ∃ x : PV, cs = x.cells ∧ x.t.size ≤ 140737488355328 := by
  simp only [pvTy, Fits] at h
  obtain ⟨_, _, rfl, ⟨n, rfl, a⟩, _, _, rfl, ⟨t, rfl, ht⟩, rfl⟩ := h
  have h8 : reachBytes ≤ 140737488355328 := by decide
  exact ⟨⟨n, t⟩, rfl, Nat.le_trans ht h8⟩
theorem argFits_pvs {x : V} (h : ArgFits (.slice pvTy) x) : ∃ l : List PV, x = sV l ∧ l.length ≤ 140737488355328 ∧ ∀ x ∈ l, x.t.size ≤ 140737488355328 := by
  obtain ⟨l, h1, h2, h3⟩ := argFits_slice PV.cells _ fits_pv h
  exact ⟨l, h1, by have : reachBytes ≤ 140737488355328 := by decide
                   omega, h3⟩
theorem byteL_fits {b : List Int} (h : ∀ a ∈ b, IntKind.u8.min ≤ a ∧ a ≤ IntKind.u8.max) : byteL b := fun x hx => by
  have h1 := h x hx
  have e1 : IntKind.u8.min = 0 := rfl
  have e2 : IntKind.u8.max = 255 := rfl
  omega
theorem packBack_spec_fn (H : Type) (ds : List (DataW H)) (h : ds.length = 3) : Rows.packBackSpec.fn H ds = { results := [.lit (.bool true)], args := ds } := by
  match ds, h with
  | [d0, d1, d2], _ => rfl
set_option maxRecDepth 100000 in
theorem packBack_lifted (os : Os) (started : os.Started) (H : Type) (enc : TypeId × Value → H) :
    ReturnsInHanded {} Tryd.checked os 5 .any (fun w args => (Rows.packBackSpec.pre enc Tryd.prog Tryd.f5 Rows.packBackRow.domain false w args ∧ laidMetH Tryd.prog Rows.packBackRow.laid w) ∧ sizedMet enc Tryd.prog Tryd.f5 (OpenSpec.ofChange Rows.packBackSpec) false w args)
      (Rows.packBackSpec.post enc Tryd.prog Tryd.f5 false true false false) := by
  refine returnsInHanded_of_change_and (C := Tryd.checked) (X := fun w _ => laidMetH Tryd.prog Rows.packBackRow.laid w) (fun _ _ _ hh h => h.of_heap hh) own started (by kernel_rfl) Tryd.func5
    (ChangeSpec.witness_shaped (enc := enc) (C := Tryd.checked) (os := os) (X := fun w _ => laidMetH Tryd.prog Rows.packBackRow.laid w) false (World.laidAll Tryd.prog os Rows.packBackRow.laid) #[.string ⟨#[]⟩, .slice none 0 0, .slice none 0 0] 8 (World.laidAll_os _ _ _)
      (World.shaped_of_ZipB (by kernel_rfl) (by kernel_rfl)) (by kernel_rfl) (by kernel_rfl) (by kernel_rfl)
      (by rw [MakeChecks.laidMetH_plain _ _ _ (by kernel_rfl)]; exact laidMet_laidAll _ (by kernel_rfl) (by kernel_rfl))) ?_
  intro W base args ds gs before hval hW hcnd hsz _ _
  refine law_calls (tys := [.str, .slice pvTy, .slice (.int .u8)]) laidOut (by kernel_rfl) rfl Tryd.underlying4 rfl (fun H ds hd => packBack_spec_fn H ds hd) hval hW hsz fun xs hx hb => ?_
  obtain ⟨x1, r1, rfl, f1, hx⟩ := allFit_cons hx
  obtain ⟨x2, r2, rfl, f2, hx⟩ := allFit_cons hx
  obtain ⟨x3, r3, rfl, f3, hx⟩ := allFit_cons hx
  obtain rfl := allFit_nil hx
  have h8 : reachBytes ≤ 140737488355328 := by decide
  obtain ⟨f, rfl, hf⟩ := argFits_str f1
  obtain ⟨l, rfl, hl, ht⟩ := argFits_pvs f2
  obtain ⟨b, rfl, hbl, hbb⟩ := argFits_ints f3
  exact (law_back f (by omega) l hl ht b (byteL_fits hbb) (by omega)).mono fun r ob' h => h.1
theorem packBack_over : Rows.packBackRow.holds Tryd.pinned (OpenSpec.ofChange Rows.packBackSpec) :=
  OpenClaim.holds_of_wide 5 Tryd.f5 rfl rfl rfl rfl rfl rfl rfl ⟨rfl, rfl, rfl, rfl, rfl⟩ rfl rfl rfl rfl rfl (by kernel_rfl) Tryd.func5 (by kernel_rfl)
    (of_decide_eq_true (by kernel_rfl)) (by unfold Func.isWrapper; first | (rw [if_pos (by decide +kernel)]; kernel_rfl) | (rw [if_neg (by decide +kernel)]; exact ⟨rfl, rfl⟩))
    (fun os started H enc _ => packBack_lifted os started H enc)
/-- The statement: the tied card. -/
theorem packBack_holds : Rows.PackBackCardSaid :=
  Claim7.holds_tied_plain_at .later [] [.data, .pinned] true (true, "54529eb23776f700dcaca41db426fec7da9ce3ccc06c57e9835fe81a656c2c57") true packBack_over (fun _ h => by cases h) (by kernel_rfl) (fun _ h => by cases h) packBack_row_tie rfl ⟨rfl, rfl⟩ (by kernel_rfl) rfl
    (fun f fn hf hfn => by
      obtain rfl : f = 5 := Option.some.inj ((show Tryd.prog.funcNamed "groupage/groupagelaw03.PackBack" = some 5 by kernel_rfl).symm.trans hf) |>.symm
      obtain rfl : fn = Tryd.f5 := (Option.some.inj (Tryd.func5.symm.trans hfn)).symm
      exact ⟨by kernel_rfl, fun j t ht => by
        rw [Tryd.params5] at ht
        have hm : t ∈ [9, 22, 25] := by simpa using Array.mem_of_getElem? ht
        have hall : ([9, 22, 25].all fun u => !Tryd.prog.wantsStandIn u) = true := by kernel_rfl
        exact (show Tryd.prog.wantsStandIn t = false by simpa using List.all_eq_true.1 hall t hm)⟩)
    (by kernel_rfl)
end Go.Proofs.YtgmcflbbdpbkeaaDoor
