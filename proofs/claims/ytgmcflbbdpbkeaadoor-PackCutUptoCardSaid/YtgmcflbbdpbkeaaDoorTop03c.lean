/- PackCut holds, where what it reads is of bulk at most 1048576: bytes of values that end too early tell none; with a byte more they tell none, or begin with them. -/
import Derived.Test.YtgmcflbbdpbkeaaDoorRows
import Derived.Test.YtgmcflbbdpbkeaaDoorCards
import Derived.Test.YtgmcflbbdpbkeaaDoorTie
import Derived.ProofKit
import Derived.OpenShut
import Derived.LaidMore
import Derived.Lay
import Derived.SevenTiedAt
import Derived.Stop.Joined
import Derived.Deep.DeepHandedRow
import Derived.Test.YtgmcflbbdpbkeaaDoorVXc
import Derived.Test.YtgmcflbbdpbkeaaDoorPkW
namespace Go.Proofs.YtgmcflbbdpbkeaaDoor
open Go Go.VX Go.RowKit Go.ChangeShapes
set_option linter.unusedVariables false
set_option linter.unusedSimpArgs false
set_option maxHeartbeats 1000000
set_option maxRecDepth 100000

theorem own : ownKnob Tryd.prog.godebug = none := by kernel_rfl
theorem laidOut : laidOutB Tryd.prog = true := by kernel_rfl
def pvTy : Ty := .struct (.cons (.int .i64) (.cons .str .nil))
theorem fits_pv (cs : List V) (h : Fits pvTy cs) : ∃ x : PV, cs = x.cells ∧ x.t.size ≤ 140737488355328 := by
  simp only [pvTy, Fits] at h
  obtain ⟨_, _, rfl, ⟨n, rfl, a⟩, _, _, rfl, ⟨t, rfl, ht⟩, rfl⟩ := h
  have h8 : reachBytes ≤ 140737488355328 := by decide
  exact ⟨⟨n, t⟩, rfl, Nat.le_trans ht h8⟩
theorem argFits_pvs {x : V} (h : ArgFits (.slice pvTy) x) : ∃ l : List PV, x = sV l ∧ l.length ≤ 140737488355328 ∧ ∀ x ∈ l, x.t.size ≤ 140737488355328 := by
  obtain ⟨l, h1, h2, h3⟩ := argFits_slice PV.cells _ fits_pv h
  exact ⟨l, h1, by have : reachBytes ≤ 140737488355328 := by decide
                   omega, h3⟩
theorem byteL_fits {b : List Int} (h : ∀ a ∈ b, IntKind.u8.min ≤ a ∧ a ≤ IntKind.u8.max) : byteL b := fun x hx => by
  have h1 := h x hx
  have e1 : IntKind.u8.min = 0 := rfl
  have e2 : IntKind.u8.max = 255 := rfl
  omega
mutual
theorem up_d {H : Type} : ∀ d : DataW H, bulkD d = Rows.uptoBulk d
  | .lit l => by cases l <;> simp [bulkD, Rows.uptoBulk]
  | .nil => by simp [bulkD, Rows.uptoBulk]
  | .ptr d => by simp [bulkD, Rows.uptoBulk, up_d d]
  | .slice e s => by simp [bulkD, Rows.uptoBulk, up_ds e, up_ds s]
  | .agg p => by simp [bulkD, Rows.uptoBulk, up_ds p]
  | .iface _ d => by simp [bulkD, Rows.uptoBulk, up_d d]
  | .map es => by simp [bulkD, Rows.uptoBulk, up_es es]
  | .held _ => by simp [bulkD, Rows.uptoBulk]
theorem up_ds {H : Type} : ∀ l : List (DataW H), bulkDs l = Rows.uptoBulkAll l
  | [] => by simp [bulkDs, Rows.uptoBulkAll]
  | d :: r => by simp [bulkDs, Rows.uptoBulkAll, up_d d, up_ds r]
theorem up_es {H : Type} : ∀ l : List (Lit × DataW H), bulkEs l = Rows.uptoBulkEntries l
  | [] => by simp [bulkEs, Rows.uptoBulkEntries]
  | x :: r => by simp [bulkEs, Rows.uptoBulkEntries, up_e x, up_es r]
theorem up_e {H : Type} : ∀ x : Lit × DataW H, bulkE x = Rows.uptoBulkEntry x
  | (l, d) => by cases l <;> simp [bulkE, Rows.uptoBulkEntry, up_d d]
end
theorem vbs_vcs (l : List PV) : vbs (vcs l) = (l.map fun x => x.t.size + 2).sum := by
  induction l with
  | nil => simp [vbs]
  | cons x l ih => rw [vcs_cons]; simp only [vbs, vb, List.map_cons, List.sum_cons, ih]; omega
theorem sum_most (l : List PV) (n : Nat) (h : (l.map fun x => x.t.size + 2).sum ≤ n) : l.length ≤ n ∧ ∀ x ∈ l, x.t.size ≤ n := by
  induction l generalizing n with
  | nil => simp
  | cons y l ih =>
    simp only [List.map_cons, List.sum_cons] at h
    obtain ⟨h1, h2⟩ := ih (n - (y.t.size + 2)) (by omega)
    refine ⟨by rw [List.length_cons]; omega, fun x hx => ?_⟩
    rcases List.mem_cons.1 hx with rfl | hx
    · omega
    · have := h2 x hx; omega
theorem packCut_spec_fn (H : Type) (ds : List (DataW H)) (h : ds.length = 4) : Rows.packCutSpec.fn H ds = { results := [.lit (.bool true)], args := ds } := by
  match ds, h with
  | [d0, d1, d2, d3], _ => rfl
theorem packCut_contract (H : Type) (enc : TypeId × Value → H) (W : World) (base : Nat) (args : Array Value) (ds gs : List (DataW H)) (before : List MemPlace)
    (hval : ∀ (j : Nat) t v, Tryd.f6.params[j]? = some t → args[j]? = some v → Value.okWide Tryd.prog W .any base t v)
    (hW : DataW.Whole enc Tryd.prog Tryd.f6.params.toList Rows.packCutSpec.vars false W args.toList ds gs before)
    (hcond : Rows.uptoSmall H (ds ++ gs) = true) (hsz : (DataW.weightsEach Tryd.prog (Tryd.f6.params.toList ++ Rows.packCutSpec.plain.varTypes Tryd.prog) (ds ++ gs)).all (· ≤ reachBytes) = true) :
    Calls Tryd.prog 6 args W fun e W' => ∃ v, e = .returned v ∧ Rows.packCutSpec.post enc Tryd.prog Tryd.f6 false true false false W args v W' := by
  have hbk : bulkDs ds ≤ 1048576 := by
    have h1 := of_decide_eq_true hcond
    rw [← up_ds, bulkDs_append] at h1
    omega
  refine law_calls (tys := [.str, .slice pvTy, .int .i64, .int .u8]) laidOut (by kernel_rfl) rfl Tryd.underlying4 rfl (fun H ds hd => packCut_spec_fn H ds hd) hval hW hsz fun xs hx hb => ?_
  obtain ⟨x1, r1, rfl, f1, hx⟩ := allFit_cons hx
  obtain ⟨x2, r2, rfl, f2, hx⟩ := allFit_cons hx
  obtain ⟨x3, r3, rfl, f3, hx⟩ := allFit_cons hx
  obtain ⟨x4, r4, rfl, f4, hx⟩ := allFit_cons hx
  obtain rfl := allFit_nil hx
  have h8 : reachBytes ≤ 140737488355328 := by decide
  obtain ⟨f, rfl, hf⟩ := argFits_str f1
  obtain ⟨l, rfl, hl, ht⟩ := argFits_pvs f2
  obtain ⟨a, rfl, _⟩ := argFits_int f3
  obtain ⟨x, rfl, hx1, hx2⟩ := argFits_int f4
  have e1 : IntKind.u8.min = 0 := rfl
  have e2 : IntKind.u8.max = 255 := rfl
  have hbb : bulkVs [V.str f, sV l, V.int .i64 a, V.int .u8 x] = f.size + 1 + ((l.map fun x => x.t.size + 2).sum + 1) + 1 + 1 := by
    rw [← vbs_vcs]
    simp [bulkVs, bulkV, vb]
    omega
  rw [hbb] at hb
  obtain ⟨h1, h2⟩ := sum_most l 1048576 (by omega)
  exact (law_cut f (by omega) l (by omega) (fun x hx => by have := h2 x hx; omega) a x (by omega)).mono fun r ob' h => h.1
theorem packCut_reads (os : Os) {H : Type} (enc : TypeId × Value → H) : ∃ places, DataW.whole enc Tryd.prog ((World.laidAll Tryd.prog os Rows.packCutUptoRow.laid).forCall (fun _ _ => 0) ⟨#[], #[.string ⟨#[]⟩, .slice none 0 0, .int .i64 0, .int .u8 0], []⟩).memory Tryd.f6.params.toList Rows.packCutSpec.vars false (#[.string ⟨#[]⟩, .slice none 0 0, .int .i64 0, .int .u8 0] : Array Value).toList 8 = some ([.lit (.string []), .nil, .lit (.int .i64 0), .lit (.int .u8 0)], [], places) :=
  ⟨[], by kernel_rfl⟩
set_option maxRecDepth 100000 in
theorem packCut_lifted (os : Os) (started : os.Started) (H : Type) (enc : TypeId × Value → H) (F : Stop.Interp) :
    ReturnsInHanded {} Tryd.checked os 6 .any ((Rows.OpenSpec.upto Rows.packCutSpec).preRow enc Tryd.prog Tryd.f6 Rows.packCutUptoRow.domain false Rows.packCutUptoRow.laid) (((Rows.OpenSpec.upto Rows.packCutSpec).at F).post enc Tryd.prog Tryd.f6 false true false false) := by
  obtain ⟨places, hx⟩ := packCut_reads os enc
  refine returnsInHanded_of_row (C := Tryd.checked) (s := Rows.OpenSpec.upto Rows.packCutSpec) own started (by kernel_rfl) Tryd.func6
    (witness_row_at (enc := enc) (C := Tryd.checked) false (World.laidAll Tryd.prog os Rows.packCutUptoRow.laid) #[.string ⟨#[]⟩, .slice none 0 0, .int .i64 0, .int .u8 0] (World.laidAll_os _ _ _) (by kernel_rfl) (by kernel_rfl) (by kernel_rfl)
      (OpenSpec.preRow_of_cond 8 hx (by kernel_rfl) (fun k hk => by cases hk; kernel_rfl) (by kernel_rfl) (laidMet_laidAll _ (by kernel_rfl) (by kernel_rfl)))) ?_
  intro W base args ds gs before hval hW _ hcond hsz _ _ _
  exact packCut_contract H enc W base args ds gs before hval hW (hcond _ rfl) hsz
theorem packCut_over : Rows.packCutUptoRow.holds Tryd.pinned (Rows.OpenSpec.upto Rows.packCutSpec) :=
  OpenClaim.holds_of_cond 6 Tryd.f6 rfl rfl rfl rfl rfl rfl rfl ⟨rfl, rfl, rfl, rfl, rfl⟩ rfl rfl rfl rfl rfl (by kernel_rfl) Tryd.func6 (by kernel_rfl)
    (of_decide_eq_true (by kernel_rfl)) (by unfold Func.isWrapper; first | (rw [if_pos (by decide +kernel)]; kernel_rfl) | (rw [if_neg (by decide +kernel)]; exact ⟨rfl, rfl⟩))
    (fun os started H enc _ F => by rw [OpenClaim.pre_eq_preRow]; exact packCut_lifted os started H enc F)
/-- The statement: the second form's tied card. -/
theorem packCutUpto_holds : Rows.PackCutUptoCardSaid :=
  Claim7.holds_tied_plain_at .later [] [.data, .pinned] true (true, "54529eb23776f700dcaca41db426fec7da9ce3ccc06c57e9835fe81a656c2c57") true packCut_over (fun _ h => by cases h) (by kernel_rfl) (fun _ h => by cases h) packCutUpto_row_tie rfl ⟨rfl, rfl⟩ (by kernel_rfl) rfl
    (fun f fn hf hfn => by
      obtain rfl : f = 6 := Option.some.inj ((show Tryd.prog.funcNamed "groupage/groupagelaw03.PackCut" = some 6 by kernel_rfl).symm.trans hf) |>.symm
      obtain rfl : fn = Tryd.f6 := (Option.some.inj (Tryd.func6.symm.trans hfn)).symm
      exact ⟨by kernel_rfl, fun j t ht => by
        rw [Tryd.params6] at ht
        have hm : t ∈ [9, 22, 3, 5] := by simpa using Array.mem_of_getElem? ht
        have hall : ([9, 22, 3, 5].all fun u => !Tryd.prog.wantsStandIn u) = true := by kernel_rfl
        exact (show Tryd.prog.wantsStandIn t = false by simpa using List.all_eq_true.1 hall t hm)⟩)
    (by kernel_rfl)
end Go.Proofs.YtgmcflbbdpbkeaaDoor
