/- Where there is no disk; what the document fixes. -/
import Derived.Test.YtifhbgppjblobaaLogV
namespace Go.Proofs.Ytifhbgppjblobaa
open Go Go.VX Go.RowKit
set_option linter.unusedVariables false
set_option linter.unusedSimpArgs false
set_option maxHeartbeats 20000000
set_option maxRecDepth 100000

theorem vcall_nilFs {P : Program} {nt : Sh} {sl : List (Nat × V)} {ob : List Ob} {k : Nat} {args : List V} {K : V → List Ob → Prop} (id j : Nat) {cs : List V} (ho : ob[id]? = some (.live cs)) (hj : cs[j]? = some .nils)
    (h : vcall P nt ⟨sl, ob.set id (.live (cs.set j (.fs 0 [])))⟩ k args K) : vcall P nt ⟨sl, ob⟩ k args K := by
  refine ⟨h.1, fun C hC Φ H a w s vals hv => ?_⟩
  have hst := HStep.cellTo s.hs.sim id j ho hj (y := .fs 0 []) rfl fun E' _ v hv => by
    simp only [VRep] at hv
    subst hv
    exact ⟨none, 0, [], rfl, Nat.le_refl _, by simp [VReps], fun h => by simp at h⟩
  exact h.2 C hC _ _ a w (s.step hst) vals (VReps.ext hst.ext _ _ hv)
theorem open_some {d d1 : Dk} {n : Nat} {g : Lg} (hd : d.ok n) (hb : byteL d.B) (h : openL d n = (some g, 0, d1)) : VC P 9 [.ptr 0 5 0] (d.obs n) (fun r ob' => r = .tup [.ptr 2 6 0, .int .i64 0] ∧ ob' = d1.obs n ++ [logO 3 g, .live (g.rows.map sB)]) :=
  (open_spec d n hd hb).mono fun r ob' q => by
    unfold openQ at q
    rw [h] at q
    exact q
theorem open_none {d d1 : Dk} {n : Nat} {e : Int} (hd : d.ok n) (hb : byteL d.B) (h : openL d n = (none, e, d1)) : VC P 9 [.ptr 0 5 0] (d.obs n) (fun r ob' => r = .tup [.nilp, .int .i64 e] ∧ ob' = d1.obs n) :=
  (open_spec d n hd hb).mono fun r ob' q => by
    unfold openQ at q
    rw [h] at q
    exact q
theorem only_ok {g g2 : Lg} {d d2 : Dk} {n : Nat} {rs : List (List Int)} (hd : d.ok n) (hh : g.half ≤ 1) (hg : g.gen ≤ 2147483647) (hrl : rs.length < 1048576) (hrb : ∀ b ∈ rs, byteL b) (hrn : ∀ b ∈ rs, b.length < 1099511627776) (h : onlyL g d n rs = (0, g2, d2)) : VC P 12 [.ptr 0 6 0, sBB rs] (lobs g d n) (fun r ob' => r = .int .i64 0 ∧ ∃ old, ob' = [logW 4 g2, dskOb d2 n, .live (bts d2.B), .live old, .live (g2.rows.map sB)]) :=
  (only_spec g d n hd hh hg rs hrl hrb hrn).mono fun r ob' q => by
    unfold onlyQ at q
    rw [h] at q
    refine ⟨q.1, ?_⟩
    rcases q.2 with ⟨_, q⟩ | ⟨q, _⟩
    · exact q
    · exact absurd rfl q
theorem only_bad {g g2 : Lg} {d d2 : Dk} {n : Nat} {e : Int} {rs : List (List Int)} (hd : d.ok n) (hh : g.half ≤ 1) (hg : g.gen ≤ 2147483647) (hrl : rs.length < 1048576) (hrb : ∀ b ∈ rs, byteL b) (hrn : ∀ b ∈ rs, b.length < 1099511627776) (h : onlyL g d n rs = (e, g2, d2)) (he : e ≠ 0) : VC P 12 [.ptr 0 6 0, sBB rs] (lobs g d n) (fun r ob' => r = .int .i64 e ∧ ob' = lobs g2 d2 n) :=
  (only_spec g d n hd hh hg rs hrl hrb hrn).mono fun r ob' q => by
    unfold onlyQ at q
    rw [h] at q
    refine ⟨q.1, ?_⟩
    rcases q.2 with ⟨q, _⟩ | ⟨_, q⟩
    · exact absurd q he
    · exact q
theorem append_is {g g2 : Lg} {d d2 : Dk} {n : Nat} {e : Int} {b : List Int} (hd : d.ok n) (hh : g.half ≤ 1) (hg : g.gen < 4294967296) (hr : g.rows.length < 1048576) (hf : g.fin ≤ n / 2) (hb : byteL b) (hbl : b.length < 1099511627776) (h : appendL g d n b = (e, g2, d2)) : VC P 10 [.ptr 0 6 0, sB b] (lobs g d n) (fun r ob' => r = .int .i64 e ∧ ob' = lobs g2 d2 n) :=
  (append_spec g d n hd hh hg hr hf b hb hbl).mono fun r ob' q => by
    rw [h] at q
    exact q
theorem open_nilp  : VC P 9 [.nilp] [] (fun r ob' => r = .tup [.nilp, .int .i64 1] ∧ ob' = []) := by
  refine VC_of_vwp_k ent_9 Try.func9 rfl (by simp) fun R hR => ?_
  refine vwp_sq [0] fun K1 hK1 => vwp_region hT ?_
  simp
  refine hK1 _ ?_
  try clear hK1 K1
  refine vwp_seq_k fun K2 hK2 => ?_
  refine vwp_sq [0, 2, 3] fun K3 hK3 => vwp_region hT ?_
  simp
  refine hK3 _ ?_
  try clear hK3 K3
  refine vwp_cond (by first | rfl | (simp; rfl)) (fun h1 => ?_) fun h1 => ?_
  · simp -failIfUnchanged at h1; all_goals
   refine vwp_sq [] fun K4 hK4 => vwp_region hT ?_
   simp
   refine hK4 _ ?_
   try clear hK4 K4
   refine vwp_ret (hR _ _ ?_)
   exact ret_k [2, 3] [] ([]) (.tup [.nilp, .int .i64 1]) (⟨rfl, rfl⟩)
  · simp -failIfUnchanged at h1; all_goals
   refine vwp_skip ?_
   refine hK2 _ ?_
   try clear hK2 K2
   refine vwp_seq_k fun K5 hK5 => ?_
   simp at *

/-! ### What the document fixes -/
def okB (d : Dk) (n : Nat) : Bool := decide (d.B.length = 32 * n) && decide (0 ≤ d.torn) && decide (d.torn ≤ 32) && decide (-1 ≤ d.fuse) && decide (d.fuse ≤ 9223372036854775807) && (d.B.all fun x => decide (0 ≤ x ∧ x < 256))
theorem okB_ok {d : Dk} {n : Nat} (h : okB d n = true) (h2 : 2 ≤ n) (h4 : n ≤ 4096) : d.ok n ∧ byteL d.B := by
  simp only [okB, Bool.and_eq_true, decide_eq_true_eq, List.all_eq_true] at h
  obtain ⟨⟨⟨⟨⟨a, b⟩, c⟩, d1⟩, e⟩, f⟩ := h
  exact ⟨⟨a, b, c, d1, h2, h4, e⟩, fun x hx => f x hx⟩
deriving instance DecidableEq for Lg
def q1 : Option Lg × Int × Dk := openL (Dk.new 8) 8
def q2 : Int × Lg × Dk := appendL ⟨0, 1, [], 1, false⟩ q1.2.2 8 [97, 98]
def q3 : Int × Lg × Dk := appendL q2.2.1 (q2.2.2.fused 0 31) 8 [99, 100]
def q4 : Option Lg × Int × Dk := openL q3.2.2.crashed 8
def q5 : Int × Lg × Dk := onlyL ⟨0, 1, [[97, 98]], 2, false⟩ q4.2.2 8 [[120], []]
def q6 : Int × Lg × Dk := appendL ⟨1, 2, [[120], []], 3, false⟩ q5.2.2 8 (List.replicate 18 0)
def sec4 : List Int := headL 2
theorem q_all : q1.1 = some ⟨0, 1, [], 1, false⟩ ∧ q1.2.1 = 0 ∧ okB q1.2.2 8 = true ∧ q2.1 = 0 ∧ q2.2.1 = ⟨0, 1, [[97, 98]], 2, false⟩ ∧ okB q2.2.2 8 = true ∧ q3.1 = 7 ∧ okB q3.2.2 8 = true ∧ q4.1 = some ⟨0, 1, [[97, 98]], 2, false⟩ ∧ q4.2.1 = 0 ∧ okB q4.2.2 8 = true
    ∧ q5.1 = 0 ∧ q5.2.1 = ⟨1, 2, [[120], []], 3, false⟩ ∧ okB q5.2.2 8 = true ∧ q6.1 = 4 ∧ q6.2.1 = ⟨1, 2, [[120], []], 3, false⟩ ∧ okB q6.2.2 8 = true ∧ q6.2.2.sector 4 = sec4 ∧ sec4[3]? = some 2 ∧ sec4[31]? = some 165 := by
  decide +kernel
end Go.Proofs.Ytifhbgppjblobaa
