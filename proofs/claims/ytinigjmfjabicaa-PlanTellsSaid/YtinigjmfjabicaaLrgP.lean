/- Plans that are large: the walk. -/
import Derived.Test.YtinigjmfjabicaaPlS
namespace Go.Proofs.Ytinigjmfjabicaa
open Go Go.VX Go.RowKit
set_option linter.unusedVariables false
set_option linter.unusedSimpArgs false
set_option maxHeartbeats 20000000
set_option maxRecDepth 100000

structure Pn.few (p : Pn) : Prop where
  rs : p.rs.length < 1099511627776
  cat : (catR p.rs).length < 1099511627776
  un : p.un.length < 1099511627776
abbrev Pn.cells (x : Pn) : List V := x.c
instance : Row Pn := ⟨Pn.cells, 2, fun _ => rfl, fun _ _ => rfl⟩
@[simp] theorem cellsPn (x : Pn) : Row.cells x = Pn.cells x := rfl
theorem lenPn (l : List Pn) : (rowsV l).length = l.length * 2 := rowsV_length l
theorem rowPn {l : List Pn} {i : Nat} {x : Pn} (h : l[i]? = some x) : List.take 2 (List.drop (i * 2) (rowsV l)) = Pn.cells x := rowsV_row h
def sizP (p : Pn) : Nat := p.un.length + (catR p.rs).length + p.rs.length
def lrgP (p : Pn) : Bool := decide (200 < sizP p)
theorem lrgP_no {p : Pn} (h : lrgP p = false) : p.few ∧ p.un.length ≤ 200 ∧ p.rs.length ≤ 200 ∧ (catR p.rs).length ≤ 200 := by
  have h1 : ¬ 200 < sizP p := by simpa [lrgP] using h
  unfold sizP at h1
  exact ⟨⟨by omega, by omega, by omega⟩, by omega, by omega, by omega⟩
theorem lrgP_spec (p : Pn) (hu : p.un.length ≤ 140737488355328) (hr : p.rs.length ≤ 140737488355328) (hs : ∀ r ∈ p.rs, r.st.length ≤ 140737488355328) : VC P 34 [.agg p.c] [] (fun r ob' => r = .bool (lrgP p) ∧ ob' = []) := by
  refine VC_of_vwp_k ent_34 Try.func34 rfl (by simp) fun R hR => ?_
  refine vwp_sq [0] fun K1 hK1 => vwp_region hT ?_
  simp
  refine hK1 _ ?_
  try clear hK1 K1
  refine vwp_sq [1] fun K2 hK2 => vwp_region hT ?_
  simp
  refine hK2 _ ?_
  try clear hK2 K2
  refine vwp_seq_k fun K3 hK3 => ?_
  refine vwp_sq [1, 3] fun K4 hK4 => vwp_region hT ?_
  simp
  refine hK4 _ ?_
  try clear hK4 K4
  refine vwp_block ?_
  refine vwp_loop_s (fun i : Nat => ⟨[(1, .ptr 0 2 0), (3, .int .i64 ((p.un.length : Int) + ((catR (p.rs.take i)).length : Int) + (i : Int))), (4, .int .i64 (i : Int))], [.live p.c]⟩) (fun i => i ≤ p.rs.length ∧ ((p.un.length : Int) + ((catR (p.rs.take i)).length : Int) + (i : Int)) ≤ 281474976711000) (fun i => p.rs.length - i) (0) (Gh.to_k [1, 3, 4] [0] (he := by simp [catR])) (⟨by omega, by simp [catR]; omega⟩) ?_
  rintro i ⟨hi, hsz⟩
  intro K5 hK5
  refine vwp_seq_k fun K6 hK6 => ?_
  refine vwp_sq [1, 3, 4] fun K7 hK7 => vwp_region hT ?_
  simp
  refine hK7 _ ?_
  try clear hK7 K7
  refine vwp_cond (by first | rfl | (simp; rfl)) (fun h1 => ?_) fun h1 => ?_
  · simp -failIfUnchanged at h1; all_goals
   have q := h1
   obtain ⟨s, hst⟩ := getI (l := p.rs) (i := i) (by omega)
   obtain ⟨_, hg1⟩ := getRt hst
   have hlen := lenRt p.rs
   have li : i * 2 + 1 < p.rs.length * 2 := by omega
   have hsl := hs s (List.mem_of_getElem? hst)
   have w2 : IntKind.i64.wrap (((p.un.length : Int) + ((catR (p.rs.take i)).length : Int) + (i : Int)) + (s.st.length : Int)) = ((p.un.length : Int) + ((catR (p.rs.take i)).length : Int) + (i : Int)) + s.st.length := w64 (by omega) (by omega)
   have w3 : IntKind.i64.wrap (((p.un.length : Int) + ((catR (p.rs.take i)).length : Int) + (i : Int)) + (s.st.length : Int) + 1) = ((p.un.length : Int) + ((catR (p.rs.take i)).length : Int) + (i : Int)) + s.st.length + 1 := w64 (by omega) (by omega)
   refine vwp_skip ?_
   refine hK6 _ ?_
   try clear hK6 K6
   refine vwp_seq_k fun K8 hK8 => ?_
   refine vwp_block ?_
   refine vwp_live [1, 3, 4] (vwp_region hT ?_)
   simp [hg1, hlen, w2, w3]
   repeat refine ⟨by first | assumption | omega | (intros; omega), ?_⟩
   refine hK8 _ ?_
   try clear hK8 K8
   have w1 : IntKind.i64.wrap ((i : Int) + 1) = i + 1 := w64 (by omega) (by omega)
   refine vwp_live [1, 3, 4] (vwp_region hT ?_)
   simp [w1]
   exact hK5 (i + 1) _ (Gh.to_k [1, 3, 4] [0] (he := by rw [catR_take hst, List.length_append]; simp; omega)) (⟨by omega, by rw [catR_take hst, List.length_append]; omega⟩) (by omega)
  · simp -failIfUnchanged at h1; all_goals
   have q := h1
   refine vwp_exit ?_
   simp only [inBlk, thenQ, if_true]
   refine hK3 _ ?_
   try clear hK3 K3
   refine vwp_sq [3] fun K9 hK9 => vwp_region hT ?_
   simp
   refine hK9 _ ?_
   try clear hK9 K9
   refine vwp_ret (hR _ _ ?_)
   have hw : lrgP p = decide (200 < ((p.un.length : Int) + ((catR (p.rs.take i)).length : Int) + (i : Int))) := by
     have h1 := catR_le p.rs i
     unfold lrgP sizP
     refine decide_eq_decide.2 ?_
     by_cases e : i = p.rs.length
     · subst e; rw [List.take_length]; omega
     · omega
   rw [hw]
   exact ret_k [2] [] ([]) (.bool (decide (200 < ((p.un.length : Int) + ((catR (p.rs.take i)).length : Int) + (i : Int))))) (⟨rfl, rfl⟩)
end Go.Proofs.Ytinigjmfjabicaa
