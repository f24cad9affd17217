/- Views counted; what is fixed of them: the walk. -/
import Derived.Test.YtmpakfpmmkfgpaaLbL
namespace Go.Proofs.Ytmpakfpmmkfgpaa
open Go Go.VX Go.RowKit
set_option linter.unusedVariables false
set_option linter.unusedSimpArgs false
set_option maxHeartbeats 20000000
set_option maxRecDepth 100000

instance : Row Vw := ⟨Vw.cells, 6, fun _ => rfl, fun _ _ => rfl⟩
@[simp] theorem cellsVw (x : Vw) : Row.cells x = Vw.cells x := rfl
theorem lenVw (l : List Vw) : (rowsV l).length = l.length * 6 := rowsV_length l
theorem rowVw {l : List Vw} {i : Nat} {x : Vw} (h : l[i]? = some x) : List.take 6 (List.drop (i * 6) (rowsV l)) = Vw.cells x := rowsV_row h
theorem dropVw {l : List Vw} {i : Nat} {x : Vw} (h : l[i]? = some x) : List.drop (i * 6) (rowsV l) = Vw.cells x ++ rowsV (l.drop (i + 1)) := rowsV_drop h
theorem snocVw (l : List Vw) (x : Vw) : rowsV l ++ Vw.cells x = rowsV (l ++ [x]) := (rowsV_snoc l x).symm
theorem putVw {l : List Vw} {i : Nat} (h : i < l.length) (y : Vw) : List.take (i * 6) (rowsV l) ++ (Vw.cells y ++ List.drop (i * 6 + 6) (rowsV l)) = rowsV (l.set i y) := rowsV_put h y
theorem splVw {l : List Vw} {i : Nat} (h : i < l.length) (y : Vw) : spl (rowsV l) (i * 6) (Vw.cells y) = rowsV (l.set i y) := by
  rw [spl_eq (by rw [lenVw]; simp; omega), List.append_assoc]; exact putVw h y
theorem getVw {l : List Vw} {i : Nat} {x : Vw} (h : l[i]? = some x) : (rowsV l)[i * 6]? = some (fsV x.rs) ∧ (rowsV l)[i * 6 + 1]? = some (sI x.fs) ∧ (rowsV l)[i * 6 + 2]? = some (.int .i64 x.am) ∧ (rowsV l)[i * 6 + 3]? = some (.int .i64 x.ru) ∧ (rowsV l)[i * 6 + 4]? = some (.bool x.fe) ∧ (rowsV l)[i * 6 + 5]? = some (sI x.gs) :=
  ⟨rowsV_get (j := 0) h (by show 0 < 6; omega), rowsV_get (j := 1) h (by show 1 < 6; omega), rowsV_get (j := 2) h (by show 2 < 6; omega), rowsV_get (j := 3) h (by show 3 < 6; omega), rowsV_get (j := 4) h (by show 4 < 6; omega), rowsV_get (j := 5) h (by show 5 < 6; omega)⟩

def Vw.small (v : Vw) : Prop := v.rs.length ≤ 60 ∧ v.fs.length ≤ 60 ∧ v.gs.length ≤ 60
def Vw.many (v : Vw) : Int := 4 * v.rs.length + v.fs.length + 3 + v.gs.length
def relP (l : List Vw) : Int := (l.map Vw.many).sum
theorem relP_snoc (l : List Vw) (v : Vw) : relP (l ++ [v]) = relP l + v.many := by simp [relP]
theorem relP_le {l : List Vw} (h : ∀ v ∈ l, v.small) : 0 ≤ relP l ∧ relP l ≤ 400 * l.length := by
  induction l with
  | nil => simp [relP]
  | cons a l ih =>
    have h1 := ih fun v hv => h v (by simp [hv])
    obtain ⟨g1, g2, g3⟩ := h a (by simp)
    have e : relP (a :: l) = a.many + relP l := by simp [relP]
    rw [e, List.length_cons]
    unfold Vw.many
    omega
theorem released_spec (l : List Vw) (hl : l.length ≤ 20) (hs : ∀ v ∈ l, v.small) : VC P 15 [fsV l] [] (fun r ob' => r = .int .i64 (relP l) ∧ ob' = []) := by
  refine VC_of_vwp_k ent_15 Try.func15 rfl (by simp) fun R hR => ?_
  refine vwp_sq [0] fun K1 hK1 => vwp_region hT ?_
  simp
  refine hK1 _ ?_
  try clear hK1 K1
  refine vwp_sq [0] fun K2 hK2 => vwp_region hT ?_
  simp
  refine hK2 _ ?_
  try clear hK2 K2
  refine vwp_seq_k fun K3 hK3 => ?_
  refine vwp_sq [0, 3] fun K4 hK4 => vwp_region hT ?_
  simp
  refine hK4 _ ?_
  try clear hK4 K4
  refine vwp_block ?_
  refine vwp_loop_s (fun i : Nat => ⟨[(3, .int .i64 (relP (l.take i))), (6, fsV l), (7, .int .i64 l.length), (8, .int .i64 (i : Int))], []⟩) (fun i => i ≤ l.length) (fun i => l.length - i) (0) (Gh.to_k [3, 6, 7, 8] [] (he := by simp [relP])) (by omega) ?_
  rintro i hi
  intro K5 hK5
  refine vwp_sq [3, 6, 7, 8] fun K6 hK6 => vwp_region hT ?_
  simp
  refine hK6 _ ?_
  try clear hK6 K6
  refine vwp_seq_k fun K7 hK7 => ?_
  refine vwp_cond (by first | rfl | (simp; rfl)) (fun h1 => ?_) fun h1 => ?_
  · simp -failIfUnchanged at h1; all_goals
   refine vwp_skip ?_
   refine hK7 _ ?_
   try clear hK7 K7
   refine vwp_seq_k fun K8 hK8 => ?_
   refine vwp_block ?_
   obtain ⟨s, hs1⟩ := getI (l := l) (i := i) (by omega)
   have hrow := rowVw hs1
   have hlen := lenVw l
   have hsm := hs s (List.mem_of_getElem? hs1)
   obtain ⟨g1, g2, g3⟩ := hsm
   have hb := relP_le (l := l.take i) fun v hv => hs v (List.mem_of_mem_take hv)
   rw [List.length_take, Nat.min_eq_left hi] at hb
   have htk : relP (l.take (i + 1)) = relP (l.take i) + s.many := by rw [take_snoc hs1, relP_snoc]
   obtain ⟨rp, hrp⟩ : ∃ r, r = relP (l.take i) := ⟨_, rfl⟩
   rw [← hrp] at hb htk ⊢
   refine vwp_sq [3, 6, 7, 8] fun K9 hK9 => vwp_region hT ?_
   simp [hrow, hlen]
   repeat refine ⟨by first | assumption | omega | (intros; omega), ?_⟩
   refine hK9 _ ?_
   try clear hK9 K9
   have v1 : IntKind.i64.wrap (4 * (s.rs.length : Int)) = 4 * (s.rs.length : Int) := w64 (by omega) (by omega)
   have v2 : IntKind.i64.wrap (4 * (s.rs.length : Int) + (s.fs.length : Int)) = 4 * (s.rs.length : Int) + (s.fs.length : Int) := w64 (by omega) (by omega)
   have v3 : IntKind.i64.wrap (4 * (s.rs.length : Int) + (s.fs.length : Int) + 3) = 4 * (s.rs.length : Int) + (s.fs.length : Int) + 3 := w64 (by omega) (by omega)
   have v4 : IntKind.i64.wrap (4 * (s.rs.length : Int) + (s.fs.length : Int) + 3 + (s.gs.length : Int)) = 4 * (s.rs.length : Int) + (s.fs.length : Int) + 3 + (s.gs.length : Int) := w64 (by omega) (by omega)
   have v5 : IntKind.i64.wrap (rp + (4 * (s.rs.length : Int) + (s.fs.length : Int) + 3 + (s.gs.length : Int))) = rp + (4 * (s.rs.length : Int) + (s.fs.length : Int) + 3 + (s.gs.length : Int)) := w64 (by omega) (by omega)
   refine vwp_live [3, 5, 6, 7, 8] (vwp_region hT ?_)
   simp [v1, v2, v3, v4, v5]
   refine hK8 _ ?_
   try clear hK8 K8
   have w1 : IntKind.i64.wrap ((i : Int) + 1) = i + 1 := w64 (by omega) (by omega)
   refine vwp_live [3, 6, 7, 8] (vwp_region hT ?_)
   simp [w1]
   exact hK5 (i + 1) _ (Gh.to_k [3, 6, 7, 8] [] (he := by simp [htk, Vw.many] <;> omega)) (by omega) (by omega)
  · simp -failIfUnchanged at h1; all_goals
   refine vwp_exit ?_
   simp only [inBlk, thenQ, if_true]
   refine hK3 _ ?_
   try clear hK3 K3
   refine vwp_sq [3] fun K10 hK10 => vwp_region hT ?_
   simp
   refine hK10 _ ?_
   try clear hK10 K10
   refine vwp_ret (hR _ _ ?_)
   obtain rfl : i = l.length := by omega
   rw [List.take_length]
   exact ret_k [2] [] ([]) (.int .i64 (relP l)) (⟨rfl, rfl⟩)
theorem dreleased_spec (l : List Vw) (hl : l.length ≤ 20) (hs : ∀ v ∈ l, v.small) : VC P 16 [fsV l] [] (fun r ob' => r = .int .i64 (relP l) ∧ ob' = []) := by
  refine VC_of_vwp_k ent_16 Try.func16 rfl (by simp) fun R hR => ?_
  refine vwp_sq [0] fun K1 hK1 => vwp_region hT ?_
  simp
  refine hK1 _ ?_
  try clear hK1 K1
  refine vwp_sq [0] fun K2 hK2 => vwp_region hT ?_
  simp
  refine hK2 _ ?_
  try clear hK2 K2
  refine vwp_seq_k fun K3 hK3 => ?_
  refine vwp_sq [0, 3] fun K4 hK4 => vwp_region hT ?_
  simp
  refine hK4 _ ?_
  try clear hK4 K4
  refine vwp_block ?_
  refine vwp_loop_s (fun i : Nat => ⟨[(0, fsV l), (3, .int .i64 (relP (l.take i))), (4, .int .i64 (i : Int))], []⟩) (fun i => i ≤ l.length) (fun i => l.length - i) (0) (Gh.to_k [0, 3, 4] [] (he := by simp [relP])) (by omega) ?_
  rintro i hi
  intro K5 hK5
  refine vwp_seq_k fun K6 hK6 => ?_
  refine vwp_sq [0, 3, 4] fun K7 hK7 => vwp_region hT ?_
  simp
  refine hK7 _ ?_
  try clear hK7 K7
  refine vwp_cond (by first | rfl | (simp; rfl)) (fun h1 => ?_) fun h1 => ?_
  · simp -failIfUnchanged at h1; all_goals
   refine vwp_skip ?_
   refine hK6 _ ?_
   try clear hK6 K6
   refine vwp_seq_k fun K8 hK8 => ?_
   refine vwp_block ?_
   obtain ⟨s, hs1⟩ := getI (l := l) (i := i) (by omega)
   obtain ⟨q0, q1, q2, q3, q4, q5⟩ := getVw hs1
   have li : i * 6 + 5 < l.length * 6 := by omega
   have hlen := lenVw l
   have hsm := hs s (List.mem_of_getElem? hs1)
   obtain ⟨g1, g2, g3⟩ := hsm
   have hb := relP_le (l := l.take i) fun v hv => hs v (List.mem_of_mem_take hv)
   rw [List.length_take, Nat.min_eq_left hi] at hb
   have htk : relP (l.take (i + 1)) = relP (l.take i) + s.many := by rw [take_snoc hs1, relP_snoc]
   obtain ⟨rp, hrp⟩ : ∃ r, r = relP (l.take i) := ⟨_, rfl⟩
   rw [← hrp] at hb htk ⊢
   have v1 : IntKind.i64.wrap (rp + 3) = rp + 3 := w64 (by omega) (by omega)
   have v2 : IntKind.i64.wrap (4 * (s.rs.length : Int)) = 4 * (s.rs.length : Int) := w64 (by omega) (by omega)
   have v3 : IntKind.i64.wrap (rp + 3 + 4 * (s.rs.length : Int)) = rp + 3 + 4 * (s.rs.length : Int) := w64 (by omega) (by omega)
   have v4 : IntKind.i64.wrap (rp + 3 + 4 * (s.rs.length : Int) + (s.fs.length : Int)) = rp + 3 + 4 * (s.rs.length : Int) + (s.fs.length : Int) := w64 (by omega) (by omega)
   have v5 : IntKind.i64.wrap (rp + 3 + 4 * (s.rs.length : Int) + (s.fs.length : Int) + (s.gs.length : Int)) = rp + 3 + 4 * (s.rs.length : Int) + (s.fs.length : Int) + (s.gs.length : Int) := w64 (by omega) (by omega)
   refine vwp_live [0, 3, 4] (vwp_still hT hm (by kernel_rfl) ?_)
   simp [q0, q1, q5, hlen, v1, v2, v3, v4, v5]
   repeat refine ⟨by first | assumption | omega | (intros; omega), ?_⟩
   refine hK8 _ ?_
   try clear hK8 K8
   have w1 : IntKind.i64.wrap ((i : Int) + 1) = i + 1 := w64 (by omega) (by omega)
   refine vwp_live [0, 3, 4] (vwp_region hT ?_)
   simp [w1]
   exact hK5 (i + 1) _ (Gh.to_k [0, 3, 4] [] (he := by simp [htk, Vw.many] <;> omega)) (by omega) (by omega)
  · simp -failIfUnchanged at h1; all_goals
   refine vwp_exit ?_
   simp only [inBlk, thenQ, if_true]
   refine hK3 _ ?_
   try clear hK3 K3
   refine vwp_sq [3] fun K9 hK9 => vwp_region hT ?_
   simp
   refine hK9 _ ?_
   try clear hK9 K9
   refine vwp_ret (hR _ _ ?_)
   obtain rfl : i = l.length := by omega
   rw [List.take_length]
   exact ret_k [2] [] ([]) (.int .i64 (relP l)) (⟨rfl, rfl⟩)
end Go.Proofs.Ytmpakfpmmkfgpaa
