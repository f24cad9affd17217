/- One place of a row deleted, in an array that may go on behind it. -/
import Derived.Test.YthjpaongoflgiaaShap5
namespace Go.Proofs.Ythjpaongoflgiaa
open Go Go.VX Go.RowKit
set_option linter.unusedVariables false
set_option linter.unusedSimpArgs false
set_option maxHeartbeats 20000000
set_option maxRecDepth 100000

theorem spl_mid {A D : List Int} {k : Nat} (hA : A.length = k) (hD : 0 < D.length) : spl ((A ++ D).map (V.int .i64)) k [.int .i64 0] = (A ++ [0] ++ D.drop 1).map (V.int .i64) := by
  have e : (A.map (V.int .i64)).length = k := by simpa using hA
  rw [spl_eq (by simp; omega), List.map_append, List.take_left' e]
  have e2 : List.drop (k + [V.int .i64 0].length) (A.map (V.int .i64) ++ D.map (V.int .i64)) = (D.map (V.int .i64)).drop 1 := by
    rw [← e, List.drop_append]
    simp
  rw [e2]
  simp
theorem spl_nil {cs : List V} {k : Nat} (h : k ≤ cs.length) : spl cs k [] = cs := by
  rw [spl_eq (by simpa using h)]
  simp
theorem del_row {X : List Int} {t n i : Nat} (hX : X.length = t) (hn : n ≤ t) (hi : i + 1 < n) : spl (X.map (V.int .i64)) i ((X.map (V.int .i64)).drop (i + 1) |>.take (n - (i + 1))) = (X.take i ++ (X.drop (i + 1)).take (n - (i + 1)) ++ X.drop (n - 1)).map (V.int .i64) := by
  rw [spl_eq (by simp; omega)]
  simp only [List.map_append, List.map_take, List.map_drop, List.length_take, List.length_drop, List.length_map, hX]
  congr 2
  omega
theorem del_zero {X : List Int} {t n i : Nat} (hX : X.length = t) (hn : n ≤ t) (hi : i < n) : spl ((X.take i ++ (X.drop (i + 1)).take (n - (i + 1)) ++ X.drop (n - 1)).map (V.int .i64)) (n - 1) [.int .i64 0] = (X.take i ++ (X.drop (i + 1)).take (n - (i + 1)) ++ [0] ++ X.drop n).map (V.int .i64) := by
  rw [spl_mid (by simp; omega) (by simp; omega), List.drop_drop]
  have : n - 1 + 1 = n := by omega
  rw [this]
/-- The row behind it. -/
def delX (X : List Int) (n i : Nat) : List Int := X.take i ++ (X.drop (i + 1)).take (n - (i + 1)) ++ [0] ++ X.drop n
theorem delete_spec (X : List Int) (t n i : Nat) (hX : X.length = t) (hn : n ≤ t) (hn2 : t < 1099511627776) (hi : i < n) : VC P 49 [.sl 0 t 1 0 n, .int .i64 i, .int .i64 ((i : Int) + 1)] [.live (X.map (.int .i64))] (fun r ob' => r = .sl 0 t 1 0 (n - 1) ∧ ob' = [.live ((delX X n i).map (.int .i64))]) := by
  refine VC_of_vwp_k ent_49 Try.func49 rfl (by simp) fun R hR => ?_
  refine vwp_sq [0, 1, 2] fun K1 hK1 => vwp_region hT ?_
  simp
  refine hK1 _ ?_
  try clear hK1 K1
  refine vwp_sq [0, 1, 2] fun K2 hK2 => vwp_region hT ?_
  simp [hX]
  repeat refine ⟨by first | assumption | omega | (intros; omega), ?_⟩
  refine hK2 _ ?_
  try clear hK2 K2
  refine vwp_seq_k fun K3 hK3 => ?_
  refine vwp_sq [0, 1, 2] fun K4 hK4 => vwp_region hT ?_
  simp
  refine hK4 _ ?_
  try clear hK4 K4
  refine vwp_cond (by first | rfl | (simp; rfl)) (fun h1 => ?_) fun h1 => ?_
  · simp -failIfUnchanged at h1; all_goals
   refine vwp_seq_k fun K5 hK5 => ?_
   omega
  · simp -failIfUnchanged at h1; all_goals
   refine vwp_skip ?_
   refine hK3 _ ?_
   try clear hK3 K3
   refine vwp_sq [0, 1, 2] fun K6 hK6 => vwp_region hT ?_
   simp [hX]
   refine hK6 _ ?_
   try clear hK6 K6
   refine vwp_seq_k fun K7 hK7 => ?_
   have hit : i < t := by omega
   rcases Nat.lt_or_ge (i + 1) n with hlt | hge
   · have q1 : vsub ((i : Int) + 1) (n : Int) (.sl 0 t 1 (i + 1) (n - (i + 1))) = .sl 0 t 1 (i + 1) (n - (i + 1)) := vsub_lt (by omega)
     have q2 : i ≤ n := by omega
     have q3 : (i : Int) + 1 ≤ n := by omega
     have q4 : i + (n - (i + 1)) = n - 1 := by omega
     have q5 : n - (n - 1) = 1 := by omega
     have q6 : n - 1 ≤ n := by omega
     have q7 : vsub ((n - 1 : Nat) : Int) (n : Int) (.sl 0 t 1 (n - 1) 1) = .sl 0 t 1 (n - 1) 1 := vsub_lt (by omega)
     have q8 := del_row hX hn hlt
     have q9 := del_zero (X := X) (i := i) hX hn hi
     obtain ⟨M, hM⟩ : ∃ M, M = X.take i ++ (X.drop (i + 1)).take (n - (i + 1)) ++ X.drop (n - 1) := ⟨_, rfl⟩
     have hMl : M.length = t := by rw [hM]; simp; omega
     rw [← hM] at q8 q9
     change _ = (delX X n i).map _ at q9
     refine vwp_live [0, 1, 2, 7] (vwp_storm hT hm [.pure, .pure, .win 0 0, .pure, .pure, .win 0 0, .mv, .pure] [[], [], [0, 1], [], [], [3, 4], [0, 1, 2, 3, 4, 5], [0, 1, 2, 3, 4, 5, 6]] (by kernel_rfl) ?_)
     simp [hX, q1, hi, hit, q2, q4, q6, q8]
     repeat refine ⟨by first | assumption | omega | (intros; omega), ?_⟩
     refine hK7 _ ?_
     try clear hK7 K7
     refine vwp_sq [0, 7] fun K8 hK8 => vwp_region hT ?_
     simp [hMl, q6, q7, q5, q9]
     repeat refine ⟨by first | assumption | omega | (intros; omega), ?_⟩
     refine hK8 _ ?_
     try clear hK8 K8
     refine vwp_sq [0] fun K9 hK9 => vwp_region hT ?_
     simp
     refine hK9 _ ?_
     try clear hK9 K9
     refine vwp_ret (hR _ _ ?_)
     exact ret_k [6] [0] ([.live ((delX X n i).map (.int .i64))]) (.sl 0 t 1 0 (n - 1)) (⟨rfl, rfl⟩)
   · have q0 : n = i + 1 := by omega
     subst q0
     refine vwp_live [0, 1, 2, 7] (vwp_storm hT hm [.pure, .pure, .win 0 0, .pure, .pure, .win 0 0, .mv, .pure] [[], [], [0, 1], [], [], [3, 4], [0, 1, 2, 3, 4, 5], [0, 1, 2, 3, 4, 5, 6]] (by kernel_rfl) ?_)
     simp [hX, hit, vsub_eq, spl_nil (cs := X.map (V.int .i64)) (k := i) (by simp; omega)]
     repeat refine ⟨by first | assumption | omega | (intros; omega), ?_⟩
     refine hK7 _ ?_
     try clear hK7 K7
     refine vwp_sq [0, 7] fun K10 hK10 => vwp_region hT ?_
     simp [hX]
     repeat refine ⟨by first | assumption | omega | (intros; omega), ?_⟩
     refine hK10 _ ?_
     try clear hK10 K10
     refine vwp_sq [0] fun K11 hK11 => vwp_region hT ?_
     simp
     refine hK11 _ ?_
     try clear hK11 K11
     refine vwp_ret (hR _ _ ?_)
     have q2 : spl (X.map (V.int .i64)) i [.int .i64 0] = (delX X (i + 1) i).map (V.int .i64) := by
       have h := spl_mid (A := X.take i) (D := X.drop i) (k := i) (by simp; omega) (by simp; omega)
       rw [List.take_append_drop, List.drop_drop] at h
       rw [h]
       simp [delX]
     rw [q2]
     exact ret_k [6] [0] ([.live ((delX X (i + 1) i).map (.int .i64))]) (.sl 0 t 1 0 i) (⟨rfl, rfl⟩)
end Go.Proofs.Ythjpaongoflgiaa
