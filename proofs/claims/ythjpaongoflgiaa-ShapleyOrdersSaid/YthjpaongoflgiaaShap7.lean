/- The order that draws tell. -/
import Derived.Test.YthjpaongoflgiaaShap6
namespace Go.Proofs.Ythjpaongoflgiaa
open Go Go.VX Go.RowKit
set_option linter.unusedVariables false
set_option linter.unusedSimpArgs false
set_option maxHeartbeats 20000000
set_option maxRecDepth 100000

def ordStep (s : List Int × List Int) (d : Int) : List Int × List Int := (s.1 ++ [s.2.getD (d.tmod s.2.length).natAbs 0], s.2.eraseIdx (d.tmod s.2.length).natAbs)
def ordL (m : Nat) (ds : List Int) : List Int := (ds.foldl ordStep ([], rangeI m)).1
theorem delX_take {X : List Int} {n i : Nat} (hn : n ≤ X.length) (hi : i < n) : (delX X n i).take (n - 1) = (X.take n).eraseIdx i := by
  rw [List.eraseIdx_eq_take_drop_succ, delX]
  have e : (X.take i ++ (X.drop (i + 1)).take (n - (i + 1))).length = n - 1 := by simp; omega
  rw [List.append_assoc, List.take_left' e, List.take_take, Nat.min_eq_left (by omega), List.drop_take]
theorem delX_length {X : List Int} {n i : Nat} (hn : n ≤ X.length) (hi : i < n) : (delX X n i).length = X.length := by
  simp [delX]; omega
theorem tmod_abs (d : Int) {k : Nat} (hk : 0 < k) : (d.tmod k).natAbs < k := by
  rw [Int.natAbs_tmod]
  exact Nat.mod_lt _ (by simpa using hk)
theorem order_spec (m : Nat) (ds : List Int) (hm : m ≤ 6) (hd : ds.length = m) : VC P 25 [.int .i64 m, sI ds] [] (fun r ob' => r = .tup [.sl 0 m 1 0 m, .int .i64 0] ∧ ob' = [.live ((ordL m ds).map (.int .i64))]) := by
  refine VC_of_vwp_k ent_25 Try.func25 rfl (by simp) fun R hR => ?_
  refine vwp_sq [0, 1] fun K1 hK1 => vwp_region hT ?_
  simp
  refine hK1 _ ?_
  try clear hK1 K1
  refine vwp_seq_k fun K2 hK2 => ?_
  have k1 : ¬ ((m : Int) < 0) := by omega
  have k2 : ¬ ((6 : Int) < m) := by omega
  refine vwp_sq [0, 1] fun K3 hK3 => vwp_regionI hT ?_
  simp [k1, k2, hd]
  refine hK3 _ ?_
  try clear hK3 K3
  refine vwp_cond (by first | rfl | (simp; rfl)) (fun h1 => ?_) fun h1 => ?_
  · simp -failIfUnchanged at h1; all_goals
   refine vwp_seq_k fun K4 hK4 => ?_
   skip
  · simp -failIfUnchanged at h1; all_goals
   refine vwp_skip ?_
   refine hK2 _ ?_
   try clear hK2 K2
   refine vwp_sq [0, 1] fun K5 hK5 => vwp_region hT ?_
   simp
   refine vcall_k [] (left_spec m hm) ?_
   rintro r ob' ⟨rfl, rfl⟩
   simp
   refine hK5 _ ?_
   try clear hK5 K5
   refine vwp_sq [1, 6] fun K6 hK6 => vwp_region hT ?_
   simp
   refine hK6 _ ?_
   try clear hK6 K6
   refine vwp_seq_k fun K7 hK7 => ?_
   refine vwp_gh (Gh.virt 7 1 (by rfl)) ?_
   simp
   refine vwp_sq [1, 6, 7] fun K8 hK8 => vwp_region hT ?_
   simp
   refine hK8 _ ?_
   try clear hK8 K8
   refine vwp_block ?_
   refine vwp_loop_s (fun x : Nat × List Int × List Int => ⟨[(6, .sl 0 m 1 0 (m - x.1)), (7, .sl 1 x.1 1 0 x.1), (25, sI ds), (26, .int .i64 m), (27, .int .i64 (x.1 : Int))], [.live (x.2.2.map (.int .i64)), .live (x.2.1.map (.int .i64))]⟩) (fun x => x.1 ≤ m ∧ x.2.2.length = m ∧ x.2.1.length = x.1 ∧ (ds.take x.1).foldl ordStep ([], rangeI m) = (x.2.1, x.2.2.take (m - x.1))) (fun x => m - x.1) ((0, [], rangeI m)) (Gh.to_k [6, 7, 25, 26, 27] [0, 1] (he := by simp [hd]) (hh := by simp)) (⟨by simp, rangeI_len, by simp, by simp [List.take_of_length_le, rangeI_len]⟩) ?_
   rintro ⟨i, o, X⟩ ⟨hi, hX, hol, hf⟩
   dsimp only at hi hX hol hf ⊢
   intro K9 hK9
   refine vwp_sq [6, 7, 25, 26, 27] fun K10 hK10 => vwp_region hT ?_
   simp
   refine hK10 _ ?_
   try clear hK10 K10
   refine vwp_seq_k fun K11 hK11 => ?_
   refine vwp_cond (by first | rfl | (simp; rfl)) (fun h2 => ?_) fun h2 => ?_
   · simp -failIfUnchanged at h2; all_goals
    refine vwp_skip ?_
    refine hK11 _ ?_
    try clear hK11 K11
    refine vwp_seq_k fun K12 hK12 => ?_
    refine vwp_block ?_
    obtain ⟨d, hdx⟩ := getI (l := ds) (i := i) (by omega)
    refine vwp_sq [6, 7, 25, 26, 27] fun K13 hK13 => vwp_region hT ?_
    simp [hdx, hd]
    repeat refine ⟨by first | assumption | omega | (intros; omega), ?_⟩
    refine hK13 _ ?_
    try clear hK13 K13
    have k3 : ¬ m ≤ i := by omega
    have k4 : ¬ (((m - i : Nat) : Int) = 0) := by omega
    have hlt := tmod_abs d (k := m - i) (by omega)
    obtain ⟨e, he⟩ : ∃ e, e = d.tmod ((m - i : Nat) : Int) := ⟨_, rfl⟩
    rw [← he] at hlt
    obtain ⟨a1, ha1⟩ : ∃ a1, a1 = e.natAbs := ⟨_, rfl⟩
    rw [← ha1] at hlt
    have w1 : IntKind.i64.wrap (-e) = -e := w64 (by omega) (by omega)
    have w2 : (if e < -e then -e else e) = (a1 : Int) := by split <;> omega
    have w3 : IntKind.i64.wrap ((a1 : Int) + 1) = a1 + 1 := w64 (by omega) (by omega)
    have w4 : IntKind.i64.wrap ((i : Int) + 1) = i + 1 := w64 (by omega) (by omega)
    obtain ⟨v, hv⟩ := getI (l := X) (i := a1) (by omega)
    refine vwp_sq [6, 7, 9, 25, 26, 27] fun K14 hK14 => vwp_region hT ?_
    simp [k4, ← he]
    repeat refine ⟨by first | assumption | omega | (intros; omega), ?_⟩
    refine hK14 _ ?_
    try clear hK14 K14
    refine vwp_sq [6, 7, 10, 25, 26, 27] fun K15 hK15 => vwp_region hT ?_
    simp [w1, w2]
    repeat refine ⟨by first | assumption | omega | (intros; omega), ?_⟩
    refine hK15 _ ?_
    try clear hK15 K15
    refine vwp_sq [6, 7, 10, 25, 26, 27] fun K16 hK16 => vwp_region hT ?_
    simp [hv, hX, hol, hlt]
    repeat refine ⟨by first | assumption | omega | (intros; omega), ?_⟩
    refine hK16 _ ?_
    try clear hK16 K16
    refine vwp_live [6, 7, 10, 25, 26, 27] (vwp_region hT ?_)
    simp [w3]
    refine vcall_k [0] (delete_spec X m (m - i) a1 hX (by omega) (by omega) (by omega)) ?_
    rintro r ob' ⟨rfl, rfl⟩
    simp [w3]
    refine hK12 _ ?_
    try clear hK12 K12
    refine vwp_live [6, 7, 25, 26, 27] (vwp_region hT ?_)
    simp [w4]
    exact hK9 ((i + 1, o ++ [v], delX X (m - i) a1)) _ (Gh.to_k [6, 7, 25, 26, 27] [0, 1] (he := by simp; omega)) (⟨by dsimp only; omega, by
        dsimp only
        rw [delX_length (by omega) (by omega), hX], by simp [hol], by
        dsimp only
        rw [take_foldl hdx, hf]
        have e1 : (X.take (m - i)).length = m - i := by simp; omega
        have e2 : (X.take (m - i)).getD a1 0 = v := getD_of (by rw [List.getElem?_take, if_pos (by omega)]; exact hv)
        have e3 : m - (i + 1) = m - i - 1 := by omega
        simp only [ordStep, e1, ← he, ← ha1, e2]
        rw [e3, delX_take (by omega) (by omega)]⟩) (by dsimp only; omega)
   · simp -failIfUnchanged at h2; all_goals
    refine vwp_exit ?_
    simp only [inBlk, thenQ, if_true]
    refine hK7 _ ?_
    try clear hK7 K7
    refine vwp_sq [7] fun K17 hK17 => vwp_region hT ?_
    simp
    refine hK17 _ ?_
    try clear hK17 K17
    refine vwp_ret (hR _ _ ?_)
    have e : i = m := by omega
    subst e
    rw [← hd, List.take_length] at hf
    have e2 : ordL i ds = o := by simp only [ordL, ← hd, hf]
    rw [e2]
    exact ret_k [4, 5] [1] ([.live (o.map (.int .i64))]) (.tup [.sl 0 i 1 0 i, .int .i64 0]) (⟨rfl, rfl⟩)
end Go.Proofs.Ythjpaongoflgiaa
