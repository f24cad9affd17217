/- Loads, by the program and by the document: the walk. -/
import Derived.Test.YtinigjmfjabicaaPlI
namespace Go.Proofs.Ytinigjmfjabicaa
open Go Go.VX Go.RowKit
set_option linter.unusedVariables false
set_option linter.unusedSimpArgs false
set_option maxHeartbeats 20000000
set_option maxRecDepth 100000

def wes (l : List Od) : List Int := l.map (·.we)
def vos (l : List Od) : List Int := l.map (·.vo)
def small (l : List Od) : Prop := l.length ≤ 1000 ∧ ∀ o ∈ l, (0 ≤ o.we ∧ o.we ≤ 1000000) ∧ 0 ≤ o.vo ∧ o.vo ≤ 1000000
theorem small_w {l : List Od} (h : small l) : ∀ n ∈ wes l, 0 ≤ n ∧ n ≤ 1000000 := by
  intro n hn
  obtain ⟨o, ho, rfl⟩ := List.mem_map.1 hn
  exact (h.2 o ho).1
theorem small_v {l : List Od} (h : small l) : ∀ n ∈ vos l, 0 ≤ n ∧ n ≤ 1000000 := by
  intro n hn
  obtain ⟨o, ho, rfl⟩ := List.mem_map.1 hn
  exact (h.2 o ho).2
theorem sum_w {l : List Od} (h : small l) : sumN (wes l) = ((wes l).sum, 0) := sumN_small (small_w h) (by have := h.1; simp [wes]; omega)
theorem sum_v {l : List Od} (h : small l) : sumN (vos l) = ((vos l).sum, 0) := sumN_small (small_v h) (by have := h.1; simp [vos]; omega)
theorem wes_take {l : List Od} {i : Nat} {s : Od} (h : l[i]? = some s) : wes (l.take (i + 1)) = wes (l.take i) ++ [s.we] := by rw [take_snoc h]; simp [wes]
theorem vos_take {l : List Od} {i : Nat} {s : Od} (h : l[i]? = some s) : vos (l.take (i + 1)) = vos (l.take i) ++ [s.vo] := by rw [take_snoc h]; simp [vos]
theorem wes_len (l : List Od) : (wes l).length = l.length := by simp [wes]
theorem vos_len (l : List Od) : (vos l).length = l.length := by simp [vos]
theorem take_wes (l : List Od) : List.take l.length (ints (wes l)) = ints (wes l) := List.take_of_length_le (by simp [wes])
theorem take_vos (l : List Od) : List.take l.length (ints (vos l)) = ints (vos l) := List.take_of_length_le (by simp [vos])
def carE (t : Tk) (l : List Od) : Int := if t.we < (wes l).sum ∨ t.vo < (vos l).sum then 9 else 0
theorem lsum_spec (l : List Od) (hs : small l) : VC P 102 [odV l] [] (fun r ob' => r = .tup [.int .i64 (wes l).sum, .int .i64 (vos l).sum, .int .i64 0] ∧ ob' = []) := by
  refine VC_of_vwp_k ent_102 Try.func102 rfl (by simp) fun R hR => ?_
  refine vwp_sq [0] fun K1 hK1 => vwp_region hT ?_
  simp
  refine hK1 _ ?_
  try clear hK1 K1
  refine vwp_sq [0] fun K2 hK2 => vwp_region hT ?_
  simp
  refine hK2 _ ?_
  try clear hK2 K2
  refine vwp_seq_k fun K3 hK3 => ?_
  refine vwp_sq [0, 5, 6] fun K4 hK4 => vwp_region hT ?_
  simp
  refine hK4 _ ?_
  try clear hK4 K4
  refine vwp_block ?_
  have hlim := hs.1
  refine vwp_loop_s (fun i : Nat => ⟨[(5, .sl 0 i 1 0 i), (6, .sl 1 i 1 0 i), (12, odV l), (13, .int .i64 l.length), (14, .int .i64 (i : Int))], [.live (ints (wes (l.take i))), .live (ints (vos (l.take i)))]⟩) (fun i => i ≤ l.length) (fun i => l.length - i) (0) ((Gh.virt 5 1 (by simp)).trans ((Gh.virt 6 1 (by simp)).trans (Gh.to_k [5, 6, 12, 13, 14] [0, 1] (hh := by simp [wes, vos])))) (by omega) ?_
  rintro i hi
  have hlw := wes_len (l.take i)
  have hlv := vos_len (l.take i)
  rw [List.length_take, Nat.min_eq_left hi] at hlw hlv
  intro K5 hK5
  refine vwp_sq [5, 6, 12, 13, 14] fun K6 hK6 => vwp_region hT ?_
  simp
  refine hK6 _ ?_
  try clear hK6 K6
  refine vwp_seq_k fun K7 hK7 => ?_
  refine vwp_cond (by first | rfl | (simp; rfl)) (fun h1 => ?_) fun h1 => ?_
  · simp -failIfUnchanged at h1; all_goals
   refine vwp_skip ?_
   refine hK7 _ ?_
   try clear hK7 K7
   refine vwp_seq_k fun K8 hK8 => ?_
   refine vwp_block ?_
   obtain ⟨o, ho⟩ := getI (l := l) (i := i) (by omega)
   have hrow := rowOd ho
   have hlen := lenOd l
   refine vwp_sq [5, 6, 12, 13, 14] fun K9 hK9 => vwp_region hT ?_
   simp [hrow, hlen]
   repeat refine ⟨by first | assumption | omega | (intros; omega), ?_⟩
   refine hK9 _ ?_
   try clear hK9 K9
   refine vwp_live [5, 6, 8, 12, 13, 14] (vwp_storm hT hm [.pure, .win 0 0, .win 0 0, .lit, .mv, .pure, .win 0 1, .win 0 1, .lit, .mv, .pure, .pure] [[], [], [1], [1, 2], [0, 1, 2, 3], [], [], [6], [6, 7], [0, 1, 2, 3, 4, 5, 6, 7, 8], [0, 1, 2, 3, 4, 5, 6, 7, 8, 9], [0, 1, 2, 3, 4, 5, 6, 7, 8, 9, 10]] (by kernel_rfl) ?_)
   simp [hlw, hlv]
   repeat refine ⟨by first | assumption | omega | (intros; omega), ?_⟩
   refine hK8 _ ?_
   try clear hK8 K8
   have w1 : IntKind.i64.wrap ((i : Int) + 1) = i + 1 := w64 (by omega) (by omega)
   refine vwp_live [5, 6, 12, 13, 14] (vwp_region hT ?_)
   simp [w1]
   exact hK5 (i + 1) _ (Gh.to_k [5, 6, 12, 13, 14] [0, 1] (hh := by simp [wes_take ho, vos_take ho])) (by omega) (by omega)
  · simp -failIfUnchanged at h1; all_goals
   refine vwp_exit ?_
   simp only [inBlk, thenQ, if_true]
   refine hK3 _ ?_
   try clear hK3 K3
   obtain rfl : i = l.length := by omega
   rw [List.take_length]
   have e1 := sum_w hs
   have e2 := sum_v hs
   rw [List.take_length] at hlw hlv
   refine vwp_sq [5, 6] fun K10 hK10 => vwp_region hT ?_
   simp [e1]
   refine vcall_z [] (sum_spec (wes l) (by rw [wes_len]; have := hs.1; omega)) (by rintro r ob' ⟨rfl, rfl⟩; simp) ?_ (ha := by simp [take_wes, wes_len]) (hok := by simp [wes_len])
   rintro r ob' ⟨rfl, rfl⟩
   simp [e1]
   refine hK10 _ ?_
   try clear hK10 K10
   refine vwp_seq_k fun K11 hK11 => ?_
   refine vwp_sq [6, 9, 10] fun K12 hK12 => vwp_region hT ?_
   simp
   refine hK12 _ ?_
   try clear hK12 K12
   refine vwp_cond (by first | rfl | (simp; rfl)) (fun h2 => ?_) fun h2 => ?_
   · simp -failIfUnchanged at h2; all_goals
    refine vwp_seq_k fun K13 hK13 => ?_
    simp_all
   · simp -failIfUnchanged at h2; all_goals
    refine vwp_skip ?_
    refine hK11 _ ?_
    try clear hK11 K11
    refine vwp_sq [6, 9] fun K14 hK14 => vwp_region hT ?_
    simp [e2]
    refine vcall_z [] (sum_spec (vos l) (by rw [vos_len]; have := hs.1; omega)) (by rintro r ob' ⟨rfl, rfl⟩; simp) ?_ (ha := by simp [take_vos, vos_len]) (hok := by simp [vos_len])
    rintro r ob' ⟨rfl, rfl⟩
    simp [e2]
    refine hK14 _ ?_
    try clear hK14 K14
    refine vwp_seq_k fun K15 hK15 => ?_
    refine vwp_sq [9, 10, 11] fun K16 hK16 => vwp_region hT ?_
    simp
    refine hK16 _ ?_
    try clear hK16 K16
    refine vwp_cond (by first | rfl | (simp; rfl)) (fun h3 => ?_) fun h3 => ?_
    · simp -failIfUnchanged at h3; all_goals
     refine vwp_seq_k fun K17 hK17 => ?_
     simp_all
    · simp -failIfUnchanged at h3; all_goals
     refine vwp_skip ?_
     refine hK15 _ ?_
     try clear hK15 K15
     refine vwp_sq [9, 11] fun K18 hK18 => vwp_region hT ?_
     simp
     refine hK18 _ ?_
     try clear hK18 K18
     refine vwp_ret (hR _ _ ?_)
     exact ret_k [2, 3, 4] [] ([]) (.tup [.int .i64 (wes l).sum, .int .i64 (vos l).sum, .int .i64 0]) (⟨rfl, rfl⟩)
theorem carries_spec (t : Tk) (l : List Od) (hs : small l) : VC P 66 [.agg (Tk.cells t), odV l] [] (fun r ob' => r = .int .i64 (carE t l) ∧ ob' = []) := by
  refine VC_of_vwp_k ent_66 Try.func66 rfl (by simp) fun R hR => ?_
  refine vwp_sq [0, 1] fun K1 hK1 => vwp_region hT ?_
  simp
  refine hK1 _ ?_
  try clear hK1 K1
  refine vwp_sq [1, 2] fun K2 hK2 => vwp_region hT ?_
  simp
  refine vcall_z [] (lsum_spec l hs) (by rintro r ob' ⟨rfl, rfl⟩; simp) ?_
  rintro r ob' ⟨rfl, rfl⟩
  simp
  refine hK2 _ ?_
  try clear hK2 K2
  refine vwp_seq_k fun K3 hK3 => ?_
  refine vwp_block ?_
  refine vwp_sq [2, 5, 6, 7] fun K4 hK4 => vwp_region hT ?_
  simp
  refine hK4 _ ?_
  try clear hK4 K4
  refine vwp_cond (by first | rfl | (simp; rfl)) (fun h1 => ?_) fun h1 => ?_
  · simp -failIfUnchanged at h1; all_goals
   refine vwp_seq_k fun K5 hK5 => ?_
   simp_all
  · simp -failIfUnchanged at h1; all_goals
   refine vwp_sq [2, 5, 6] fun K6 hK6 => vwp_region hT ?_
   simp
   refine hK6 _ ?_
   try clear hK6 K6
   refine vwp_cond (by first | rfl | (simp; rfl)) (fun h2 => ?_) fun h2 => ?_
   · simp -failIfUnchanged at h2; all_goals
    have q := h2
    refine vwp_sq [] fun K7 hK7 => vwp_region hT ?_
    simp
    refine hK7 _ ?_
    try clear hK7 K7
    refine vwp_ret (hR _ _ ?_)
    have hw : carE t l = 9 := by
      unfold carE
      rw [if_pos q]
    rw [hw]
    exact ret_k [4] [] ([]) (.int .i64 9) (⟨rfl, rfl⟩)
   · simp -failIfUnchanged at h2; all_goals
    have q := h2
    refine vwp_skip ?_
    refine hK3 _ ?_
    try clear hK3 K3
    refine vwp_sq [] fun K8 hK8 => vwp_region hT ?_
    simp
    refine hK8 _ ?_
    try clear hK8 K8
    refine vwp_ret (hR _ _ ?_)
    have hw : carE t l = 0 := by
      unfold carE
      rw [if_neg (by omega)]
    rw [hw]
    exact ret_k [4] [] ([]) (.int .i64 0) (⟨rfl, rfl⟩)
theorem dlsum_spec (l : List Od) (hs : small l) : VC P 107 [odV l] [] (fun r ob' => r = .tup [.int .i64 (wes l).sum, .int .i64 (vos l).sum, .int .i64 0] ∧ ob' = []) := by
  refine VC_of_vwp_k ent_107 Try.func107 rfl (by simp) fun R hR => ?_
  refine vwp_sq [0] fun K1 hK1 => vwp_region hT ?_
  simp
  refine hK1 _ ?_
  try clear hK1 K1
  refine vwp_sq [0] fun K2 hK2 => vwp_region hT ?_
  simp
  refine hK2 _ ?_
  try clear hK2 K2
  refine vwp_sq [0, 5] fun K3 hK3 => vwp_region hT ?_
  simp
  refine hK3 _ ?_
  try clear hK3 K3
  refine vwp_seq_k fun K4 hK4 => ?_
  refine vwp_sq [0, 5, 6] fun K5 hK5 => vwp_region hT ?_
  simp
  refine hK5 _ ?_
  try clear hK5 K5
  refine vwp_block ?_
  have hlim := hs.1
  refine vwp_loop_s (fun i : Nat => ⟨[(0, odV l), (5, .sl 0 i 1 0 i), (6, .sl 1 i 1 0 i), (7, .int .i64 (i : Int))], [.live (ints (wes (l.take i))), .live (ints (vos (l.take i)))]⟩) (fun i => i ≤ l.length) (fun i => l.length - i) (0) (Gh.to_k [0, 5, 6, 7] [0, 1] (hh := by simp [wes, vos])) (by omega) ?_
  rintro i hi
  have hlw := wes_len (l.take i)
  have hlv := vos_len (l.take i)
  rw [List.length_take, Nat.min_eq_left hi] at hlw hlv
  intro K6 hK6
  refine vwp_seq_k fun K7 hK7 => ?_
  refine vwp_sq [0, 5, 6, 7] fun K8 hK8 => vwp_region hT ?_
  simp
  refine hK8 _ ?_
  try clear hK8 K8
  refine vwp_cond (by first | rfl | (simp; rfl)) (fun h1 => ?_) fun h1 => ?_
  · simp -failIfUnchanged at h1; all_goals
   refine vwp_skip ?_
   refine hK7 _ ?_
   try clear hK7 K7
   refine vwp_seq_k fun K9 hK9 => ?_
   refine vwp_block ?_
   obtain ⟨o, ho⟩ := getI (l := l) (i := i) (by omega)
   obtain ⟨_, _, _, g3, g4, _⟩ := getOd ho
   have hlen := lenOd l
   refine vwp_sq [0, 5, 6, 7] fun K10 hK10 => vwp_region hT ?_
   simp [g3, g4, hlen, hlw, hlv]
   repeat refine ⟨by first | assumption | omega | (intros; omega), ?_⟩
   refine hK10 _ ?_
   try clear hK10 K10
   refine vwp_live [0, 5, 6, 7] (vwp_region hT ?_)
   simp [g3, g4, hlen, hlw, hlv]
   repeat refine ⟨by first | assumption | omega | (intros; omega), ?_⟩
   refine hK9 _ ?_
   try clear hK9 K9
   have w1 : IntKind.i64.wrap ((i : Int) + 1) = i + 1 := w64 (by omega) (by omega)
   refine vwp_live [0, 5, 6, 7] (vwp_region hT ?_)
   simp [w1]
   exact hK6 (i + 1) _ (Gh.to_k [0, 5, 6, 7] [0, 1] (hh := by simp [wes_take ho, vos_take ho])) (by omega) (by omega)
  · simp -failIfUnchanged at h1; all_goals
   refine vwp_exit ?_
   simp only [inBlk, thenQ, if_true]
   refine hK4 _ ?_
   try clear hK4 K4
   obtain rfl : i = l.length := by omega
   rw [List.take_length]
   have e1 := sum_w hs
   have e2 := sum_v hs
   rw [List.take_length] at hlw hlv
   refine vwp_sq [5, 6] fun K11 hK11 => vwp_region hT ?_
   simp [e1]
   refine vcall_z [] (rsum_spec (wes l) (by rw [wes_len]; have := hs.1; omega)) (by rintro r ob' ⟨rfl, rfl⟩; simp) ?_ (ha := by simp [take_wes, wes_len]) (hok := by simp [wes_len])
   rintro r ob' ⟨rfl, rfl⟩
   simp [e1]
   refine hK11 _ ?_
   try clear hK11 K11
   refine vwp_sq [6, 8, 9] fun K12 hK12 => vwp_region hT ?_
   simp [e2]
   refine vcall_z [] (rsum_spec (vos l) (by rw [vos_len]; have := hs.1; omega)) (by rintro r ob' ⟨rfl, rfl⟩; simp) ?_ (ha := by simp [take_vos, vos_len]) (hok := by simp [vos_len])
   rintro r ob' ⟨rfl, rfl⟩
   simp [e2]
   refine hK12 _ ?_
   try clear hK12 K12
   refine vwp_seq_k fun K13 hK13 => ?_
   refine vwp_sq [8, 9, 10, 11] fun K14 hK14 => vwp_region hT ?_
   simp
   refine hK14 _ ?_
   try clear hK14 K14
   refine vwp_cond (by first | rfl | (simp; rfl)) (fun h2 => ?_) fun h2 => ?_
   · simp -failIfUnchanged at h2; all_goals
    refine vwp_seq_k fun K15 hK15 => ?_
    simp_all
   · simp -failIfUnchanged at h2; all_goals
    refine vwp_skip ?_
    refine hK13 _ ?_
    try clear hK13 K13
    refine vwp_seq_k fun K16 hK16 => ?_
    refine vwp_sq [8, 10, 11] fun K17 hK17 => vwp_region hT ?_
    simp
    refine hK17 _ ?_
    try clear hK17 K17
    refine vwp_cond (by first | rfl | (simp; rfl)) (fun h3 => ?_) fun h3 => ?_
    · simp -failIfUnchanged at h3; all_goals
     refine vwp_seq_k fun K18 hK18 => ?_
     simp_all
    · simp -failIfUnchanged at h3; all_goals
     refine vwp_skip ?_
     refine hK16 _ ?_
     try clear hK16 K16
     refine vwp_sq [8, 10] fun K19 hK19 => vwp_region hT ?_
     simp
     refine hK19 _ ?_
     try clear hK19 K19
     refine vwp_ret (hR _ _ ?_)
     exact ret_k [2, 3, 4] [] ([]) (.tup [.int .i64 (wes l).sum, .int .i64 (vos l).sum, .int .i64 0]) (⟨rfl, rfl⟩)
theorem dcarries_spec (t : Tk) (l : List Od) (hs : small l) : VC P 94 [.agg (Tk.cells t), odV l] [] (fun r ob' => r = .int .i64 (carE t l) ∧ ob' = []) := by
  refine VC_of_vwp_k ent_94 Try.func94 rfl (by simp) fun R hR => ?_
  refine vwp_sq [0, 1] fun K1 hK1 => vwp_region hT ?_
  simp
  refine hK1 _ ?_
  try clear hK1 K1
  refine vwp_sq [1, 2] fun K2 hK2 => vwp_region hT ?_
  simp
  refine vcall_z [] (dlsum_spec l hs) (by rintro r ob' ⟨rfl, rfl⟩; simp) ?_
  rintro r ob' ⟨rfl, rfl⟩
  simp
  refine hK2 _ ?_
  try clear hK2 K2
  refine vwp_seq_k fun K3 hK3 => ?_
  refine vwp_sq [2, 5, 6, 7] fun K4 hK4 => vwp_region hT ?_
  simp
  refine hK4 _ ?_
  try clear hK4 K4
  refine vwp_cond (by first | rfl | (simp; rfl)) (fun h1 => ?_) fun h1 => ?_
  · simp -failIfUnchanged at h1; all_goals
   have q := h1
   refine vwp_live [] (vwp_region hT ?_)
   simp
   refine hK3 _ ?_
   try clear hK3 K3
   refine vwp_sq [7] fun K5 hK5 => vwp_region hT ?_
   simp
   refine hK5 _ ?_
   try clear hK5 K5
   refine vwp_ret (hR _ _ ?_)
   have hw : carE t l = 9 := by
     unfold carE
     rw [if_pos q]
   rw [hw]
   exact ret_k [4] [] ([]) (.int .i64 9) (⟨rfl, rfl⟩)
  · simp -failIfUnchanged at h1; all_goals
   have q := h1
   refine vwp_skip ?_
   refine hK3 _ ?_
   try clear hK3 K3
   refine vwp_sq [7] fun K6 hK6 => vwp_region hT ?_
   simp
   refine hK6 _ ?_
   try clear hK6 K6
   refine vwp_ret (hR _ _ ?_)
   have hw : carE t l = 0 := by
     unfold carE
     rw [if_neg (by omega)]
   rw [hw]
   exact ret_k [4] [] ([]) (.int .i64 0) (⟨rfl, rfl⟩)
end Go.Proofs.Ytinigjmfjabicaa
