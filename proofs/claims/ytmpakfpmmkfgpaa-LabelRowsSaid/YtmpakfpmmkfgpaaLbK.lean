/- Views as the document's, compared: the walk. -/
import Derived.Test.YtmpakfpmmkfgpaaLbJ
namespace Go.Proofs.Ytmpakfpmmkfgpaa
open Go Go.VX Go.RowKit
set_option linter.unusedVariables false
set_option linter.unusedSimpArgs false
set_option maxHeartbeats 20000000
set_option maxRecDepth 100000

def lrgP (x : Whl) : Bool := decide (60 < x.ss.length) || (decide (60 < x.fs.length) || decide (60 < x.ls.length))
theorem large_spec (x : Whl) : VC P 8 [.agg x.c] [] (fun r ob' => r = .bool (lrgP x) ∧ ob' = []) := by
  refine VC_of_vwp_k ent_8 Try.func8 rfl (by simp) fun R hR => ?_
  refine vwp_sq [0] fun K1 hK1 => vwp_region hT ?_
  simp
  refine hK1 _ ?_
  try clear hK1 K1
  refine vwp_seq_k fun K2 hK2 => ?_
  by_cases h1 : 60 < x.ss.length
  · have hB : lrgP x = true := by simp [lrgP, h1]
    have h1i : (60 : Int) < x.ss.length := by omega
    refine vwp_live [1] (vwp_region hT ?_)
    simp [h1, h1i]
    refine hK2 _ ?_
    try clear hK2 K2
    refine vwp_ret (hR _ _ ?_)
    rw [hB]
    exact ret_k [2] [] ([]) (.bool true) (⟨rfl, rfl⟩)
  · have h1i : ¬ (60 : Int) < x.ss.length := by omega
    by_cases h2 : 60 < x.fs.length
    · have hB : lrgP x = true := by simp [lrgP, h2]
      have h2i : (60 : Int) < x.fs.length := by omega
      refine vwp_live [1] (vwp_region hT ?_)
      simp [h1, h2, h1i, h2i]
      refine hK2 _ ?_
      try clear hK2 K2
      refine vwp_ret (hR _ _ ?_)
      rw [hB]
      exact ret_k [2] [] ([]) (.bool true) (⟨rfl, rfl⟩)
    · have h2i : ¬ (60 : Int) < x.fs.length := by omega
      have hB : lrgP x = decide ((60 : Int) < x.ls.length) := by simp [lrgP, h1, h2]; omega
      refine vwp_live [1] (vwp_region hT ?_)
      simp [h1, h2, h1i, h2i]
      refine hK2 _ ?_
      try clear hK2 K2
      refine vwp_ret (hR _ _ ?_)
      rw [hB]
      exact ret_k [2] [] ([]) (.bool (decide ((60 : Int) < x.ls.length))) (⟨rfl, rfl⟩)
theorem own_spec (v : Vw) (hr : v.rs.length < 1099511627776) : VC P 12 [.agg v.cells] [] (fun r ob' => r = .agg v.cells ∧ ob' = []) := by
  refine VC_of_vwp_c hT ent_12 Try.func12 rfl (by simp) fun R hR => ?_
  refine vwp_sq [0] fun K1 hK1 => vwp_region hT ?_
  simp
  refine hK1 _ ?_
  try clear hK1 K1
  refine vwp_sq [1, 2] fun K2 hK2 => vwp_region hT ?_
  simp
  repeat refine ⟨by first | assumption | omega | (intros; omega), ?_⟩
  refine hK2 _ ?_
  try clear hK2 K2
  refine vwp_seq_k fun K3 hK3 => ?_
  refine vwp_sq [1, 2, 3] fun K4 hK4 => vwp_region hT ?_
  simp
  refine hK4 _ ?_
  try clear hK4 K4
  refine vwp_block ?_
  refine vwp_loop_s (fun i : Nat => ⟨[(2, .ptr 1 6 0), (3, .ptr 2 6 0), (18, fsV v.rs), (19, .int .i64 v.rs.length), (20, .int .i64 (i : Int))], [.live v.cells, .live [.nils, .nils, .int .i64 0, .int .i64 0, .bool false, .nils], .live [.sl 3 (i * 4) 4 0 i, sI v.fs, .int .i64 v.am, .int .i64 v.ru, .bool v.fe, sI v.gs], .live (rowsV (v.rs.take i))]⟩) (fun i => i ≤ v.rs.length) (fun i => v.rs.length - i) (0) ((Gh.virtC 2 0 4 rfl rfl).trans (Gh.to_k [2, 3, 18, 19, 20] [0, 1, 2, 3] (he := by simp) (hh := by simp))) (by omega) ?_
  rintro i hi
  have hrl : (rowsV (v.rs.take i)).length = i * 4 := by rw [lenRwx, List.length_take, Nat.min_eq_left hi]
  intro K5 hK5
  refine vwp_sq [2, 3, 18, 19, 20] fun K6 hK6 => vwp_region hT ?_
  simp
  refine hK6 _ ?_
  try clear hK6 K6
  refine vwp_seq_k fun K7 hK7 => ?_
  refine vwp_cond (by first | rfl | (simp; rfl)) (fun h1 => ?_) fun h1 => ?_
  · simp -failIfUnchanged at h1; all_goals
   refine vwp_skip ?_
   refine hK7 _ ?_
   try clear hK7 K7
   refine vwp_seq_k fun K8 hK8 => ?_
   refine vwp_block ?_
   obtain ⟨s, hs⟩ := getI (l := v.rs) (i := i) (by omega)
   have hrow := rowRwx hs
   have hlen := lenRwx v.rs
   refine vwp_sq [2, 3, 18, 19, 20] fun K9 hK9 => vwp_region hT ?_
   simp [hrow, hlen]
   repeat refine ⟨by first | assumption | omega | (intros; omega), ?_⟩
   refine hK9 _ ?_
   try clear hK9 K9
   refine vwp_live [2, 3, 5, 18, 19, 20] (vwp_region hT ?_)
   simp [hrl, zerosV, spl]
   repeat refine ⟨by first | assumption | omega | (intros; omega), ?_⟩
   refine hK8 _ ?_
   try clear hK8 K8
   have w1 : IntKind.i64.wrap ((i : Int) + 1) = i + 1 := w64 (by omega) (by omega)
   refine vwp_live [2, 3, 18, 19, 20] (vwp_region hT ?_)
   simp [w1]
   exact hK5 (i + 1) _ (Gh.to_k [2, 3, 18, 19, 20] [0, 1, 2, 3] (hh := by simp [take_snoc hs, rowsV_snoc, Nat.add_mul])) (by omega) (by omega)
  · simp -failIfUnchanged at h1; all_goals
   refine vwp_exit ?_
   simp only [inBlk, thenQ, if_true]
   refine hK3 _ ?_
   try clear hK3 K3
   refine vwp_sq [2, 3] fun K10 hK10 => vwp_region hT ?_
   simp
   repeat refine ⟨by first | assumption | omega | (intros; omega), ?_⟩
   refine hK10 _ ?_
   try clear hK10 K10
   refine vwp_ret (hR _ _ ?_)
   obtain rfl : i = v.rs.length := by omega
   rw [List.take_length] at hrl ⊢
   have htk : List.take (v.rs.length * 4) (rowsV v.rs) = rowsV v.rs := List.take_of_length_le (by omega)
   refine ret_gh ((Gh.freeze 3 rfl rw_noId).trans (Gh.cellFs 3 1 0 rfl rfl rfl hrl)) ?_
   simp
   exact retc_only [] ([]) (p := True) (xs := [.agg [.fs v.rs.length (rowsV v.rs), sI v.fs, .int .i64 v.am, .int .i64 v.ru, .bool v.fe, sI v.gs]]) (xs' := [.agg v.cells]) (by simp [htk]) trivial (by simp) (by simp) rfl (by simp) (by simp) rfl (by simp) (⟨rfl, rfl⟩)

theorem stp_noId {l : List Stp} : ∀ c ∈ rowsV l, c.noId = true := by intro c hc; obtain ⟨n, rfl⟩ := stpC hc; rfl
theorem lft_noId {l : List Lft} : ∀ c ∈ rowsV l, c.noId = true := by
  intro c hc
  obtain ⟨a, _, h⟩ := List.mem_flatMap.1 hc
  simp at h
  rcases h with rfl | rfl <;> rfl
theorem lin_noId {l : List Lin} : ∀ c ∈ rowsV l, c.noId = true := by
  intro c hc
  obtain ⟨a, _, h⟩ := List.mem_flatMap.1 hc
  simp at h
  rcases h with rfl | rfl | rfl | rfl <;> rfl
theorem whole_spec (x : Whl) (hs0 : x.ss.length < 1099511627776) (hf : x.fs.length < 1099511627776) (hl : x.ls.length < 1099511627776) : VC P 11 [.agg x.c] [] (fun r ob' => r = .agg x.c ∧ ob' = []) := by
  refine VC_of_vwp_c hT ent_11 Try.func11 rfl (by simp) fun R hR => ?_
  refine vwp_sq [0] fun K1 hK1 => vwp_region hT ?_
  simp
  refine hK1 _ ?_
  try clear hK1 K1
  refine vwp_sq [1, 2] fun K2 hK2 => vwp_region hT ?_
  simp
  repeat refine ⟨by first | assumption | omega | (intros; omega), ?_⟩
  refine hK2 _ ?_
  try clear hK2 K2
  refine vwp_seq_k fun K3 hK3 => ?_
  refine vwp_sq [1, 2, 3] fun K4 hK4 => vwp_region hT ?_
  simp
  refine hK4 _ ?_
  try clear hK4 K4
  refine vwp_block ?_
  skip
  refine vwp_loop_s (fun i : Nat => ⟨[(1, .ptr 0 6 0), (2, .ptr 1 6 0), (3, .ptr 2 6 0), (18, fsV x.ss), (19, .int .i64 x.ss.length), (20, .int .i64 (i : Int))], [.live x.c, .live [.nils, .nils, .nils, .int .i64 0, .int .i64 0, .int .i64 0], .live [.sl 3 (i * 4) 4 0 i, .nils, .nils, .int .i64 x.co, .int .i64 x.bo, .int .i64 x.tk], .live (rowsV (x.ss.take i))]⟩) (fun i => i ≤ x.ss.length) (fun i => x.ss.length - i) (0) ((Gh.virtC 2 0 4 rfl rfl).trans (Gh.to_k [1, 2, 3, 18, 19, 20] [0, 1, 2, 3] (he := by simp) (hh := by simp))) (by omega) ?_
  rintro i hi
  have hrl : (rowsV (x.ss.take i)).length = i * 4 := by rw [lenStp, List.length_take, Nat.min_eq_left hi]
  intro K5 hK5
  refine vwp_sq [1, 2, 3, 18, 19, 20] fun K6 hK6 => vwp_region hT ?_
  simp
  refine hK6 _ ?_
  try clear hK6 K6
  refine vwp_seq_k fun K7 hK7 => ?_
  refine vwp_cond (by first | rfl | (simp; rfl)) (fun h1 => ?_) fun h1 => ?_
  · simp -failIfUnchanged at h1; all_goals
   refine vwp_skip ?_
   refine hK7 _ ?_
   try clear hK7 K7
   refine vwp_seq_k fun K8 hK8 => ?_
   refine vwp_block ?_
   obtain ⟨s, hs⟩ := getI (l := x.ss) (i := i) (by omega)
   have hrow := rowStp hs
   have hlen := lenStp x.ss
   refine vwp_sq [1, 2, 3, 18, 19, 20] fun K9 hK9 => vwp_region hT ?_
   simp [hrow, hlen]
   repeat refine ⟨by first | assumption | omega | (intros; omega), ?_⟩
   refine hK9 _ ?_
   try clear hK9 K9
   refine vwp_live [1, 2, 3, 5, 18, 19, 20] (vwp_region hT ?_)
   simp [hrl, zerosV, spl]
   repeat refine ⟨by first | assumption | omega | (intros; omega), ?_⟩
   refine hK8 _ ?_
   try clear hK8 K8
   have w1 : IntKind.i64.wrap ((i : Int) + 1) = i + 1 := w64 (by omega) (by omega)
   refine vwp_live [1, 2, 3, 18, 19, 20] (vwp_region hT ?_)
   simp [w1]
   exact hK5 (i + 1) _ (Gh.to_k [1, 2, 3, 18, 19, 20] [0, 1, 2, 3] (hh := by simp [take_snoc hs, rowsV_snoc, Nat.add_mul])) (by omega) (by omega)
  · simp -failIfUnchanged at h1; all_goals
   refine vwp_exit ?_
   simp only [inBlk, thenQ, if_true]
   refine hK3 _ ?_
   try clear hK3 K3
   refine vwp_seq_k fun K10 hK10 => ?_
   obtain rfl : i = x.ss.length := by omega
   rw [List.take_length] at hrl ⊢
   have htk : List.take (x.ss.length * 4) (rowsV x.ss) = rowsV x.ss := List.take_of_length_le (by omega)
   refine vwp_gh ((Gh.freeze 3 rfl stp_noId).trans (Gh.cellFs 3 2 0 rfl rfl rfl hrl)) ?_
   simp [htk]
   refine vwp_sq [1, 2, 3] fun K11 hK11 => vwp_region hT ?_
   simp
   refine hK11 _ ?_
   try clear hK11 K11
   refine vwp_block ?_
   skip
   refine vwp_loop_s (fun i : Nat => ⟨[(1, .ptr 0 6 0), (2, .ptr 1 6 0), (3, .ptr 2 6 0), (32, fsV x.fs), (33, .int .i64 x.fs.length), (34, .int .i64 (i : Int))], [.live x.c, .live [.nils, .nils, .nils, .int .i64 0, .int .i64 0, .int .i64 0], .live [fsV x.ss, .sl 3 (i * 2) 2 0 i, .nils, .int .i64 x.co, .int .i64 x.bo, .int .i64 x.tk], .live (rowsV (x.fs.take i))]⟩) (fun i => i ≤ x.fs.length) (fun i => x.fs.length - i) (0) ((Gh.virtC 2 1 2 rfl rfl).trans (Gh.to_k [1, 2, 3, 32, 33, 34] [0, 1, 2, 4] (he := by simp) (hh := by simp))) (by omega) ?_
   rintro i hi
   have hrl : (rowsV (x.fs.take i)).length = i * 2 := by rw [lenLft, List.length_take, Nat.min_eq_left hi]
   intro K12 hK12
   refine vwp_sq [1, 2, 3, 32, 33, 34] fun K13 hK13 => vwp_region hT ?_
   simp
   refine hK13 _ ?_
   try clear hK13 K13
   refine vwp_seq_k fun K14 hK14 => ?_
   refine vwp_cond (by first | rfl | (simp; rfl)) (fun h2 => ?_) fun h2 => ?_
   · simp -failIfUnchanged at h2; all_goals
    refine vwp_skip ?_
    refine hK14 _ ?_
    try clear hK14 K14
    refine vwp_seq_k fun K15 hK15 => ?_
    refine vwp_block ?_
    obtain ⟨s, hs⟩ := getI (l := x.fs) (i := i) (by omega)
    have hrow := rowLft hs
    have hlen := lenLft x.fs
    refine vwp_sq [1, 2, 3, 32, 33, 34] fun K16 hK16 => vwp_region hT ?_
    simp [hrow, hlen]
    repeat refine ⟨by first | assumption | omega | (intros; omega), ?_⟩
    refine hK16 _ ?_
    try clear hK16 K16
    refine vwp_live [1, 2, 3, 7, 32, 33, 34] (vwp_region hT ?_)
    simp [hrl, zerosV, spl]
    repeat refine ⟨by first | assumption | omega | (intros; omega), ?_⟩
    refine hK15 _ ?_
    try clear hK15 K15
    have w1 : IntKind.i64.wrap ((i : Int) + 1) = i + 1 := w64 (by omega) (by omega)
    refine vwp_live [1, 2, 3, 32, 33, 34] (vwp_region hT ?_)
    simp [w1]
    exact hK12 (i + 1) _ (Gh.to_k [1, 2, 3, 32, 33, 34] [0, 1, 2, 3] (hh := by simp [take_snoc hs, rowsV_snoc, Nat.add_mul])) (by omega) (by omega)
   · simp -failIfUnchanged at h2; all_goals
    refine vwp_exit ?_
    simp only [inBlk, thenQ, if_true]
    refine hK10 _ ?_
    try clear hK10 K10
    refine vwp_seq_k fun K17 hK17 => ?_
    obtain rfl : i = x.fs.length := by omega
    rw [List.take_length] at hrl ⊢
    have htk : List.take (x.fs.length * 2) (rowsV x.fs) = rowsV x.fs := List.take_of_length_le (by omega)
    refine vwp_gh ((Gh.freeze 3 rfl lft_noId).trans (Gh.cellFs 3 2 1 rfl rfl rfl hrl)) ?_
    simp [htk]
    refine vwp_sq [1, 2, 3] fun K18 hK18 => vwp_region hT ?_
    simp
    refine hK18 _ ?_
    try clear hK18 K18
    refine vwp_block ?_
    skip
    refine vwp_loop_s (fun i : Nat => ⟨[(2, .ptr 1 6 0), (3, .ptr 2 6 0), (46, fsV x.ls), (47, .int .i64 x.ls.length), (48, .int .i64 (i : Int))], [.live x.c, .live [.nils, .nils, .nils, .int .i64 0, .int .i64 0, .int .i64 0], .live [fsV x.ss, fsV x.fs, .sl 3 (i * 4) 4 0 i, .int .i64 x.co, .int .i64 x.bo, .int .i64 x.tk], .live (rowsV (x.ls.take i))]⟩) (fun i => i ≤ x.ls.length) (fun i => x.ls.length - i) (0) ((Gh.virtC 2 2 4 rfl rfl).trans (Gh.to_k [2, 3, 46, 47, 48] [0, 1, 2, 4] (he := by simp) (hh := by simp))) (by omega) ?_
    rintro i hi
    have hrl : (rowsV (x.ls.take i)).length = i * 4 := by rw [lenLin, List.length_take, Nat.min_eq_left hi]
    intro K19 hK19
    refine vwp_sq [2, 3, 46, 47, 48] fun K20 hK20 => vwp_region hT ?_
    simp
    refine hK20 _ ?_
    try clear hK20 K20
    refine vwp_seq_k fun K21 hK21 => ?_
    refine vwp_cond (by first | rfl | (simp; rfl)) (fun h3 => ?_) fun h3 => ?_
    · simp -failIfUnchanged at h3; all_goals
     refine vwp_skip ?_
     refine hK21 _ ?_
     try clear hK21 K21
     refine vwp_seq_k fun K22 hK22 => ?_
     refine vwp_block ?_
     obtain ⟨s, hs⟩ := getI (l := x.ls) (i := i) (by omega)
     have hrow := rowLin hs
     have hlen := lenLin x.ls
     refine vwp_sq [2, 3, 46, 47, 48] fun K23 hK23 => vwp_region hT ?_
     simp [hrow, hlen]
     repeat refine ⟨by first | assumption | omega | (intros; omega), ?_⟩
     refine hK23 _ ?_
     try clear hK23 K23
     refine vwp_live [2, 3, 9, 46, 47, 48] (vwp_region hT ?_)
     simp [hrl, zerosV, spl]
     repeat refine ⟨by first | assumption | omega | (intros; omega), ?_⟩
     refine hK22 _ ?_
     try clear hK22 K22
     have w1 : IntKind.i64.wrap ((i : Int) + 1) = i + 1 := w64 (by omega) (by omega)
     refine vwp_live [2, 3, 46, 47, 48] (vwp_region hT ?_)
     simp [w1]
     exact hK19 (i + 1) _ (Gh.to_k [2, 3, 46, 47, 48] [0, 1, 2, 3] (hh := by simp [take_snoc hs, rowsV_snoc, Nat.add_mul])) (by omega) (by omega)
    · simp -failIfUnchanged at h3; all_goals
     refine vwp_exit ?_
     simp only [inBlk, thenQ, if_true]
     refine hK17 _ ?_
     try clear hK17 K17
     refine vwp_sq [2, 3] fun K24 hK24 => vwp_region hT ?_
     simp
     repeat refine ⟨by first | assumption | omega | (intros; omega), ?_⟩
     refine hK24 _ ?_
     try clear hK24 K24
     refine vwp_ret (hR _ _ ?_)
     obtain rfl : i = x.ls.length := by omega
     rw [List.take_length] at hrl ⊢
     have htk : List.take (x.ls.length * 4) (rowsV x.ls) = rowsV x.ls := List.take_of_length_le (by omega)
     refine ret_gh ((Gh.freeze 3 rfl lin_noId).trans (Gh.cellFs 3 1 2 rfl rfl rfl hrl)) ?_
     simp
     exact retc_only [] ([]) (p := True) (xs := [.agg [fsV x.ss, fsV x.fs, .fs x.ls.length (rowsV x.ls), .int .i64 x.co, .int .i64 x.bo, .int .i64 x.tk]]) (xs' := [.agg x.c]) (by simp [htk]) trivial (by simp) (by simp) rfl (by simp) (by simp) rfl (by simp) (⟨rfl, rfl⟩)
end Go.Proofs.Ytmpakfpmmkfgpaa
