/- What a shipper is shown: the walk. -/
import Derived.Test.YtmpakfpmmkfgpaaLbE
import Derived.Test.YtmpakfpmmkfgpaaVXc
namespace Go.Proofs.Ytmpakfpmmkfgpaa
open Go Go.VX Go.RowKit
set_option linter.unusedVariables false
set_option linter.unusedSimpArgs false
set_option maxHeartbeats 20000000
set_option maxRecDepth 100000
theorem owner_spec (s : Lin) (ow : Int) : VC P 26 [.agg (Lin.cells s), .ptr 0 1 0] [.live [.int .i64 ow]] (fun r ob' => r = .bool (s.ow == ow) ∧ ob' = [.live [.int .i64 ow]]) := by
  refine VC_of_vwp_k ent_26 Try.func26 rfl (by simp) fun R hR => ?_
  refine vwp_sq [0, 1] fun K1 hK1 => vwp_region hT ?_
  simp
  refine hK1 _ ?_
  try clear hK1 K1
  refine vwp_sq [1, 2] fun K2 hK2 => vwp_region hT ?_
  simp
  refine hK2 _ ?_
  try clear hK2 K2
  refine vwp_ret (hR _ _ ?_)
  exact ret_k [3] [0] ([.live [.int .i64 ow]]) (.bool (s.ow == ow)) (⟨rfl, rfl⟩)
theorem index_spec (l : List Lin) (hl : l.length < 1099511627776) (ow : Int) : VC P 25 [fsV l, .fn 26 [.ptr 0 1 0]] [.live [.int .i64 ow]] (fun r ob' => r = .int .i64 (oI (l.findIdx? fun s => s.ow == ow)) ∧ ob' = [.live [.int .i64 ow]]) := by
  refine VC_of_vwp_k ent_25 Try.func25 rfl (by simp) fun R hR => ?_
  refine vwp_sq [0, 1] fun K1 hK1 => vwp_region hT ?_
  simp
  refine hK1 _ ?_
  try clear hK1 K1
  refine vwp_seq_k fun K2 hK2 => ?_
  refine vwp_sq [0, 1] fun K3 hK3 => vwp_region hT ?_
  simp
  refine hK3 _ ?_
  try clear hK3 K3
  refine vwp_block ?_
  refine vwp_loop_s (fun i : Nat => ⟨[(0, fsV l), (1, .fn 26 [.ptr 0 1 0]), (7, .int .i64 l.length), (8, .int .i64 (i : Int))], [.live [.int .i64 ow]]⟩) (fun i => i ≤ l.length ∧ ∀ (j : Nat) s, j < i → l[j]? = some s → (s.ow == ow) = false) (fun i => l.length - i) (0) (Gh.to_k [0, 1, 7, 8] [0]) (⟨by omega, fun j s hj _ => by omega⟩) ?_
  rintro i ⟨hi, hno⟩
  intro K4 hK4
  refine vwp_sq [0, 1, 7, 8] fun K5 hK5 => vwp_region hT ?_
  simp
  refine hK5 _ ?_
  try clear hK5 K5
  refine vwp_seq_k fun K6 hK6 => ?_
  refine vwp_cond (by first | rfl | (simp; rfl)) (fun h1 => ?_) fun h1 => ?_
  · simp -failIfUnchanged at h1; all_goals
   refine vwp_skip ?_
   refine hK6 _ ?_
   try clear hK6 K6
   refine vwp_seq_k fun K7 hK7 => ?_
   refine vwp_block ?_
   refine vwp_sq [0, 1, 7, 8] fun K8 hK8 => vwp_region hT ?_
   simp
   refine hK8 _ ?_
   try clear hK8 K8
   obtain ⟨s, hs⟩ := getI (l := l) (i := i) (by omega)
   have hrow := rowLin hs
   have hlen := lenLin l
   refine vwp_sq [0, 1, 5, 7, 8] fun K9 hK9 => vwp_region hT ?_
   simp [hrow, hlen]
   repeat refine ⟨by first | assumption | omega | (intros; omega), ?_⟩
   refine vcall_k [0] (owner_spec s ow) ?_
   rintro r ob' ⟨rfl, rfl⟩
   simp [hrow, hlen]
   repeat refine ⟨by first | assumption | omega | (intros; omega), ?_⟩
   refine hK9 _ ?_
   try clear hK9 K9
   refine vwp_cond (by first | rfl | (simp; rfl)) (fun h2 => ?_) fun h2 => ?_
   · simp -failIfUnchanged at h2; all_goals
    have q := h2
    have hp : (s.ow == ow) = true := by simpa using q
    have hfi := findIdx_some (p := fun s => s.ow == ow) hs hp fun j y hj hy => hno j y hj hy
    refine vwp_sq [5] fun K10 hK10 => vwp_region hT ?_
    simp
    refine hK10 _ ?_
    try clear hK10 K10
    refine vwp_ret (hR _ _ ?_)
    rw [hfi]
    exact ret_k [4] [0] ([.live [.int .i64 ow]]) (.int .i64 (oI (some i))) (⟨rfl, rfl⟩) (hr := by simp [oI])
   · simp -failIfUnchanged at h2; all_goals
    have q := h2
    have hp : (s.ow == ow) = false := by simpa using q
    refine vwp_skip ?_
    refine hK7 _ ?_
    try clear hK7 K7
    have w1 : IntKind.i64.wrap ((i : Int) + 1) = i + 1 := w64 (by omega) (by omega)
    refine vwp_live [0, 1, 7, 8] (vwp_region hT ?_)
    simp [w1]
    exact hK4 (i + 1) _ (Gh.to_k [0, 1, 7, 8] [0]) (⟨by omega, fun j y hj hy => by
        rcases Nat.lt_or_ge j i with q | q
        · exact hno j y q hy
        · obtain rfl : j = i := by omega
          rw [hs] at hy; cases hy; exact hp⟩) (by omega)
  · simp -failIfUnchanged at h1; all_goals
   refine vwp_exit ?_
   simp only [inBlk, thenQ, if_true]
   refine hK2 _ ?_
   try clear hK2 K2
   refine vwp_sq [] fun K11 hK11 => vwp_region hT ?_
   simp
   refine hK11 _ ?_
   try clear hK11 K11
   refine vwp_ret (hR _ _ ?_)
   have hfi := findIdx_none (p := fun s => s.ow == ow) (l := l) fun j y hj hy => hno j y (by omega) hy
   rw [hfi]
   exact ret_k [4] [0] ([.live [.int .i64 ow]]) (.int .i64 (oI none)) (⟨rfl, rfl⟩) (hr := by simp [oI])

def bitP (po : Int) : Nat → Int
  | 0 => po % 2
  | 1 => po / 2 % 2
  | 2 => po / 4 % 2
  | _ => po / 8 % 2
def valP (x : Whl) : Nat → Int
  | 0 => x.tk
  | 1 => x.co
  | 2 => x.bo
  | _ => x.ss.length
def gP (x : Whl) (po : Int) : Nat → List Int
  | 0 => []
  | i + 1 => gP x po i ++ (if bitP po i = 1 then [valP x i] else [])
theorem gP_le (x : Whl) (po : Int) : ∀ i, (gP x po i).length ≤ i
  | 0 => by simp [gP]
  | i + 1 => by have := gP_le x po i; simp only [gP, List.length_append]; split <;> simp <;> omega
theorem gP4 (x : Whl) (po : Int) (h : po ≤ 15) (h0 : 0 ≤ po) : gP x po 4 = grantsP x po := by
  simp only [gP, grantsP, bitP, valP, List.nil_append]
theorem grants_spec (x : Whl) (po : Int) (h0 : 0 ≤ po) (h15 : po ≤ 15) : VC P 21 [.agg x.c, .int .i64 po] [] (fun r ob' => r = .sl 0 (grantsP x po).length 1 0 (grantsP x po).length ∧ ob' = [.live (ints (grantsP x po))]) := by
  refine VC_of_vwp_k ent_21 Try.func21 rfl (by simp) fun R hR => ?_
  refine vwp_sq [0, 1] fun K1 hK1 => vwp_region hT ?_
  simp
  refine hK1 _ ?_
  try clear hK1 K1
  refine vwp_sq [1, 2] fun K2 hK2 => vwp_region hT ?_
  simp
  refine hK2 _ ?_
  try clear hK2 K2
  refine vwp_seq_k fun K3 hK3 => ?_
  refine vwp_sq [1, 2, 5] fun K4 hK4 => vwp_region hT ?_
  simp
  refine hK4 _ ?_
  try clear hK4 K4
  refine vwp_block ?_
  refine vwp_loop_s (fun i : Nat => ⟨[(1, .int .i64 po), (5, .sl 1 (gP x po i).length 1 0 (gP x po i).length), (17, .agg [V.int .i64 x.tk, V.int .i64 x.co, V.int .i64 x.bo, V.int .i64 x.ss.length]), (18, .int .i64 (i : Int))], [.live x.c, .live (ints (gP x po i))]⟩) (fun i => i ≤ 4) (fun i => 4 - i) (0) ((Gh.virt 5 1 (by simp)).trans (Gh.to_k [1, 5, 17, 18] [0, 1] (he := by simp [gP]) (hh := by simp [gP]))) (by omega) ?_
  rintro i hi
  have hgl := gP_le x po i
  intro K5 hK5
  refine vwp_sq [1, 5, 17, 18] fun K6 hK6 => vwp_region hT ?_
  simp
  refine hK6 _ ?_
  try clear hK6 K6
  refine vwp_seq_k fun K7 hK7 => ?_
  refine vwp_cond (by first | rfl | (simp; rfl)) (fun h1 => ?_) fun h1 => ?_
  · simp -failIfUnchanged at h1; all_goals
   refine vwp_skip ?_
   refine hK7 _ ?_
   try clear hK7 K7
   refine vwp_seq_k fun K8 hK8 => ?_
   refine vwp_block ?_
   refine vwp_seq_k fun K9 hK9 => ?_
   rcases i with _ | _ | _ | _ | i
   · have hw : IntKind.i64.wrap 1 = 1 := rfl
     have hgl2 : (gP x po 0).length ≤ 0 := gP_le x po 0
     have hq : ibits .and .i64 po 1 = po % 2 := by
       rw [and1 (by omega) (by omega)]
     refine vwp_live [1, 5, 17, 18] (vwp_region hT ?_)
     simp
     repeat refine ⟨by first | assumption | omega | (intros; omega), ?_⟩
     refine hK9 _ ?_
     try clear hK9 K9
     refine vwp_sq [1, 5, 6, 7, 17, 18] fun K10 hK10 => vwp_region hT ?_
     simp [hq]
     repeat refine ⟨by first | assumption | omega | (intros; omega), ?_⟩
     refine hK10 _ ?_
     try clear hK10 K10
     refine vwp_cond (by first | rfl | (simp; rfl)) (fun h2 => ?_) fun h2 => ?_
     · simp -failIfUnchanged at h2; all_goals
      have q := h2
      have hb : bitP po 0 = 1 := by simpa [bitP] using q
      have hg : gP x po 1 = gP x po 0 ++ [x.tk] := by
        show gP x po 0 ++ (if bitP po 0 = 1 then [valP x 0] else []) = _
        rw [if_pos hb]; rfl
      refine vwp_live [1, 5, 7, 17, 18] (vwp_region hT ?_)
      simp
      repeat refine ⟨by first | assumption | omega | (intros; omega), ?_⟩
      refine hK8 _ ?_
      try clear hK8 K8
      skip
      refine vwp_live [1, 5, 17, 18] (vwp_region hT ?_)
      simp [hw]
      exact hK5 1 _ (Gh.to_k [1, 5, 17, 18] [0, 1] (he := by simp [hg]) (hh := by simp [hg])) (by omega) (by omega)
     · simp -failIfUnchanged at h2; all_goals
      have q := h2
      have hb : ¬ bitP po 0 = 1 := by simpa [bitP] using q
      have hg : gP x po 1 = gP x po 0 := by
        show gP x po 0 ++ (if bitP po 0 = 1 then [valP x 0] else []) = _
        rw [if_neg hb, List.append_nil]
      refine vwp_skip ?_
      refine hK8 _ ?_
      try clear hK8 K8
      skip
      refine vwp_live [1, 5, 17, 18] (vwp_region hT ?_)
      simp [hw]
      exact hK5 1 _ (Gh.to_k [1, 5, 17, 18] [0, 1] (he := by simp [hg]) (hh := by simp [hg])) (by omega) (by omega)
   · have hw : IntKind.i64.wrap 2 = 2 := rfl
     have hgl2 : (gP x po 1).length ≤ 1 := gP_le x po 1
     have hq : ibits .and .i64 (po.fdiv 2) 1 = po / 2 % 2 := by
       rw [Int.fdiv_eq_ediv_of_nonneg _ (by omega), and1 (by omega) (by omega)]
     refine vwp_live [1, 5, 17, 18] (vwp_region hT ?_)
     simp
     repeat refine ⟨by first | assumption | omega | (intros; omega), ?_⟩
     refine hK9 _ ?_
     try clear hK9 K9
     refine vwp_sq [1, 5, 6, 7, 17, 18] fun K11 hK11 => vwp_region hT ?_
     simp [hq]
     repeat refine ⟨by first | assumption | omega | (intros; omega), ?_⟩
     refine hK11 _ ?_
     try clear hK11 K11
     refine vwp_cond (by first | rfl | (simp; rfl)) (fun h3 => ?_) fun h3 => ?_
     · simp -failIfUnchanged at h3; all_goals
      have q := h3
      have hb : bitP po 1 = 1 := by simpa [bitP] using q
      have hg : gP x po 2 = gP x po 1 ++ [x.co] := by
        show gP x po 1 ++ (if bitP po 1 = 1 then [valP x 1] else []) = _
        rw [if_pos hb]; rfl
      refine vwp_live [1, 5, 7, 17, 18] (vwp_region hT ?_)
      simp
      repeat refine ⟨by first | assumption | omega | (intros; omega), ?_⟩
      refine hK8 _ ?_
      try clear hK8 K8
      skip
      refine vwp_live [1, 5, 17, 18] (vwp_region hT ?_)
      simp [hw]
      exact hK5 2 _ (Gh.to_k [1, 5, 17, 18] [0, 1] (he := by simp [hg]) (hh := by simp [hg])) (by omega) (by omega)
     · simp -failIfUnchanged at h3; all_goals
      have q := h3
      have hb : ¬ bitP po 1 = 1 := by simpa [bitP] using q
      have hg : gP x po 2 = gP x po 1 := by
        show gP x po 1 ++ (if bitP po 1 = 1 then [valP x 1] else []) = _
        rw [if_neg hb, List.append_nil]
      refine vwp_skip ?_
      refine hK8 _ ?_
      try clear hK8 K8
      skip
      refine vwp_live [1, 5, 17, 18] (vwp_region hT ?_)
      simp [hw]
      exact hK5 2 _ (Gh.to_k [1, 5, 17, 18] [0, 1] (he := by simp [hg]) (hh := by simp [hg])) (by omega) (by omega)
   · have hw : IntKind.i64.wrap 3 = 3 := rfl
     have hgl2 : (gP x po 2).length ≤ 2 := gP_le x po 2
     have hq : ibits .and .i64 (po.fdiv 4) 1 = po / 4 % 2 := by
       rw [Int.fdiv_eq_ediv_of_nonneg _ (by omega), and1 (by omega) (by omega)]
     refine vwp_live [1, 5, 17, 18] (vwp_region hT ?_)
     simp
     repeat refine ⟨by first | assumption | omega | (intros; omega), ?_⟩
     refine hK9 _ ?_
     try clear hK9 K9
     refine vwp_sq [1, 5, 6, 7, 17, 18] fun K12 hK12 => vwp_region hT ?_
     simp [hq]
     repeat refine ⟨by first | assumption | omega | (intros; omega), ?_⟩
     refine hK12 _ ?_
     try clear hK12 K12
     refine vwp_cond (by first | rfl | (simp; rfl)) (fun h4 => ?_) fun h4 => ?_
     · simp -failIfUnchanged at h4; all_goals
      have q := h4
      have hb : bitP po 2 = 1 := by simpa [bitP] using q
      have hg : gP x po 3 = gP x po 2 ++ [x.bo] := by
        show gP x po 2 ++ (if bitP po 2 = 1 then [valP x 2] else []) = _
        rw [if_pos hb]; rfl
      refine vwp_live [1, 5, 7, 17, 18] (vwp_region hT ?_)
      simp
      repeat refine ⟨by first | assumption | omega | (intros; omega), ?_⟩
      refine hK8 _ ?_
      try clear hK8 K8
      skip
      refine vwp_live [1, 5, 17, 18] (vwp_region hT ?_)
      simp [hw]
      exact hK5 3 _ (Gh.to_k [1, 5, 17, 18] [0, 1] (he := by simp [hg]) (hh := by simp [hg])) (by omega) (by omega)
     · simp -failIfUnchanged at h4; all_goals
      have q := h4
      have hb : ¬ bitP po 2 = 1 := by simpa [bitP] using q
      have hg : gP x po 3 = gP x po 2 := by
        show gP x po 2 ++ (if bitP po 2 = 1 then [valP x 2] else []) = _
        rw [if_neg hb, List.append_nil]
      refine vwp_skip ?_
      refine hK8 _ ?_
      try clear hK8 K8
      skip
      refine vwp_live [1, 5, 17, 18] (vwp_region hT ?_)
      simp [hw]
      exact hK5 3 _ (Gh.to_k [1, 5, 17, 18] [0, 1] (he := by simp [hg]) (hh := by simp [hg])) (by omega) (by omega)
   · have hw : IntKind.i64.wrap 4 = 4 := rfl
     have hgl2 : (gP x po 3).length ≤ 3 := gP_le x po 3
     have hq : ibits .and .i64 (po.fdiv 8) 1 = po / 8 % 2 := by
       rw [Int.fdiv_eq_ediv_of_nonneg _ (by omega), and1 (by omega) (by omega)]
     refine vwp_live [1, 5, 17, 18] (vwp_region hT ?_)
     simp
     repeat refine ⟨by first | assumption | omega | (intros; omega), ?_⟩
     refine hK9 _ ?_
     try clear hK9 K9
     refine vwp_sq [1, 5, 6, 7, 17, 18] fun K13 hK13 => vwp_region hT ?_
     simp [hq]
     repeat refine ⟨by first | assumption | omega | (intros; omega), ?_⟩
     refine hK13 _ ?_
     try clear hK13 K13
     refine vwp_cond (by first | rfl | (simp; rfl)) (fun h5 => ?_) fun h5 => ?_
     · simp -failIfUnchanged at h5; all_goals
      have q := h5
      have hb : bitP po 3 = 1 := by simpa [bitP] using q
      have hg : gP x po 4 = gP x po 3 ++ [(x.ss.length : Int)] := by
        show gP x po 3 ++ (if bitP po 3 = 1 then [valP x 3] else []) = _
        rw [if_pos hb]; rfl
      refine vwp_live [1, 5, 7, 17, 18] (vwp_region hT ?_)
      simp
      repeat refine ⟨by first | assumption | omega | (intros; omega), ?_⟩
      refine hK8 _ ?_
      try clear hK8 K8
      skip
      refine vwp_live [1, 5, 17, 18] (vwp_region hT ?_)
      simp [hw]
      exact hK5 4 _ (Gh.to_k [1, 5, 17, 18] [0, 1] (he := by simp [hg]) (hh := by simp [hg])) (by omega) (by omega)
     · simp -failIfUnchanged at h5; all_goals
      have q := h5
      have hb : ¬ bitP po 3 = 1 := by simpa [bitP] using q
      have hg : gP x po 4 = gP x po 3 := by
        show gP x po 3 ++ (if bitP po 3 = 1 then [valP x 3] else []) = _
        rw [if_neg hb, List.append_nil]
      refine vwp_skip ?_
      refine hK8 _ ?_
      try clear hK8 K8
      skip
      refine vwp_live [1, 5, 17, 18] (vwp_region hT ?_)
      simp [hw]
      exact hK5 4 _ (Gh.to_k [1, 5, 17, 18] [0, 1] (he := by simp [hg]) (hh := by simp [hg])) (by omega) (by omega)
   · omega
  · simp -failIfUnchanged at h1; all_goals
   refine vwp_exit ?_
   simp only [inBlk, thenQ, if_true]
   refine hK3 _ ?_
   try clear hK3 K3
   refine vwp_sq [5] fun K14 hK14 => vwp_region hT ?_
   simp
   refine hK14 _ ?_
   try clear hK14 K14
   refine vwp_ret (hR _ _ ?_)
   obtain rfl : i = 4 := by omega
   rw [gP4 x po h15 h0]
   exact ret_k [4] [1] ([.live (ints (grantsP x po))]) (.sl 0 (grantsP x po).length 1 0 (grantsP x po).length) (⟨rfl, rfl⟩)
end Go.Proofs.Ytmpakfpmmkfgpaa
