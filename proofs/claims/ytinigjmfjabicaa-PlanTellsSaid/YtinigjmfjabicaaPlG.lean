/- Worlds that may be, by the program and by the document: the walk. -/
import Derived.Test.YtinigjmfjabicaaPlF
namespace Go.Proofs.Ytinigjmfjabicaa
open Go Go.VX Go.RowKit
set_option linter.unusedVariables false
set_option linter.unusedSimpArgs false
set_option maxHeartbeats 20000000
set_option maxRecDepth 100000
theorem world1_spec (w : Wd) (hn : 1 ≤ w.n ∧ w.n ≤ 16) (o : Od) : VC P 84 [.agg (Od.cells o), .fp w.c] [] (fun r ob' => r = .int .i64 (okE (ordB w.n o)) ∧ ob' = []) := by
  refine VC_of_vwp_k ent_84 Try.func84 rfl (by simp) fun R hR => ?_
  refine vwp_sq [0, 1] fun K1 hK1 => vwp_region hT ?_
  simp
  refine hK1 _ ?_
  try clear hK1 K1
  refine vwp_sq [1, 2] fun K2 hK2 => vwp_region hT ?_
  simp
  refine vcall_z [] (order_spec w.n hn o) (by rintro r ob' ⟨rfl, rfl⟩; simp) ?_
  rintro r ob' ⟨rfl, rfl⟩
  simp
  refine hK2 _ ?_
  try clear hK2 K2
  refine vwp_ret (hR _ _ ?_)
  exact ret_k [3] [] ([]) (.int .i64 (okE (ordB w.n o))) (⟨rfl, rfl⟩)
theorem each_o (l : List Od) (hl : l.length < 1099511627776) (w : Wd) (hn : 1 ≤ w.n ∧ w.n ≤ 16) : VC P 83 [.fs l.length (rowsV l), .fn 84 [.fp w.c]] [] (fun r ob' => r = .int .i64 (okE (l.all fun s => ordB w.n s)) ∧ ob' = []) := by
  refine VC_of_vwp_k ent_83 Try.func83 rfl (by simp) fun R hR => ?_
  refine vwp_sq [0, 1] fun K1 hK1 => vwp_region hT ?_
  simp
  refine hK1 _ ?_
  try clear hK1 K1
  refine vwp_seq_k fun K2 hK2 => ?_
  refine vwp_sq [0, 1] fun K3 hK3 => vwp_region hT ?_
  simp
  refine hK3 _ ?_
  try clear hK3 K3
  refine vwp_block ?_
  refine vwp_loop_s (fun i : Nat => ⟨[(1, .fn 84 [.fp w.c]), (8, .fs l.length (rowsV l)), (9, .int .i64 l.length), (10, .int .i64 (i : Int))], []⟩) (fun i => i ≤ l.length ∧ (l.take i).all (fun s => ordB w.n s) = true) (fun i => l.length - i) (0) (Gh.to_k [1, 8, 9, 10] []) (⟨by omega, by simp⟩) ?_
  rintro i ⟨hi, hal⟩
  intro K4 hK4
  refine vwp_sq [1, 8, 9, 10] fun K5 hK5 => vwp_region hT ?_
  simp
  refine hK5 _ ?_
  try clear hK5 K5
  refine vwp_seq_k fun K6 hK6 => ?_
  refine vwp_cond (by first | rfl | (simp; rfl)) (fun h1 => ?_) fun h1 => ?_
  · simp -failIfUnchanged at h1; all_goals
   refine vwp_skip ?_
   refine hK6 _ ?_
   try clear hK6 K6
   refine vwp_seq_k fun K7 hK7 => ?_
   refine vwp_block ?_
   obtain ⟨s, hs⟩ := getI (l := l) (i := i) (by omega)
   have hrow := rowOd hs
   have hlen := lenOd l
   refine vwp_sq [1, 8, 9, 10] fun K8 hK8 => vwp_region hT ?_
   simp [hrow, hlen]
   repeat refine ⟨by first | assumption | omega | (intros; omega), ?_⟩
   refine hK8 _ ?_
   try clear hK8 K8
   refine vwp_sq [1, 6, 8, 9, 10] fun K9 hK9 => vwp_region hT ?_
   simp
   refine vcall_z [] (world1_spec w hn s) (by rintro r ob' ⟨rfl, rfl⟩; simp) ?_
   rintro r ob' ⟨rfl, rfl⟩
   simp
   refine hK9 _ ?_
   try clear hK9 K9
   refine vwp_seq_k fun K10 hK10 => ?_
   rcases hp : (ordB w.n s) with _ | _
   · refine vwp_live [1, 7, 8, 9, 10] (vwp_region hT ?_)
     simp [hp, okE]
     refine hK10 _ ?_
     try clear hK10 K10
     refine vwp_cond (by first | rfl | (simp; rfl)) (fun h2 => ?_) fun h2 => ?_
     · simp -failIfUnchanged at h2; all_goals
      refine vwp_sq [7] fun K11 hK11 => vwp_region hT ?_
      simp [okE]
      refine hK11 _ ?_
      try clear hK11 K11
      refine vwp_ret (hR _ _ ?_)
      have hal : (l.all fun s => ordB w.n s) = false := List.all_eq_false.2 ⟨s, List.mem_of_getElem? hs, by simp [hp]⟩
      rw [hal]
      exact ret_k [4] [] ([]) (.int .i64 (okE false)) (⟨rfl, rfl⟩) (hr := by simp [okE])
     · simp -failIfUnchanged at h2; all_goals
      refine vwp_skip ?_
      refine hK7 _ ?_
      try clear hK7 K7
      simp_all
   · refine vwp_live [1, 7, 8, 9, 10] (vwp_region hT ?_)
     simp [hp, okE]
     refine hK10 _ ?_
     try clear hK10 K10
     refine vwp_cond (by first | rfl | (simp; rfl)) (fun h3 => ?_) fun h3 => ?_
     · simp -failIfUnchanged at h3; all_goals
      refine vwp_seq_k fun K12 hK12 => ?_
      simp_all
     · simp -failIfUnchanged at h3; all_goals
      refine vwp_skip ?_
      refine hK7 _ ?_
      try clear hK7 K7
      have w1 : IntKind.i64.wrap ((i : Int) + 1) = i + 1 := w64 (by omega) (by omega)
      refine vwp_live [1, 8, 9, 10] (vwp_region hT ?_)
      simp [w1]
      exact hK4 (i + 1) _ (Gh.to_k [1, 8, 9, 10] []) (⟨by omega, by rw [take_snoc hs, List.all_append, hal]; simp [hp]⟩) (by omega)
  · simp -failIfUnchanged at h1; all_goals
   refine vwp_exit ?_
   simp only [inBlk, thenQ, if_true]
   refine hK2 _ ?_
   try clear hK2 K2
   refine vwp_sq [] fun K13 hK13 => vwp_region hT ?_
   simp
   refine hK13 _ ?_
   try clear hK13 K13
   refine vwp_ret (hR _ _ ?_)
   obtain rfl : i = l.length := by omega
   rw [List.take_length] at hal
   rw [hal]
   exact ret_k [4] [] ([]) (.int .i64 (okE true)) (⟨rfl, rfl⟩) (hr := by simp [okE])
theorem each_t (l : List Tk) (hl : l.length < 1099511627776)  : VC P 86 [.fs l.length (rowsV l), .fn 87 []] [] (fun r ob' => r = .int .i64 (okE (l.all fun s => trkB s)) ∧ ob' = []) := by
  refine VC_of_vwp_k ent_86 Try.func86 rfl (by simp) fun R hR => ?_
  refine vwp_sq [0, 1] fun K1 hK1 => vwp_region hT ?_
  simp
  refine hK1 _ ?_
  try clear hK1 K1
  refine vwp_seq_k fun K2 hK2 => ?_
  refine vwp_sq [0, 1] fun K3 hK3 => vwp_region hT ?_
  simp
  refine hK3 _ ?_
  try clear hK3 K3
  refine vwp_block ?_
  refine vwp_loop_s (fun i : Nat => ⟨[(1, .fn 87 []), (8, .fs l.length (rowsV l)), (9, .int .i64 l.length), (10, .int .i64 (i : Int))], []⟩) (fun i => i ≤ l.length ∧ (l.take i).all (fun s => trkB s) = true) (fun i => l.length - i) (0) (Gh.to_k [1, 8, 9, 10] []) (⟨by omega, by simp⟩) ?_
  rintro i ⟨hi, hal⟩
  intro K4 hK4
  refine vwp_sq [1, 8, 9, 10] fun K5 hK5 => vwp_region hT ?_
  simp
  refine hK5 _ ?_
  try clear hK5 K5
  refine vwp_seq_k fun K6 hK6 => ?_
  refine vwp_cond (by first | rfl | (simp; rfl)) (fun h1 => ?_) fun h1 => ?_
  · simp -failIfUnchanged at h1; all_goals
   refine vwp_skip ?_
   refine hK6 _ ?_
   try clear hK6 K6
   refine vwp_seq_k fun K7 hK7 => ?_
   refine vwp_block ?_
   obtain ⟨s, hs⟩ := getI (l := l) (i := i) (by omega)
   have hrow := rowTk hs
   have hlen := lenTk l
   refine vwp_sq [1, 8, 9, 10] fun K8 hK8 => vwp_region hT ?_
   simp [hrow, hlen]
   repeat refine ⟨by first | assumption | omega | (intros; omega), ?_⟩
   refine hK8 _ ?_
   try clear hK8 K8
   refine vwp_sq [1, 6, 8, 9, 10] fun K9 hK9 => vwp_region hT ?_
   simp
   refine vcall_z [] (truck_spec s) (by rintro r ob' ⟨rfl, rfl⟩; simp) ?_
   rintro r ob' ⟨rfl, rfl⟩
   simp
   refine hK9 _ ?_
   try clear hK9 K9
   refine vwp_seq_k fun K10 hK10 => ?_
   rcases hp : (trkB s) with _ | _
   · refine vwp_live [1, 7, 8, 9, 10] (vwp_region hT ?_)
     simp [hp, okE]
     refine hK10 _ ?_
     try clear hK10 K10
     refine vwp_cond (by first | rfl | (simp; rfl)) (fun h2 => ?_) fun h2 => ?_
     · simp -failIfUnchanged at h2; all_goals
      refine vwp_sq [7] fun K11 hK11 => vwp_region hT ?_
      simp [okE]
      refine hK11 _ ?_
      try clear hK11 K11
      refine vwp_ret (hR _ _ ?_)
      have hal : (l.all fun s => trkB s) = false := List.all_eq_false.2 ⟨s, List.mem_of_getElem? hs, by simp [hp]⟩
      rw [hal]
      exact ret_k [4] [] ([]) (.int .i64 (okE false)) (⟨rfl, rfl⟩) (hr := by simp [okE])
     · simp -failIfUnchanged at h2; all_goals
      refine vwp_skip ?_
      refine hK7 _ ?_
      try clear hK7 K7
      simp_all
   · refine vwp_live [1, 7, 8, 9, 10] (vwp_region hT ?_)
     simp [hp, okE]
     refine hK10 _ ?_
     try clear hK10 K10
     refine vwp_cond (by first | rfl | (simp; rfl)) (fun h3 => ?_) fun h3 => ?_
     · simp -failIfUnchanged at h3; all_goals
      refine vwp_seq_k fun K12 hK12 => ?_
      simp_all
     · simp -failIfUnchanged at h3; all_goals
      refine vwp_skip ?_
      refine hK7 _ ?_
      try clear hK7 K7
      have w1 : IntKind.i64.wrap ((i : Int) + 1) = i + 1 := w64 (by omega) (by omega)
      refine vwp_live [1, 8, 9, 10] (vwp_region hT ?_)
      simp [w1]
      exact hK4 (i + 1) _ (Gh.to_k [1, 8, 9, 10] []) (⟨by omega, by rw [take_snoc hs, List.all_append, hal]; simp [hp]⟩) (by omega)
  · simp -failIfUnchanged at h1; all_goals
   refine vwp_exit ?_
   simp only [inBlk, thenQ, if_true]
   refine hK2 _ ?_
   try clear hK2 K2
   refine vwp_sq [] fun K13 hK13 => vwp_region hT ?_
   simp
   refine hK13 _ ?_
   try clear hK13 K13
   refine vwp_ret (hR _ _ ?_)
   obtain rfl : i = l.length := by omega
   rw [List.take_length] at hal
   rw [hal]
   exact ret_k [4] [] ([]) (.int .i64 (okE true)) (⟨rfl, rfl⟩) (hr := by simp [okE])

def loadE (n : Int) (os : List Od) (ts : List Tk) : Int := if 12 < os.length ∨ 6 < ts.length then 4 else if os.all (ordB n ·) = true ∧ ts.all trkB = true then (if (os.map (·.id)).Nodup ∧ (ts.map (·.id)).Nodup then 0 else 6) else 1
def Wd.e (w : Wd) : Int := if areaB w.n w.D w.T = true then loadE w.n w.os w.ts else 1
theorem lworld_spec (w : Wd) (hn : 1 ≤ w.n ∧ w.n ≤ 16) (ho : w.os.length < 1099511627776) (ht : w.ts.length < 1099511627776) : VC P 57 [.agg w.c] [] (fun r ob' => r = .int .i64 (loadE w.n w.os w.ts) ∧ ob' = []) := by
  refine VC_of_vwp_k ent_57 Try.func57 rfl (by simp) fun R hR => ?_
  refine vwp_sq [0] fun K1 hK1 => vwp_region hT ?_
  simp
  refine hK1 _ ?_
  try clear hK1 K1
  refine vwp_seq_k fun K2 hK2 => ?_
  refine vwp_sq [1] fun K3 hK3 => vwp_region hT ?_
  simp
  refine hK3 _ ?_
  try clear hK3 K3
  refine vwp_cond (by first | rfl | (simp; rfl)) (fun h1 => ?_) fun h1 => ?_
  · simp -failIfUnchanged at h1; all_goals
   have q := h1
   refine vwp_sq [] fun K4 hK4 => vwp_region hT ?_
   simp
   refine hK4 _ ?_
   try clear hK4 K4
   refine vwp_ret (hR _ _ ?_)
   have hw : loadE w.n w.os w.ts = 4 := by
     unfold loadE
     rw [if_pos (by omega)]
   rw [hw]
   exact ret_k [2] [] ([]) (.int .i64 4) (⟨rfl, rfl⟩)
  · simp -failIfUnchanged at h1; all_goals
   have q := h1
   have s1 : w.os.length ≤ 12 := by omega
   have s2 : w.ts.length ≤ 6 := by omega
   refine vwp_skip ?_
   refine hK2 _ ?_
   try clear hK2 K2
   refine vwp_sq [1] fun K5 hK5 => vwp_region hT ?_
   simp
   refine vcall_z [] (each_o w.os ho w hn) (by rintro r ob' ⟨rfl, rfl⟩; simp) ?_
   rintro r ob' ⟨rfl, rfl⟩
   simp
   refine hK5 _ ?_
   try clear hK5 K5
   refine vwp_sq [1, 3] fun K6 hK6 => vwp_region hT ?_
   simp
   refine vcall_z [] (each_t w.ts ht) (by rintro r ob' ⟨rfl, rfl⟩; simp) ?_
   rintro r ob' ⟨rfl, rfl⟩
   simp
   refine hK6 _ ?_
   try clear hK6 K6
   refine vwp_seq_k fun K7 hK7 => ?_
   refine vwp_block ?_
   refine vwp_seq_k fun K8 hK8 => ?_
   rcases p1 : (w.os.all fun s => ordB w.n s) with _ | _
   · refine vwp_live [1, 3, 4] (vwp_region hT ?_)
     simp [p1, okE]
     refine hK8 _ ?_
     try clear hK8 K8
     refine vwp_cond (by first | rfl | (simp; rfl)) (fun h2 => ?_) fun h2 => ?_
     · simp -failIfUnchanged at h2; all_goals
      refine vwp_sq [] fun K9 hK9 => vwp_region hT ?_
      simp
      refine hK9 _ ?_
      try clear hK9 K9
      refine vwp_ret (hR _ _ ?_)
      have hw : loadE w.n w.os w.ts = 1 := by
        unfold loadE
        rw [if_neg (by omega)]
        rw [if_neg (by simp [p1])]
      rw [hw]
      exact ret_k [2] [] ([]) (.int .i64 1) (⟨rfl, rfl⟩)
     · simp -failIfUnchanged at h2; all_goals
      refine vwp_seq_k fun K10 hK10 => ?_
      simp_all
   · rcases p2 : (w.ts.all fun s => trkB s) with _ | _
     skip
     · refine vwp_live [1, 3, 4] (vwp_region hT ?_)
       simp [p1, p2, okE]
       refine hK8 _ ?_
       try clear hK8 K8
       refine vwp_cond (by first | rfl | (simp; rfl)) (fun h3 => ?_) fun h3 => ?_
       · simp -failIfUnchanged at h3; all_goals
        refine vwp_sq [] fun K11 hK11 => vwp_region hT ?_
        simp
        refine hK11 _ ?_
        try clear hK11 K11
        refine vwp_ret (hR _ _ ?_)
        have hw : loadE w.n w.os w.ts = 1 := by
          unfold loadE
          rw [if_neg (by omega)]
          rw [if_neg (by simp [p2])]
        rw [hw]
        exact ret_k [2] [] ([]) (.int .i64 1) (⟨rfl, rfl⟩)
       · simp -failIfUnchanged at h3; all_goals
        refine vwp_seq_k fun K12 hK12 => ?_
        simp_all
     · have hw0 : loadE w.n w.os w.ts = if (w.os.map (·.id)).Nodup ∧ (w.ts.map (·.id)).Nodup then 0 else 6 := by
         unfold loadE
         rw [if_neg (by omega), if_pos ⟨p1, p2⟩]
       refine vwp_live [1, 3, 4] (vwp_region hT ?_)
       simp [p1, p2, okE]
       refine hK8 _ ?_
       try clear hK8 K8
       refine vwp_cond (by first | rfl | (simp; rfl)) (fun h4 => ?_) fun h4 => ?_
       · simp -failIfUnchanged at h4; all_goals
        refine vwp_seq_k fun K13 hK13 => ?_
        simp_all
       · simp -failIfUnchanged at h4; all_goals
        refine vwp_seq_k fun K14 hK14 => ?_
        by_cases p3 : (w.os.map (·.id)).Nodup
        · refine vwp_live [1] (vwp_region hT ?_)
          simp [p3]
          refine vcall_z [] (alike_o w.os ho) (by rintro r ob' ⟨rfl, rfl⟩; simp) ?_
          rintro r ob' ⟨rfl, rfl⟩
          simp [p3]
          refine vcall_z [] (alike_t w.ts ht) (by rintro r ob' ⟨rfl, rfl⟩; simp) ?_
          rintro r ob' ⟨rfl, rfl⟩
          simp [p3]
          refine hK14 _ ?_
          try clear hK14 K14
          refine vwp_cond (by first | rfl | (simp; rfl)) (fun h5 => ?_) fun h5 => ?_
          · simp -failIfUnchanged at h5; all_goals
           have q := h5
           refine vwp_sq [] fun K15 hK15 => vwp_region hT ?_
           simp
           refine hK15 _ ?_
           try clear hK15 K15
           refine vwp_ret (hR _ _ ?_)
           rw [hw0, if_neg (fun k => by simp_all)]
           exact ret_k [2] [] ([]) (.int .i64 6) (⟨rfl, rfl⟩)
          · simp -failIfUnchanged at h5; all_goals
           have q := h5
           refine vwp_skip ?_
           refine hK7 _ ?_
           try clear hK7 K7
           refine vwp_sq [] fun K16 hK16 => vwp_region hT ?_
           simp
           refine hK16 _ ?_
           try clear hK16 K16
           refine vwp_ret (hR _ _ ?_)
           rw [hw0, if_pos ⟨p3, by simpa using q⟩]
           exact ret_k [2] [] ([]) (.int .i64 0) (⟨rfl, rfl⟩)
        · refine vwp_live [1] (vwp_region hT ?_)
          simp [p3]
          refine vcall_z [] (alike_o w.os ho) (by rintro r ob' ⟨rfl, rfl⟩; simp) ?_
          rintro r ob' ⟨rfl, rfl⟩
          simp [p3]
          refine hK14 _ ?_
          try clear hK14 K14
          refine vwp_cond (by first | rfl | (simp; rfl)) (fun h6 => ?_) fun h6 => ?_
          · simp -failIfUnchanged at h6; all_goals
           refine vwp_sq [] fun K17 hK17 => vwp_region hT ?_
           simp
           refine hK17 _ ?_
           try clear hK17 K17
           refine vwp_ret (hR _ _ ?_)
           rw [hw0, if_neg (fun k => p3 k.1)]
           exact ret_k [2] [] ([]) (.int .i64 6) (⟨rfl, rfl⟩)
          · simp -failIfUnchanged at h6; all_goals
           refine vwp_skip ?_
           refine hK7 _ ?_
           try clear hK7 K7
           refine vwp_seq_k fun K18 hK18 => ?_
           simp_all
end Go.Proofs.Ytinigjmfjabicaa
