/- Worlds that may be, by the document: the walk. -/
import Derived.Test.YtinigjmfjabicaaPlG
namespace Go.Proofs.Ytinigjmfjabicaa
open Go Go.VX Go.RowKit
set_option linter.unusedVariables false
set_option linter.unusedSimpArgs false
set_option maxHeartbeats 20000000
set_option maxRecDepth 100000

theorem Wd.e_bad {w : Wd} (h : areaB w.n w.D w.T = false) : w.e = 1 := by unfold Wd.e; rw [h]; rfl
theorem Wd.e_ok {w : Wd} (h : areaB w.n w.D w.T = true) : w.e = loadE w.n w.os w.ts := by unfold Wd.e; rw [if_pos h]
theorem areaB_n {n : Int} {D T : List Int} (h : areaB n D T = true) : 1 ≤ n ∧ n ≤ 16 := by
  obtain ⟨m, rfl, _⟩ := areaB_iff.1 h; omega
theorem areaE_1 {n : Int} {D T : List Int} (h : areaB n D T = false) : areaE n D T = 1 := by unfold areaE; rw [h]; rfl
theorem rworld_spec (w : Wd) (ho : w.os.length < 1099511627776) (ht : w.ts.length < 1099511627776) : VC P 19 [.agg w.c] [] (fun r ob' => r = .int .i64 w.e ∧ ob' = []) := by
  refine VC_of_vwp_k ent_19 Try.func19 rfl (by simp) fun R hR => ?_
  refine vwp_sq [0] fun K1 hK1 => vwp_region hT ?_
  simp
  refine hK1 _ ?_
  try clear hK1 K1
  refine vwp_seq_k fun K2 hK2 => ?_
  refine vwp_sq [1] fun K3 hK3 => vwp_region hT ?_
  simp
  refine vcall_z [] (acheck_spec w.n w.D w.T) (by rintro r ob' ⟨rfl, rfl⟩; simp) ?_
  rintro r ob' ⟨rfl, rfl⟩
  simp
  refine hK3 _ ?_
  try clear hK3 K3
  refine vwp_seq_k fun K4 hK4 => ?_
  rcases hA : areaB w.n w.D w.T with _ | _
  · have hE := areaE_1 hA
    refine vwp_live [1, 3] (vwp_region hT ?_)
    simp [hE]
    refine hK4 _ ?_
    try clear hK4 K4
    refine vwp_cond (by first | rfl | (simp; rfl)) (fun h1 => ?_) fun h1 => ?_
    · simp -failIfUnchanged at h1; all_goals
     refine vwp_sq [3] fun K5 hK5 => vwp_region hT ?_
     simp
     refine hK5 _ ?_
     try clear hK5 K5
     refine vwp_ret (hR _ _ ?_)
     rw [Wd.e_bad hA]
     exact ret_k [2] [] ([]) (.int .i64 1) (⟨rfl, rfl⟩)
    · simp -failIfUnchanged at h1; all_goals
     refine vwp_skip ?_
     refine hK2 _ ?_
     try clear hK2 K2
     refine vwp_seq_k fun K6 hK6 => ?_
     simp_all
  · have hE := areaE_0.2 hA
    refine vwp_live [1, 3] (vwp_region hT ?_)
    simp [hE]
    refine hK4 _ ?_
    try clear hK4 K4
    refine vwp_cond (by first | rfl | (simp; rfl)) (fun h2 => ?_) fun h2 => ?_
    · simp -failIfUnchanged at h2; all_goals
     refine vwp_seq_k fun K7 hK7 => ?_
     simp_all
    · simp -failIfUnchanged at h2; all_goals
     refine vwp_skip ?_
     refine hK2 _ ?_
     try clear hK2 K2
     refine vwp_sq [1] fun K8 hK8 => vwp_region hT ?_
     simp
     refine vcall_z [] (lworld_spec w (areaB_n hA) ho ht) (by rintro r ob' ⟨rfl, rfl⟩; simp) ?_
     rintro r ob' ⟨rfl, rfl⟩
     simp
     refine hK8 _ ?_
     try clear hK8 K8
     refine vwp_ret (hR _ _ ?_)
     rw [Wd.e_ok hA]
     exact ret_k [2] [] ([]) (.int .i64 (loadE w.n w.os w.ts)) (⟨rfl, rfl⟩)
theorem dorder_spec (n : Int) (o : Od) : VC P 104 [.agg (Od.cells o), .int .i64 n] [] (fun r ob' => r = .int .i64 (okE (ordB n o)) ∧ ob' = []) := by
  refine VC_of_vwp_k ent_104 Try.func104 rfl (by simp) fun R hR => ?_
  refine vwp_sq [0, 1] fun K1 hK1 => vwp_region hT ?_
  simp
  refine hK1 _ ?_
  try clear hK1 K1
  refine vwp_seq_k fun K2 hK2 => ?_
  refine vwp_sq [1, 2] fun K3 hK3 => vwp_region hT ?_
  simp
  refine hK3 _ ?_
  try clear hK3 K3
  refine vwp_cond (by first | rfl | (simp; rfl)) (fun h1 => ?_) fun h1 => ?_
  · simp -failIfUnchanged at h1; all_goals
   refine vwp_sq [] fun K4 hK4 => vwp_region hT ?_
   simp
   refine hK4 _ ?_
   try clear hK4 K4
   refine vwp_ret (hR _ _ ?_)
   have hw : ordB n o = false := by
     unfold ordB
     rw [decide_eq_false_iff_not]
     omega
   rw [hw]
   exact ret_k [4] [] ([]) (.int .i64 1) (⟨rfl, rfl⟩)
  · simp -failIfUnchanged at h1; all_goals
   refine vwp_skip ?_
   refine hK2 _ ?_
   try clear hK2 K2
   refine vwp_seq_k fun K5 hK5 => ?_
   refine vwp_sq [2] fun K6 hK6 => vwp_region hT ?_
   simp
   refine hK6 _ ?_
   try clear hK6 K6
   refine vwp_cond (by first | rfl | (simp; rfl)) (fun h2 => ?_) fun h2 => ?_
   · simp -failIfUnchanged at h2; all_goals
    refine vwp_sq [] fun K7 hK7 => vwp_region hT ?_
    simp
    refine hK7 _ ?_
    try clear hK7 K7
    refine vwp_ret (hR _ _ ?_)
    have hw : ordB n o = false := by
      unfold ordB
      rw [decide_eq_false_iff_not]
      omega
    rw [hw]
    exact ret_k [4] [] ([]) (.int .i64 1) (⟨rfl, rfl⟩)
   · simp -failIfUnchanged at h2; all_goals
    refine vwp_skip ?_
    refine hK5 _ ?_
    try clear hK5 K5
    refine vwp_seq_k fun K8 hK8 => ?_
    refine vwp_sq [2] fun K9 hK9 => vwp_region hT ?_
    simp
    refine hK9 _ ?_
    try clear hK9 K9
    refine vwp_cond (by first | rfl | (simp; rfl)) (fun h3 => ?_) fun h3 => ?_
    · simp -failIfUnchanged at h3; all_goals
     refine vwp_sq [] fun K10 hK10 => vwp_region hT ?_
     simp
     refine hK10 _ ?_
     try clear hK10 K10
     refine vwp_ret (hR _ _ ?_)
     have hw : ordB n o = false := by
       unfold ordB
       rw [decide_eq_false_iff_not]
       omega
     rw [hw]
     exact ret_k [4] [] ([]) (.int .i64 1) (⟨rfl, rfl⟩)
    · simp -failIfUnchanged at h3; all_goals
     refine vwp_skip ?_
     refine hK8 _ ?_
     try clear hK8 K8
     refine vwp_sq [] fun K11 hK11 => vwp_region hT ?_
     simp
     refine hK11 _ ?_
     try clear hK11 K11
     refine vwp_ret (hR _ _ ?_)
     have hw : ordB n o = true := by
       unfold ordB
       rw [decide_eq_true_eq]
       omega
     rw [hw]
     exact ret_k [4] [] ([]) (.int .i64 0) (⟨rfl, rfl⟩)
theorem dtruck_spec (t : Tk) : VC P 105 [.agg (Tk.cells t)] [] (fun r ob' => r = .int .i64 (okE (trkB t)) ∧ ob' = []) := by
  refine VC_of_vwp_k ent_105 Try.func105 rfl (by simp) fun R hR => ?_
  refine vwp_sq [0] fun K1 hK1 => vwp_region hT ?_
  simp
  refine hK1 _ ?_
  try clear hK1 K1
  refine vwp_seq_k fun K2 hK2 => ?_
  refine vwp_sq [1] fun K3 hK3 => vwp_region hT ?_
  simp
  refine hK3 _ ?_
  try clear hK3 K3
  refine vwp_cond (by first | rfl | (simp; rfl)) (fun h1 => ?_) fun h1 => ?_
  · simp -failIfUnchanged at h1; all_goals
   refine vwp_sq [] fun K4 hK4 => vwp_region hT ?_
   simp
   refine hK4 _ ?_
   try clear hK4 K4
   refine vwp_ret (hR _ _ ?_)
   have hw : trkB t = false := by
     unfold trkB
     rw [decide_eq_false_iff_not]
     omega
   rw [hw]
   exact ret_k [2] [] ([]) (.int .i64 1) (⟨rfl, rfl⟩)
  · simp -failIfUnchanged at h1; all_goals
   refine vwp_skip ?_
   refine hK2 _ ?_
   try clear hK2 K2
   refine vwp_seq_k fun K5 hK5 => ?_
   refine vwp_sq [1] fun K6 hK6 => vwp_region hT ?_
   simp
   refine hK6 _ ?_
   try clear hK6 K6
   refine vwp_cond (by first | rfl | (simp; rfl)) (fun h2 => ?_) fun h2 => ?_
   · simp -failIfUnchanged at h2; all_goals
    refine vwp_sq [] fun K7 hK7 => vwp_region hT ?_
    simp
    refine hK7 _ ?_
    try clear hK7 K7
    refine vwp_ret (hR _ _ ?_)
    have hw : trkB t = false := by
      unfold trkB
      rw [decide_eq_false_iff_not]
      omega
    rw [hw]
    exact ret_k [2] [] ([]) (.int .i64 1) (⟨rfl, rfl⟩)
   · simp -failIfUnchanged at h2; all_goals
    refine vwp_skip ?_
    refine hK5 _ ?_
    try clear hK5 K5
    refine vwp_sq [] fun K8 hK8 => vwp_region hT ?_
    simp
    refine hK8 _ ?_
    try clear hK8 K8
    refine vwp_ret (hR _ _ ?_)
    have hw : trkB t = true := by
      unfold trkB
      rw [decide_eq_true_eq]
      omega
    rw [hw]
    exact ret_k [2] [] ([]) (.int .i64 0) (⟨rfl, rfl⟩)

def hasB (l : List Int) (x : Int) : Bool := l.any (· == x)
theorem nodup_snoc {l : List Int} {x : Int} : (l ++ [x]).Nodup ↔ l.Nodup ∧ ¬ (hasB l x = true) := by
  rw [List.nodup_append]
  simp only [hasB, List.any_eq_true, beq_iff_eq, exists_eq_right]
  constructor
  · rintro ⟨h1, _, h3⟩
    exact ⟨h1, fun h => h3 x h x (by simp) rfl⟩
  · rintro ⟨h1, h2⟩
    refine ⟨h1, by simp, fun a ha b hb => ?_⟩
    simp at hb; subst hb; rintro rfl; exact h2 ha
/-- Is a number there twice? -/
def dupB (l : List Int) : Bool := !decide l.Nodup
theorem dupB_nil : dupB [] = false := by simp [dupB]
theorem dupB_snoc {l : List Int} {x : Int} : dupB (l ++ [x]) = (dupB l || hasB l x) := by
  unfold dupB
  rw [Bool.eq_iff_iff]
  simp only [Bool.not_eq_true', decide_eq_false_iff_not, Bool.or_eq_true, nodup_snoc]
  constructor
  · intro h
    by_cases q : l.Nodup
    · right; exact Classical.byContradiction fun k => h ⟨q, k⟩
    · exact .inl q
  · rintro (h | h) ⟨k1, k2⟩
    · exact h k1
    · exact k2 h
theorem any_snoc {l : List Int} {x y : Int} {k : Nat} (h : l[k]? = some y) : hasB (l.take (k + 1)) x = (hasB (l.take k) x || (y == x)) := by
  rw [take_snoc h, hasB, List.any_append]; simp [hasB]
theorem hasB_nil (x : Int) : hasB [] x = false := rfl
theorem dlworld_spec (w : Wd) (ho : w.os.length < 1099511627776) (ht : w.ts.length < 1099511627776) : VC P 80 [.agg w.c] [] (fun r ob' => r = .int .i64 (loadE w.n w.os w.ts) ∧ ob' = []) := by
  refine VC_of_vwp_k ent_80 Try.func80 rfl (by simp) fun R hR => ?_
  refine vwp_sq [0] fun K1 hK1 => vwp_region hT ?_
  simp
  refine hK1 _ ?_
  try clear hK1 K1
  refine vwp_seq_k fun K2 hK2 => ?_
  refine vwp_sq [1] fun K3 hK3 => vwp_region hT ?_
  simp
  refine hK3 _ ?_
  try clear hK3 K3
  refine vwp_cond (by first | rfl | (simp; rfl)) (fun h1 => ?_) fun h1 => ?_
  · simp -failIfUnchanged at h1; all_goals
   refine vwp_sq [] fun K4 hK4 => vwp_region hT ?_
   simp
   refine hK4 _ ?_
   try clear hK4 K4
   refine vwp_ret (hR _ _ ?_)
   have hw : loadE w.n w.os w.ts = 4 := by
     unfold loadE
     rw [if_pos (by omega)]
   rw [hw]
   exact ret_k [2] [] ([]) (.int .i64 4) (⟨rfl, rfl⟩)
  · simp -failIfUnchanged at h1; all_goals
   have q := h1
   have s1 : w.os.length ≤ 12 := by omega
   have s2 : w.ts.length ≤ 6 := by omega
   refine vwp_skip ?_
   refine hK2 _ ?_
   try clear hK2 K2
   refine vwp_sq [1] fun K5 hK5 => vwp_region hT ?_
   simp
   refine hK5 _ ?_
   try clear hK5 K5
   refine vwp_seq_k fun K6 hK6 => ?_
   refine vwp_sq [1, 3] fun K7 hK7 => vwp_region hT ?_
   simp
   refine hK7 _ ?_
   try clear hK7 K7
   refine vwp_block ?_
   refine vwp_loop_s (fun i : Nat => ⟨[(1, .ptr 0 5 0), (3, .bool (dupB (((w.os).map (·.id)).take i))), (4, .int .i64 (i : Int))], [.live w.c]⟩) (fun i => i ≤ (w.os).length ∧ ((w.os).take i).all (fun s => ordB w.n s) = true) (fun i => (w.os).length - i) (0) (Gh.to_k [1, 3, 4] [0] (he := by simp [dupB_nil])) (⟨by omega, by simp⟩) ?_
   rintro i ⟨hi, hal⟩
   intro K8 hK8
   refine vwp_seq_k fun K9 hK9 => ?_
   refine vwp_sq [1, 3, 4] fun K10 hK10 => vwp_region hT ?_
   simp
   refine hK10 _ ?_
   try clear hK10 K10
   refine vwp_cond (by first | rfl | (simp; rfl)) (fun h2 => ?_) fun h2 => ?_
   · simp -failIfUnchanged at h2; all_goals
    refine vwp_skip ?_
    refine hK9 _ ?_
    try clear hK9 K9
    refine vwp_seq_k fun K11 hK11 => ?_
    refine vwp_block ?_
    refine vwp_seq_k fun K12 hK12 => ?_
    obtain ⟨s, hs⟩ := getI (l := w.os) (i := i) (by omega)
    have hrow := rowOd hs
    have hlen := lenOd (w.os)
    refine vwp_sq [1, 3, 4] fun K13 hK13 => vwp_calm hT hm (by kernel_rfl) ?_
    simp [hrow, hlen, okE]
    repeat refine ⟨by first | assumption | omega | (intros; omega), ?_⟩
    refine ⟨.int .i64 (okE (ordB w.n s)), fun sl => ?_, ?_⟩
    · refine vcall_z [] (dorder_spec w.n s) (by rintro r ob' ⟨rfl, rfl⟩; simp) ?_
      rintro r ob' ⟨rfl, rfl⟩
      simp
    simp [hrow, hlen, okE]
    repeat refine ⟨by first | assumption | omega | (intros; omega), ?_⟩
    refine hK13 _ ?_
    try clear hK13 K13
    refine vwp_cond (by first | rfl | (simp; rfl)) (fun h3 => ?_) fun h3 => ?_
    · simp -failIfUnchanged at h3; all_goals
     have q := h3
     have hp : ordB w.n s = false := q
     refine vwp_sq [] fun K14 hK14 => vwp_region hT ?_
     simp
     refine hK14 _ ?_
     try clear hK14 K14
     refine vwp_ret (hR _ _ ?_)
     have hw : loadE w.n w.os w.ts = 1 := by
       unfold loadE
       rw [if_neg (by omega)]
       rw [if_neg]
       rintro ⟨k1, _⟩
       have := List.all_eq_true.1 k1 s (List.mem_of_getElem? hs)
       simp [hp] at this
     rw [hw]
     exact ret_k [2] [] ([]) (.int .i64 1) (⟨rfl, rfl⟩)
    · simp -failIfUnchanged at h3; all_goals
     have q := h3
     have hp : ordB w.n s = true := q
     obtain ⟨b0, hb0⟩ : ∃ b0, b0 = dupB ((w.os.map (·.id)).take i) := ⟨_, rfl⟩
     rw [← hb0]
     refine vwp_skip ?_
     refine hK12 _ ?_
     try clear hK12 K12
     refine vwp_sq [1, 3, 4] fun K15 hK15 => vwp_region hT ?_
     simp
     refine hK15 _ ?_
     try clear hK15 K15
     refine vwp_block ?_
     refine vwp_loop_s (fun k : Nat => ⟨[(1, .ptr 0 5 0), (3, .bool (b0 || hasB (((w.os).map (·.id)).take k) s.id)), (4, .int .i64 (i : Int)), (5, .int .i64 (k : Int))], [.live w.c]⟩) (fun k => k ≤ i) (fun k => i - k) (0) (Gh.to_k [1, 3, 4, 5] [0] (he := by simp [hb0, hasB_nil])) (by omega) ?_
     rintro k hk
     intro K16 hK16
     refine vwp_seq_k fun K17 hK17 => ?_
     skip
     refine vwp_sq [1, 3, 4, 5] fun K18 hK18 => vwp_region hT ?_
     simp
     refine hK18 _ ?_
     try clear hK18 K18
     refine vwp_cond (by first | rfl | (simp; rfl)) (fun h4 => ?_) fun h4 => ?_
     · simp -failIfUnchanged at h4; all_goals
      refine vwp_skip ?_
      refine hK17 _ ?_
      try clear hK17 K17
      refine vwp_seq_k fun K19 hK19 => ?_
      refine vwp_block ?_
      obtain ⟨y, hy⟩ := getI (l := w.os) (i := k) (by omega)
      have hgy := (getOd hy).1
      have hgs := (getOd hs).1
      have hlen := lenOd (w.os)
      have hsn : (b0 || hasB (((w.os).map (·.id)).take (k + 1)) s.id) = ((b0 || hasB (((w.os).map (·.id)).take k) s.id) || (y.id == s.id)) := by
        rw [any_snoc (l := (w.os).map (·.id)) (x := s.id) (y := y.id) (k := k) (by simp [hy]), Bool.or_assoc]
      have lk : k * 8 < (w.os).length * 8 := by omega
      have li : i * 8 < (w.os).length * 8 := by omega
      rcases hc : (b0 || hasB (((w.os).map (·.id)).take k) s.id) with _ | _
      · refine vwp_live [1, 3, 4, 5] (vwp_still hT hm (by kernel_rfl) ?_)
        simp [hc, hgy, hgs, hlen]
        repeat refine ⟨by first | assumption | omega | (intros; omega), ?_⟩
        refine hK19 _ ?_
        try clear hK19 K19
        have w1 : IntKind.i64.wrap ((k : Int) + 1) = k + 1 := w64 (by omega) (by omega)
        refine vwp_live [1, 3, 4, 5] (vwp_region hT ?_)
        simp [w1]
        exact hK16 (k + 1) _ (Gh.to_k [1, 3, 4, 5] [0] (he := by simp [hc, hsn])) (by omega) (by omega)
      · refine vwp_live [1, 3, 4, 5] (vwp_still hT hm (by kernel_rfl) ?_)
        simp [hc, hgy, hgs, hlen]
        repeat refine ⟨by first | assumption | omega | (intros; omega), ?_⟩
        refine hK19 _ ?_
        try clear hK19 K19
        have w1 : IntKind.i64.wrap ((k : Int) + 1) = k + 1 := w64 (by omega) (by omega)
        refine vwp_live [1, 3, 4, 5] (vwp_region hT ?_)
        simp [w1]
        exact hK16 (k + 1) _ (Gh.to_k [1, 3, 4, 5] [0] (he := by simp [hc, hsn])) (by omega) (by omega)
     · simp -failIfUnchanged at h4; all_goals
      obtain rfl : i = k := by omega
      have hnew : dupB ((w.os.map (·.id)).take (i + 1)) = (b0 || hasB ((w.os.map (·.id)).take i) s.id) := by
        rw [take_snoc (x := s.id) (by simp [hs]), dupB_snoc, ← hb0]
      refine vwp_exit ?_
      simp only [inBlk, thenQ, if_true]
      refine hK11 _ ?_
      try clear hK11 K11
      have w1 : IntKind.i64.wrap ((i : Int) + 1) = i + 1 := w64 (by omega) (by omega)
      refine vwp_live [1, 3, 4] (vwp_region hT ?_)
      simp [w1]
      exact hK8 (i + 1) _ (Gh.to_k [1, 3, 4] [0] (he := by simp [hnew])) (⟨by omega, by rw [take_snoc hs, List.all_append, hal]; simp [hp]⟩) (by omega)
   · simp -failIfUnchanged at h2; all_goals
    obtain rfl : i = w.os.length := by omega
    have htl : (w.os.map (·.id)).take w.os.length = w.os.map (·.id) := List.take_of_length_le (by simp)
    rw [htl]
    rw [List.take_length] at hal
    have p1 := hal
    refine vwp_exit ?_
    simp only [inBlk, thenQ, if_true]
    refine hK6 _ ?_
    try clear hK6 K6
    refine vwp_seq_k fun K20 hK20 => ?_
    refine vwp_sq [1, 3] fun K21 hK21 => vwp_region hT ?_
    simp
    refine hK21 _ ?_
    try clear hK21 K21
    refine vwp_block ?_
    refine vwp_loop_s (fun i : Nat => ⟨[(1, .ptr 0 5 0), (3, .bool ((dupB (w.os.map (·.id))) || dupB (((w.ts).map (·.id)).take i))), (6, .int .i64 (i : Int))], [.live w.c]⟩) (fun i => i ≤ (w.ts).length ∧ ((w.ts).take i).all (fun s => trkB s) = true) (fun i => (w.ts).length - i) (0) (Gh.to_k [1, 3, 6] [0] (he := by simp [dupB_nil])) (⟨by omega, by simp⟩) ?_
    rintro i ⟨hi, hal⟩
    intro K22 hK22
    refine vwp_seq_k fun K23 hK23 => ?_
    refine vwp_sq [1, 3, 6] fun K24 hK24 => vwp_region hT ?_
    simp
    refine hK24 _ ?_
    try clear hK24 K24
    refine vwp_cond (by first | rfl | (simp; rfl)) (fun h5 => ?_) fun h5 => ?_
    · simp -failIfUnchanged at h5; all_goals
     refine vwp_skip ?_
     refine hK23 _ ?_
     try clear hK23 K23
     refine vwp_seq_k fun K25 hK25 => ?_
     refine vwp_block ?_
     refine vwp_seq_k fun K26 hK26 => ?_
     obtain ⟨s, hs⟩ := getI (l := w.ts) (i := i) (by omega)
     have hrow := rowTk hs
     have hlen := lenTk (w.ts)
     refine vwp_sq [1, 3, 6] fun K27 hK27 => vwp_region hT ?_
     simp [hrow, hlen, okE]
     repeat refine ⟨by first | assumption | omega | (intros; omega), ?_⟩
     refine vcall_z [] (dtruck_spec s) (by rintro r ob' ⟨rfl, rfl⟩; simp) ?_
     rintro r ob' ⟨rfl, rfl⟩
     simp [hrow, hlen, okE]
     repeat refine ⟨by first | assumption | omega | (intros; omega), ?_⟩
     refine hK27 _ ?_
     try clear hK27 K27
     refine vwp_cond (by first | rfl | (simp; rfl)) (fun h6 => ?_) fun h6 => ?_
     · simp -failIfUnchanged at h6; all_goals
      have q := h6
      have hp : trkB s = false := q
      refine vwp_sq [] fun K28 hK28 => vwp_region hT ?_
      simp
      refine hK28 _ ?_
      try clear hK28 K28
      refine vwp_ret (hR _ _ ?_)
      have hw : loadE w.n w.os w.ts = 1 := by
        unfold loadE
        rw [if_neg (by omega)]
        rw [if_neg]
        rintro ⟨_, k1⟩
        have := List.all_eq_true.1 k1 s (List.mem_of_getElem? hs)
        simp [hp] at this
      rw [hw]
      exact ret_k [2] [] ([]) (.int .i64 1) (⟨rfl, rfl⟩)
     · simp -failIfUnchanged at h6; all_goals
      have q := h6
      have hp : trkB s = true := q
      obtain ⟨b0, hb0⟩ : ∃ b0, b0 = (dupB (w.os.map (·.id)) || dupB ((w.ts.map (·.id)).take i)) := ⟨_, rfl⟩
      rw [← hb0]
      refine vwp_skip ?_
      refine hK26 _ ?_
      try clear hK26 K26
      refine vwp_sq [1, 3, 6] fun K29 hK29 => vwp_region hT ?_
      simp
      refine hK29 _ ?_
      try clear hK29 K29
      refine vwp_block ?_
      refine vwp_loop_s (fun k : Nat => ⟨[(1, .ptr 0 5 0), (3, .bool (b0 || hasB (((w.ts).map (·.id)).take k) s.id)), (6, .int .i64 (i : Int)), (7, .int .i64 (k : Int))], [.live w.c]⟩) (fun k => k ≤ i) (fun k => i - k) (0) (Gh.to_k [1, 3, 6, 7] [0] (he := by simp [hb0, hasB_nil])) (by omega) ?_
      rintro k hk
      intro K30 hK30
      refine vwp_seq_k fun K31 hK31 => ?_
      skip
      refine vwp_sq [1, 3, 6, 7] fun K32 hK32 => vwp_region hT ?_
      simp
      refine hK32 _ ?_
      try clear hK32 K32
      refine vwp_cond (by first | rfl | (simp; rfl)) (fun h7 => ?_) fun h7 => ?_
      · simp -failIfUnchanged at h7; all_goals
       refine vwp_skip ?_
       refine hK31 _ ?_
       try clear hK31 K31
       refine vwp_seq_k fun K33 hK33 => ?_
       refine vwp_block ?_
       obtain ⟨y, hy⟩ := getI (l := w.ts) (i := k) (by omega)
       have hgy := (getTk hy).1
       have hgs := (getTk hs).1
       have hlen := lenTk (w.ts)
       have hsn : (b0 || hasB (((w.ts).map (·.id)).take (k + 1)) s.id) = ((b0 || hasB (((w.ts).map (·.id)).take k) s.id) || (y.id == s.id)) := by
         rw [any_snoc (l := (w.ts).map (·.id)) (x := s.id) (y := y.id) (k := k) (by simp [hy]), Bool.or_assoc]
       have lk : k * 7 < (w.ts).length * 7 := by omega
       have li : i * 7 < (w.ts).length * 7 := by omega
       rcases hc : (b0 || hasB (((w.ts).map (·.id)).take k) s.id) with _ | _
       · refine vwp_live [1, 3, 6, 7] (vwp_still hT hm (by kernel_rfl) ?_)
         simp [hc, hgy, hgs, hlen]
         repeat refine ⟨by first | assumption | omega | (intros; omega), ?_⟩
         refine hK33 _ ?_
         try clear hK33 K33
         have w1 : IntKind.i64.wrap ((k : Int) + 1) = k + 1 := w64 (by omega) (by omega)
         refine vwp_live [1, 3, 6, 7] (vwp_region hT ?_)
         simp [w1]
         exact hK30 (k + 1) _ (Gh.to_k [1, 3, 6, 7] [0] (he := by simp [hc, hsn])) (by omega) (by omega)
       · refine vwp_live [1, 3, 6, 7] (vwp_still hT hm (by kernel_rfl) ?_)
         simp [hc, hgy, hgs, hlen]
         repeat refine ⟨by first | assumption | omega | (intros; omega), ?_⟩
         refine hK33 _ ?_
         try clear hK33 K33
         have w1 : IntKind.i64.wrap ((k : Int) + 1) = k + 1 := w64 (by omega) (by omega)
         refine vwp_live [1, 3, 6, 7] (vwp_region hT ?_)
         simp [w1]
         exact hK30 (k + 1) _ (Gh.to_k [1, 3, 6, 7] [0] (he := by simp [hc, hsn])) (by omega) (by omega)
      · simp -failIfUnchanged at h7; all_goals
       obtain rfl : i = k := by omega
       have hnew : (dupB (w.os.map (·.id)) || dupB ((w.ts.map (·.id)).take (i + 1))) = (b0 || hasB ((w.ts.map (·.id)).take i) s.id) := by
         rw [take_snoc (x := s.id) (by simp [hs]), dupB_snoc, hb0, Bool.or_assoc]
       refine vwp_exit ?_
       simp only [inBlk, thenQ, if_true]
       refine hK25 _ ?_
       try clear hK25 K25
       have w1 : IntKind.i64.wrap ((i : Int) + 1) = i + 1 := w64 (by omega) (by omega)
       refine vwp_live [1, 3, 6] (vwp_region hT ?_)
       simp [w1]
       exact hK22 (i + 1) _ (Gh.to_k [1, 3, 6] [0] (he := by simp [hnew])) (⟨by omega, by rw [take_snoc hs, List.all_append, hal]; simp [hp]⟩) (by omega)
    · simp -failIfUnchanged at h5; all_goals
     obtain rfl : i = w.ts.length := by omega
     have htl : (w.ts.map (·.id)).take w.ts.length = w.ts.map (·.id) := List.take_of_length_le (by simp)
     rw [htl]
     rw [List.take_length] at hal
     have p2 := hal
     refine vwp_exit ?_
     simp only [inBlk, thenQ, if_true]
     refine hK20 _ ?_
     try clear hK20 K20
     refine vwp_seq_k fun K34 hK34 => ?_
     refine vwp_sq [3] fun K35 hK35 => vwp_region hT ?_
     simp
     refine hK35 _ ?_
     try clear hK35 K35
     refine vwp_cond (by first | rfl | (simp; rfl)) (fun h8 => ?_) fun h8 => ?_
     · simp -failIfUnchanged at h8; all_goals
      refine vwp_sq [] fun K36 hK36 => vwp_region hT ?_
      simp
      refine hK36 _ ?_
      try clear hK36 K36
      refine vwp_ret (hR _ _ ?_)
      have q : dupB (w.os.map (·.id)) = true ∨ dupB (w.ts.map (·.id)) = true := by simp_all
      have hw : loadE w.n w.os w.ts = 6 := by
        unfold loadE
        rw [if_neg (by omega)]
        rw [if_pos ⟨p1, p2⟩, if_neg]
        rintro ⟨k1, k2⟩
        simp [dupB, k1, k2] at q
      rw [hw]
      exact ret_k [2] [] ([]) (.int .i64 6) (⟨rfl, rfl⟩)
     · simp -failIfUnchanged at h8; all_goals
      refine vwp_skip ?_
      refine hK34 _ ?_
      try clear hK34 K34
      refine vwp_sq [] fun K37 hK37 => vwp_region hT ?_
      simp
      refine hK37 _ ?_
      try clear hK37 K37
      refine vwp_ret (hR _ _ ?_)
      have q : dupB (w.os.map (·.id)) = false ∧ dupB (w.ts.map (·.id)) = false := by simp_all
      have hw : loadE w.n w.os w.ts = 0 := by
        unfold loadE
        rw [if_neg (by omega)]
        rw [if_pos ⟨p1, p2⟩, if_pos]
        simpa [dupB] using q
      rw [hw]
      exact ret_k [2] [] ([]) (.int .i64 0) (⟨rfl, rfl⟩)
theorem dworld_spec (w : Wd) (ho : w.os.length < 1099511627776) (ht : w.ts.length < 1099511627776) : VC P 48 [.agg w.c] [] (fun r ob' => r = .int .i64 w.e ∧ ob' = []) := by
  refine VC_of_vwp_k ent_48 Try.func48 rfl (by simp) fun R hR => ?_
  refine vwp_sq [0] fun K1 hK1 => vwp_region hT ?_
  simp
  refine hK1 _ ?_
  try clear hK1 K1
  refine vwp_seq_k fun K2 hK2 => ?_
  refine vwp_seq_k fun K3 hK3 => ?_
  rcases hA : areaB w.n w.D w.T with _ | _
  · have hE := areaE_1 hA
    refine vwp_live [1] (vwp_region hT ?_)
    simp [hE]
    refine vcall_z [] (rcheck_spec w.n w.D w.T) (by rintro r ob' ⟨rfl, rfl⟩; simp) ?_
    rintro r ob' ⟨rfl, rfl⟩
    simp [hE]
    refine hK3 _ ?_
    try clear hK3 K3
    refine vwp_cond (by first | rfl | (simp; rfl)) (fun h1 => ?_) fun h1 => ?_
    · simp -failIfUnchanged at h1; all_goals
     refine vwp_sq [] fun K4 hK4 => vwp_region hT ?_
     simp
     refine hK4 _ ?_
     try clear hK4 K4
     refine vwp_ret (hR _ _ ?_)
     rw [Wd.e_bad hA]
     exact ret_k [2] [] ([]) (.int .i64 1) (⟨rfl, rfl⟩)
    · simp -failIfUnchanged at h1; all_goals
     refine vwp_skip ?_
     refine hK2 _ ?_
     try clear hK2 K2
     refine vwp_seq_k fun K5 hK5 => ?_
     simp_all
  · have hE := areaE_0.2 hA
    refine vwp_live [1] (vwp_region hT ?_)
    simp [hE]
    refine vcall_z [] (rcheck_spec w.n w.D w.T) (by rintro r ob' ⟨rfl, rfl⟩; simp) ?_
    rintro r ob' ⟨rfl, rfl⟩
    simp [hE]
    refine hK3 _ ?_
    try clear hK3 K3
    refine vwp_cond (by first | rfl | (simp; rfl)) (fun h2 => ?_) fun h2 => ?_
    · simp -failIfUnchanged at h2; all_goals
     refine vwp_seq_k fun K6 hK6 => ?_
     simp_all
    · simp -failIfUnchanged at h2; all_goals
     refine vwp_skip ?_
     refine hK2 _ ?_
     try clear hK2 K2
     refine vwp_sq [1] fun K7 hK7 => vwp_region hT ?_
     simp
     refine vcall_z [] (dlworld_spec w ho ht) (by rintro r ob' ⟨rfl, rfl⟩; simp) ?_
     rintro r ob' ⟨rfl, rfl⟩
     simp
     refine hK7 _ ?_
     try clear hK7 K7
     refine vwp_ret (hR _ _ ?_)
     rw [Wd.e_ok hA]
     exact ret_k [2] [] ([]) (.int .i64 (loadE w.n w.os w.ts)) (⟨rfl, rfl⟩)
end Go.Proofs.Ytinigjmfjabicaa
