/- The law LabelApart: the walk. -/
import Derived.Test.YtmpakfpmmkfgpaaLbN
namespace Go.Proofs.Ytmpakfpmmkfgpaa
open Go Go.VX Go.RowKit
set_option linter.unusedVariables false
set_option linter.unusedSimpArgs false
set_option maxHeartbeats 20000000
set_option maxRecDepth 100000
theorem showP_small {x : Whl} {ow po : Int} (hx : lrgP x = false) : (showP x ow po).1.small := by
  have h1 : x.ss.length ≤ 60 ∧ x.fs.length ≤ 60 := by
    simp only [lrgP, Bool.or_eq_false_iff, decide_eq_false_iff_not] at hx; omega
  have hz : Vw.zero.small := ⟨by decide, by decide, by decide⟩
  unfold showP
  split
  · exact hz
  split
  · exact hz
  · refine ⟨?_, ?_, ?_⟩
    · show ((srtO (ownS x ow)).map _).length ≤ 60
      rw [List.length_map, (srtO_perm _).length_eq]
      exact Nat.le_trans (ownL_le x.ss ow) h1.1
    · show (srt (ownF x ow)).length ≤ 60
      rw [srt_len]
      exact Nat.le_trans (ownLF_le x.fs ow) h1.2
    · exact Nat.le_trans (grants_le x po) (by omega)

def onlyP (x : Whl) (ow : Int) : Whl := ⟨ownS x ow, x.fs.filter fun s => s.ow == ow, x.ls.filter fun s => s.ow == ow, 0, 0, 0⟩
theorem only_show {x : Whl} {ow : Int} (hn : (idsP x).Nodup) : showP (onlyP x ow) ow 0 = showP x ow 0 := by
  have h1 : ownS (onlyP x ow) ow = ownS x ow := by simp [ownS, onlyP]
  have h2 : ownF (onlyP x ow) ow = ownF x ow := by simp [ownF, onlyP]
  have h3 : lineP (onlyP x ow) ow = lineP x ow := by
    unfold lineP
    show ((x.ls.filter fun s => s.ow == ow).find? fun l => l.ow == ow).getD _ = _
    rw [List.find?_filter]
    have e : (fun a : Lin => decide ((a.ow == ow) = true ∧ (a.ow == ow) = true)) = fun l => l.ow == ow := by
      funext a; rw [Bool.eq_iff_iff, decide_eq_true_eq]; exact ⟨fun h => h.1, fun h => ⟨h, h⟩⟩
    rw [e]
  have h4 : (idsP (onlyP x ow)).Nodup :=
    hn.sublist (List.Sublist.append (List.filter_sublist.map _) (List.filter_sublist.map _))
  have h5 : ∀ y : Whl, grantsP y 0 = [] := fun y => rfl
  simp only [showP, h1, h2, h3, h4, hn, h5]
theorem showP_ok {x : Whl} {ow po : Int} {V : Vw} (h : showP x ow po = (V, 0)) : (idsP x).Nodup ∧ V.rs.length = (ownS x ow).length ∧ V.fs.length = (ownF x ow).length ∧ V.gs = grantsP x po := by
  unfold showP at h
  split at h
  · cases h
  split at h
  · cases h
  rename_i hn
  cases h
  exact ⟨Classical.not_not.1 hn, by rw [List.length_map, (srtO_perm _).length_eq], srt_len _, rfl⟩
theorem showP_bad {x : Whl} {ow po : Int} {V : Vw} {e : Int} (h : showP x ow po = (V, e)) (he : e ≠ 0) : V = Vw.zero := by
  unfold showP at h
  split at h
  · cases h; rfl
  split at h
  · cases h; rfl
  · cases h; exact absurd rfl he
def ownR (l : List Lft) (ow : Int) : List Lft := l.filter fun s => s.ow == ow
def ownN (l : List Lin) (ow : Int) : List Lin := l.filter fun s => s.ow == ow
theorem ownR_take {l : List Lft} {i : Nat} {s : Lft} (h : l[i]? = some s) (ow : Int) : ownR (l.take (i + 1)) ow = ownR (l.take i) ow ++ (if s.ow = ow then [s] else []) := by
  rw [take_snoc h]; simp only [ownR, List.filter_append, List.filter_cons, List.filter_nil]; by_cases q : s.ow = ow <;> simp [q]
theorem ownN_take {l : List Lin} {i : Nat} {s : Lin} (h : l[i]? = some s) (ow : Int) : ownN (l.take (i + 1)) ow = ownN (l.take i) ow ++ (if s.ow = ow then [s] else []) := by
  rw [take_snoc h]; simp only [ownN, List.filter_append, List.filter_cons, List.filter_nil]; by_cases q : s.ow = ow <;> simp [q]
theorem law_lapart (x : Whl) (ow : Int) : VC P 4 [.agg x.c, .int .i64 ow] [] (fun r ob' => r = .bool true ∧ ob' = []) := by
  refine VC_of_vwp_k ent_4 Try.func4 rfl (by simp) fun R hR => ?_
  refine vwp_sq [0, 1] fun K1 hK1 => vwp_region hT ?_
  simp
  refine hK1 _ ?_
  try clear hK1 K1
  refine vwp_seq_k fun K2 hK2 => ?_
  refine vwp_sq [1, 2] fun K3 hK3 => vwp_region hT ?_
  simp
  refine vcall_k [] (awake17) ?_
  rintro r ob' ⟨rfl, rfl⟩
  simp
  refine hK3 _ ?_
  try clear hK3 K3
  refine vwp_cond (by first | rfl | (simp; rfl)) (fun h1 => ?_) fun h1 => ?_
  · simp -failIfUnchanged at h1; all_goals
   refine vwp_seq_k fun K4 hK4 => ?_
   simp_all
  · simp -failIfUnchanged at h1; all_goals
   refine vwp_skip ?_
   refine hK2 _ ?_
   try clear hK2 K2
   refine vwp_seq_k fun K5 hK5 => ?_
   refine vwp_seq_k fun K6 hK6 => ?_
   rcases hx : lrgP x with _ | _
   · have hb : x.ss.length ≤ 60 ∧ x.fs.length ≤ 60 ∧ x.ls.length ≤ 60 := by
       simp only [lrgP, Bool.or_eq_false_iff, decide_eq_false_iff_not] at hx; omega
     refine vwp_live [1, 2] (vwp_region hT ?_)
     simp [hx]
     refine vcall_z [] (large_spec x) (by rw [hx]; rintro r ob' ⟨rfl, rfl⟩; simp) ?_
     rw [hx]
     rintro r ob' ⟨rfl, rfl⟩
     simp [hx]
     refine hK6 _ ?_
     try clear hK6 K6
     refine vwp_cond (by first | rfl | (simp; rfl)) (fun h2 => ?_) fun h2 => ?_
     · simp -failIfUnchanged at h2; all_goals
      refine vwp_seq_k fun K7 hK7 => ?_
      simp_all
     · simp -failIfUnchanged at h2; all_goals
      refine vwp_skip ?_
      refine hK5 _ ?_
      try clear hK5 K5
      refine vwp_sq [1, 2] fun K8 hK8 => vwp_region hT ?_
      simp
      repeat refine ⟨by first | assumption | omega | (intros; omega), ?_⟩
      refine hK8 _ ?_
      try clear hK8 K8
      refine vwp_seq_k fun K9 hK9 => ?_
      refine vwp_sq [1, 2, 5] fun K10 hK10 => vwp_region hT ?_
      simp
      refine hK10 _ ?_
      try clear hK10 K10
      refine vwp_block ?_
      refine vwp_loop_s (fun i : Nat => ⟨[(1, .int .i64 ow), (2, .ptr 0 6 0), (5, .ptr 1 6 0), (22, fsV x.ss), (23, .int .i64 x.ss.length), (24, .int .i64 (i : Int))], [.live x.c, .live [.sl 2 ((ownL (x.ss.take i) ow).length * 4) 4 0 (ownL (x.ss.take i) ow).length, .nils, .nils, .int .i64 0, .int .i64 0, .int .i64 0], .live (rowsV (ownL (x.ss.take i) ow))]⟩) (fun i => i ≤ x.ss.length) (fun i => x.ss.length - i) (0) ((Gh.virtC 1 0 4 rfl rfl).trans (Gh.to_k [1, 2, 5, 22, 23, 24] [0, 1, 2] (he := by simp) (hh := by simp [ownL]))) (by omega) ?_
      rintro i hi
      have hol : (ownL (x.ss.take i) ow).length ≤ i := Nat.le_trans (List.length_filter_le _ _) (by simp; omega)
      have hrl := lenStp (ownL (x.ss.take i) ow)
      intro K11 hK11
      refine vwp_sq [1, 2, 5, 22, 23, 24] fun K12 hK12 => vwp_region hT ?_
      simp
      refine hK12 _ ?_
      try clear hK12 K12
      refine vwp_seq_k fun K13 hK13 => ?_
      refine vwp_cond (by first | rfl | (simp; rfl)) (fun h3 => ?_) fun h3 => ?_
      · simp -failIfUnchanged at h3; all_goals
       refine vwp_skip ?_
       refine hK13 _ ?_
       try clear hK13 K13
       refine vwp_seq_k fun K14 hK14 => ?_
       refine vwp_block ?_
       obtain ⟨s, hs1⟩ := getI (l := x.ss) (i := i) (by omega)
       have hrow := rowStp hs1
       have hlen := lenStp x.ss
       refine vwp_sq [1, 2, 5, 22, 23, 24] fun K15 hK15 => vwp_region hT ?_
       simp [hrow, hlen]
       repeat refine ⟨by first | assumption | omega | (intros; omega), ?_⟩
       refine hK15 _ ?_
       try clear hK15 K15
       refine vwp_sq [1, 2, 5, 7, 22, 23, 24] fun K16 hK16 => vwp_region hT ?_
       simp
       refine hK16 _ ?_
       try clear hK16 K16
       refine vwp_cond (by first | rfl | (simp; rfl)) (fun h4 => ?_) fun h4 => ?_
       · simp -failIfUnchanged at h4; all_goals
        have q := h4
        have hq2 : s.ow = ow := by simpa using q
        refine vwp_live [1, 2, 5, 7, 22, 23, 24] (vwp_region hT ?_)
        simp [hrl, zerosV, spl, Nat.add_mul]
        repeat refine ⟨by first | assumption | omega | (intros; omega), ?_⟩
        refine hK14 _ ?_
        try clear hK14 K14
        have w1 : IntKind.i64.wrap ((i : Int) + 1) = i + 1 := w64 (by omega) (by omega)
        refine vwp_live [1, 2, 5, 22, 23, 24] (vwp_region hT ?_)
        simp [w1]
        exact hK11 (i + 1) _ (Gh.to_k [1, 2, 5, 22, 23, 24] [0, 1, 2] (he := by simp) (hh := by simp [ownL_take hs1, hq2, rowsV_append, rowsV_cons, Nat.add_mul])) (by omega) (by omega)
       · simp -failIfUnchanged at h4; all_goals
        have q := h4
        have hq2 : ¬ s.ow = ow := by simpa using q
        refine vwp_skip ?_
        refine hK14 _ ?_
        try clear hK14 K14
        have w1 : IntKind.i64.wrap ((i : Int) + 1) = i + 1 := w64 (by omega) (by omega)
        refine vwp_live [1, 2, 5, 22, 23, 24] (vwp_region hT ?_)
        simp [w1]
        exact hK11 (i + 1) _ (Gh.to_k [1, 2, 5, 22, 23, 24] [0, 1, 2] (he := by simp) (hh := by simp [ownL_take hs1, hq2, rowsV_append, rowsV_cons, Nat.add_mul])) (by omega) (by omega)
      · simp -failIfUnchanged at h3; all_goals
       refine vwp_exit ?_
       simp only [inBlk, thenQ, if_true]
       refine hK9 _ ?_
       try clear hK9 K9
       refine vwp_seq_k fun K17 hK17 => ?_
       obtain rfl : i = x.ss.length := by omega
       rw [List.take_length] at hol hrl ⊢
       have htk : List.take ((ownL x.ss ow).length * 4) (rowsV (ownL x.ss ow)) = rowsV (ownL x.ss ow) := List.take_of_length_le (by omega)
       refine vwp_gh ((Gh.freeze 2 rfl stp_noId).trans (Gh.cellFs 2 1 0 rfl rfl rfl hrl)) ?_
       simp [htk]
       refine vwp_sq [1, 2, 5] fun K18 hK18 => vwp_region hT ?_
       simp
       refine hK18 _ ?_
       try clear hK18 K18
       refine vwp_block ?_
       refine vwp_loop_s (fun i : Nat => ⟨[(1, .int .i64 ow), (2, .ptr 0 6 0), (5, .ptr 1 6 0), (40, fsV x.fs), (41, .int .i64 x.fs.length), (42, .int .i64 (i : Int))], [.live x.c, .live [fsV (ownS x ow), .sl 2 ((ownR (x.fs.take i) ow).length * 2) 2 0 (ownR (x.fs.take i) ow).length, .nils, .int .i64 0, .int .i64 0, .int .i64 0], .live (rowsV (ownR (x.fs.take i) ow))]⟩) (fun i => i ≤ x.fs.length) (fun i => x.fs.length - i) (0) ((Gh.virtC 1 1 2 rfl rfl).trans (Gh.to_k [1, 2, 5, 40, 41, 42] [0, 1, 3] (he := by simp) (hh := by simp [ownR, ownL, ownS]))) (by omega) ?_
       rintro i hi
       have hol : (ownR (x.fs.take i) ow).length ≤ i := Nat.le_trans (List.length_filter_le _ _) (by simp; omega)
       have hrl := lenLft (ownR (x.fs.take i) ow)
       intro K19 hK19
       refine vwp_sq [1, 2, 5, 40, 41, 42] fun K20 hK20 => vwp_region hT ?_
       simp
       refine hK20 _ ?_
       try clear hK20 K20
       refine vwp_seq_k fun K21 hK21 => ?_
       refine vwp_cond (by first | rfl | (simp; rfl)) (fun h5 => ?_) fun h5 => ?_
       · simp -failIfUnchanged at h5; all_goals
        refine vwp_skip ?_
        refine hK21 _ ?_
        try clear hK21 K21
        refine vwp_seq_k fun K22 hK22 => ?_
        refine vwp_block ?_
        obtain ⟨s, hs1⟩ := getI (l := x.fs) (i := i) (by omega)
        have hrow := rowLft hs1
        have hlen := lenLft x.fs
        refine vwp_sq [1, 2, 5, 40, 41, 42] fun K23 hK23 => vwp_region hT ?_
        simp [hrow, hlen]
        repeat refine ⟨by first | assumption | omega | (intros; omega), ?_⟩
        refine hK23 _ ?_
        try clear hK23 K23
        refine vwp_sq [1, 2, 5, 9, 40, 41, 42] fun K24 hK24 => vwp_region hT ?_
        simp
        refine hK24 _ ?_
        try clear hK24 K24
        refine vwp_cond (by first | rfl | (simp; rfl)) (fun h6 => ?_) fun h6 => ?_
        · simp -failIfUnchanged at h6; all_goals
         have q := h6
         have hq2 : s.ow = ow := by simpa using q
         refine vwp_live [1, 2, 5, 9, 40, 41, 42] (vwp_region hT ?_)
         simp [hrl, zerosV, spl, Nat.add_mul]
         repeat refine ⟨by first | assumption | omega | (intros; omega), ?_⟩
         refine hK22 _ ?_
         try clear hK22 K22
         have w1 : IntKind.i64.wrap ((i : Int) + 1) = i + 1 := w64 (by omega) (by omega)
         refine vwp_live [1, 2, 5, 40, 41, 42] (vwp_region hT ?_)
         simp [w1]
         exact hK19 (i + 1) _ (Gh.to_k [1, 2, 5, 40, 41, 42] [0, 1, 2] (he := by simp) (hh := by simp [ownR_take hs1, hq2, rowsV_append, rowsV_cons, Nat.add_mul])) (by omega) (by omega)
        · simp -failIfUnchanged at h6; all_goals
         have q := h6
         have hq2 : ¬ s.ow = ow := by simpa using q
         refine vwp_skip ?_
         refine hK22 _ ?_
         try clear hK22 K22
         have w1 : IntKind.i64.wrap ((i : Int) + 1) = i + 1 := w64 (by omega) (by omega)
         refine vwp_live [1, 2, 5, 40, 41, 42] (vwp_region hT ?_)
         simp [w1]
         exact hK19 (i + 1) _ (Gh.to_k [1, 2, 5, 40, 41, 42] [0, 1, 2] (he := by simp) (hh := by simp [ownR_take hs1, hq2, rowsV_append, rowsV_cons, Nat.add_mul])) (by omega) (by omega)
       · simp -failIfUnchanged at h5; all_goals
        refine vwp_exit ?_
        simp only [inBlk, thenQ, if_true]
        refine hK17 _ ?_
        try clear hK17 K17
        refine vwp_seq_k fun K25 hK25 => ?_
        obtain rfl : i = x.fs.length := by omega
        rw [List.take_length] at hol hrl ⊢
        have htk : List.take ((ownR x.fs ow).length * 2) (rowsV (ownR x.fs ow)) = rowsV (ownR x.fs ow) := List.take_of_length_le (by omega)
        refine vwp_gh ((Gh.freeze 2 rfl lft_noId).trans (Gh.cellFs 2 1 1 rfl rfl rfl hrl)) ?_
        simp [htk]
        refine vwp_sq [1, 2, 5] fun K26 hK26 => vwp_region hT ?_
        simp
        refine hK26 _ ?_
        try clear hK26 K26
        refine vwp_block ?_
        refine vwp_loop_s (fun i : Nat => ⟨[(1, .int .i64 ow), (2, .ptr 0 6 0), (5, .ptr 1 6 0), (58, fsV x.ls), (59, .int .i64 x.ls.length), (60, .int .i64 (i : Int))], [.live x.c, .live [fsV (ownS x ow), fsV (ownR x.fs ow), .sl 2 ((ownN (x.ls.take i) ow).length * 4) 4 0 (ownN (x.ls.take i) ow).length, .int .i64 0, .int .i64 0, .int .i64 0], .live (rowsV (ownN (x.ls.take i) ow))]⟩) (fun i => i ≤ x.ls.length) (fun i => x.ls.length - i) (0) ((Gh.virtC 1 2 4 rfl rfl).trans (Gh.to_k [1, 2, 5, 58, 59, 60] [0, 1, 3] (he := by simp) (hh := by simp [ownN]))) (by omega) ?_
        rintro i hi
        have hol : (ownN (x.ls.take i) ow).length ≤ i := Nat.le_trans (List.length_filter_le _ _) (by simp; omega)
        have hrl := lenLin (ownN (x.ls.take i) ow)
        intro K27 hK27
        refine vwp_sq [1, 2, 5, 58, 59, 60] fun K28 hK28 => vwp_region hT ?_
        simp
        refine hK28 _ ?_
        try clear hK28 K28
        refine vwp_seq_k fun K29 hK29 => ?_
        refine vwp_cond (by first | rfl | (simp; rfl)) (fun h7 => ?_) fun h7 => ?_
        · simp -failIfUnchanged at h7; all_goals
         refine vwp_skip ?_
         refine hK29 _ ?_
         try clear hK29 K29
         refine vwp_seq_k fun K30 hK30 => ?_
         refine vwp_block ?_
         obtain ⟨s, hs1⟩ := getI (l := x.ls) (i := i) (by omega)
         have hrow := rowLin hs1
         have hlen := lenLin x.ls
         refine vwp_sq [1, 2, 5, 58, 59, 60] fun K31 hK31 => vwp_region hT ?_
         simp [hrow, hlen]
         repeat refine ⟨by first | assumption | omega | (intros; omega), ?_⟩
         refine hK31 _ ?_
         try clear hK31 K31
         refine vwp_sq [1, 2, 5, 11, 58, 59, 60] fun K32 hK32 => vwp_region hT ?_
         simp
         refine hK32 _ ?_
         try clear hK32 K32
         refine vwp_cond (by first | rfl | (simp; rfl)) (fun h8 => ?_) fun h8 => ?_
         · simp -failIfUnchanged at h8; all_goals
          have q := h8
          have hq2 : s.ow = ow := by simpa using q
          refine vwp_live [1, 2, 5, 11, 58, 59, 60] (vwp_region hT ?_)
          simp [hrl, zerosV, spl, Nat.add_mul]
          repeat refine ⟨by first | assumption | omega | (intros; omega), ?_⟩
          refine hK30 _ ?_
          try clear hK30 K30
          have w1 : IntKind.i64.wrap ((i : Int) + 1) = i + 1 := w64 (by omega) (by omega)
          refine vwp_live [1, 2, 5, 58, 59, 60] (vwp_region hT ?_)
          simp [w1]
          exact hK27 (i + 1) _ (Gh.to_k [1, 2, 5, 58, 59, 60] [0, 1, 2] (he := by simp) (hh := by simp [ownN_take hs1, hq2, rowsV_append, rowsV_cons, Nat.add_mul])) (by omega) (by omega)
         · simp -failIfUnchanged at h8; all_goals
          have q := h8
          have hq2 : ¬ s.ow = ow := by simpa using q
          refine vwp_skip ?_
          refine hK30 _ ?_
          try clear hK30 K30
          have w1 : IntKind.i64.wrap ((i : Int) + 1) = i + 1 := w64 (by omega) (by omega)
          refine vwp_live [1, 2, 5, 58, 59, 60] (vwp_region hT ?_)
          simp [w1]
          exact hK27 (i + 1) _ (Gh.to_k [1, 2, 5, 58, 59, 60] [0, 1, 2] (he := by simp) (hh := by simp [ownN_take hs1, hq2, rowsV_append, rowsV_cons, Nat.add_mul])) (by omega) (by omega)
        · simp -failIfUnchanged at h7; all_goals
         refine vwp_exit ?_
         simp only [inBlk, thenQ, if_true]
         refine hK25 _ ?_
         try clear hK25 K25
         obtain rfl : i = x.ls.length := by omega
         rw [List.take_length] at hol hrl ⊢
         have htk : List.take ((ownN x.ls ow).length * 4) (rowsV (ownN x.ls ow)) = rowsV (ownN x.ls ow) := List.take_of_length_le (by omega)
         refine vwp_gh ((Gh.freeze 2 rfl lin_noId).trans (Gh.cellFs 2 1 2 rfl rfl rfl hrl)) ?_
         simp [htk]
         obtain ⟨V0, e, hV⟩ : ∃ V0 e, showP x ow 0 = (V0, e) := ⟨_, _, rfl⟩
         have hVs : V0.small := by have := showP_small (ow := ow) (po := 0) hx; rwa [hV] at this
         refine vwp_sq [1, 2, 5] fun K33 hK33 => vwp_region hT ?_
         simp
         repeat refine ⟨by first | assumption | omega | (intros; omega), ?_⟩
         refine vcall_k [] (show_spec x ow 0 (by omega) (by omega) (by omega)) ?_
         rw [hV]
         rintro r ob' ⟨rfl, rfl⟩
         simp
         repeat refine ⟨by first | assumption | omega | (intros; omega), ?_⟩
         refine hK33 _ ?_
         try clear hK33 K33
         have hyl : (onlyP x ow).ss.length ≤ 60 ∧ (onlyP x ow).fs.length ≤ 60 ∧ (onlyP x ow).ls.length ≤ 60 := ⟨Nat.le_trans (List.length_filter_le _ _) hb.1, Nat.le_trans (List.length_filter_le _ _) hb.2.1, Nat.le_trans (List.length_filter_le _ _) hb.2.2⟩
         obtain ⟨V1, e1, hV1⟩ : ∃ V1 e1, showP (onlyP x ow) ow 0 = (V1, e1) := ⟨_, _, rfl⟩
         refine vwp_sq [1, 5, 12, 13] fun K34 hK34 => vwp_region hT ?_
         simp
         repeat refine ⟨by first | assumption | omega | (intros; omega), ?_⟩
         refine vcall_k [] (show_spec (onlyP x ow) ow 0 (by omega) (by omega) (by omega)) ?_ (ha := by simp [onlyP, ownR, ownN])
         rw [hV1]
         rintro r ob' ⟨rfl, rfl⟩
         simp
         repeat refine ⟨by first | assumption | omega | (intros; omega), ?_⟩
         refine hK34 _ ?_
         try clear hK34 K34
         refine vwp_seq_k fun K35 hK35 => ?_
         refine vwp_sq [5, 12, 13, 14, 15] fun K36 hK36 => vwp_region hT ?_
         simp
         refine hK36 _ ?_
         try clear hK36 K36
         refine vwp_cond (by first | rfl | (simp; rfl)) (fun h9 => ?_) fun h9 => ?_
         · simp -failIfUnchanged at h9; all_goals
          have q := h9
          have he : e ≠ 0 := by simpa using q
          obtain rfl := showP_bad hV he
          refine vwp_sq [12] fun K37 hK37 => vwp_region hT ?_
          simp
          refine vcall_z [] (nilaggV (lsame_spec Vw.zero Vw.zero (by decide) (by decide))) (by rintro r ob' ⟨rfl, rfl⟩; simp) ?_
          rintro r ob' ⟨rfl, rfl⟩
          simp
          refine hK37 _ ?_
          try clear hK37 K37
          refine vwp_ret (hR _ _ ?_)
          exact ret_k [4] [] ([]) (.bool true) (⟨rfl, rfl⟩)
         · simp -failIfUnchanged at h9; all_goals
          have q := h9
          obtain rfl : e = 0 := by simpa using q
          obtain ⟨hn, hr1, hr2, hr3⟩ := showP_ok hV
          rw [only_show hn, hV] at hV1
          cases hV1
          have hgl : V0.gs.length = 0 := by rw [hr3]; rfl
          have hrl1 : (V0.rs.length : Int) = (ownS x ow).length := by omega
          have hrl2 : (V0.fs.length : Int) = (ownR x.fs ow).length := by rw [hr2]; simp [ownF, ownR]
          refine vwp_skip ?_
          refine hK35 _ ?_
          try clear hK35 K35
          refine vwp_sq [5, 12, 14, 15] fun K38 hK38 => vwp_region hT ?_
          simp [hrl1, hrl2, hgl]
          refine vcall_z [] (lsame_spec V0 V0 ⟨by have := hVs.1; omega, by have := hVs.2.1; omega, by have := hVs.2.2; omega⟩ ⟨by have := hVs.1; omega, by have := hVs.2.1; omega, by have := hVs.2.2; omega⟩) (by rintro r ob' ⟨rfl, rfl⟩; simp) ?_
          rintro r ob' ⟨rfl, rfl⟩
          simp [hrl1, hrl2, hgl]
          refine hK38 _ ?_
          try clear hK38 K38
          refine vwp_ret (hR _ _ ?_)
          exact ret_k [4] [] ([]) (.bool true) (⟨rfl, rfl⟩)
   · refine vwp_live [1, 2] (vwp_region hT ?_)
     simp [hx]
     refine vcall_z [] (large_spec x) (by rw [hx]; rintro r ob' ⟨rfl, rfl⟩; simp) ?_
     rw [hx]
     rintro r ob' ⟨rfl, rfl⟩
     simp [hx]
     refine hK6 _ ?_
     try clear hK6 K6
     refine vwp_cond (by first | rfl | (simp; rfl)) (fun h10 => ?_) fun h10 => ?_
     · simp -failIfUnchanged at h10; all_goals
      refine vwp_sq [] fun K39 hK39 => vwp_region hT ?_
      simp
      refine hK39 _ ?_
      try clear hK39 K39
      refine vwp_ret (hR _ _ ?_)
      exact ret_k [4] [] ([]) (.bool true) (⟨rfl, rfl⟩)
     · simp -failIfUnchanged at h10; all_goals
      refine vwp_skip ?_
      refine hK5 _ ?_
      try clear hK5 K5
      refine vwp_seq_k fun K40 hK40 => ?_
      simp_all
end Go.Proofs.Ytmpakfpmmkfgpaa
