/- The document's Write. -/
import Derived.Test.YtgmcflbbdpbkeaaDoorPkO
namespace Go.Proofs.YtgmcflbbdpbkeaaDoor
open Go Go.VX Go.RowKit
set_option linter.unusedVariables false
set_option linter.unusedSimpArgs false
set_option maxHeartbeats 20000000
set_option maxRecDepth 100000

theorem take_bts (l : List Int) : List.take l.length (bts l) = bts l := List.take_of_length_le (by simp)
theorem vcs_at0 {l : List PV} {i : Nat} {x : PV} (h : l[i]? = some x) : (vcs l)[i * 2]? = some (.int .i64 x.n) := by
  induction l generalizing i with
  | nil => simp at h
  | cons y l ih =>
    cases i with
    | zero => simp at h; subst h; rfl
    | succ i =>
      have e : (i + 1) * 2 = i * 2 + 2 := by omega
      rw [e, vcs_cons, List.getElem?_cons_succ, List.getElem?_cons_succ]
      exact ih (by simpa using h)
theorem refw_raw (f : ByteArray) (hf : f.size < 1099511627776) (l : List PV) (hl : l.length ≤ 1073741824) (ht : ∀ x ∈ l, x.t.size < 1099511627776) : VC P 10 [.str f, sV l] [] (fun r ob' => (∃ b, r = .tup [.sl 0 b.length 1 0 b.length, .int .i64 0] ∧ ob' = [.live (bts b)] ∧ writeP f l = (b, 0)) ∨ ∃ e, r = .tup [.nils, .int .i64 e] ∧ ob' = [] ∧ writeP f l = ([], e)) := by
  refine VC_of_vwp_k ent_10 Tryd.func10 rfl (by simp) fun R hR => ?_
  refine vwp_sq [0, 1] fun K1 hK1 => vwp_region hT ?_
  simp
  refine hK1 _ ?_
  try clear hK1 K1
  refine vwp_sq [0, 1] fun K2 hK2 => vwp_region hT ?_
  simp
  refine vcall_k [] (letters_ref f hf) ?_
  rintro r ob' ⟨rfl, rfl⟩
  simp
  refine hK2 _ ?_
  try clear hK2 K2
  refine vwp_seq_k fun K3 hK3 => ?_
  refine vwp_sq [1, 6, 7, 8] fun K4 hK4 => vwp_region hT ?_
  simp
  refine hK4 _ ?_
  try clear hK4 K4
  refine vwp_cond (by first | rfl | (simp; rfl)) (fun h1 => ?_) fun h1 => ?_
  · simp -failIfUnchanged at h1; all_goals
   have hF : formF f = false := by simpa using h1
   have hwr : writeP f l = ([], 1) := by rw [writeP, if_pos hF]
   refine vwp_sq [] fun K5 hK5 => vwp_region hT ?_
   simp
   refine hK5 _ ?_
   try clear hK5 K5
   refine vwp_ret (hR _ _ ?_)
   exact ret_k [4, 5] [] ([]) (.tup [.nils, .int .i64 1]) (.inr ⟨1, rfl, rfl, hwr⟩)
  · simp -failIfUnchanged at h1; all_goals
   have hF : formF f = true := by simpa using h1
   obtain ⟨hs0, hs1⟩ := formF_pos hF
   have hls := sL_len (formS f)
   have hse : ¬ formS f = ByteArray.empty := by intro e; rw [e] at hs0; simp at hs0
   have hrm : (l.length : Int).tmod ((formS f).size : Int) = ((l.length % (formS f).size : Nat) : Int) := rfl
   have e1 : ((l.length : Int).tmod ((formS f).size : Int) = 0) = (l.length % (formS f).size = 0) := propext (by rw [hrm]; omega)
   have e2 : ((l.length : Int) = ((formS f).size : Int)) = (l.length = (formS f).size) := propext (by omega)
   refine vwp_skip ?_
   refine hK3 _ ?_
   try clear hK3 K3
   refine vwp_seq_k fun K6 hK6 => ?_
   refine vwp_cut_s (fun _ : Unit => ⟨[(1, sV l), (6, .str (formS f)), (39, .bool (wrongL (sL (formS f)) (formA f) l.length))], []⟩) (fun _ => True) (fun K7 hK7 => ?_) ?_
   · rcases Bool.eq_false_or_eq_true (formA f) with ha | ha
     · have hmo : wrongL (sL (formS f)) (formA f) l.length = !decide ((l.length : Int).tmod ((formS f).size : Int) = 0) := by simp [wrongL, hls, e1, ha]
       refine vwp_live [1, 6, 7] (vwp_region hT ?_)
       simp [ha]
       repeat refine ⟨by first | assumption | omega | (intros; omega), ?_⟩
       exact hK7 () _ (Gh.to_k [1, 6, 39] [] (he := by simp [hmo])) trivial
     · have hmo : wrongL (sL (formS f)) (formA f) l.length = ((l.length : Int) != ((formS f).size : Int)) := by
         rw [Bool.eq_iff_iff]
         simp [wrongL, hls, ha]
         omega
       refine vwp_live [1, 6, 7] (vwp_region hT ?_)
       simp [ha]
       repeat refine ⟨by first | assumption | omega | (intros; omega), ?_⟩
       exact hK7 () _ (Gh.to_k [1, 6, 39] [] (he := by simp [hmo])) trivial
   · rintro _ _
     refine vwp_cond (by first | rfl | (simp; rfl)) (fun h2 => ?_) fun h2 => ?_
     · simp -failIfUnchanged at h2; all_goals
      have hwl : wrongL (sL (formS f)) (formA f) l.length = true := h2
      have hwr : writeP f l = ([], 2) := by rw [writeP, if_neg (by simp [hF]), if_pos hwl]
      refine vwp_sq [] fun K8 hK8 => vwp_region hT ?_
      simp
      refine hK8 _ ?_
      try clear hK8 K8
      refine vwp_ret (hR _ _ ?_)
      exact ret_k [4, 5] [] ([]) (.tup [.nils, .int .i64 2]) (.inr ⟨2, rfl, rfl, hwr⟩)
     · simp -failIfUnchanged at h2; all_goals
      have hwl : wrongL (sL (formS f)) (formA f) l.length = false := h2
      have hwr0 : writeP f l = if fitsV (sL (formS f)) 0 l = false then ([], 2) else if 200 < l.length then ([], 4) else (bytesP (sL (formS f)) 0 l, 0) := by rw [writeP, if_neg (by simp [hF]), if_neg (by simp [hwl])]
      refine vwp_skip ?_
      refine hK6 _ ?_
      try clear hK6 K6
      refine vwp_sq [1, 6] fun K9 hK9 => vwp_region hT ?_
      simp
      refine hK9 _ ?_
      try clear hK9 K9
      refine vwp_seq_k fun K10 hK10 => ?_
      refine vwp_sq [1, 6, 9] fun K11 hK11 => vwp_region hT ?_
      simp
      refine hK11 _ ?_
      try clear hK11 K11
      refine vwp_block ?_
      refine vwp_loop_s (fun z : Nat × List Int => ⟨[(1, sV l), (6, .str (formS f)), (9, .sl 0 z.2.length 1 0 z.2.length), (10, .int .i64 (z.1 : Int))], [.live (bts z.2)]⟩) (fun z => z.1 ≤ l.length ∧ fitsV (sL (formS f)) 0 (l.take z.1) = true ∧ z.2 = bytesP (sL (formS f)) 0 (l.take z.1) ∧ z.2.length ≤ z.1 * 1010) (fun z => l.length - z.1) ((0, [])) (Gh.to_k [1, 6, 9, 10] [0]) (⟨Nat.zero_le _, by simp [fitsV], by simp [bytesP], by simp⟩) ?_
      rintro ⟨i, B⟩ ⟨hi, hfit, hBe, hBl⟩
      dsimp only at hi hfit hBe hBl
      intro K12 hK12
      refine vwp_seq_k fun K13 hK13 => ?_
      refine vwp_sq [1, 6, 9, 10] fun K14 hK14 => vwp_region hT ?_
      simp
      refine hK14 _ ?_
      try clear hK14 K14
      refine vwp_cond (by first | rfl | (simp; rfl)) (fun h3 => ?_) fun h3 => ?_
      · simp -failIfUnchanged at h3; all_goals
       have q := h3
       obtain ⟨x, hx⟩ := getI (l := l) (i := i) (by omega)
       have hv := vcs_at hx
       have hmem := List.mem_of_getElem? hx
       have htx := ht x hmem
       have htk : List.take (i + 1) l = List.take i l ++ [x] := by rw [List.take_add_one, hx]; rfl
       have hlen : (List.take i l).length = i := by rw [List.length_take]; omega
       have hri : (i : Int).tmod ((formS f).size : Int) = ((i % (formS f).size : Nat) : Int) := rfl
       have hjlt := Nat.mod_lt i hs0
       obtain ⟨j, hj⟩ : ∃ j, j = i % (formS f).size := ⟨_, rfl⟩
       rw [← hj] at hri hjlt
       obtain ⟨c, hc⟩ := getI (l := sL (formS f)) (i := j) (by omega)
       have hg := sL_get hc
       have hmi : (0 + (List.take i l).length) % (sL (formS f)).length = j := by rw [hlen, Nat.zero_add, hls, ← hj]
       have hcd : (sL (formS f)).getD j 0 = c := by rw [List.getD_eq_getElem?_getD, hc]; rfl
       refine vwp_skip ?_
       refine hK13 _ ?_
       try clear hK13 K13
       refine vwp_seq_k fun K15 hK15 => ?_
       refine vwp_block ?_
       refine vwp_sq [1, 6, 9, 10] fun K16 hK16 => vwp_region hT ?_
       simp [hri, hg]
       repeat refine ⟨by first | assumption | omega | (intros; omega), ?_⟩
       refine hK16 _ ?_
       try clear hK16 K16
       refine vwp_seq_k fun K17 hK17 => ?_
       refine vwp_sq [1, 6, 9, 10, 11] fun K18 hK18 => vwp_region hT ?_
       simp [hv]
       repeat refine ⟨by first | assumption | omega | (intros; omega), ?_⟩
       refine vcall_k [] (may_ref x c htx) ?_
       rintro r ob' ⟨rfl, rfl⟩
       simp [hv]
       repeat refine ⟨by first | assumption | omega | (intros; omega), ?_⟩
       refine hK18 _ ?_
       try clear hK18 K18
       refine vwp_cond (by first | rfl | (simp; rfl)) (fun h4 => ?_) fun h4 => ?_
       · simp -failIfUnchanged at h4; all_goals
        have q := h4
        have hmay : mayB x c = false := by simpa using q
        have hsp : l = List.take i l ++ x :: List.drop (i + 1) l := by
          have h := List.take_append_drop i l
          rw [List.drop_eq_getElem_cons (by omega), (List.getElem?_eq_some_iff.1 hx).2] at h
          exact h.symm
        have hwr : writeP f l = ([], 2) := by
          rw [hwr0, if_pos]
          rw [hsp, fitsV_app, fitsV, hmi, hcd, hmay]
          simp
        refine vwp_sq [] fun K19 hK19 => vwp_region hT ?_
        simp
        refine hK19 _ ?_
        try clear hK19 K19
        refine vwp_ret (hR _ _ ?_)
        exact ret_k [4, 5] [] ([]) (.tup [.nils, .int .i64 2]) (.inr ⟨2, rfl, rfl, hwr⟩)
       · simp -failIfUnchanged at h4; all_goals
        have q := h4
        have hmay : mayB x c = true := by simpa using q
        have hvl := valB_len hmay
        refine vwp_skip ?_
        refine hK17 _ ?_
        try clear hK17 K17
        refine vwp_sq [1, 6, 9, 10, 11] fun K20 hK20 => vwp_region hT ?_
        simp
        refine hK20 _ ?_
        try clear hK20 K20
        refine vwp_cond (by first | rfl | (simp; rfl)) (fun h5 => ?_) fun h5 => ?_
        · simp -failIfUnchanged at h5; all_goals
         have hc1 : c = 110 := by simpa using h5
         obtain ⟨hm1, hm2, hm3⟩ := may_n (hc1 ▸ hmay)
         have hvB : valB x c = numB x.n := by rw [valB, if_pos hc1]
         have v0 := vcs_at0 hx
         have hnl := numB_len hm2 hm3
         refine vwp_live [1, 6, 9, 10] (vwp_region hT ?_)
         simp [v0, take_bts]
         repeat refine ⟨by first | assumption | omega | (intros; omega), ?_⟩
         refine vcall_k [] (number_ref x.n hm2 hm3) ?_
         rintro r ob' ⟨rfl, rfl⟩
         simp [v0, take_bts]
         repeat refine ⟨by first | assumption | omega | (intros; omega), ?_⟩
         refine hK15 _ ?_
         try clear hK15 K15
         have hst1 : fitsV (sL (formS f)) 0 (l.take (i + 1)) = true := by rw [htk, fitsV_app, hfit, fitsV, hmi, hcd, hmay]; rfl
         have hst2 : bytesP (sL (formS f)) 0 (l.take (i + 1)) = B ++ valB x c := by rw [htk, bytesP_app, ← hBe, bytesP, hmi, hcd, bytesP, List.append_nil]
         have w1 : IntKind.i64.wrap ((i : Int) + 1) = (i : Int) + 1 := w64 (by omega) (by omega)
         refine vwp_live [1, 6, 9, 10] (vwp_region hT ?_)
         simp [w1]
         exact hK12 ((i + 1, B ++ valB x c)) _ (Gh.to_k [1, 6, 9, 10] [0] (he := by simp [hvB, sL_len, Nat.add_assoc]) (hh := by simp [hvB, bytesV_sL])) (⟨by dsimp only; omega, hst1, hst2.symm, by dsimp only; rw [List.length_append]; omega⟩) (by omega)
        · simp -failIfUnchanged at h5; all_goals
         have hc1 : ¬ c = 110 := by simpa using h5
         obtain ⟨hm1, hm2⟩ := may_t hc1 hmay
         have hnl := numB_len (n := (x.t.size : Int)) (by omega) (by omega)
         have hvB : valB x c = numB (x.t.size : Int) ++ sL x.t := by rw [valB, if_neg hc1]
         have v1 := vcs_at1 hx
         refine vwp_live [1, 6, 9, 10] (vwp_storm hT hm [.pure, .pure, .pure, .win 0 0, .win 0 0, .win 0 0, .win 0 0, .mv, .mv, .pure, .pure, .win 0 2, .win 0 2, .win 0 2, .mv, .pure] [[], [], [], [1, 2], [1, 2, 3], [1, 2, 3, 4], [1, 2, 3, 4, 5], [1, 2, 3, 4, 5, 6], [0, 1, 2, 3, 4, 5, 6, 7], [], [], [9, 10], [9, 10, 11], [9, 10, 11, 12], [0, 1, 2, 3, 4, 5, 6, 7, 8, 9, 10, 11, 12, 13], [0, 1, 2, 3, 4, 5, 6, 7, 8, 9, 10, 11, 12, 13, 14]] (by kernel_rfl) ?_)
         simp [v1, take_bts, bytesV_sL, sL_len]
         repeat refine ⟨by first | assumption | omega | (intros; omega), ?_⟩
         refine ⟨.sl 1 (numB (x.t.size : Int)).length 1 0 (numB (x.t.size : Int)).length, [.live (bts B), .live (bts (numB (x.t.size : Int)))], fun sl => ?_, ?_⟩
         · refine vcall_k [] (number_ref (x.t.size : Int) (by omega) (by omega)) ?_
           rintro r ob' ⟨rfl, rfl⟩
           simp
         simp [v1, take_bts, bytesV_sL, sL_len]
         repeat refine ⟨by first | assumption | omega | (intros; omega), ?_⟩
         refine hK15 _ ?_
         try clear hK15 K15
         have hst1 : fitsV (sL (formS f)) 0 (l.take (i + 1)) = true := by rw [htk, fitsV_app, hfit, fitsV, hmi, hcd, hmay]; rfl
         have hst2 : bytesP (sL (formS f)) 0 (l.take (i + 1)) = B ++ valB x c := by rw [htk, bytesP_app, ← hBe, bytesP, hmi, hcd, bytesP, List.append_nil]
         have w1 : IntKind.i64.wrap ((i : Int) + 1) = (i : Int) + 1 := w64 (by omega) (by omega)
         refine vwp_live [1, 6, 9, 10] (vwp_region hT ?_)
         simp [w1]
         exact hK12 ((i + 1, B ++ valB x c)) _ (Gh.to_k [1, 6, 9, 10] [0] (he := by simp [hvB, sL_len, Nat.add_assoc]) (hh := by simp [hvB, bytesV_sL])) (⟨by dsimp only; omega, hst1, hst2.symm, by dsimp only; rw [List.length_append]; omega⟩) (by omega)
      · simp -failIfUnchanged at h3; all_goals
       have q := h3
       obtain rfl : i = l.length := by omega
       rw [List.take_length] at hfit hBe
       have hwr1 : writeP f l = if 200 < l.length then ([], 4) else (B, 0) := by rw [hwr0, if_neg (by simp [hfit]), hBe]
       refine vwp_exit ?_
       simp only [inBlk, thenQ, if_true]
       refine hK10 _ ?_
       try clear hK10 K10
       refine vwp_seq_k fun K21 hK21 => ?_
       refine vwp_sq [1, 9] fun K22 hK22 => vwp_region hT ?_
       simp
       refine hK22 _ ?_
       try clear hK22 K22
       refine vwp_cond (by first | rfl | (simp; rfl)) (fun h6 => ?_) fun h6 => ?_
       · simp -failIfUnchanged at h6; all_goals
        have q := h6
        have hwr : writeP f l = ([], 4) := by rw [hwr1, if_pos (by omega)]
        refine vwp_sq [] fun K23 hK23 => vwp_region hT ?_
        simp
        refine hK23 _ ?_
        try clear hK23 K23
        refine vwp_ret (hR _ _ ?_)
        exact ret_k [4, 5] [] ([]) (.tup [.nils, .int .i64 4]) (.inr ⟨4, rfl, rfl, hwr⟩)
       · simp -failIfUnchanged at h6; all_goals
        have q := h6
        have hwr : writeP f l = (B, 0) := by rw [hwr1, if_neg (by omega)]
        refine vwp_skip ?_
        refine hK21 _ ?_
        try clear hK21 K21
        refine vwp_sq [9] fun K24 hK24 => vwp_region hT ?_
        simp
        refine hK24 _ ?_
        try clear hK24 K24
        refine vwp_ret (hR _ _ ?_)
        exact ret_k [4, 5] [0] ([.live (bts B)]) (.tup [.sl 0 B.length 1 0 B.length, .int .i64 0]) (.inl ⟨B, rfl, rfl, hwr⟩)

theorem refw_spec (f : ByteArray) (hf : f.size < 1099511627776) (l : List PV) (hl : l.length ≤ 1073741824) (ht : ∀ x ∈ l, x.t.size < 1099511627776) : VC P 10 [.str f, sV l] [] (fun r ob' => r = .tup [.sl 0 (writeP f l).1.length 1 0 (writeP f l).1.length, .int .i64 (writeP f l).2] ∧ ob' = [.live (bts (writeP f l).1)]) := by
  refine virtE 1 (refw_raw f hf l hl ht) fun r ob' q => ?_
  rcases q with ⟨b, rfl, rfl, e⟩ | ⟨e, rfl, rfl, h⟩
  · exact .inl (by rw [e]; exact ⟨rfl, rfl⟩)
  · exact .inr (.inr ⟨_, rfl, by rw [h]; exact ⟨rfl, rfl⟩⟩)
end Go.Proofs.YtgmcflbbdpbkeaaDoor
