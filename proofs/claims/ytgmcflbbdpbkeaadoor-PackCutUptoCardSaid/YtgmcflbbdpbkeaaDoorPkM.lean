/- pack.Write. -/
import Derived.Test.YtgmcflbbdpbkeaaDoorPkL
namespace Go.Proofs.YtgmcflbbdpbkeaaDoor
open Go Go.VX Go.RowKit
set_option linter.unusedVariables false
set_option linter.unusedSimpArgs false
set_option maxHeartbeats 20000000
set_option maxRecDepth 100000

abbrev sV (l : List PV) : V := .fs l.length (vcs l)
theorem vcs_app (a b : List PV) : vcs (a ++ b) = vcs a ++ vcs b := by simp [vcs]
theorem vcs_cons (x : PV) (l : List PV) : vcs (x :: l) = .int .i64 x.n :: .str x.t :: vcs l := rfl
theorem vcs_at {l : List PV} {i : Nat} {x : PV} (h : l[i]? = some x) : List.take 2 (List.drop (i * 2) (vcs l)) = [.int .i64 x.n, .str x.t] := by
  induction l generalizing i with
  | nil => simp at h
  | cons y l ih =>
    cases i with
    | zero => simp at h; subst h; rfl
    | succ i =>
      have : (i + 1) * 2 = i * 2 + 2 := by omega
      rw [this, vcs_cons, List.drop_succ_cons, List.drop_succ_cons]
      exact ih (by simpa using h)
/-- A value's bytes, at a letter. -/
def valB (x : PV) (c : Int) : List Int := if c = 110 then numB x.n else numB (x.t.size : Int) ++ sL x.t
def bytesP (S : List Int) : Nat → List PV → List Int
  | _, [] => []
  | i, x :: l => valB x (S.getD (i % S.length) 0) ++ bytesP S (i + 1) l
def fitsV (S : List Int) : Nat → List PV → Bool
  | _, [] => true
  | i, x :: l => mayB x (S.getD (i % S.length) 0) && fitsV S (i + 1) l
theorem bytesP_app (S : List Int) (a b : List PV) : ∀ i, bytesP S i (a ++ b) = bytesP S i a ++ bytesP S (i + a.length) b := by
  induction a with
  | nil => intro i; simp [bytesP]
  | cons x a ih => intro i; simp [bytesP, ih, Nat.add_assoc, Nat.add_comm 1]
theorem fitsV_app (S : List Int) (a b : List PV) : ∀ i, fitsV S i (a ++ b) = (fitsV S i a && fitsV S (i + a.length) b) := by
  induction a with
  | nil => intro i; simp [fitsV]
  | cons x a ih => intro i; simp [fitsV, ih, Nat.add_assoc, Nat.add_comm 1, Bool.and_assoc]
def wrongL (S : List Int) (again : Bool) (n : Nat) : Bool := (again && !decide (n % S.length = 0)) || (!again && !decide (n = S.length))
/-- What Write answers. -/
def writeP (f : ByteArray) (l : List PV) : List Int × Int :=
  if formF f = false then ([], 1) else if wrongL (sL (formS f)) (formA f) l.length = true then ([], 2) else if fitsV (sL (formS f)) 0 l = false then ([], 2) else if 200 < l.length then ([], 4) else (bytesP (sL (formS f)) 0 l, 0)
theorem numB_len {n : Int} (h1 : -4611686018427387904 ≤ n) (h2 : n ≤ 4611686018427387904) : (numB n).length ≤ 10 := varB_10 (by have := zag_lt h1 h2; omega)
theorem may_n {x : PV} (h : mayB x 110 = true) : x.t.size = 0 ∧ -4611686018427387904 ≤ x.n ∧ x.n ≤ 4611686018427387904 := by
  simp [mayB, numOK] at h
  exact ⟨by rw [h.1]; rfl, h.2⟩
theorem may_t {x : PV} {c : Int} (hc : ¬ c = 110) (h : mayB x c = true) : x.n = 0 ∧ x.t.size ≤ 1000 := by
  simp [mayB, hc] at h
  exact h
theorem valB_len {x : PV} {c : Int} (h : mayB x c = true) : (valB x c).length ≤ 1010 := by
  unfold valB
  split
  · rename_i hc
    subst hc
    obtain ⟨_, h1, h2⟩ := may_n h
    have := numB_len h1 h2
    omega
  · rename_i hc
    obtain ⟨_, h2⟩ := may_t hc h
    have := numB_len (n := (x.t.size : Int)) (by omega) (by omega)
    rw [List.length_append, sL_len]
    omega
theorem valB_byte {x : PV} {c : Int} : byteL (valB x c) := by
  unfold valB
  split
  · exact varB_byte _
  · intro y hy
    rcases List.mem_append.1 hy with h | h
    · exact varB_byte _ y h
    · exact sL_byte _ y h
theorem write_raw (f : ByteArray) (hf : f.size < 1099511627776) (l : List PV) (hl : l.length ≤ 1073741824) (ht : ∀ x ∈ l, x.t.size < 1099511627776) : VC P 9 [.str f, sV l] [] (fun r ob' => (∃ b, r = .tup [.sl 0 b.length 1 0 b.length, .int .i64 0] ∧ ob' = [.live (bts b)] ∧ writeP f l = (b, 0)) ∨ ∃ e, r = .tup [.nils, .int .i64 e] ∧ ob' = [] ∧ writeP f l = ([], e)) := by
  refine VC_of_vwp_k ent_9 Tryd.func9 rfl (by simp) fun R hR => ?_
  refine vwp_sq [0, 1] fun K1 hK1 => vwp_region hT ?_
  simp
  refine hK1 _ ?_
  try clear hK1 K1
  refine vwp_sq [0, 1] fun K2 hK2 => vwp_region hT ?_
  simp
  refine vcall_k [] (parted_spec f hf) ?_
  rintro r ob' ⟨rfl, rfl⟩
  simp
  refine hK2 _ ?_
  try clear hK2 K2
  refine vwp_seq_k fun K3 hK3 => ?_
  refine vwp_block ?_
  refine vwp_sq [1, 6, 7, 8] fun K4 hK4 => vwp_region hT ?_
  simp
  refine hK4 _ ?_
  try clear hK4 K4
  refine vwp_cond (by first | rfl | (simp; rfl)) (fun h1 => ?_) fun h1 => ?_
  · simp -failIfUnchanged at h1; all_goals
   have hF : formF f = false := by simpa using h1
   have hwr : writeP f l = ([], 1) := by rw [writeP, if_pos hF]
   refine vwp_sq [] fun K5 hK5 => vwp_region hT ?_
   simp
   refine hK5 _ ?_
   try clear hK5 K5
   refine vwp_ret (hR _ _ ?_)
   exact ret_k [4, 5] [] ([]) (.tup [.nils, .int .i64 1]) (.inr ⟨1, rfl, rfl, hwr⟩)
  · simp -failIfUnchanged at h1; all_goals
   have hF : formF f = true := by simpa using h1
   obtain ⟨hs0, hs1⟩ := formF_pos hF
   have hls := sL_len (formS f)
   have hse : ¬ formS f = ByteArray.empty := by intro e; rw [e] at hs0; simp at hs0
   have hrm : (l.length : Int).tmod ((formS f).size : Int) = ((l.length % (formS f).size : Nat) : Int) := rfl
   have e1 : ((l.length : Int).tmod ((formS f).size : Int) = 0) = (l.length % (formS f).size = 0) := propext (by rw [hrm]; omega)
   have e2 : ((l.length : Int) = ((formS f).size : Int)) = (l.length = (formS f).size) := propext (by omega)
   refine vwp_cut_s (fun _ : Unit => ⟨[(1, sV l), (6, .str (formS f)), (22, .bool (wrongL (sL (formS f)) (formA f) l.length))], []⟩) (fun _ => True) (fun K6 hK6 => ?_) ?_
   · rcases Bool.eq_false_or_eq_true (formA f) with ha | ha
     · have hmo : wrongL (sL (formS f)) (formA f) l.length = !decide ((l.length : Int).tmod ((formS f).size : Int) = 0) := by simp [wrongL, hls, e1, ha]
       refine vwp_live [1, 6, 7] (vwp_region hT ?_)
       simp [ha]
       repeat refine ⟨by first | assumption | omega | (intros; omega), ?_⟩
       exact hK6 () _ (Gh.to_k [1, 6, 22] [] (he := by simp [hmo])) trivial
     · have hmo : wrongL (sL (formS f)) (formA f) l.length = ((l.length : Int) != ((formS f).size : Int)) := by
         rw [Bool.eq_iff_iff]
         simp [wrongL, hls, ha]
         omega
       refine vwp_live [1, 6, 7] (vwp_region hT ?_)
       simp [ha]
       repeat refine ⟨by first | assumption | omega | (intros; omega), ?_⟩
       exact hK6 () _ (Gh.to_k [1, 6, 22] [] (he := by simp [hmo])) trivial
   · rintro _ _
     refine vwp_cond (by first | rfl | (simp; rfl)) (fun h2 => ?_) fun h2 => ?_
     · simp -failIfUnchanged at h2; all_goals
      have hwl : wrongL (sL (formS f)) (formA f) l.length = true := h2
      have hwr : writeP f l = ([], 2) := by rw [writeP, if_neg (by simp [hF]), if_pos hwl]
      refine vwp_sq [] fun K7 hK7 => vwp_region hT ?_
      simp
      refine hK7 _ ?_
      try clear hK7 K7
      refine vwp_ret (hR _ _ ?_)
      exact ret_k [4, 5] [] ([]) (.tup [.nils, .int .i64 2]) (.inr ⟨2, rfl, rfl, hwr⟩)
     · simp -failIfUnchanged at h2; all_goals
      have hwl : wrongL (sL (formS f)) (formA f) l.length = false := h2
      have hwr0 : writeP f l = if fitsV (sL (formS f)) 0 l = false then ([], 2) else if 200 < l.length then ([], 4) else (bytesP (sL (formS f)) 0 l, 0) := by rw [writeP, if_neg (by simp [hF]), if_neg (by simp [hwl])]
      refine vwp_skip ?_
      refine hK3 _ ?_
      try clear hK3 K3
      refine vwp_sq [1, 6] fun K8 hK8 => vwp_region hT ?_
      simp
      refine hK8 _ ?_
      try clear hK8 K8
      refine vwp_seq_k fun K9 hK9 => ?_
      refine vwp_gh (Gh.virt 9 1 (by rfl)) ?_
      simp
      refine vwp_sq [1, 6, 9] fun K10 hK10 => vwp_region hT ?_
      simp
      refine hK10 _ ?_
      try clear hK10 K10
      refine vwp_block ?_
      refine vwp_loop_s (fun z : Nat × List Int => ⟨[(1, sV l), (6, .str (formS f)), (9, .sl 0 z.2.length 1 0 z.2.length), (43, sV l), (44, .int .i64 (l.length : Int)), (45, .int .i64 (z.1 : Int))], [.live (bts z.2)]⟩) (fun z => z.1 ≤ l.length ∧ fitsV (sL (formS f)) 0 (l.take z.1) = true ∧ z.2 = bytesP (sL (formS f)) 0 (l.take z.1) ∧ z.2.length ≤ z.1 * 1010) (fun z => l.length - z.1) ((0, [])) (Gh.to_k [1, 6, 9, 43, 44, 45] [0]) (⟨Nat.zero_le _, by simp [fitsV], by simp [bytesP], by simp⟩) ?_
      rintro ⟨i, B⟩ ⟨hi, hfit, hBe, hBl⟩
      dsimp only at hi hfit hBe hBl
      intro K11 hK11
      refine vwp_sq [1, 6, 9, 43, 44, 45] fun K12 hK12 => vwp_region hT ?_
      simp
      refine hK12 _ ?_
      try clear hK12 K12
      refine vwp_seq_k fun K13 hK13 => ?_
      refine vwp_cond (by first | rfl | (simp; rfl)) (fun h3 => ?_) fun h3 => ?_
      · simp -failIfUnchanged at h3; all_goals
       have q := h3
       obtain ⟨x, hx⟩ := getI (l := l) (i := i) (by omega)
       have hv := vcs_at hx
       have hmem := List.mem_of_getElem? hx
       have htx := ht x hmem
       have htk : List.take (i + 1) l = List.take i l ++ [x] := by rw [List.take_add_one, hx]; rfl
       have hlen : (List.take i l).length = i := by rw [List.length_take]; omega
       have hri : (i : Int).tmod ((formS f).size : Int) = ((i % (formS f).size : Nat) : Int) := rfl
       have hjlt := Nat.mod_lt i hs0
       obtain ⟨j, hj⟩ : ∃ j, j = i % (formS f).size := ⟨_, rfl⟩
       rw [← hj] at hri hjlt
       obtain ⟨c, hc⟩ := getI (l := sL (formS f)) (i := j) (by omega)
       have hg := sL_get hc
       have hmi : (0 + (List.take i l).length) % (sL (formS f)).length = j := by rw [hlen, Nat.zero_add, hls, ← hj]
       have hcd : (sL (formS f)).getD j 0 = c := by rw [List.getD_eq_getElem?_getD, hc]; rfl
       refine vwp_skip ?_
       refine hK13 _ ?_
       try clear hK13 K13
       refine vwp_seq_k fun K14 hK14 => ?_
       refine vwp_block ?_
       refine vwp_sq [1, 6, 9, 43, 44, 45] fun K15 hK15 => vwp_region hT ?_
       simp [hv]
       repeat refine ⟨by first | assumption | omega | (intros; omega), ?_⟩
       refine hK15 _ ?_
       try clear hK15 K15
       refine vwp_sq [1, 6, 9, 10, 11, 43, 44, 45] fun K16 hK16 => vwp_region hT ?_
       simp [hri, hg]
       repeat refine ⟨by first | assumption | omega | (intros; omega), ?_⟩
       refine hK16 _ ?_
       try clear hK16 K16
       refine vwp_seq_k fun K17 hK17 => ?_
       refine vwp_sq [1, 6, 9, 11, 12, 43, 44, 45] fun K18 hK18 => vwp_region hT ?_
       simp
       refine vcall_k [] (fits_spec x c htx) ?_
       rintro r ob' ⟨rfl, rfl⟩
       simp
       refine hK18 _ ?_
       try clear hK18 K18
       refine vwp_cond (by first | rfl | (simp; rfl)) (fun h4 => ?_) fun h4 => ?_
       · simp -failIfUnchanged at h4; all_goals
        have q := h4
        have hmay : mayB x c = false := by simpa using q
        have hsp : l = List.take i l ++ x :: List.drop (i + 1) l := by
          have h := List.take_append_drop i l
          rw [List.drop_eq_getElem_cons (by omega), (List.getElem?_eq_some_iff.1 hx).2] at h
          exact h.symm
        have hwr : writeP f l = ([], 2) := by
          rw [hwr0, if_pos]
          rw [hsp, fitsV_app, fitsV, hmi, hcd, hmay]
          simp
        refine vwp_sq [] fun K19 hK19 => vwp_region hT ?_
        simp
        refine hK19 _ ?_
        try clear hK19 K19
        refine vwp_ret (hR _ _ ?_)
        exact ret_k [4, 5] [] ([]) (.tup [.nils, .int .i64 2]) (.inr ⟨2, rfl, rfl, hwr⟩)
       · simp -failIfUnchanged at h4; all_goals
        have q := h4
        have hmay : mayB x c = true := by simpa using q
        have hvl := valB_len hmay
        refine vwp_skip ?_
        refine hK17 _ ?_
        try clear hK17 K17
        refine vwp_seq_k fun K20 hK20 => ?_
        refine vwp_sq [1, 6, 9, 11, 12, 43, 44, 45] fun K21 hK21 => vwp_region hT ?_
        simp
        refine hK21 _ ?_
        try clear hK21 K21
        refine vwp_cond (by first | rfl | (simp; rfl)) (fun h5 => ?_) fun h5 => ?_
        · simp -failIfUnchanged at h5; all_goals
         have hc1 : c = 110 := by simpa using h5
         obtain ⟨hm1, hm2, hm3⟩ := may_n (hc1 ▸ hmay)
         have hvB : valB x c = numB x.n := by rw [valB, if_pos hc1]
         refine vwp_sq [1, 6, 9, 11, 43, 44, 45] fun K22 hK22 => vwp_region hT ?_
         simp
         refine vcall_k [0] (number_spec B x.n hm2 hm3 (by omega)) ?_
         rintro r ob' ⟨rfl, rfl⟩
         simp
         refine hK22 _ ?_
         try clear hK22 K22
         refine vwp_exit ?_
         simp only [inBlk, thenQ, if_true]
         refine hK14 _ ?_
         try clear hK14 K14
         have hst1 : fitsV (sL (formS f)) 0 (l.take (i + 1)) = true := by rw [htk, fitsV_app, hfit, fitsV, hmi, hcd, hmay]; rfl
         have hst2 : bytesP (sL (formS f)) 0 (l.take (i + 1)) = B ++ valB x c := by rw [htk, bytesP_app, ← hBe, bytesP, hmi, hcd, bytesP, List.append_nil]
         have w1 : IntKind.i64.wrap ((i : Int) + 1) = (i : Int) + 1 := w64 (by omega) (by omega)
         refine vwp_live [1, 6, 9, 43, 44, 45] (vwp_region hT ?_)
         simp [w1]
         exact hK11 ((i + 1, B ++ valB x c)) _ (Gh.to_k [1, 6, 9, 43, 44, 45] [0] (he := by simp [hvB, sL_len, Nat.add_assoc]) (hh := by simp [hvB, bytesV_sL])) (⟨by dsimp only; omega, hst1, hst2.symm, by dsimp only; rw [List.length_append]; omega⟩) (by omega)
        · simp -failIfUnchanged at h5; all_goals
         have hc1 : ¬ c = 110 := by simpa using h5
         obtain ⟨hm1, hm2⟩ := may_t hc1 hmay
         have hnl := numB_len (n := (x.t.size : Int)) (by omega) (by omega)
         have hvB : valB x c = numB (x.t.size : Int) ++ sL x.t := by rw [valB, if_neg hc1]
         refine vwp_skip ?_
         refine hK20 _ ?_
         try clear hK20 K20
         refine vwp_live [1, 6, 9, 11, 43, 44, 45] (vwp_storm hT hm [.pure, .win 0 0, .win 0 0, .win 0 0, .mv, .win 0 1, .win 0 1, .mv, .pure] [[], [], [1], [1, 2], [0, 1, 2, 3], [], [5], [0, 1, 2, 3, 4, 5, 6], [0, 1, 2, 3, 4, 5, 6, 7]] (by kernel_rfl) ?_)
         simp [bytesV_sL, sL_len]
         repeat refine ⟨by first | assumption | omega | (intros; omega), ?_⟩
         refine ⟨.sl 0 (B ++ numB (x.t.size : Int)).length 1 0 (B ++ numB (x.t.size : Int)).length, [.live (bts (B ++ numB (x.t.size : Int))), .live [.int .i64 x.n, .str x.t]], fun sl => ?_, ?_⟩
         · refine vcall_k [0] (number_spec B (x.t.size : Int) (by omega) (by omega) (by omega)) ?_
           rintro r ob' ⟨rfl, rfl⟩
           simp
         simp [bytesV_sL, sL_len]
         repeat refine ⟨by first | assumption | omega | (intros; omega), ?_⟩
         refine hK14 _ ?_
         try clear hK14 K14
         have hst1 : fitsV (sL (formS f)) 0 (l.take (i + 1)) = true := by rw [htk, fitsV_app, hfit, fitsV, hmi, hcd, hmay]; rfl
         have hst2 : bytesP (sL (formS f)) 0 (l.take (i + 1)) = B ++ valB x c := by rw [htk, bytesP_app, ← hBe, bytesP, hmi, hcd, bytesP, List.append_nil]
         have w1 : IntKind.i64.wrap ((i : Int) + 1) = (i : Int) + 1 := w64 (by omega) (by omega)
         refine vwp_live [1, 6, 9, 43, 44, 45] (vwp_region hT ?_)
         simp [w1]
         exact hK11 ((i + 1, B ++ valB x c)) _ (Gh.to_k [1, 6, 9, 43, 44, 45] [0] (he := by simp [hvB, sL_len, Nat.add_assoc]) (hh := by simp [hvB, bytesV_sL])) (⟨by dsimp only; omega, hst1, hst2.symm, by dsimp only; rw [List.length_append]; omega⟩) (by omega)
      · simp -failIfUnchanged at h3; all_goals
       have q := h3
       obtain rfl : i = l.length := by omega
       rw [List.take_length] at hfit hBe
       have hwr1 : writeP f l = if 200 < l.length then ([], 4) else (B, 0) := by rw [hwr0, if_neg (by simp [hfit]), hBe]
       refine vwp_exit ?_
       simp only [inBlk, thenQ, if_true]
       refine hK9 _ ?_
       try clear hK9 K9
       refine vwp_seq_k fun K23 hK23 => ?_
       refine vwp_sq [1, 9] fun K24 hK24 => vwp_region hT ?_
       simp
       refine hK24 _ ?_
       try clear hK24 K24
       refine vwp_cond (by first | rfl | (simp; rfl)) (fun h6 => ?_) fun h6 => ?_
       · simp -failIfUnchanged at h6; all_goals
        have q := h6
        have hwr : writeP f l = ([], 4) := by rw [hwr1, if_pos (by omega)]
        refine vwp_sq [] fun K25 hK25 => vwp_region hT ?_
        simp
        refine hK25 _ ?_
        try clear hK25 K25
        refine vwp_ret (hR _ _ ?_)
        exact ret_k [4, 5] [] ([]) (.tup [.nils, .int .i64 4]) (.inr ⟨4, rfl, rfl, hwr⟩)
       · simp -failIfUnchanged at h6; all_goals
        have q := h6
        have hwr : writeP f l = (B, 0) := by rw [hwr1, if_neg (by omega)]
        refine vwp_skip ?_
        refine hK23 _ ?_
        try clear hK23 K23
        refine vwp_sq [9] fun K26 hK26 => vwp_region hT ?_
        simp
        refine hK26 _ ?_
        try clear hK26 K26
        refine vwp_ret (hR _ _ ?_)
        exact ret_k [4, 5] [0] ([.live (bts B)]) (.tup [.sl 0 B.length 1 0 B.length, .int .i64 0]) (.inl ⟨B, rfl, rfl, hwr⟩)

theorem write_spec (f : ByteArray) (hf : f.size < 1099511627776) (l : List PV) (hl : l.length ≤ 1073741824) (ht : ∀ x ∈ l, x.t.size < 1099511627776) : VC P 9 [.str f, sV l] [] (fun r ob' => r = .tup [.sl 0 (writeP f l).1.length 1 0 (writeP f l).1.length, .int .i64 (writeP f l).2] ∧ ob' = [.live (bts (writeP f l).1)]) := by
  refine virtE 1 (write_raw f hf l hl ht) fun r ob' q => ?_
  rcases q with ⟨b, rfl, rfl, e⟩ | ⟨e, rfl, rfl, h⟩
  · exact .inl (by rw [e]; exact ⟨rfl, rfl⟩)
  · exact .inr (.inr ⟨_, rfl, by rw [h]; exact ⟨rfl, rfl⟩⟩)
end Go.Proofs.YtgmcflbbdpbkeaaDoor
