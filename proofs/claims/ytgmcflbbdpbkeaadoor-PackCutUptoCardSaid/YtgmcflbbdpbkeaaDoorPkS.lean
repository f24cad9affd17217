/- The document's Read. -/
import Derived.Test.YtgmcflbbdpbkeaaDoorPkR
namespace Go.Proofs.YtgmcflbbdpbkeaaDoor
open Go Go.VX Go.RowKit
set_option linter.unusedVariables false
set_option linter.unusedSimpArgs false
set_option maxHeartbeats 20000000
set_option maxRecDepth 100000

theorem readP_E {f : ByteArray} {B : List Int} {e : Int} (hF : formF f = true) (hB : ¬ 20000 < B.length) (h : allK (sL (formS f)) (formA f) (B.length + 1) [] B = .error e) : readP f B = ([], e) := by
  rw [readP, if_neg (by simp [hF]), if_neg hB, allR_err h]
theorem readP_ok {f : ByteArray} {B C : List Int} {l : List PV} (hF : formF f = true) (hB : ¬ 20000 < B.length) (h : allK (sL (formS f)) (formA f) (B.length + 1) [] B = .ok (l, C)) : readP f B = if C = [] then (if 200 < l.length then ([], 4) else (l, 0)) else ([], 2) := by
  rw [readP, if_neg (by simp [hF]), if_neg hB, allR_ok h]
  by_cases hC : C = [] <;> simp [hC]
theorem takeV_err {S B : List Int} {i : Nat} {e : Int} (h : takeN B = .error e) : takeV S i B = .error e := by
  unfold takeV
  split
  · rw [h]
  · rw [takeT_err h]
theorem takeAt_ok {B C : List Int} {p : Nat} {n : Int} (h : takeN (B.drop p) = .ok (n, C)) (hb : byteL B) (hp : p ≤ B.length) : ∃ a : Nat, takeAt B p = .tup [.int .i64 n, .int .i64 (a : Int), .int .i64 0] ∧ C = B.drop a ∧ p < a ∧ a ≤ B.length := by
  have hbd : byteL (B.drop p) := fun x hx => hb x (List.mem_of_mem_drop hx)
  have h1 := (takeN_num h hbd).1
  have h2 := takeN_lt h hbd
  have hl : (B.drop p).length = (numB n).length + C.length := by rw [h1, List.length_append]
  rw [List.length_drop] at hl h2
  refine ⟨B.length - C.length, by rw [takeAt, h], ?_, by omega, by omega⟩
  have : C = (B.drop p).drop (numB n).length := by rw [h1]; simp
  rw [List.drop_drop] at this
  rw [show B.length - C.length = p + (numB n).length by omega]
  exact this
theorem refr_raw (f : ByteArray) (hf : f.size < 1099511627776) (B : List Int) (hb : byteL B) (hBl : B.length ≤ 1099511627776) : VC P 16 [.str f, sB B] [] (fun r ob' => (∃ l, r = .tup [.sl 0 (2 * l.length) 2 0 l.length, .int .i64 0] ∧ ob' = [.live (vcs l)] ∧ readP f B = (l, 0)) ∨ ∃ e, r = .tup [.nils, .int .i64 e] ∧ ob' = [] ∧ readP f B = ([], e)) := by
  refine VC_of_vwp_k ent_16 Tryd.func16 rfl (by simp) fun R hR => ?_
  refine vwp_sq [0, 1] fun K1 hK1 => vwp_region hT ?_
  simp
  refine hK1 _ ?_
  try clear hK1 K1
  refine vwp_sq [0, 1] fun K2 hK2 => vwp_region hT ?_
  simp
  refine vcall_k [] (letters_ref f hf) ?_
  rintro r ob' ⟨rfl, rfl⟩
  simp
  refine hK2 _ ?_
  try clear hK2 K2
  refine vwp_seq_k fun K3 hK3 => ?_
  refine vwp_sq [1, 6, 7, 8] fun K4 hK4 => vwp_region hT ?_
  simp
  refine hK4 _ ?_
  try clear hK4 K4
  refine vwp_cond (by first | rfl | (simp; rfl)) (fun h1 => ?_) fun h1 => ?_
  · simp -failIfUnchanged at h1; all_goals
   have hF : formF f = false := by simpa using h1
   have hrd : readP f B = ([], 1) := by rw [readP, if_pos hF]
   refine vwp_sq [] fun K5 hK5 => vwp_region hT ?_
   simp
   refine hK5 _ ?_
   try clear hK5 K5
   refine vwp_ret (hR _ _ ?_)
   exact ret_k [4, 5] [] ([]) (.tup [.nils, .int .i64 1]) (.inr ⟨1, rfl, rfl, hrd⟩)
  · simp -failIfUnchanged at h1; all_goals
   have hF : formF f = true := by simpa using h1
   obtain ⟨hs0, hs1⟩ := formF_pos hF
   have hls := sL_len (formS f)
   have hse : ¬ formS f = ByteArray.empty := by intro e; rw [e] at hs0; simp at hs0
   refine vwp_skip ?_
   refine hK3 _ ?_
   try clear hK3 K3
   refine vwp_seq_k fun K6 hK6 => ?_
   refine vwp_sq [1, 6, 7] fun K7 hK7 => vwp_region hT ?_
   simp
   refine hK7 _ ?_
   try clear hK7 K7
   refine vwp_cond (by first | rfl | (simp; rfl)) (fun h2 => ?_) fun h2 => ?_
   · simp -failIfUnchanged at h2; all_goals
    have q := h2
    have hrd : readP f B = ([], 4) := by rw [readP, if_neg (by simp [hF]), if_pos (by omega)]
    refine vwp_sq [] fun K8 hK8 => vwp_region hT ?_
    simp
    refine hK8 _ ?_
    try clear hK8 K8
    refine vwp_ret (hR _ _ ?_)
    exact ret_k [4, 5] [] ([]) (.tup [.nils, .int .i64 4]) (.inr ⟨4, rfl, rfl, hrd⟩)
   · simp -failIfUnchanged at h2; all_goals
    have q := h2
    have hB2 : ¬ 20000 < B.length := by omega
    refine vwp_skip ?_
    refine hK6 _ ?_
    try clear hK6 K6
    have hz0 : zerosV [.int .i64 0, .str ⟨#[]⟩] 0 = [] := rfl
    refine vwp_sq [1, 6, 7] fun K9 hK9 => vwp_region hT ?_
    simp [hz0]
    refine hK9 _ ?_
    try clear hK9 K9
    refine vwp_sq [1, 6, 7, 9] fun K10 hK10 => vwp_region hT ?_
    simp
    refine hK10 _ ?_
    try clear hK10 K10
    refine vwp_seq_k fun K11 hK11 => ?_
    refine vwp_block ?_
    refine vwp_loop_s (fun z : List PV × Nat => ⟨[(1, sB B), (6, .str (formS f)), (7, .bool (formA f)), (9, .sl 0 (2 * z.1.length) 2 0 z.1.length), (10, .int .i64 (z.2 : Int))], [.live (vcs z.1)]⟩) (fun z => z.2 ≤ B.length ∧ z.1.length ≤ z.2 ∧ (formA f = false → z.1.length ≤ (formS f).size) ∧ ∃ g, B.length - z.2 < g ∧ allK (sL (formS f)) (formA f) (B.length + 1) [] B = allK (sL (formS f)) (formA f) g z.1 (B.drop z.2)) (fun z => B.length - z.2) (([], 0)) (Gh.to_k [1, 6, 7, 9, 10] [0]) (⟨Nat.zero_le _, Nat.zero_le _, fun _ => Nat.zero_le _, B.length + 1, by simp, rfl⟩) ?_
    rintro ⟨l, p⟩ ⟨hp, hlp, hlm0, g, hg, hal⟩
    dsimp only at hp hlp hlm0 hg hal
    intro K12 hK12
    refine vwp_block ?_
    refine vwp_sq [1, 6, 7, 9, 10] fun K13 hK13 => vwp_region hT ?_
    simp
    refine hK13 _ ?_
    try clear hK13 K13
    refine vwp_seq_k fun K14 hK14 => ?_
    refine vwp_cut_s (fun _ : Unit => ⟨[(1, sB B), (6, .str (formS f)), (7, .bool (formA f)), (9, .sl 0 (2 * l.length) 2 0 l.length), (10, .int .i64 (p : Int)), (11, .int .i64 (l.length : Int)), (52, .bool (!moreB (sL (formS f)) (formA f) l.length (B.drop p)))], [.live (vcs l)]⟩) (fun _ => True) (fun K15 hK15 => ?_) ?_
    · have hrm : (l.length : Int).tmod ((formS f).size : Int) = ((l.length % (formS f).size : Nat) : Int) := rfl
      have e1 : ((l.length : Int).tmod ((formS f).size : Int) = 0) = (l.length % (formS f).size = 0) := propext (by rw [hrm]; omega)
      have e2 : (B.drop p = []) = ((p : Int) = (B.length : Int)) := propext (by rw [List.drop_eq_nil_iff]; omega)
      rcases Bool.eq_false_or_eq_true (formA f) with ha | ha
      · have hmo : (!moreB (sL (formS f)) true l.length (B.drop p)) = (decide ((l.length : Int).tmod ((formS f).size : Int) = 0) && decide ((p : Int) = (B.length : Int))) := by
          rw [Bool.eq_iff_iff]
          simp [moreB, hls, e1, e2, and_comm]
        refine vwp_live [1, 6, 7, 9, 10, 11] (vwp_region hT ?_)
        simp [ha]
        repeat refine ⟨by first | assumption | omega | (intros; omega), ?_⟩
        exact hK15 () _ (Gh.to_k [1, 6, 7, 9, 10, 11, 52] [0] (he := by simp [hmo, ha])) trivial
      · have hmo : (!moreB (sL (formS f)) false l.length (B.drop p)) = ((l.length : Int) == ((formS f).size : Int)) := by
          have := hlm0 ha
          rw [Bool.eq_iff_iff]
          simp [moreB, hls]
          omega
        refine vwp_live [1, 6, 7, 9, 10, 11] (vwp_region hT ?_)
        simp [ha]
        repeat refine ⟨by first | assumption | omega | (intros; omega), ?_⟩
        exact hK15 () _ (Gh.to_k [1, 6, 7, 9, 10, 11, 52] [0] (he := by simp [hmo, ha])) trivial
    · rintro _ _
      refine vwp_cond (by first | rfl | (simp; rfl)) (fun h3 => ?_) fun h3 => ?_
      · simp -failIfUnchanged at h3; all_goals
       have hmo1 : moreB (sL (formS f)) (formA f) l.length (B.drop p) = false := by simpa using h3
       have hend := readP_ok hF hB2 (hal.trans (allK_end hmo1 (by rw [List.length_drop]; omega)))
       refine vwp_exit ?_
       simp only [inBlk, thenQ, if_true]
       refine hK11 _ ?_
       try clear hK11 K11
       refine vwp_seq_k fun K16 hK16 => ?_
       refine vwp_sq [1, 9, 10] fun K17 hK17 => vwp_region hT ?_
       simp
       refine hK17 _ ?_
       try clear hK17 K17
       refine vwp_cond (by first | rfl | (simp; rfl)) (fun h4 => ?_) fun h4 => ?_
       · simp -failIfUnchanged at h4; all_goals
        have q := h4
        have hC : ¬ B.drop p = [] := by rw [List.drop_eq_nil_iff]; omega
        rw [if_neg hC] at hend
        have hrd := hend
        refine vwp_sq [] fun K18 hK18 => vwp_region hT ?_
        simp
        refine hK18 _ ?_
        try clear hK18 K18
        refine vwp_ret (hR _ _ ?_)
        exact ret_k [4, 5] [] ([]) (.tup [.nils, .int .i64 2]) (.inr ⟨2, rfl, rfl, hrd⟩)
       · simp -failIfUnchanged at h4; all_goals
        have q := h4
        have hC : B.drop p = [] := by rw [List.drop_eq_nil_iff]; omega
        rw [if_pos hC] at hend
        refine vwp_skip ?_
        refine hK16 _ ?_
        try clear hK16 K16
        refine vwp_seq_k fun K19 hK19 => ?_
        refine vwp_sq [9] fun K20 hK20 => vwp_region hT ?_
        simp
        refine hK20 _ ?_
        try clear hK20 K20
        refine vwp_cond (by first | rfl | (simp; rfl)) (fun h5 => ?_) fun h5 => ?_
        · simp -failIfUnchanged at h5; all_goals
         have q := h5
         have hrd : readP f B = ([], 4) := by rw [hend, if_pos (by omega)]
         refine vwp_sq [] fun K21 hK21 => vwp_region hT ?_
         simp
         refine hK21 _ ?_
         try clear hK21 K21
         refine vwp_ret (hR _ _ ?_)
         exact ret_k [4, 5] [] ([]) (.tup [.nils, .int .i64 4]) (.inr ⟨4, rfl, rfl, hrd⟩)
        · simp -failIfUnchanged at h5; all_goals
         have q := h5
         have hrd : readP f B = (l, 0) := by rw [hend, if_neg (by omega)]
         refine vwp_skip ?_
         refine hK19 _ ?_
         try clear hK19 K19
         refine vwp_sq [9] fun K22 hK22 => vwp_region hT ?_
         simp
         refine hK22 _ ?_
         try clear hK22 K22
         refine vwp_ret (hR _ _ ?_)
         exact ret_k [4, 5] [0] ([.live (vcs l)]) (.tup [.sl 0 (2 * l.length) 2 0 l.length, .int .i64 0]) (.inl ⟨l, rfl, rfl, hrd⟩)
      · simp -failIfUnchanged at h3; all_goals
       have hmo1 : moreB (sL (formS f)) (formA f) l.length (B.drop p) = true := by simpa using h3
       have hbd : byteL (B.drop p) := fun x hx => hb x (List.mem_of_mem_drop hx)
       refine vwp_skip ?_
       refine hK14 _ ?_
       try clear hK14 K14
       refine vwp_seq_k fun K23 hK23 => ?_
       rcases hN : takeN (B.drop p) with e | ⟨n, C⟩
       · have hta := takeAt_err hN
         have hvx : takeV (sL (formS f)) l.length (B.drop p) = .error e := takeV_err hN
         have hrd : readP f B = ([], e) := readP_E hF hB2 (hal.trans (allK_err hmo1 hvx (by rw [List.length_drop]; omega)))
         have hen : e ≠ 0 := by have := takeN_e hN; omega
         refine vwp_live [1, 6, 7, 9, 10, 11] (vwp_region hT ?_)
         simp [hta]
         refine vcall_k [] (take_ref B hb (by omega) p hp) ?_
         rintro r ob' ⟨rfl, rfl⟩
         simp [hta]
         refine hK23 _ ?_
         try clear hK23 K23
         refine vwp_seq_k fun K24 hK24 => ?_
         refine vwp_sq [1, 6, 7, 9, 11, 12, 13, 14] fun K25 hK25 => vwp_region hT ?_
         simp [hen]
         refine hK25 _ ?_
         try clear hK25 K25
         refine vwp_cond (by first | rfl | (simp; rfl)) (fun h6 => ?_) fun h6 => ?_
         · simp -failIfUnchanged at h6; all_goals
          refine vwp_sq [14] fun K26 hK26 => vwp_region hT ?_
          simp
          refine hK26 _ ?_
          try clear hK26 K26
          refine vwp_ret (hR _ _ ?_)
          exact ret_k [4, 5] [] ([]) (.tup [.nils, .int .i64 e]) (.inr ⟨e, rfl, rfl, hrd⟩)
         · simp -failIfUnchanged at h6; all_goals
          refine vwp_skip ?_
          refine hK24 _ ?_
          try clear hK24 K24
          refine vwp_seq_k fun K27 hK27 => ?_
          refine vwp_seq_k fun K28 hK28 => ?_
          exact absurd (by assumption) hen
       · obtain ⟨a, hta, rfl, hpa, hal2⟩ := takeAt_ok hN hb hp
         refine vwp_live [1, 6, 7, 9, 10, 11] (vwp_region hT ?_)
         simp [hta]
         refine vcall_k [] (take_ref B hb (by omega) p hp) ?_
         rintro r ob' ⟨rfl, rfl⟩
         simp [hta]
         refine hK23 _ ?_
         try clear hK23 K23
         refine vwp_seq_k fun K29 hK29 => ?_
         refine vwp_sq [1, 6, 7, 9, 11, 12, 13, 14] fun K30 hK30 => vwp_region hT ?_
         simp
         refine hK30 _ ?_
         try clear hK30 K30
         refine vwp_cond (by first | rfl | (simp; rfl)) (fun h7 => ?_) fun h7 => ?_
         · simp -failIfUnchanged at h7; all_goals
          refine vwp_seq_k fun K31 hK31 => ?_
          exfalso
          simp at *
         · simp -failIfUnchanged at h7; all_goals
          refine vwp_skip ?_
          refine hK29 _ ?_
          try clear hK29 K29
          refine vwp_seq_k fun K32 hK32 => ?_
          have hri : (l.length : Int).tmod ((formS f).size : Int) = ((l.length % (formS f).size : Nat) : Int) := rfl
          have hmlt := Nat.mod_lt l.length hs0
          obtain ⟨j, hj⟩ : ∃ j, j = l.length % (formS f).size := ⟨_, rfl⟩
          rw [← hj] at hri hmlt
          obtain ⟨c, hc⟩ := getI (l := sL (formS f)) (i := j) (by omega)
          have hg := sL_get hc
          have hcd : (sL (formS f)).getD (l.length % (sL (formS f)).length) 0 = c := by rw [hls, ← hj, List.getD_eq_getElem?_getD, hc]; rfl
          refine vwp_sq [1, 6, 7, 9, 11, 12, 13] fun K33 hK33 => vwp_region hT ?_
          simp [hri, hg]
          repeat refine ⟨by first | assumption | omega | (intros; omega), ?_⟩
          refine hK33 _ ?_
          try clear hK33 K33
          refine vwp_cond (by first | rfl | (simp; rfl)) (fun h8 => ?_) fun h8 => ?_
          · simp -failIfUnchanged at h8; all_goals
           have hc1 : c = 110 := by simpa using h8
           obtain ⟨x, hx⟩ : ∃ x : PV, x = ⟨n, ⟨#[]⟩⟩ := ⟨_, rfl⟩
           have hvx0 : takeV (sL (formS f)) l.length (B.drop p) = .ok (⟨n, ⟨#[]⟩⟩, B.drop a) := by rw [takeV, hcd, if_pos hc1, hN]
           have hvx : takeV (sL (formS f)) l.length (B.drop p) = .ok (x, B.drop a) := by rw [hvx0, hx]
           obtain ⟨g2, hg1, hg2⟩ := allK_step hmo1 hvx (by rw [List.length_drop]; omega)
           have hlm : formA f = false → (l ++ [x]).length ≤ (formS f).size := fun h => by
             rw [h] at hmo1
             simp [moreB, hls] at hmo1
             simp; omega
           have hcap : ¬ (l.length * 2 < 2 * l.length) := by omega
           have hz : zerosV [.int .i64 0, .str ⟨#[]⟩] 1 = [.int .i64 0, .str ⟨#[]⟩] := rfl
           refine vwp_sq [1, 6, 7, 9, 12, 13] fun K34 hK34 => vwp_region hT ?_
           simp [hcap, hz]
           repeat refine ⟨by first | assumption | omega | (intros; omega), ?_⟩
           refine hK34 _ ?_
           try clear hK34 K34
           refine vwp_sq [1, 6, 7, 9, 13] fun K35 hK35 => vwp_region hT ?_
           simp
           refine hK35 _ ?_
           try clear hK35 K35
           refine vwp_exit ?_
           simp only [inBlk, thenQ, if_true]
           exact hK12 (l ++ [x], a) _ (Gh.to_k [1, 6, 7, 9, 10] [0] (he := by simp [Nat.mul_add, Nat.mul_comm]) (hh := by simp [vcs_app, vcs_cons, hx])) (⟨by dsimp only; omega, by simp; omega, hlm, g2, by dsimp only; omega, hal.trans hg1⟩) (by dsimp only; omega)
          · simp -failIfUnchanged at h8; all_goals
           have hc1 : ¬ c = 110 := by simpa using h8
           have htt : takeT (B.drop p) = if n < 0 ∨ 1000 < n then .error 2 else if (B.drop a).length < n.toNat then .error 3 else .ok ((B.drop a).take n.toNat, (B.drop a).drop n.toNat) := by rw [takeT, hN]
           have hvt : takeV (sL (formS f)) l.length (B.drop p) = match takeT (B.drop p) with
               | .error e => .error e
               | .ok (x, C) => .ok (⟨0, strOfV (bts x)⟩, C) := by rw [takeV, hcd, if_neg hc1]; rfl
           refine vwp_skip ?_
           refine hK32 _ ?_
           try clear hK32 K32
           refine vwp_seq_k fun K36 hK36 => ?_
           refine vwp_sq [1, 6, 7, 9, 12, 13] fun K37 hK37 => vwp_region hT ?_
           simp
           refine hK37 _ ?_
           try clear hK37 K37
           refine vwp_cond (by first | rfl | (simp; rfl)) (fun h9 => ?_) fun h9 => ?_
           · simp -failIfUnchanged at h9; all_goals
            have q := h9
            rw [if_pos (by omega)] at htt
            rw [htt] at hvt
            have hrd : readP f B = ([], 2) := readP_E hF hB2 (hal.trans (allK_err hmo1 hvt (by rw [List.length_drop]; omega)))
            refine vwp_sq [] fun K38 hK38 => vwp_region hT ?_
            simp
            refine hK38 _ ?_
            try clear hK38 K38
            refine vwp_ret (hR _ _ ?_)
            exact ret_k [4, 5] [] ([]) (.tup [.nils, .int .i64 2]) (.inr ⟨2, rfl, rfl, hrd⟩)
           · simp -failIfUnchanged at h9; all_goals
            have q := h9
            obtain ⟨m, rfl⟩ := Int.eq_ofNat_of_zero_le (show 0 ≤ n by omega)
            rw [if_neg (by omega), Int.toNat_natCast, List.length_drop] at htt
            have w1 : IntKind.i64.wrap ((a : Int) + (m : Int)) = ((a + m : Nat) : Int) := (w64 (by omega) (by omega)).trans (by omega)
            refine vwp_skip ?_
            refine hK36 _ ?_
            try clear hK36 K36
            refine vwp_seq_k fun K39 hK39 => ?_
            refine vwp_sq [1, 6, 7, 9, 12, 13] fun K40 hK40 => vwp_region hT ?_
            simp [w1]
            refine hK40 _ ?_
            try clear hK40 K40
            refine vwp_cond (by first | rfl | (simp; rfl)) (fun h10 => ?_) fun h10 => ?_
            · simp -failIfUnchanged at h10; all_goals
             have q := h10
             rw [if_pos (by omega)] at htt
             rw [htt] at hvt
             have hrd : readP f B = ([], 3) := readP_E hF hB2 (hal.trans (allK_err hmo1 hvt (by rw [List.length_drop]; omega)))
             refine vwp_sq [] fun K41 hK41 => vwp_region hT ?_
             simp
             refine hK41 _ ?_
             try clear hK41 K41
             refine vwp_ret (hR _ _ ?_)
             exact ret_k [4, 5] [] ([]) (.tup [.nils, .int .i64 3]) (.inr ⟨3, rfl, rfl, hrd⟩)
            · simp -failIfUnchanged at h10; all_goals
             have q := h10
             rw [if_neg (by omega), List.drop_drop] at htt
             rw [htt] at hvt
             obtain ⟨C1, hC1⟩ : ∃ C1, C1 = (B.drop a).take m := ⟨_, rfl⟩
             rw [← hC1] at hvt
             have ht1 : List.take m (List.drop a (bts B)) = bts C1 := by rw [hC1]; simp only [List.map_take, List.map_drop]
             have hC1l : C1.length = m := by rw [hC1, List.length_take, List.length_drop]; omega
             obtain ⟨x, hx⟩ : ∃ x : PV, x = ⟨0, strOfV (bts C1)⟩ := ⟨_, rfl⟩
             have hvx0 : takeV (sL (formS f)) l.length (B.drop p) = .ok (⟨0, strOfV (bts C1)⟩, B.drop (a + m)) := hvt
             have hvx : takeV (sL (formS f)) l.length (B.drop p) = .ok (x, B.drop (a + m)) := by rw [hvx0, hx]
             obtain ⟨g2, hg1, hg2⟩ := allK_step hmo1 hvx (by rw [List.length_drop]; omega)
             have hlm : formA f = false → (l ++ [x]).length ≤ (formS f).size := fun h => by
               rw [h] at hmo1
               simp [moreB, hls] at hmo1
               simp; omega
             have hcap : ¬ (l.length * 2 < 2 * l.length) := by omega
             have hz : zerosV [.int .i64 0, .str ⟨#[]⟩] 1 = [.int .i64 0, .str ⟨#[]⟩] := rfl
             refine vwp_skip ?_
             refine hK39 _ ?_
             try clear hK39 K39
             refine vwp_sq [1, 6, 7, 9, 12, 13] fun K42 hK42 => vwp_region hT ?_
             simp [w1, hcap, hz, ht1]
             repeat refine ⟨by first | assumption | omega | (intros; omega), ?_⟩
             refine hK42 _ ?_
             try clear hK42 K42
             refine vwp_live [1, 6, 7, 9, 12, 13] (vwp_region hT ?_)
             simp [w1]
             exact hK12 (l ++ [x], a + m) _ (Gh.to_k [1, 6, 7, 9, 10] [0] (he := by simp [Nat.mul_add, Nat.mul_comm]) (hh := by simp [vcs_app, vcs_cons, hx])) (⟨by dsimp only; omega, by simp; omega, hlm, g2, by dsimp only; omega, hal.trans hg1⟩) (by dsimp only; omega)

theorem refr_spec (f : ByteArray) (hf : f.size < 1099511627776) (B : List Int) (hb : byteL B) (hBl : B.length ≤ 1099511627776) : VC P 16 [.str f, sB B] [] (fun r ob' => r = .tup [.sl 0 (2 * (readP f B).1.length) 2 0 (readP f B).1.length, .int .i64 (readP f B).2] ∧ ob' = [.live (vcs (readP f B).1)]) := by
  refine virtE 2 (refr_raw f hf B hb hBl) fun r ob' q => ?_
  rcases q with ⟨l, rfl, rfl, e⟩ | ⟨e, rfl, rfl, h⟩
  · exact .inl (by rw [e]; exact ⟨rfl, rfl⟩)
  · exact .inr (.inr ⟨_, rfl, by rw [h]; exact ⟨rfl, rfl⟩⟩)
end Go.Proofs.YtgmcflbbdpbkeaaDoor
