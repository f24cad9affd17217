/- The law PackCut. -/
import Derived.Test.YtgmcflbbdpbkeaaDoorPkV
import Derived.Test.YtgmcflbbdpbkeaaDoorVXc
namespace Go.Proofs.YtgmcflbbdpbkeaaDoor
open Go Go.VX Go.RowKit
set_option linter.unusedVariables false
set_option linter.unusedSimpArgs false
set_option maxHeartbeats 20000000
set_option maxRecDepth 100000

theorem vcs_take : ∀ (l : List PV) (k : Nat), List.take (k * 2) (vcs l) = vcs (l.take k)
  | [], k => by simp
  | x :: l, 0 => by simp
  | x :: l, k + 1 => by
    rw [show (k + 1) * 2 = k * 2 + 2 by omega, vcs_cons, List.take_succ_cons, List.take_succ_cons, vcs_take l k, List.take_succ_cons, vcs_cons]
theorem law_cut (f : ByteArray) (hf : f.size < 1099511627776) (l : List PV) (hl : l.length ≤ 1073741824) (ht : ∀ x ∈ l, x.t.size < 1099511627776) (a : Int) (x : Int) (hx : 0 ≤ x ∧ x < 256) : VC P 6 [.str f, sV l, .int .i64 a, .int .u8 x] [] (fun r ob' => r = .bool true ∧ ob' = []) := by
  refine VC_of_vwp_k ent_6 Tryd.func6 rfl (by simp) fun R hR => ?_
  refine vwp_sq [0, 1, 2, 3] fun K1 hK1 => vwp_region hT ?_
  simp
  refine hK1 _ ?_
  try clear hK1 K1
  refine vwp_seq_k fun K2 hK2 => ?_
  refine vwp_sq [0, 1, 2, 3] fun K3 hK3 => vwp_region hT ?_
  simp
  refine vcall_k [] (awake_spec) ?_
  rintro r ob' ⟨rfl, rfl⟩
  simp
  refine hK3 _ ?_
  try clear hK3 K3
  refine vwp_cond (by first | rfl | (simp; rfl)) (fun h1 => ?_) fun h1 => ?_
  · simp -failIfUnchanged at h1; all_goals
   refine vwp_seq_k fun K4 hK4 => ?_
   simp at *
  · simp -failIfUnchanged at h1; all_goals
   refine vwp_skip ?_
   refine hK2 _ ?_
   try clear hK2 K2
   have hwb := writeP_byte (f := f) (l := l)
   have hws := write_spec f hf l hl ht
   obtain ⟨W, hW⟩ : ∃ W, W = (writeP f l).1 := ⟨_, rfl⟩
   obtain ⟨e, he⟩ : ∃ e, e = (writeP f l).2 := ⟨_, rfl⟩
   have hwp : writeP f l = (W, e) := by rw [hW, he]
   rw [← hW] at hwb
   rw [← hW, ← he] at hws
   refine vwp_sq [0, 1, 2, 3] fun K5 hK5 => vwp_region hT ?_
   simp
   refine vcall_k [] (hws) ?_
   rintro r ob' ⟨rfl, rfl⟩
   simp
   refine hK5 _ ?_
   try clear hK5 K5
   refine vwp_seq_k fun K6 hK6 => ?_
   refine vwp_sq [0, 1, 2, 3, 9, 10] fun K7 hK7 => vwp_region hT ?_
   simp
   refine vcall_k [] (large_spec f (by omega) l (by omega) (fun x hx => Nat.le_of_lt (Nat.lt_trans (ht x hx) (by decide)))) ?_
   rintro r ob' ⟨c, rfl, rfl, hc⟩
   simp
   refine hK7 _ ?_
   try clear hK7 K7
   refine vwp_cond (by first | rfl | (simp; rfl)) (fun h2 => ?_) fun h2 => ?_
   · simp -failIfUnchanged at h2; all_goals
    refine vwp_sq [] fun K8 hK8 => vwp_region hT ?_
    simp
    refine hK8 _ ?_
    try clear hK8 K8
    refine vwp_ret (hR _ _ ?_)
    exact ret_k [8] [] ([]) (.bool true) (⟨rfl, rfl⟩)
   · simp -failIfUnchanged at h2; all_goals
    have q := h2
    
    have hcf : c = false := by revert q; cases c <;> simp
    subst hcf
    have hq : e = 0 ∧ 0 ≤ a ∧ a < W.length ∧ W.length < 20000 := by simp at q; omega
    obtain ⟨he0, ha0, ha1, hW2⟩ := hq
    obtain ⟨h300, hsum, h40⟩ := hc rfl
    rw [he0] at hwp
    obtain ⟨k, rfl⟩ := Int.eq_ofNat_of_zero_le ha0
    have hk : k < W.length := by omega
    obtain ⟨W1, hW1⟩ : ∃ W1, W1 = W.take k := ⟨_, rfl⟩
    have hW1l : W1.length = k := by rw [hW1, List.length_take]; omega
    have htk : List.take k (bts W) = bts W1 := by rw [hW1]; simp only [List.map_take]
    have hb1 : byteL W1 := fun y hy => hwb y (by rw [hW1] at hy; exact List.mem_of_mem_take hy)
    have hr1 := read_spec f hf W1 hb1 (by omega)
    have h2001 := readP_most (f := f) (B := W1)
    obtain ⟨m, hmm⟩ : ∃ m, m = (readP f W1).1 := ⟨_, rfl⟩
    obtain ⟨g, hg⟩ : ∃ g, g = (readP f W1).2 := ⟨_, rfl⟩
    have hrp : readP f W1 = (m, g) := by rw [hmm, hg]
    rw [← hmm, ← hg] at hr1
    rw [← hmm] at h2001
    have hW1s : W1.length = k := hW1l
    refine vwp_skip ?_
    refine hK6 _ ?_
    try clear hK6 K6
    refine vwp_gh (Gh.freeze 0 (by rfl) (by intro c hc; obtain ⟨z, _, rfl⟩ := List.mem_map.1 hc; rfl)) ?_
    refine vwp_sq [0, 1, 2, 3, 9] fun K9 hK9 => vwp_region hT ?_
    simp
    repeat refine ⟨by first | assumption | omega | (intros; omega), ?_⟩
    refine vcall_k [] (hr1) ?_ (ha := by simp [htk, hW1l])
    rintro r ob' ⟨rfl, rfl⟩
    simp
    repeat refine ⟨by first | assumption | omega | (intros; omega), ?_⟩
    refine hK9 _ ?_
    try clear hK9 K9
    refine vwp_cut_s (fun _ : Unit => ⟨[(0, .str f), (1, sV l), (3, .int .u8 x), (9, .sl 0 W.length 1 0 W.length)], [.frz (bts W)]⟩) (fun _ => True) (fun K10 hK10 => ?_) ?_
    · refine vwp_seq_k fun K11 hK11 => ?_
      by_cases hg0 : g = 0
      · subst hg0
        obtain ⟨hml, hmt, hA⟩ := cut_early hwp hwb hk (hW1 ▸ hrp)
        have hml2 : ¬ l.length ≤ m.length := by omega
        have htv : List.take (m.length * 2) (vcs m) = vcs m := List.take_of_length_le (by simp; omega)
        have htl : List.take (m.length * 2) (vcs l) = vcs m := by rw [vcs_take, hmt]
        have hf0 : f.size ≠ 0 := by
          intro e
          have := (formF_pos (writeP_ok hwp).1).1
          have := formS_size f
          omega
        obtain ⟨c9, hc9⟩ := getI (l := sL f) (i := f.size - 1) (by rw [sL_len]; omega)
        have hsl := suf_last hf0 hc9
        rw [hA] at hsl
        have hc43 : c9 = 43 := by simpa using hsl.symm
        subst hc43
        have hg9 := sL_get hc9
        have w9 : IntKind.i64.wrap ((f.size : Int) - 1) = ((f.size - 1 : Nat) : Int) := (w64 (by omega) (by omega)).trans (by omega)
        refine vwp_live [0, 1, 3, 9, 11, 12] (vwp_storm hT hm [.pure, .win 0 0, .pure, .pure, .win 0 0, .pure, .win 0 0, .win 0 0, .pure, .pure, .mv, .pure, .pure, .win 0 1, .win 0 1, .mv, .mv, .pure, .pure, .pure, .pure, .pure, .win 3 3, .win 3 3, .win 3 3, .win 3 3, .pure, .pure] [[], [0], [0, 1], [0, 1, 2], [0, 1, 2, 3], [0, 1, 2], [0, 1, 2, 5], [0, 1, 2, 3, 4, 5, 6], [0, 1, 2, 3, 4, 5, 6, 7], [0, 1, 2, 3, 4, 5, 6, 7, 8], [0, 1, 2, 3, 4, 5, 6, 7, 8, 9], [0, 1, 2, 3, 4, 5, 6, 7, 8], [0, 1, 2, 3, 4, 5, 6, 7, 8], [0, 1, 2, 3, 4, 5, 6, 7, 8, 12], [0, 1, 2, 3, 4, 5, 6, 7, 8, 11, 12, 13], [0, 1, 2, 3, 4, 5, 6, 7, 8, 9, 10, 11, 12, 13, 14], [0, 1, 2, 3, 4, 5, 6, 7, 8, 9, 10, 11, 12, 13, 14, 15], [0, 1, 2, 3, 4, 5, 6, 7, 8, 9, 10, 11, 12, 13, 14, 15, 16], [0, 1, 2, 3, 4, 5, 6, 7, 8, 9, 10, 11, 12, 13, 14, 15, 16, 17], [0, 1, 2, 3, 4, 5, 6, 7, 8, 9, 10, 11, 12, 13, 14, 15, 16, 17, 18], [0, 1, 2, 3, 4, 5, 6, 7, 8, 9, 10, 11, 12, 13, 14, 15, 16, 17, 18, 19], [0, 1, 2, 3, 4, 5, 6, 7, 8, 9, 10, 11, 12, 13, 14, 15, 16, 17, 18, 19], [0, 1, 2, 3, 4, 5, 6, 7, 8, 9, 10, 11, 12, 13, 14, 15, 16, 17, 18, 19, 21], [0, 1, 2, 3, 4, 5, 6, 7, 8, 9, 10, 11, 12, 13, 14, 15, 16, 17, 18, 19, 21, 22], [0, 1, 2, 3, 4, 5, 6, 7, 8, 9, 10, 11, 12, 13, 14, 15, 16, 17, 18, 19, 20, 21, 22, 23], [0, 1, 2, 3, 4, 5, 6, 7, 8, 9, 10, 11, 12, 13, 14, 15, 16, 17, 18, 19, 20, 21, 22, 23, 24], [0, 1, 2, 3, 4, 5, 6, 7, 8, 9, 10, 11, 12, 13, 14, 15, 16, 17, 18, 19, 20, 21, 22, 23, 24, 25], [0, 1, 2, 3, 4, 5, 6, 7, 8, 9, 10, 11, 12, 13, 14, 15, 16, 17, 18, 19, 20, 21, 22, 23, 24, 25, 26]] (by kernel_rfl) ?_)
        simp [w9, hg9, hml, hml2, htl]
        repeat refine ⟨by first | assumption | omega | (intros; omega), ?_⟩
        refine ⟨.sl 2 (2 * m.length) 2 0 m.length, [.frz (bts W), .frz (vcs m), .live (vcs m)], fun sl => ?_, ?_⟩
        · refine vcall_freeze 1 (by rfl) (by intro c hc; rcases vcs_mem hc with ⟨n, rfl⟩ | ⟨n, rfl⟩ <;> rfl) ?_
          refine vcall_k [] (own_spec m (by omega)) ?_ (ha := by simp [htv])
          rintro r ob' ⟨rfl, rfl⟩
          simp
        simp [w9, hg9, hml, hml2, htl]
        repeat refine ⟨by first | assumption | omega | (intros; omega), ?_⟩
        refine ⟨.sl 3 (2 * m.length) 2 0 m.length, [.frz (bts W), .frz (vcs m), .live (vcs m), .live (vcs m)], fun sl => ?_, ?_⟩
        · refine vcall_k [] (own_spec m (by omega)) ?_
          rintro r ob' ⟨rfl, rfl⟩
          simp
        simp [w9, hg9, hml, hml2, htl]
        repeat refine ⟨by first | assumption | omega | (intros; omega), ?_⟩
        refine ⟨.bool true, [.frz (bts W), .frz (vcs m), .frz (vcs m), .frz (vcs m)], fun sl => ?_, ?_⟩
        · refine vcall_freeze 2 (by rfl) (by intro c hc; rcases vcs_mem hc with ⟨n, rfl⟩ | ⟨n, rfl⟩ <;> rfl) ?_
          refine vcall_freeze 3 (by rfl) (by intro c hc; rcases vcs_mem hc with ⟨n, rfl⟩ | ⟨n, rfl⟩ <;> rfl) ?_
          refine vcall_k [] (sameV_spec m m (by omega) (by omega)) ?_ (ha := by simp [htv])
          rintro r ob' ⟨c2, rfl, hc2, rfl⟩
          obtain rfl : c2 = true := hc2.2 rfl
          simp
        simp [w9, hg9, hml, hml2, htl]
        repeat refine ⟨by first | assumption | omega | (intros; omega), ?_⟩
        refine hK11 _ ?_
        try clear hK11 K11
        refine vwp_cond (by first | rfl | (simp; rfl)) (fun h3 => ?_) fun h3 => ?_
        · simp -failIfUnchanged at h3; all_goals
         refine vwp_sq [] fun K12 hK12 => vwp_region hT ?_
         simp
         refine hK12 _ ?_
         try clear hK12 K12
         refine vwp_ret (hR _ _ ?_)
         exact ret_k [8] [] ([]) (.bool true) (⟨rfl, rfl⟩)
        · simp -failIfUnchanged at h3; all_goals
         refine vwp_skip ?_
         exact hK10 () _ (Gh.to_k [0, 1, 3, 9] [0]) trivial
      · refine vwp_live [0, 1, 3, 9, 11, 12] (vwp_storm hT hm [.pure, .win 0 0, .pure, .off, .off, .off, .off, .off, .off, .off, .off, .off, .off, .off, .off, .off, .off, .off, .off, .off, .off, .off, .off, .off, .off, .off, .off, .pure] [[], [0], [0, 1], [0, 1, 2], [0, 1, 2, 3], [0, 1, 2], [0, 1, 2, 5], [0, 1, 2, 3, 4, 5, 6], [0, 1, 2, 3, 4, 5, 6, 7], [0, 1, 2, 3, 4, 5, 6, 7, 8], [0, 1, 2, 3, 4, 5, 6, 7, 8, 9], [0, 1, 2, 3, 4, 5, 6, 7, 8], [0, 1, 2, 3, 4, 5, 6, 7, 8], [0, 1, 2, 3, 4, 5, 6, 7, 8, 12], [0, 1, 2, 3, 4, 5, 6, 7, 8, 11, 12, 13], [0, 1, 2, 3, 4, 5, 6, 7, 8, 9, 10, 11, 12, 13, 14], [0, 1, 2, 3, 4, 5, 6, 7, 8, 9, 10, 11, 12, 13, 14, 15], [0, 1, 2, 3, 4, 5, 6, 7, 8, 9, 10, 11, 12, 13, 14, 15, 16], [0, 1, 2, 3, 4, 5, 6, 7, 8, 9, 10, 11, 12, 13, 14, 15, 16, 17], [0, 1, 2, 3, 4, 5, 6, 7, 8, 9, 10, 11, 12, 13, 14, 15, 16, 17, 18], [0, 1, 2, 3, 4, 5, 6, 7, 8, 9, 10, 11, 12, 13, 14, 15, 16, 17, 18, 19], [0, 1, 2, 3, 4, 5, 6, 7, 8, 9, 10, 11, 12, 13, 14, 15, 16, 17, 18, 19], [0, 1, 2, 3, 4, 5, 6, 7, 8, 9, 10, 11, 12, 13, 14, 15, 16, 17, 18, 19, 21], [0, 1, 2, 3, 4, 5, 6, 7, 8, 9, 10, 11, 12, 13, 14, 15, 16, 17, 18, 19, 21, 22], [0, 1, 2, 3, 4, 5, 6, 7, 8, 9, 10, 11, 12, 13, 14, 15, 16, 17, 18, 19, 20, 21, 22, 23], [0, 1, 2, 3, 4, 5, 6, 7, 8, 9, 10, 11, 12, 13, 14, 15, 16, 17, 18, 19, 20, 21, 22, 23, 24], [0, 1, 2, 3, 4, 5, 6, 7, 8, 9, 10, 11, 12, 13, 14, 15, 16, 17, 18, 19, 20, 21, 22, 23, 24, 25], [0, 1, 2, 3, 4, 5, 6, 7, 8, 9, 10, 11, 12, 13, 14, 15, 16, 17, 18, 19, 20, 21, 22, 23, 24, 25, 26]] (by kernel_rfl) ?_)
        simp [hg0]
        repeat refine ⟨by first | assumption | omega | (intros; omega), ?_⟩
        refine hK11 _ ?_
        try clear hK11 K11
        refine vwp_cond (by first | rfl | (simp; rfl)) (fun h4 => ?_) fun h4 => ?_
        · simp -failIfUnchanged at h4; all_goals
         refine vwp_sq [] fun K13 hK13 => vwp_region hT ?_
         simp
         refine hK13 _ ?_
         try clear hK13 K13
         refine vwp_ret (hR _ _ ?_)
         exact ret_k [8] [] ([]) (.bool true) (⟨rfl, rfl⟩)
        · simp -failIfUnchanged at h4; all_goals
         refine vwp_skip ?_
         exact hK10 () _ (Gh.to_k [0, 1, 3, 9] [0]) trivial
    · rintro _ _
      have hbx : byteL (W ++ [x]) := fun y hy => by
        rcases List.mem_append.1 hy with h | h
        · exact hwb y h
        · rw [List.mem_singleton.1 h]; exact hx
      have hr2 := read_spec f hf (W ++ [x]) hbx (by simp; omega)
      have h2002 := readP_most (f := f) (B := W ++ [x])
      obtain ⟨n, hn⟩ : ∃ n, n = (readP f (W ++ [x])).1 := ⟨_, rfl⟩
      obtain ⟨g2, hg2⟩ : ∃ g2, g2 = (readP f (W ++ [x])).2 := ⟨_, rfl⟩
      have hrp2 : readP f (W ++ [x]) = (n, g2) := by rw [hn, hg2]
      rw [← hn, ← hg2] at hr2
      rw [← hn] at h2002
      have htx : List.take (W.length + 1) (bts W ++ [V.int .u8 x]) = bts W ++ [V.int .u8 x] := List.take_of_length_le (by simp)
      have hz0 : zerosV [.int .u8 0] 0 = [] := rfl
      have htW : List.take W.length (bts W) = bts W := take_bts _
      refine vwp_sq [0, 1, 3, 9] fun K14 hK14 => vwp_region hT ?_
      simp [htW, hz0]
      repeat refine ⟨by first | assumption | omega | (intros; omega), ?_⟩
      refine vcall_freeze 1 (by rfl) (by intro c hc; simp at hc; rcases hc with ⟨z, _, rfl⟩ | rfl <;> rfl) ?_
      refine vcall_k [] (hr2) ?_ (ha := by simp [htx])
      rintro r ob' ⟨rfl, rfl⟩
      simp [htW, hz0]
      repeat refine ⟨by first | assumption | omega | (intros; omega), ?_⟩
      refine hK14 _ ?_
      try clear hK14 K14
      refine vwp_seq_k fun K15 hK15 => ?_
      by_cases hg20 : g2 = 0
      · subst hg20
        obtain ⟨hnl, hnt, hA⟩ := cut_more hwp hbx hrp2
        have htvl : List.take (l.length * 2) (vcs l) = vcs l := List.take_of_length_le (by simp; omega)
        have htn : List.take (l.length * 2) (vcs n) = vcs l := by rw [vcs_take, hnt]
        have hf0 : f.size ≠ 0 := by
          intro e
          have := (formF_pos (writeP_ok hwp).1).1
          have := formS_size f
          omega
        obtain ⟨c9, hc9⟩ := getI (l := sL f) (i := f.size - 1) (by rw [sL_len]; omega)
        have hsl := suf_last hf0 hc9
        rw [hA] at hsl
        have hc43 : c9 = 43 := by simpa using hsl.symm
        subst hc43
        have hg9 := sL_get hc9
        have w9 : IntKind.i64.wrap ((f.size : Int) - 1) = ((f.size - 1 : Nat) : Int) := (w64 (by omega) (by omega)).trans (by omega)
        refine vwp_live [0, 1, 13, 14] (vwp_region hT ?_)
        simp [w9, hg9, hnl]
        repeat refine ⟨by first | assumption | omega | (intros; omega), ?_⟩
        refine vcall_freeze 3 (by rfl) (by intro c hc; rcases vcs_mem hc with ⟨n, rfl⟩ | ⟨n, rfl⟩ <;> rfl) ?_
        refine vcall_k [] (own_spec l (by omega)) ?_ (ha := by simp [htn])
        rintro r ob' ⟨rfl, rfl⟩
        simp [w9, hg9, hnl]
        repeat refine ⟨by first | assumption | omega | (intros; omega), ?_⟩
        refine vcall_k [] (own_spec l (by omega)) ?_
        rintro r ob' ⟨rfl, rfl⟩
        simp [w9, hg9, hnl]
        repeat refine ⟨by first | assumption | omega | (intros; omega), ?_⟩
        refine vcall_freeze 4 (by rfl) (by intro c hc; rcases vcs_mem hc with ⟨n, rfl⟩ | ⟨n, rfl⟩ <;> rfl) ?_
        refine vcall_freeze 5 (by rfl) (by intro c hc; rcases vcs_mem hc with ⟨n, rfl⟩ | ⟨n, rfl⟩ <;> rfl) ?_
        refine vcall_k [] (sameV_spec l l (by omega) (by omega)) ?_ (ha := by simp [htvl])
        rintro r ob' ⟨c2, rfl, hc2, rfl⟩
        obtain rfl : c2 = true := hc2.2 rfl
        simp [w9, hg9, hnl]
        repeat refine ⟨by first | assumption | omega | (intros; omega), ?_⟩
        refine hK15 _ ?_
        try clear hK15 K15
        refine vwp_ret (hR _ _ ?_)
        exact ret_k [8] [] ([]) (.bool true) (⟨rfl, rfl⟩)
      · have hg21 : (g2 != 0) = true := by simpa using hg20
        refine vwp_live [0, 1, 13, 14] (vwp_regionG hT ?_)
        simp [hg20, hg21]
        repeat refine ⟨by first | assumption | omega | (intros; omega), ?_⟩
        refine hK15 _ ?_
        try clear hK15 K15
        refine vwp_ret (hR _ _ ?_)
        exact ret_k [8] [] ([]) (.bool true) (⟨rfl, rfl⟩)
end Go.Proofs.YtgmcflbbdpbkeaaDoor
