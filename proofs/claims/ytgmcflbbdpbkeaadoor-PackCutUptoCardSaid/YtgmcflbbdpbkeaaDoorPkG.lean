/- A number's bytes, by the document; values that may be. -/
import Derived.Test.YtgmcflbbdpbkeaaDoorPkF
namespace Go.Proofs.YtgmcflbbdpbkeaaDoor
open Go Go.VX Go.RowKit
set_option linter.unusedVariables false
set_option linter.unusedSimpArgs false
set_option maxHeartbeats 20000000
set_option maxRecDepth 100000
theorem number_ref (n : Int) (h1 : -4611686018427387904 ≤ n) (h2 : n ≤ 4611686018427387904) : VC P 23 [.int .i64 n] [] (fun r ob' => r = .sl 0 (numB n).length 1 0 (numB n).length ∧ ob' = [.live (bts (numB n))]) := by
  refine VC_of_vwp_k ent_23 Tryd.func23 rfl (by simp) fun R hR => ?_
  refine vwp_sq [0] fun K1 hK1 => vwp_region hT ?_
  simp
  refine hK1 _ ?_
  try clear hK1 K1
  obtain ⟨u, hu⟩ : ∃ u, u = zag n := ⟨_, rfl⟩
  have hul : u ≤ 9223372036854775808 := by rw [hu]; exact zag_lt h1 h2
  obtain ⟨d2, hd2⟩ : ∃ d2 : Nat, (d2 : Int) = IntKind.u64.wrap (IntKind.i64.wrap (2 * n)) := by
    rw [wrap_u64, IntKind.wrap_i64]
    exact ⟨((((2 * n + 9223372036854775808) % 18446744073709551616 - 9223372036854775808) % 18446744073709551616).toNat), by omega⟩
  refine vwp_sq [0] fun K2 hK2 => vwp_region hT ?_
  simp [← hd2]
  repeat refine ⟨by first | assumption | omega | (intros; omega), ?_⟩
  refine hK2 _ ?_
  try clear hK2 K2
  refine vwp_cut_s (fun _ : Unit => ⟨[(3, .int .u64 (u : Int))], []⟩) (fun _ => True) (fun K3 hK3 => ?_) ?_
  · refine vwp_seq_k fun K4 hK4 => ?_
    by_cases hn : n < 0
    · obtain ⟨m1, hm1⟩ : ∃ m1 : Nat, (m1 : Int) = -1 - n := ⟨(-1 - n).toNat, by omega⟩
      have v1 : IntKind.i64.wrap (-1 - n) = (m1 : Int) := (w64 (by omega) (by omega)).trans hm1.symm
      have v2 : IntKind.u64.wrap (m1 : Int) = (m1 : Int) := wu64 (by omega) (by omega)
      have v3 : IntKind.u64.wrap (2 * (m1 : Int)) = 2 * (m1 : Int) := wu64 (by omega) (by omega)
      have v4 : IntKind.u64.wrap (2 * (m1 : Int) + 1) = (u : Int) := (wu64 (by omega) (by omega)).trans (by rw [hu, zag, if_pos hn]; omega)
      refine vwp_live [0, 3] (vwp_region hT ?_)
      simp [hn]
      refine hK4 _ ?_
      try clear hK4 K4
      refine vwp_cond (by first | rfl | (simp; rfl)) (fun h1 => ?_) fun h1 => ?_
      · simp -failIfUnchanged at h1; all_goals
       refine vwp_sq [0] fun K5 hK5 => vwp_region hT ?_
       simp [v1, v2]
       repeat refine ⟨by first | assumption | omega | (intros; omega), ?_⟩
       refine hK5 _ ?_
       try clear hK5 K5
       refine vwp_live [3] (vwp_region hT ?_)
       simp [v3, v4]
       exact hK3 (()) _ (Gh.to_k [3] []) (trivial)
      · simp -failIfUnchanged at h1; all_goals
       refine vwp_skip ?_
       exact hK3 (()) _ (Gh.to_k [3] []) (trivial)
    · have v1 : (d2 : Int) = (u : Int) := by
        rw [hd2, wrap_u64, IntKind.wrap_i64, hu, zag, if_neg hn]; omega
      have v1n : d2 = u := by omega
      refine vwp_live [0, 3] (vwp_region hT ?_)
      simp [hn]
      refine hK4 _ ?_
      try clear hK4 K4
      refine vwp_cond (by first | rfl | (simp; rfl)) (fun h2 => ?_) fun h2 => ?_
      · simp -failIfUnchanged at h2; all_goals
       refine vwp_seq_k fun K6 hK6 => ?_
       simp at *
      · simp -failIfUnchanged at h2; all_goals
       subst v1n
       refine vwp_skip ?_
       exact hK3 (()) _ (Gh.to_k [3] []) (trivial)
  · rintro _ _
    refine vwp_sq [3] fun K7 hK7 => vwp_region hT ?_
    simp
    refine hK7 _ ?_
    try clear hK7 K7
    refine vwp_block ?_
    refine vwp_loop_s (fun z : List Int × Nat => ⟨[(3, .int .u64 (z.2 : Int)), (4, .sl 0 z.1.length 1 0 z.1.length)], [.live (bts z.1)]⟩) (fun z => z.2 ≤ u ∧ z.1 ++ varB z.2 = varB u ∧ z.1.length + (varB z.2).length ≤ 10) (fun z => z.2) (([], u)) (Gh.to_k [3, 4] [0] (hh := by simp)) (⟨Nat.le_refl _, rfl, by have := varB_10 (u := u) (by omega); simpa using this⟩) ?_
    rintro ⟨C, x⟩ ⟨hx, hC, hlen⟩
    dsimp only at hx hC hlen ⊢
    have hl1 : 0 < (varB x).length := by
      by_cases h : x < 128
      · rw [varB_lt h]; simp
      · rw [varB_ge h]; simp
    intro K8 hK8
    refine vwp_block ?_
    have v1 : (x : Int).tmod 128 = ((x % 128 : Nat) : Int) := rfl
    have v2 : IntKind.u8.wrap ((x % 128 : Nat) : Int) = ((x % 128 : Nat) : Int) := (wu8 (by omega)).trans (by omega)
    obtain ⟨lo, hlo⟩ : ∃ lo, lo = x % 128 := ⟨_, rfl⟩
    rw [← hlo] at v1 v2
    refine vwp_sq [3, 4] fun K9 hK9 => vwp_region hT ?_
    simp [v1, v2]
    repeat refine ⟨by first | assumption | omega | (intros; omega), ?_⟩
    refine hK9 _ ?_
    try clear hK9 K9
    obtain ⟨xd, hxd⟩ : ∃ xd, xd = x / 128 := ⟨_, rfl⟩
    have v3 : (x : Int).tdiv 128 = (xd : Int) := by rw [hxd]; rfl
    have v4 : IntKind.u64.wrap (xd : Int) = (xd : Int) := wu64 (by omega) (by omega)
    have htk : List.take C.length (bts C) = bts C := List.take_of_length_le (by simp)
    refine vwp_sq [3, 4, 5] fun K10 hK10 => vwp_region hT ?_
    simp [v3, v4]
    repeat refine ⟨by first | assumption | omega | (intros; omega), ?_⟩
    refine hK10 _ ?_
    try clear hK10 K10
    refine vwp_seq_k fun K11 hK11 => ?_
    refine vwp_sq [3, 4, 5] fun K12 hK12 => vwp_region hT ?_
    simp
    refine hK12 _ ?_
    try clear hK12 K12
    refine vwp_cond (by first | rfl | (simp; rfl)) (fun h3 => ?_) fun h3 => ?_
    · simp -failIfUnchanged at h3; all_goals
     have q := h3
     have hx1 : x < 128 := by omega
     have hlx : lo = x := by omega
     rw [varB_lt hx1] at hC
     refine vwp_sq [4, 5] fun K13 hK13 => vwp_region hT ?_
     simp [htk]
     repeat refine ⟨by first | assumption | omega | (intros; omega), ?_⟩
     refine hK13 _ ?_
     try clear hK13 K13
     refine vwp_ret (hR _ _ ?_)
     rw [numB, ← hu, ← hC, ← hlx]
     exact ret_k [2] [0] ([.live (bts (C ++ [(lo : Int)]))]) (.sl 0 (C ++ [(lo : Int)]).length 1 0 (C ++ [(lo : Int)]).length) (⟨rfl, rfl⟩) (hh := by simp) (hr := by simp)
    · simp -failIfUnchanged at h3; all_goals
     have q := h3
     have hx1 : ¬ x < 128 := by omega
     refine vwp_skip ?_
     refine hK11 _ ?_
     try clear hK11 K11
     have v5 : IntKind.u8.wrap ((lo : Int) + 128) = ((x % 128 + 128 : Nat) : Int) := (wu8 (by omega)).trans (by omega)
     refine vwp_live [3, 4, 5] (vwp_region hT ?_)
     simp [v5, htk]
     repeat refine ⟨by first | assumption | omega | (intros; omega), ?_⟩
     exact hK8 (C ++ [((x % 128 + 128 : Nat) : Int)], x / 128) _ (Gh.to_k [3, 4] [0] (he := by simp [hxd]) (hh := by simp)) (⟨by dsimp only; omega, by dsimp only; rw [← hC, varB_ge hx1, List.append_assoc]; rfl, by dsimp only; rw [varB_ge hx1] at hlen; simp only [List.length_cons, List.length_append, List.length_nil] at hlen ⊢; omega⟩) (by dsimp only; omega)

structure PV where
  n : Int
  t : ByteArray
abbrev PV.cells (x : PV) : List V := [.int .i64 x.n, .str x.t]
/-- May a value stand at a letter? -/
def mayB (x : PV) (c : Int) : Bool := if c = 110 then decide (x.t.size = 0) && numOK x.n else decide (x.n = 0) && decide (x.t.size ≤ 1000)
theorem fits_spec (x : PV) (c : Int) (hx : x.t.size < 1099511627776) : VC P 19 [.agg x.cells, .int .u8 c] [] (fun r ob' => r = .bool (mayB x c) ∧ ob' = []) := by
  refine VC_of_vwp_k ent_19 Tryd.func19 rfl (by simp) fun R hR => ?_
  refine vwp_sq [0, 1] fun K1 hK1 => vwp_region hT ?_
  simp
  refine hK1 _ ?_
  try clear hK1 K1
  refine vwp_seq_k fun K2 hK2 => ?_
  refine vwp_sq [1, 2] fun K3 hK3 => vwp_region hT ?_
  simp
  refine hK3 _ ?_
  try clear hK3 K3
  refine vwp_cond (by first | rfl | (simp; rfl)) (fun h1 => ?_) fun h1 => ?_
  · simp -failIfUnchanged at h1; all_goals
   have q := h1
   have hm1 : mayB x c = (decide (x.t.size = 0) && numOK x.n) := by rw [mayB, if_pos (by simpa using q)]
   refine vwp_seq_k fun K4 hK4 => ?_
   by_cases h0 : x.t.size = 0
   · by_cases h1 : -4611686018427387904 ≤ x.n
     · have e : mayB x c = decide (x.n ≤ 4611686018427387904) := by rw [hm1, numOK, decide_eq_true h0, decide_eq_true h1]; simp
       refine vwp_live [2] (vwp_region hT ?_)
       simp [h0, h1]
       refine hK4 _ ?_
       try clear hK4 K4
       refine vwp_ret (hR _ _ ?_)
       rw [e]
       exact ret_k [4] [] ([]) (.bool (decide (x.n ≤ 4611686018427387904))) (⟨rfl, rfl⟩)
     · have e : mayB x c = false := by rw [hm1, numOK, decide_eq_false h1]; simp
       refine vwp_live [2] (vwp_region hT ?_)
       simp [h0, h1]
       refine hK4 _ ?_
       try clear hK4 K4
       refine vwp_ret (hR _ _ ?_)
       rw [e]
       exact ret_k [4] [] ([]) (.bool false) (⟨rfl, rfl⟩)
   · have e : mayB x c = false := by rw [hm1, decide_eq_false h0]; simp
     refine vwp_live [2] (vwp_region hT ?_)
     simp [h0]
     refine hK4 _ ?_
     try clear hK4 K4
     refine vwp_ret (hR _ _ ?_)
     rw [e]
     exact ret_k [4] [] ([]) (.bool false) (⟨rfl, rfl⟩)
  · simp -failIfUnchanged at h1; all_goals
   have q := h1
   have hm1 : mayB x c = (decide (x.n = 0) && decide (x.t.size ≤ 1000)) := by rw [mayB, if_neg (by simpa using q)]
   refine vwp_skip ?_
   refine hK2 _ ?_
   try clear hK2 K2
   refine vwp_seq_k fun K5 hK5 => ?_
   by_cases h0 : x.n = 0
   · have e : mayB x c = decide ((x.t.size : Int) ≤ 1000) := by rw [hm1, decide_eq_true h0, Bool.true_and]; congr 1; exact propext ⟨fun h => by omega, fun h => by omega⟩
     refine vwp_live [2] (vwp_region hT ?_)
     simp [h0]
     refine hK5 _ ?_
     try clear hK5 K5
     refine vwp_ret (hR _ _ ?_)
     rw [e]
     exact ret_k [4] [] ([]) (.bool (decide ((x.t.size : Int) ≤ 1000))) (⟨rfl, rfl⟩)
   · have e : mayB x c = false := by rw [hm1, decide_eq_false h0]; simp
     refine vwp_live [2] (vwp_region hT ?_)
     simp [h0]
     refine hK5 _ ?_
     try clear hK5 K5
     refine vwp_ret (hR _ _ ?_)
     rw [e]
     exact ret_k [4] [] ([]) (.bool false) (⟨rfl, rfl⟩)
theorem may_ref (x : PV) (c : Int) (hx : x.t.size < 1099511627776) : VC P 22 [.agg x.cells, .int .u8 c] [] (fun r ob' => r = .bool (mayB x c) ∧ ob' = []) := by
  refine VC_of_vwp_k ent_22 Tryd.func22 rfl (by simp) fun R hR => ?_
  refine vwp_sq [0, 1] fun K1 hK1 => vwp_region hT ?_
  simp
  refine hK1 _ ?_
  try clear hK1 K1
  refine vwp_seq_k fun K2 hK2 => ?_
  refine vwp_sq [1, 2] fun K3 hK3 => vwp_region hT ?_
  simp
  refine hK3 _ ?_
  try clear hK3 K3
  refine vwp_cond (by first | rfl | (simp; rfl)) (fun h1 => ?_) fun h1 => ?_
  · simp -failIfUnchanged at h1; all_goals
   have q := h1
   have hm1 : mayB x c = (decide (x.t.size = 0) && numOK x.n) := by rw [mayB, if_pos (by simpa using q)]
   refine vwp_seq_k fun K4 hK4 => ?_
   by_cases h0 : x.t.size = 0
   · by_cases h1 : -4611686018427387904 ≤ x.n
     · have e : mayB x c = decide (x.n ≤ 4611686018427387904) := by rw [hm1, numOK, decide_eq_true h0, decide_eq_true h1]; simp
       refine vwp_live [2] (vwp_region hT ?_)
       simp [h0, h1]
       refine hK4 _ ?_
       try clear hK4 K4
       refine vwp_ret (hR _ _ ?_)
       rw [e]
       exact ret_k [4] [] ([]) (.bool (decide (x.n ≤ 4611686018427387904))) (⟨rfl, rfl⟩)
     · have e : mayB x c = false := by rw [hm1, numOK, decide_eq_false h1]; simp
       refine vwp_live [2] (vwp_region hT ?_)
       simp [h0, h1]
       refine hK4 _ ?_
       try clear hK4 K4
       refine vwp_ret (hR _ _ ?_)
       rw [e]
       exact ret_k [4] [] ([]) (.bool false) (⟨rfl, rfl⟩)
   · have e : mayB x c = false := by rw [hm1, decide_eq_false h0]; simp
     refine vwp_live [2] (vwp_region hT ?_)
     simp [h0]
     refine hK4 _ ?_
     try clear hK4 K4
     refine vwp_ret (hR _ _ ?_)
     rw [e]
     exact ret_k [4] [] ([]) (.bool false) (⟨rfl, rfl⟩)
  · simp -failIfUnchanged at h1; all_goals
   have q := h1
   have hm1 : mayB x c = (decide (x.n = 0) && decide (x.t.size ≤ 1000)) := by rw [mayB, if_neg (by simpa using q)]
   refine vwp_skip ?_
   refine hK2 _ ?_
   try clear hK2 K2
   refine vwp_seq_k fun K5 hK5 => ?_
   by_cases h0 : x.n = 0
   · have e : mayB x c = decide ((x.t.size : Int) ≤ 1000) := by rw [hm1, decide_eq_true h0, Bool.true_and]; congr 1; exact propext ⟨fun h => by omega, fun h => by omega⟩
     refine vwp_live [2] (vwp_region hT ?_)
     simp [h0]
     refine hK5 _ ?_
     try clear hK5 K5
     refine vwp_ret (hR _ _ ?_)
     rw [e]
     exact ret_k [4] [] ([]) (.bool (decide ((x.t.size : Int) ≤ 1000))) (⟨rfl, rfl⟩)
   · have e : mayB x c = false := by rw [hm1, decide_eq_false h0]; simp
     refine vwp_live [2] (vwp_region hT ?_)
     simp [h0]
     refine hK5 _ ?_
     try clear hK5 K5
     refine vwp_ret (hR _ _ ?_)
     rw [e]
     exact ret_k [4] [] ([]) (.bool false) (⟨rfl, rfl⟩)
theorem Number_spec (n : Int) : VC P 13 [.int .i64 n] [] (fun r ob' => r = .agg (PV.cells ⟨n, ⟨#[]⟩⟩) ∧ ob' = []) := by
  refine VC_of_vwp_c hT ent_13 Tryd.func13 rfl (by simp) fun R hR => ?_
  refine vwp_sq [0] fun K1 hK1 => vwp_region hT ?_
  simp
  refine hK1 _ ?_
  try clear hK1 K1
  refine vwp_sq [0, 2] fun K2 hK2 => vwp_region hT ?_
  simp
  repeat refine ⟨by first | assumption | omega | (intros; omega), ?_⟩
  refine hK2 _ ?_
  try clear hK2 K2
  refine vwp_ret (hR _ _ ?_)
  exact retc_only [] [] (p := True) (xs := [.agg [.int .i64 n, .str ⟨#[]⟩]]) (xs' := [.agg [.int .i64 n, .str ⟨#[]⟩]]) (by simp) trivial (by simp) (by simp) rfl (by simp) (by simp) rfl (by simp) ⟨rfl, rfl⟩
theorem Text_spec (t : ByteArray) : VC P 14 [.str t] [] (fun r ob' => r = .agg (PV.cells ⟨0, t⟩) ∧ ob' = []) := by
  refine VC_of_vwp_c hT ent_14 Tryd.func14 rfl (by simp) fun R hR => ?_
  refine vwp_sq [0] fun K1 hK1 => vwp_region hT ?_
  simp
  refine hK1 _ ?_
  try clear hK1 K1
  refine vwp_sq [0, 2] fun K2 hK2 => vwp_region hT ?_
  simp
  repeat refine ⟨by first | assumption | omega | (intros; omega), ?_⟩
  refine hK2 _ ?_
  try clear hK2 K2
  refine vwp_ret (hR _ _ ?_)
  exact retc_only [] [] (p := True) (xs := [.agg [.int .i64 0, .str t]]) (xs' := [.agg [.int .i64 0, .str t]]) (by simp) trivial (by simp) (by simp) rfl (by simp) (by simp) rfl (by simp) ⟨rfl, rfl⟩
end Go.Proofs.YtgmcflbbdpbkeaaDoor
