/- The document takes a number. -/
import Derived.Test.YtgmcflbbdpbkeaaDoorPkQ
namespace Go.Proofs.YtgmcflbbdpbkeaaDoor
open Go Go.VX Go.RowKit
set_option linter.unusedVariables false
set_option linter.unusedSimpArgs false
set_option maxHeartbeats 20000000
set_option maxRecDepth 100000

/-- What the document's take answers. -/
def takeAt (B : List Int) (p : Nat) : V := match takeN (B.drop p) with
  | .ok (n, C) => .tup [.int .i64 n, .int .i64 ((B.length - C.length : Nat) : Int), .int .i64 0]
  | .error e => .tup [.int .i64 0, .int .i64 0, .int .i64 e]
theorem takeAt_err {B : List Int} {p : Nat} {e : Int} (h : takeN (B.drop p) = .error e) : takeAt B p = .tup [.int .i64 0, .int .i64 0, .int .i64 e] := by rw [takeAt, h]
theorem drop_cons {B : List Int} {i : Nat} {c : Int} (h : B[i]? = some c) : B.drop i = c :: B.drop (i + 1) := by
  obtain ⟨h1, h2⟩ := List.getElem?_eq_some_iff.1 h
  rw [List.drop_eq_getElem_cons h1, h2]
theorem take_ref (B : List Int) (hb : byteL B) (hB : B.length ≤ 1099511627776) (p : Nat) (hp : p ≤ B.length) : VC P 27 [sB B, .int .i64 (p : Int)] [] (fun r ob' => r = takeAt B p ∧ ob' = []) := by
  refine VC_of_vwp_k ent_27 Tryd.func27 rfl (by simp) fun R hR => ?_
  refine vwp_sq [0, 1] fun K1 hK1 => vwp_region hT ?_
  simp
  refine hK1 _ ?_
  try clear hK1 K1
  refine vwp_sq [0, 1] fun K2 hK2 => vwp_region hT ?_
  simp
  refine hK2 _ ?_
  try clear hK2 K2
  refine vwp_sq [0, 1, 7] fun K3 hK3 => vwp_region hT ?_
  simp
  refine hK3 _ ?_
  try clear hK3 K3
  refine vwp_cut_s (fun z : Nat × Nat => ⟨[(1, .int .i64 (z.1 : Int)), (7, .int .u64 (z.2 : Int))], []⟩) (fun z => p < z.1 ∧ z.1 ≤ B.length ∧ z.2 < 18446744073709551616 ∧ takeK 10 0 0 (B.drop p) = .ok (z.2, B.drop z.1)) (fun K4 hK4 => ?_) ?_
  · refine vwp_sq [0, 1, 7, 8] fun K5 hK5 => vwp_region hT ?_
    simp
    refine hK5 _ ?_
    try clear hK5 K5
    refine vwp_block ?_
    refine vwp_loop_s (fun z : Nat × Nat × Nat => ⟨[(0, sB B), (1, .int .i64 (p : Int)), (7, .int .u64 (z.2.1 : Int)), (8, .int .u64 (z.2.2 : Int)), (9, .int .i64 (z.1 : Int))], []⟩) (fun z => z.1 ≤ 9 ∧ z.2.1 < z.2.2 ∧ z.2.2 = 128 ^ z.1 ∧ takeK (10 - z.1) z.1 z.2.1 (B.drop (p + z.1)) = takeK 10 0 0 (B.drop p)) (fun z => 10 - z.1) ((0, 0, 1)) (Gh.to_k [0, 1, 7, 8, 9] []) (⟨by omega, by simp, by simp, rfl⟩) ?_
    rintro ⟨k, u, P⟩ ⟨hk, hu, hP, ht⟩
    dsimp only at hk hu hP ht
    have hk11 : (k : Int) < 11 := by omega
    have w1 : IntKind.i64.wrap ((p : Int) + (k : Int)) = ((p + k : Nat) : Int) := (w64 (by omega) (by omega)).trans (by omega)
    obtain ⟨g, hg⟩ : ∃ g, 10 - k = g + 1 := ⟨9 - k, by omega⟩
    intro K6 hK6
    refine vwp_seq_k fun K7 hK7 => ?_
    refine vwp_sq [0, 1, 7, 8, 9] fun K8 hK8 => vwp_region hT ?_
    simp [hk11]
    refine hK8 _ ?_
    try clear hK8 K8
    refine vwp_cond (by first | rfl | (simp; rfl)) (fun h1 => ?_) fun h1 => ?_
    · simp -failIfUnchanged at h1; all_goals
     refine vwp_skip ?_
     refine hK7 _ ?_
     try clear hK7 K7
     refine vwp_seq_k fun K9 hK9 => ?_
     refine vwp_block ?_
     refine vwp_seq_k fun K10 hK10 => ?_
     refine vwp_sq [0, 1, 7, 8, 9] fun K11 hK11 => vwp_region hT ?_
     simp [w1]
     refine hK11 _ ?_
     try clear hK11 K11
     refine vwp_cond (by first | rfl | (simp; rfl)) (fun h2 => ?_) fun h2 => ?_
     · simp -failIfUnchanged at h2; all_goals
      have q := h2
      have hd : B.drop (p + k) = [] := List.drop_eq_nil_iff.2 (by omega)
      rw [hd, hg, takeK] at ht
      have hN : takeN (B.drop p) = .error 3 := by rw [takeN, ← ht]
      refine vwp_sq [] fun K12 hK12 => vwp_region hT ?_
      simp
      refine hK12 _ ?_
      try clear hK12 K12
      refine vwp_ret (hR _ _ ?_)
      exact ret_k [4, 5, 6] [] ([]) (.tup [.int .i64 0, .int .i64 0, .int .i64 3]) (⟨(takeAt_err hN).symm, rfl⟩)
     · simp -failIfUnchanged at h2; all_goals
      have q := h2
      obtain ⟨c, hc⟩ := getI (l := B) (i := p + k) (by omega)
      have hcb := hb c (List.mem_of_getElem? hc)
      obtain ⟨y, rfl⟩ := Int.eq_ofNat_of_zero_le hcb.1
      have hy : y < 256 := by omega
      rw [drop_cons hc, hg, takeK] at ht
      simp only [Int.toNat_natCast] at ht
      refine vwp_skip ?_
      refine hK10 _ ?_
      try clear hK10 K10
      refine vwp_sq [0, 1, 7, 8, 9] fun K13 hK13 => vwp_region hT ?_
      simp [w1, hc]
      repeat refine ⟨by first | assumption | omega | (intros; omega), ?_⟩
      refine hK13 _ ?_
      try clear hK13 K13
      refine vwp_seq_k fun K14 hK14 => ?_
      refine vwp_sq [0, 1, 7, 8, 9, 10] fun K15 hK15 => vwp_region hT ?_
      simp
      refine hK15 _ ?_
      try clear hK15 K15
      refine vwp_cond (by first | rfl | (simp; rfl)) (fun h3 => ?_) fun h3 => ?_
      · simp -failIfUnchanged at h3; all_goals
       have q := h3
       rw [if_pos (by omega)] at ht
       have hN : takeN (B.drop p) = .error 2 := by rw [takeN, ← ht]
       refine vwp_sq [] fun K16 hK16 => vwp_region hT ?_
       simp
       refine hK16 _ ?_
       try clear hK16 K16
       refine vwp_ret (hR _ _ ?_)
       exact ret_k [4, 5, 6] [] ([]) (.tup [.int .i64 0, .int .i64 0, .int .i64 2]) (⟨(takeAt_err hN).symm, rfl⟩)
      · simp -failIfUnchanged at h3; all_goals
       have q := h3
       rw [if_neg (by omega)] at ht
       have hy9 : k = 9 → y ≤ 1 := by omega
       refine vwp_skip ?_
       refine hK14 _ ?_
       try clear hK14 K14
       have hP9 : P ≤ 9223372036854775808 := by
         have : 128 ^ k ≤ 128 ^ 9 := Nat.pow_le_pow_right (by omega) hk
         rw [hP]; exact this
       have hP8 : k ≠ 9 → P * 128 ≤ 9223372036854775808 := fun h => by
         have : 128 ^ (k + 1) ≤ 128 ^ 9 := Nat.pow_le_pow_right (by omega) (by omega)
         rw [hP, ← Nat.pow_succ]; exact this
       obtain ⟨m, hm3⟩ : ∃ m, m = y % 128 := ⟨_, rfl⟩
       obtain ⟨mp, hmp⟩ : ∃ mp, mp = m * P := ⟨_, rfl⟩
       have hmpl : mp ≤ 9223372036854775808 ∧ mp + P ≤ P * 128 := by
         have h127 : mp ≤ 127 * P := by rw [hmp]; exact Nat.mul_le_mul_right _ (by omega)
         by_cases h9 : k = 9
         · have := hy9 h9
           have h1 : mp ≤ 1 * P := by rw [hmp]; exact Nat.mul_le_mul_right _ (by omega)
           omega
         · have := hP8 h9
           omega
       rw [← hP, ← hm3, ← hmp] at ht
       obtain ⟨u2, hu2⟩ : ∃ u2, u2 = u + mp := ⟨_, rfl⟩
       rw [← hu2] at ht
       have v1 : (y : Int).tmod 128 = (m : Int) := by rw [hm3]; rfl
       have v2 : IntKind.u64.wrap (m : Int) = (m : Int) := wu64 (by omega) (by omega)
       have v3 : IntKind.u64.wrap ((m : Int) * (P : Int)) = (mp : Int) := by
         have e : ((m : Int) * (P : Int)) = (mp : Int) := by rw [hmp]; simp
         rw [e]; exact wu64 (by omega) (by omega)
       have v4 : IntKind.u64.wrap ((u : Int) + (mp : Int)) = (u2 : Int) := (wu64 (by omega) (by omega)).trans (by omega)
       obtain ⟨Q, hQ⟩ : ∃ Q, Q = IntKind.u64.wrap ((P : Int) * 128) := ⟨_, rfl⟩
       have hQ8 : k ≠ 9 → Q = (P : Int) * 128 := fun h => by
         have := hP8 h
         rw [hQ]; exact wu64 (by omega) (by omega)
       refine vwp_sq [0, 1, 7, 8, 9, 10] fun K17 hK17 => vwp_region hT ?_
       simp [v1, v2, v3, v4]
       repeat refine ⟨by first | assumption | omega | (intros; omega), ?_⟩
       refine hK17 _ ?_
       try clear hK17 K17
       refine vwp_sq [0, 1, 7, 8, 9, 10] fun K18 hK18 => vwp_region hT ?_
       simp [← hQ]
       refine hK18 _ ?_
       try clear hK18 K18
       refine vwp_sq [0, 1, 7, 8, 9, 10] fun K19 hK19 => vwp_region hT ?_
       simp
       refine hK19 _ ?_
       try clear hK19 K19
       refine vwp_cond (by first | rfl | (simp; rfl)) (fun h4 => ?_) fun h4 => ?_
       · simp -failIfUnchanged at h4; all_goals
        have q := h4
        rw [if_pos (by omega)] at ht
        have w2 : IntKind.i64.wrap ((p : Int) + (k : Int) + 1) = (p : Int) + (k : Int) + 1 := w64 (by omega) (by omega)
        refine vwp_sq [1, 7, 9] fun K20 hK20 => vwp_region hT ?_
        simp [w1, w2]
        refine hK20 _ ?_
        try clear hK20 K20
        refine vwp_exit ?_
        simp only [inBlk, thenQ, if_true]
        exact hK4 (p + k + 1, u2) _ (Gh.to_k [1, 7] []) ⟨by dsimp only; omega, by dsimp only; omega, by dsimp only; omega, ht.symm⟩
       · simp -failIfUnchanged at h4; all_goals
        have q := h4
        rw [if_neg (by omega)] at ht
        have hk9 : k ≠ 9 := by omega
        have hP8b := hP8 hk9
        refine vwp_skip ?_
        refine hK9 _ ?_
        try clear hK9 K9
        have w3 : IntKind.i64.wrap ((k : Int) + 1) = (k : Int) + 1 := w64 (by omega) (by omega)
        refine vwp_live [0, 1, 7, 8, 9] (vwp_region hT ?_)
        simp [w3]
        exact hK6 ((k + 1, u2, P * 128)) _ (Gh.to_k [0, 1, 7, 8, 9] [] (he := by simp [hQ8 hk9])) (⟨by dsimp only; omega, by dsimp only; omega, by dsimp only; rw [hP, Nat.pow_succ], by dsimp only; rw [show 10 - (k + 1) = g by omega, show p + (k + 1) = p + k + 1 by omega]; exact ht⟩) (by dsimp only; omega)
    · simp -failIfUnchanged at h1; all_goals
     refine vwp_exit ?_
     simp only [inBlk, thenQ, if_true]
     exact hK4 () _ (Gh.to_k [1, 7] []) ()
  · rintro ⟨a, u⟩ ⟨ha1, ha2, hu, ht⟩
    dsimp only at ha1 ha2 hu ht ⊢
    have htake : takeN (B.drop p) = if numOK (zig u) = true then .ok (zig u, B.drop a) else .error 2 := by rw [takeN, ht]
    have v1 : (u : Int).tdiv 2 = ((u / 2 : Nat) : Int) := rfl
    have v2 : IntKind.u64.wrap ((u / 2 : Nat) : Int) = ((u / 2 : Nat) : Int) := wu64 (by omega) (by omega)
    have v3 : IntKind.i64.wrap ((u / 2 : Nat) : Int) = ((u / 2 : Nat) : Int) := w64 (by omega) (by omega)
    obtain ⟨h, hh⟩ : ∃ h, h = u / 2 := ⟨_, rfl⟩
    rw [← hh] at v1 v2 v3
    refine vwp_sq [1, 7] fun K21 hK21 => vwp_region hT ?_
    simp [v1, v2, v3]
    repeat refine ⟨by first | assumption | omega | (intros; omega), ?_⟩
    refine hK21 _ ?_
    try clear hK21 K21
    refine vwp_cut_s (fun _ : Unit => ⟨[(1, .int .i64 (a : Int)), (11, .int .i64 (zig u))], []⟩) (fun _ => True) (fun K22 hK22 => ?_) ?_
    · have v4 : (u : Int).tmod 2 = ((u % 2 : Nat) : Int) := rfl
      obtain ⟨b, hbb⟩ : ∃ b, b = u % 2 := ⟨_, rfl⟩
      rw [← hbb] at v4
      refine vwp_sq [1, 7, 11] fun K23 hK23 => vwp_region hT ?_
      simp [v4]
      repeat refine ⟨by first | assumption | omega | (intros; omega), ?_⟩
      refine hK23 _ ?_
      try clear hK23 K23
      refine vwp_cond (by first | rfl | (simp; rfl)) (fun h5 => ?_) fun h5 => ?_
      · simp -failIfUnchanged at h5; all_goals
       have q := h5
       have hz : zig u = -1 - (h : Int) := by rw [zig, if_pos (by omega), hh]
       have w4 : IntKind.i64.wrap (-1 - (h : Int)) = -1 - (h : Int) := w64 (by omega) (by omega)
       refine vwp_live [1, 11] (vwp_region hT ?_)
       simp [w4]
       exact hK22 (()) _ (Gh.to_k [1, 11] [] (he := by simp [hz])) (trivial)
      · simp -failIfUnchanged at h5; all_goals
       have q := h5
       have hz : zig u = (h : Int) := by rw [zig, if_neg (by omega), hh]
       refine vwp_skip ?_
       exact hK22 (()) _ (Gh.to_k [1, 11] [] (he := by simp [hz])) (trivial)
    · rintro _ _
      obtain ⟨n, hn⟩ : ∃ n, n = zig u := ⟨_, rfl⟩
      rw [← hn] at htake ⊢
      have hma := may_ref ⟨n, ⟨#[]⟩⟩ 110 (by show (⟨#[]⟩ : ByteArray).size < _; decide)
      rw [mayB_num] at hma
      refine vwp_seq_k fun K24 hK24 => ?_
      refine vwp_sq [1, 11] fun K25 hK25 => vwp_region hT ?_
      simp
      refine vcall_k [] (hma) ?_
      rintro r ob' ⟨rfl, rfl⟩
      simp
      refine hK25 _ ?_
      try clear hK25 K25
      refine vwp_cond (by first | rfl | (simp; rfl)) (fun h6 => ?_) fun h6 => ?_
      · simp -failIfUnchanged at h6; all_goals
       have q := h6
       have hN : takeN (B.drop p) = .error 2 := by rw [htake, if_neg (by simpa using q)]
       refine vwp_sq [] fun K26 hK26 => vwp_region hT ?_
       simp
       refine hK26 _ ?_
       try clear hK26 K26
       refine vwp_ret (hR _ _ ?_)
       exact ret_k [4, 5, 6] [] ([]) (.tup [.int .i64 0, .int .i64 0, .int .i64 2]) (⟨(takeAt_err hN).symm, rfl⟩)
      · simp -failIfUnchanged at h6; all_goals
       have q := h6
       have hN : takeN (B.drop p) = .ok (n, B.drop a) := by rw [htake, if_pos (by simpa using q)]
       refine vwp_skip ?_
       refine hK24 _ ?_
       try clear hK24 K24
       refine vwp_sq [1, 11] fun K27 hK27 => vwp_region hT ?_
       simp
       refine hK27 _ ?_
       try clear hK27 K27
       refine vwp_ret (hR _ _ ?_)
       have hres : takeAt B p = .tup [.int .i64 n, .int .i64 (a : Int), .int .i64 0] := by
         rw [takeAt, hN]
         simp only [List.length_drop]
         rw [show B.length - (B.length - a) = a by omega]
       exact ret_k [4, 5, 6] [] ([]) (.tup [.int .i64 n, .int .i64 (a : Int), .int .i64 0]) (⟨hres.symm, rfl⟩)
end Go.Proofs.YtgmcflbbdpbkeaaDoor
