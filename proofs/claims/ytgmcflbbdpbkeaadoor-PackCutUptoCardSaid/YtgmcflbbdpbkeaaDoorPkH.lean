/- A reader takes a number; it panics, where there is none. -/
import Derived.Test.YtgmcflbbdpbkeaaDoorPkG
namespace Go.Proofs.YtgmcflbbdpbkeaaDoor
open Go Go.VX Go.RowKit
set_option linter.unusedVariables false
set_option linter.unusedSimpArgs false
set_option maxHeartbeats 20000000
set_option maxRecDepth 100000

/-- What a reader panics with. -/
def stopV (e : Int) : Value := .iface 66 (.agg #[.int .i64 e])
abbrev rdr (B : List Int) : Ob := .live [sB B]
/-- Sevens are taken: the number so far, and what is left; or why not. -/
def takeK : Nat → Nat → Nat → List Int → Except Int (Nat × List Int)
  | 0, _, _, _ => .error 2
  | _ + 1, _, _, [] => .error 3
  | f + 1, k, u, c :: B => if (k = 9 ∧ 1 < c) ∨ (c = 0 ∧ 0 < k) then .error 2 else if c < 128 then .ok (u + c.toNat % 128 * 128 ^ k, B) else takeK f (k + 1) (u + c.toNat % 128 * 128 ^ k) B
def takeN (B : List Int) : Except Int (Int × List Int) :=
  match takeK 10 0 0 B with
  | .error e => .error e
  | .ok (u, B') => if numOK (zig u) = true then .ok (zig u, B') else .error 2
theorem takeK_var : ∀ (f k u : Nat) (B : List Int) {u' : Nat} {B' : List Int}, takeK f k u B = .ok (u', B') → byteL B → ∃ v, u' = u + v * 128 ^ k ∧ (0 < k → 0 < v) ∧ B = varB v ++ B'
  | 0, k, u, B, u', B', h, hb => by simp [takeK] at h
  | f + 1, k, u, [], u', B', h, hb => by simp [takeK] at h
  | f + 1, k, u, c :: B, u', B', h, hb => by
    have hc := hb c (List.mem_cons_self ..)
    obtain ⟨y, rfl⟩ := Int.eq_ofNat_of_zero_le hc.1
    rw [takeK] at h
    split at h
    · cases h
    rename_i hbad
    simp only [Int.toNat_natCast] at h
    split at h
    · rename_i h128
      simp only [Except.ok.injEq, Prod.mk.injEq] at h
      obtain ⟨rfl, rfl⟩ := h
      refine ⟨y, by rw [Nat.mod_eq_of_lt (by omega)], fun hk => by omega, ?_⟩
      rw [varB_lt (by omega)]; rfl
    · rename_i h128
      obtain ⟨v, h1, h2, h3⟩ := takeK_var f (k + 1) _ B h fun x hx => hb x (List.mem_cons_of_mem _ hx)
      have hv := h2 (by omega)
      refine ⟨y % 128 + 128 * v, ?_, fun _ => by omega, ?_⟩
      · rw [h1, Nat.pow_succ, Nat.add_mul, Nat.mul_comm 128 v, Nat.mul_assoc v, Nat.mul_comm 128 (128 ^ k)]; omega
      · have e1 : (y % 128 + 128 * v) / 128 = v := by omega
        have e2 : (y % 128 + 128 * v) % 128 + 128 = y := by omega
        rw [varB_ge (by omega), e1, e2, h3]; rfl
/-- It panics with what a result says. -/
def panR {α : Type} (x : Except Int α) (v : Value) (ob' : List Ob) : Prop := ∃ e B', x = .error e ∧ v = stopV e ∧ ob' = [rdr B']
theorem panR_mk {α : Type} {x : Except Int α} {e : Int} (h : x = .error e) (B' : List Int) : panR x (stopV e) [rdr B'] := ⟨e, B', h, rfl, rfl⟩
theorem mayB_num (n : Int) : mayB ⟨n, ⟨#[]⟩⟩ 110 = numOK n := by
  have h0 : (⟨#[]⟩ : ByteArray).size = 0 := rfl
  rw [mayB, if_pos rfl, h0]; rfl
theorem take_num {B B' : List Int} {u : Nat} (h : takeK 10 0 0 B = .ok (u, B')) (hb : byteL B) : B = numB (zig u) ++ B' := by
  obtain ⟨v, h1, _, h3⟩ := takeK_var 10 0 0 B h hb
  simp at h1
  subst h1
  rw [numB, zag_zig]; exact h3
theorem byte_cons (c : Int) (B : List Int) : VC P 41 [.ptr 0 1 0] [rdr (c :: B)] (fun r ob' => r = .int .u8 c ∧ ob' = [rdr B]) := by
  refine VC_of_vwp_k ent_41 Tryd.func41 rfl (by simp) fun R hR => ?_
  refine vwp_sq [0] fun K1 hK1 => vwp_region hT ?_
  simp
  refine hK1 _ ?_
  try clear hK1 K1
  refine vwp_seq_k fun K2 hK2 => ?_
  refine vwp_sq [0] fun K3 hK3 => vwp_region hT ?_
  simp
  refine hK3 _ ?_
  try clear hK3 K3
  refine vwp_cond (by first | rfl | (simp; rfl)) (fun h1 => ?_) fun h1 => ?_
  · simp -failIfUnchanged at h1; all_goals
   exfalso
   omega
  · simp -failIfUnchanged at h1; all_goals
   refine vwp_skip ?_
   refine hK2 _ ?_
   try clear hK2 K2
   refine vwp_sq [0] fun K4 hK4 => vwp_region hT ?_
   simp
   repeat refine ⟨by first | assumption | omega | (intros; omega), ?_⟩
   refine hK4 _ ?_
   try clear hK4 K4
   have htk : List.take B.length (bts B) = bts B := List.take_of_length_le (by simp)
   refine vwp_sq [0, 3] fun K5 hK5 => vwp_region hT ?_
   simp [htk]
   repeat refine ⟨by first | assumption | omega | (intros; omega), ?_⟩
   refine hK5 _ ?_
   try clear hK5 K5
   refine vwp_sq [3] fun K6 hK6 => vwp_region hT ?_
   simp
   refine hK6 _ ?_
   try clear hK6 K6
   refine vwp_ret (hR _ _ ?_)
   exact ret_k [2] [0] ([rdr B]) (.int .u8 c) (⟨rfl, rfl⟩) (hh := by simp)
theorem byte_nil  : VCQ P 41 [.ptr 0 1 0] [rdr []] (fun r ob' => False) (fun v ob' => v = stopV 3 ∧ ob' = [rdr []]) := by
  refine VCQ_of_vwq_k ent_41 Tryd.func41 rfl (by simp) fun R hR => ?_
  refine vwq_sq [0] fun K1 hK1 => vwq_of (vwp_region hT ?_)
  simp
  refine hK1 _ ?_
  try clear hK1 K1
  refine vwq_seq_k fun K2 hK2 => ?_
  refine vwq_sq [0] fun K3 hK3 => vwq_of (vwp_region hT ?_)
  simp
  refine hK3 _ ?_
  try clear hK3 K3
  refine vwq_cond (by first | rfl | (simp; rfl)) (fun h1 => ?_) fun h1 => ?_
  · simp -failIfUnchanged at h1; all_goals
   refine vwq_region hT ?_
   simp [stopV]
  · simp -failIfUnchanged at h1; all_goals
   refine vwq_skip ?_
   refine hK2 _ ?_
   try clear hK2 K2
   refine vwq_seq_k fun K4 hK4 => ?_
   simp at *
theorem rnumber_spec (B : List Int) (hb : byteL B) (hBl : B.length < 1099511627776) : VCQ P 31 [.ptr 0 1 0] [rdr B] (fun r ob' => ∃ n B', takeN B = .ok (n, B') ∧ r = .int .i64 n ∧ ob' = [rdr B']) (fun v ob' => panR (takeN B) v ob') := by
  refine VCQ_of_vwq_k ent_31 Tryd.func31 rfl (by simp) fun R hR => ?_
  refine vwq_sq [0] fun K1 hK1 => vwq_of (vwp_region hT ?_)
  simp
  refine hK1 _ ?_
  try clear hK1 K1
  refine vwq_sq [0] fun K2 hK2 => vwq_of (vwp_region hT ?_)
  simp
  refine hK2 _ ?_
  try clear hK2 K2
  refine vwq_sq [0, 3] fun K3 hK3 => vwq_of (vwp_region hT ?_)
  simp
  refine hK3 _ ?_
  try clear hK3 K3
  refine vwq_cut_s (fun z : Nat × List Int => ⟨[(0, .ptr 0 1 0), (3, .int .u64 (z.1 : Int)), (4, .int .i64 (B.length : Int))], [rdr z.2]⟩) (fun z => z.1 < 18446744073709551616 ∧ byteL z.2 ∧ takeK 10 0 0 B = .ok (z.1, z.2)) (fun K4 hK4 => ?_) ?_
  · refine vwq_sq [0, 3, 4] fun K5 hK5 => vwq_of (vwp_region hT ?_)
    simp
    refine hK5 _ ?_
    try clear hK5 K5
    refine vwq_block ?_
    refine vwq_loop_s (fun z : Nat × Nat × List Int => ⟨[(0, .ptr 0 1 0), (3, .int .u64 (z.2.1 : Int)), (4, .int .i64 (B.length : Int)), (5, .int .i64 ((7 * z.1 : Nat) : Int))], [rdr z.2.2]⟩) (fun z => z.1 ≤ 9 ∧ z.2.1 < 128 ^ z.1 ∧ byteL z.2.2 ∧ takeK (10 - z.1) z.1 z.2.1 z.2.2 = takeK 10 0 0 B) (fun z => 10 - z.1) ((0, 0, B)) (Gh.to_k [0, 3, 4, 5] [0] (he := by simp)) (⟨by dsimp only; omega, by simp, hb, rfl⟩) ?_
    rintro ⟨k, u, C⟩ ⟨hk, hu, hCb, ht⟩
    dsimp only at hk hu hCb ht ⊢
    have hsk : takeK (10 - k) k u C = takeK (9 - k + 1) k u C := by rw [show 10 - k = 9 - k + 1 by omega]
    rw [hsk] at ht
    intro K6 hK6
    refine vwq_seq_k fun K7 hK7 => ?_
    refine vwq_block ?_
    refine vwq_seq_k fun K8 hK8 => ?_
    rcases C with _ | ⟨c, C2⟩
    · have hbad : takeN B = .error 3 := by rw [takeN, ← ht]; rfl
      refine vwq_region hT ?_
      simp
      refine vcallQ_k [0] byte_nil (fun r ob' h => h.elim) ?_
      rintro v ob' ⟨rfl, rfl⟩
      exact panR_mk hbad []
    · have hcb := hCb c (List.mem_cons_self ..)
      have hC2 : byteL C2 := fun x hx => hCb x (List.mem_cons_of_mem _ hx)
      obtain ⟨y, rfl⟩ := Int.eq_ofNat_of_zero_le hcb.1
      rw [takeK] at ht
      simp only [Int.toNat_natCast] at ht
      refine vwq_live [0, 3, 4, 5] (vwq_of (vwp_region hT ?_))
      simp
      refine vcall_k [0] (byte_cons (y : Int) C2) ?_
      rintro r ob' ⟨rfl, rfl⟩
      simp
      refine hK8 _ ?_
      try clear hK8 K8
      refine vwq_seq_k fun K9 hK9 => ?_
      refine vwq_seq_k fun K10 hK10 => ?_
      have hcs : (k = 9 ∧ 1 < y) ∨ (k = 9 ∧ y = 0) ∨ (k = 9 ∧ y = 1) ∨ (k ≠ 9 ∧ y = 0 ∧ 0 < k) ∨ (k ≠ 9 ∧ y = 0 ∧ k = 0) ∨ (k ≠ 9 ∧ y ≠ 0) := by omega
      rcases hcs with ⟨e1, e2⟩ | ⟨e1, e2⟩ | ⟨e1, e2⟩ | ⟨e1, e2, e3⟩ | ⟨e1, e2, e3⟩ | ⟨e1, e2⟩
      · have e2i : (1 : Int) < (y : Int) := by omega
        rw [if_pos (by omega)] at ht
        have hbad : takeN B = .error 2 := by rw [takeN, ← ht]
        refine vwq_live [0, 3, 4, 5, 6] (vwq_of (vwp_region hT ?_))
        simp [e1, e2, e2i]
        refine hK10 _ ?_
        try clear hK10 K10
        refine vwq_cond (by first | rfl | (simp; rfl)) (fun h1 => ?_) fun h1 => ?_
        · simp -failIfUnchanged at h1; all_goals
         refine vwq_region hT ?_
         simp
         exact panR_mk hbad _
        · simp -failIfUnchanged at h1; all_goals
         refine vwq_skip ?_
         refine hK9 _ ?_
         try clear hK9 K9
         refine vwq_seq_k fun K11 hK11 => ?_
         exfalso
         first | omega | simp at *
      · rw [if_pos (by omega)] at ht
        have hbad : takeN B = .error 2 := by rw [takeN, ← ht]
        refine vwq_live [0, 3, 4, 5, 6] (vwq_of (vwp_region hT ?_))
        simp [e1, e2]
        refine hK10 _ ?_
        try clear hK10 K10
        refine vwq_cond (by first | rfl | (simp; rfl)) (fun h2 => ?_) fun h2 => ?_
        · simp -failIfUnchanged at h2; all_goals
         refine vwq_region hT ?_
         simp
         exact panR_mk hbad _
        · simp -failIfUnchanged at h2; all_goals
         refine vwq_skip ?_
         refine hK9 _ ?_
         try clear hK9 K9
         refine vwq_seq_k fun K12 hK12 => ?_
         exfalso
         first | omega | simp at *
      · have f1 : ((7 * (k : Int)) == 63) = true := by simp; omega
        have f2 : ¬ ((1 : Int) < (y : Int)) := by omega
        have f3 : ((y : Int) == 0) = false := by simp; omega
        rw [if_neg (by omega)] at ht
        have hy9 : k = 9 → y ≤ 1 := by omega
        refine vwq_live [0, 3, 4, 5, 6] (vwq_of (vwp_region hT ?_))
        simp [f1, f2, f3]
        refine hK10 _ ?_
        try clear hK10 K10
        refine vwq_cond (by first | rfl | (simp; rfl)) (fun h3 => ?_) fun h3 => ?_
        · simp -failIfUnchanged at h3; all_goals
         exfalso
         first | omega | simp at *
        · simp -failIfUnchanged at h3; all_goals
         refine vwq_skip ?_
         refine hK9 _ ?_
         try clear hK9 K9
         obtain ⟨Pw, hPw⟩ : ∃ Pw, Pw = 128 ^ k := ⟨_, rfl⟩
         have hP9 : Pw ≤ 9223372036854775808 := by
           have : 128 ^ k ≤ 128 ^ 9 := Nat.pow_le_pow_right (by omega) hk
           rw [hPw]; exact this
         have hP8 : k ≠ 9 → Pw * 128 ≤ 9223372036854775808 := fun h => by
           have : 128 ^ (k + 1) ≤ 128 ^ 9 := Nat.pow_le_pow_right (by omega) (by omega)
           rw [hPw, ← Nat.pow_succ]; exact this
         have h2P : 2 ^ (7 * k) = Pw := by rw [hPw, Nat.pow_mul]
         obtain ⟨m, hm3⟩ : ∃ m, m = y % 128 := ⟨_, rfl⟩
         obtain ⟨mp, hmp⟩ : ∃ mp, mp = m * Pw := ⟨_, rfl⟩
         have hmpl : mp ≤ 9223372036854775808 ∧ mp + Pw ≤ Pw * 128 := by
           have h127 : mp ≤ 127 * Pw := by rw [hmp]; exact Nat.mul_le_mul_right _ (by omega)
           by_cases h9 : k = 9
           · have := hy9 h9
             have h1 : mp ≤ 1 * Pw := by rw [hmp]; exact Nat.mul_le_mul_right _ (by omega)
             omega
           · have := hP8 h9
             omega
         rw [← hPw, ← hm3, ← hmp] at ht
         rw [← hPw] at hu
         obtain ⟨u2, hu2e⟩ : ∃ u2, u2 = u + mp := ⟨_, rfl⟩
         rw [← hu2e] at ht
         have hu2 : u2 < 128 ^ (k + 1) := by rw [Nat.pow_succ, ← hPw]; omega
         have v1 : ibits .and .u8 (y : Int) 127 = (m : Int) := by rw [and127 (by omega), hm3]
         have v2 : IntKind.u64.wrap (m : Int) = (m : Int) := wu64 (by omega) (by omega)
         have v3 : (7 * (k : Int)).toNat = 7 * k := by omega
         have v3b : min (7 * k) 64 = 7 * k := by omega
         have v4 : IntKind.u64.wrap ((m : Int) * 2 ^ (7 * k)) = (mp : Int) := by
           have e : ((m : Int) * 2 ^ (7 * k)) = ((m * 2 ^ (7 * k) : Nat) : Int) := by simp
           rw [e, h2P, ← hmp]; exact wu64 (by omega) (by omega)
         have v5 : ibits .or .u64 (u : Int) (mp : Int) = (u2 : Int) := by
           rw [or_u64 (by omega) (by omega)]
           have := Nat.two_pow_add_eq_or_of_lt (b := u) (i := 7 * k) (by rw [h2P]; exact hu) m
           rw [h2P, Nat.mul_comm, ← hmp] at this
           rw [Nat.or_comm, ← this, hu2e, Nat.add_comm]
         refine vwq_sq [0, 3, 4, 5, 6] fun K13 hK13 => vwq_of (vwp_region hT ?_)
         simp [v1, v2, v3, v3b, v4, v5]
         repeat refine ⟨by first | assumption | omega | (intros; omega), ?_⟩
         refine hK13 _ ?_
         try clear hK13 K13
         refine vwq_sq [0, 3, 4, 5, 6] fun K14 hK14 => vwq_of (vwp_region hT ?_)
         simp
         refine hK14 _ ?_
         try clear hK14 K14
         refine vwq_cond (by first | rfl | (simp; rfl)) (fun h4 => ?_) fun h4 => ?_
         · simp -failIfUnchanged at h4; all_goals
          have q := h4
          rw [if_pos (by omega)] at ht
          refine vwq_exit ?_
          simp only [inBlk, thenQ, if_true]
          exact hK4 (u2, C2) _ (Gh.to_k [0, 3, 4] [0]) ⟨by dsimp only; omega, hC2, ht.symm⟩
         · simp -failIfUnchanged at h4; all_goals
          have q := h4
          rw [if_neg (by omega)] at ht
          refine vwq_skip ?_
          refine hK7 _ ?_
          try clear hK7 K7
          have w1 : IntKind.i64.wrap (7 * (k : Int) + 7) = 7 * (k : Int) + 7 := w64 (by omega) (by omega)
          refine vwq_live [0, 3, 4, 5] (vwq_of (vwp_region hT ?_))
          simp [w1]
          exact hK6 (k + 1, u2, C2) _ (Gh.to_k [0, 3, 4, 5] [0] (he := by simp; omega)) (⟨by dsimp only; omega, hu2, hC2, by dsimp only; rw [show 10 - (k + 1) = 9 - k by omega]; exact ht⟩) (by dsimp only; omega)
      · have f1 : ¬ (7 * (k : Int) = 63) := by omega
        have f2 : (0 : Int) < (k : Int) := by omega
        rw [if_pos (by omega)] at ht
        have hbad : takeN B = .error 2 := by rw [takeN, ← ht]
        refine vwq_live [0, 3, 4, 5, 6] (vwq_of (vwp_region hT ?_))
        simp [f1, f2, e2, e3]
        refine hK10 _ ?_
        try clear hK10 K10
        refine vwq_cond (by first | rfl | (simp; rfl)) (fun h5 => ?_) fun h5 => ?_
        · simp -failIfUnchanged at h5; all_goals
         refine vwq_region hT ?_
         simp
         exact panR_mk hbad _
        · simp -failIfUnchanged at h5; all_goals
         refine vwq_skip ?_
         refine hK9 _ ?_
         try clear hK9 K9
         refine vwq_seq_k fun K15 hK15 => ?_
         exfalso
         first | omega | simp at *
      · have f1 : ¬ (7 * (k : Int) = 63) := by omega
        have f2 : ((y : Int) == 0) = true := by simp; omega
        have f3 : ¬ (0 : Int) < (k : Int) := by omega
        have f4 : ¬ 0 < k := by omega
        rw [if_neg (by omega)] at ht
        have hy9 : k = 9 → y ≤ 1 := by omega
        refine vwq_live [0, 3, 4, 5, 6] (vwq_of (vwp_region hT ?_))
        simp [f1, f2, f3, f4]
        refine hK10 _ ?_
        try clear hK10 K10
        refine vwq_cond (by first | rfl | (simp; rfl)) (fun h6 => ?_) fun h6 => ?_
        · simp -failIfUnchanged at h6; all_goals
         exfalso
         first | omega | simp at *
        · simp -failIfUnchanged at h6; all_goals
         refine vwq_skip ?_
         refine hK9 _ ?_
         try clear hK9 K9
         obtain ⟨Pw, hPw⟩ : ∃ Pw, Pw = 128 ^ k := ⟨_, rfl⟩
         have hP9 : Pw ≤ 9223372036854775808 := by
           have : 128 ^ k ≤ 128 ^ 9 := Nat.pow_le_pow_right (by omega) hk
           rw [hPw]; exact this
         have hP8 : k ≠ 9 → Pw * 128 ≤ 9223372036854775808 := fun h => by
           have : 128 ^ (k + 1) ≤ 128 ^ 9 := Nat.pow_le_pow_right (by omega) (by omega)
           rw [hPw, ← Nat.pow_succ]; exact this
         have h2P : 2 ^ (7 * k) = Pw := by rw [hPw, Nat.pow_mul]
         obtain ⟨m, hm3⟩ : ∃ m, m = y % 128 := ⟨_, rfl⟩
         obtain ⟨mp, hmp⟩ : ∃ mp, mp = m * Pw := ⟨_, rfl⟩
         have hmpl : mp ≤ 9223372036854775808 ∧ mp + Pw ≤ Pw * 128 := by
           have h127 : mp ≤ 127 * Pw := by rw [hmp]; exact Nat.mul_le_mul_right _ (by omega)
           by_cases h9 : k = 9
           · have := hy9 h9
             have h1 : mp ≤ 1 * Pw := by rw [hmp]; exact Nat.mul_le_mul_right _ (by omega)
             omega
           · have := hP8 h9
             omega
         rw [← hPw, ← hm3, ← hmp] at ht
         rw [← hPw] at hu
         obtain ⟨u2, hu2e⟩ : ∃ u2, u2 = u + mp := ⟨_, rfl⟩
         rw [← hu2e] at ht
         have hu2 : u2 < 128 ^ (k + 1) := by rw [Nat.pow_succ, ← hPw]; omega
         have v1 : ibits .and .u8 (y : Int) 127 = (m : Int) := by rw [and127 (by omega), hm3]
         have v2 : IntKind.u64.wrap (m : Int) = (m : Int) := wu64 (by omega) (by omega)
         have v3 : (7 * (k : Int)).toNat = 7 * k := by omega
         have v3b : min (7 * k) 64 = 7 * k := by omega
         have v4 : IntKind.u64.wrap ((m : Int) * 2 ^ (7 * k)) = (mp : Int) := by
           have e : ((m : Int) * 2 ^ (7 * k)) = ((m * 2 ^ (7 * k) : Nat) : Int) := by simp
           rw [e, h2P, ← hmp]; exact wu64 (by omega) (by omega)
         have v5 : ibits .or .u64 (u : Int) (mp : Int) = (u2 : Int) := by
           rw [or_u64 (by omega) (by omega)]
           have := Nat.two_pow_add_eq_or_of_lt (b := u) (i := 7 * k) (by rw [h2P]; exact hu) m
           rw [h2P, Nat.mul_comm, ← hmp] at this
           rw [Nat.or_comm, ← this, hu2e, Nat.add_comm]
         refine vwq_sq [0, 3, 4, 5, 6] fun K16 hK16 => vwq_of (vwp_region hT ?_)
         simp [v1, v2, v3, v3b, v4, v5]
         repeat refine ⟨by first | assumption | omega | (intros; omega), ?_⟩
         refine hK16 _ ?_
         try clear hK16 K16
         refine vwq_sq [0, 3, 4, 5, 6] fun K17 hK17 => vwq_of (vwp_region hT ?_)
         simp
         refine hK17 _ ?_
         try clear hK17 K17
         refine vwq_cond (by first | rfl | (simp; rfl)) (fun h7 => ?_) fun h7 => ?_
         · simp -failIfUnchanged at h7; all_goals
          have q := h7
          rw [if_pos (by omega)] at ht
          refine vwq_exit ?_
          simp only [inBlk, thenQ, if_true]
          exact hK4 (u2, C2) _ (Gh.to_k [0, 3, 4] [0]) ⟨by dsimp only; omega, hC2, ht.symm⟩
         · simp -failIfUnchanged at h7; all_goals
          have q := h7
          rw [if_neg (by omega)] at ht
          refine vwq_skip ?_
          refine hK7 _ ?_
          try clear hK7 K7
          have w1 : IntKind.i64.wrap (7 * (k : Int) + 7) = 7 * (k : Int) + 7 := w64 (by omega) (by omega)
          refine vwq_live [0, 3, 4, 5] (vwq_of (vwp_region hT ?_))
          simp [w1]
          exact hK6 (k + 1, u2, C2) _ (Gh.to_k [0, 3, 4, 5] [0] (he := by simp; omega)) (⟨by dsimp only; omega, hu2, hC2, by dsimp only; rw [show 10 - (k + 1) = 9 - k by omega]; exact ht⟩) (by dsimp only; omega)
      · have f1 : ¬ (7 * (k : Int) = 63) := by omega
        have f2 : ¬ ((y : Int) = 0) := by omega
        rw [if_neg (by omega)] at ht
        have hy9 : k = 9 → y ≤ 1 := by omega
        refine vwq_live [0, 3, 4, 5, 6] (vwq_of (vwp_region hT ?_))
        simp [f1, f2, e2]
        refine hK10 _ ?_
        try clear hK10 K10
        refine vwq_cond (by first | rfl | (simp; rfl)) (fun h8 => ?_) fun h8 => ?_
        · simp -failIfUnchanged at h8; all_goals
         exfalso
         first | omega | simp at *
        · simp -failIfUnchanged at h8; all_goals
         refine vwq_skip ?_
         refine hK9 _ ?_
         try clear hK9 K9
         obtain ⟨Pw, hPw⟩ : ∃ Pw, Pw = 128 ^ k := ⟨_, rfl⟩
         have hP9 : Pw ≤ 9223372036854775808 := by
           have : 128 ^ k ≤ 128 ^ 9 := Nat.pow_le_pow_right (by omega) hk
           rw [hPw]; exact this
         have hP8 : k ≠ 9 → Pw * 128 ≤ 9223372036854775808 := fun h => by
           have : 128 ^ (k + 1) ≤ 128 ^ 9 := Nat.pow_le_pow_right (by omega) (by omega)
           rw [hPw, ← Nat.pow_succ]; exact this
         have h2P : 2 ^ (7 * k) = Pw := by rw [hPw, Nat.pow_mul]
         obtain ⟨m, hm3⟩ : ∃ m, m = y % 128 := ⟨_, rfl⟩
         obtain ⟨mp, hmp⟩ : ∃ mp, mp = m * Pw := ⟨_, rfl⟩
         have hmpl : mp ≤ 9223372036854775808 ∧ mp + Pw ≤ Pw * 128 := by
           have h127 : mp ≤ 127 * Pw := by rw [hmp]; exact Nat.mul_le_mul_right _ (by omega)
           by_cases h9 : k = 9
           · have := hy9 h9
             have h1 : mp ≤ 1 * Pw := by rw [hmp]; exact Nat.mul_le_mul_right _ (by omega)
             omega
           · have := hP8 h9
             omega
         rw [← hPw, ← hm3, ← hmp] at ht
         rw [← hPw] at hu
         obtain ⟨u2, hu2e⟩ : ∃ u2, u2 = u + mp := ⟨_, rfl⟩
         rw [← hu2e] at ht
         have hu2 : u2 < 128 ^ (k + 1) := by rw [Nat.pow_succ, ← hPw]; omega
         have v1 : ibits .and .u8 (y : Int) 127 = (m : Int) := by rw [and127 (by omega), hm3]
         have v2 : IntKind.u64.wrap (m : Int) = (m : Int) := wu64 (by omega) (by omega)
         have v3 : (7 * (k : Int)).toNat = 7 * k := by omega
         have v3b : min (7 * k) 64 = 7 * k := by omega
         have v4 : IntKind.u64.wrap ((m : Int) * 2 ^ (7 * k)) = (mp : Int) := by
           have e : ((m : Int) * 2 ^ (7 * k)) = ((m * 2 ^ (7 * k) : Nat) : Int) := by simp
           rw [e, h2P, ← hmp]; exact wu64 (by omega) (by omega)
         have v5 : ibits .or .u64 (u : Int) (mp : Int) = (u2 : Int) := by
           rw [or_u64 (by omega) (by omega)]
           have := Nat.two_pow_add_eq_or_of_lt (b := u) (i := 7 * k) (by rw [h2P]; exact hu) m
           rw [h2P, Nat.mul_comm, ← hmp] at this
           rw [Nat.or_comm, ← this, hu2e, Nat.add_comm]
         refine vwq_sq [0, 3, 4, 5, 6] fun K18 hK18 => vwq_of (vwp_region hT ?_)
         simp [v1, v2, v3, v3b, v4, v5]
         repeat refine ⟨by first | assumption | omega | (intros; omega), ?_⟩
         refine hK18 _ ?_
         try clear hK18 K18
         refine vwq_sq [0, 3, 4, 5, 6] fun K19 hK19 => vwq_of (vwp_region hT ?_)
         simp
         refine hK19 _ ?_
         try clear hK19 K19
         refine vwq_cond (by first | rfl | (simp; rfl)) (fun h9 => ?_) fun h9 => ?_
         · simp -failIfUnchanged at h9; all_goals
          have q := h9
          rw [if_pos (by omega)] at ht
          refine vwq_exit ?_
          simp only [inBlk, thenQ, if_true]
          exact hK4 (u2, C2) _ (Gh.to_k [0, 3, 4] [0]) ⟨by dsimp only; omega, hC2, ht.symm⟩
         · simp -failIfUnchanged at h9; all_goals
          have q := h9
          rw [if_neg (by omega)] at ht
          refine vwq_skip ?_
          refine hK7 _ ?_
          try clear hK7 K7
          have w1 : IntKind.i64.wrap (7 * (k : Int) + 7) = 7 * (k : Int) + 7 := w64 (by omega) (by omega)
          refine vwq_live [0, 3, 4, 5] (vwq_of (vwp_region hT ?_))
          simp [w1]
          exact hK6 (k + 1, u2, C2) _ (Gh.to_k [0, 3, 4, 5] [0] (he := by simp; omega)) (⟨by dsimp only; omega, hu2, hC2, by dsimp only; rw [show 10 - (k + 1) = 9 - k by omega]; exact ht⟩) (by dsimp only; omega)
  · rintro ⟨u, C⟩ ⟨hu, hC, ht⟩
    dsimp only at hu hC ht ⊢
    have hnum := take_num ht hb
    obtain ⟨n, hn⟩ : ∃ n, n = zig u := ⟨_, rfl⟩
    rw [← hn] at hnum
    obtain ⟨h, hh⟩ : ∃ h, h = u / 2 := ⟨_, rfl⟩
    obtain ⟨b, hbb⟩ : ∃ b, b = u % 2 := ⟨_, rfl⟩
    have v1 : (u : Int).fdiv (2 ^ min 1 64) = (h : Int) := by
      rw [Int.fdiv_eq_ediv_of_nonneg _ (by decide)]; show (u : Int) / 2 = h; omega
    have v1b : (u : Int).fdiv 2 = (h : Int) := v1
    have v2 : IntKind.i64.wrap (h : Int) = (h : Int) := w64 (by omega) (by omega)
    have v3 := and1_u64 hu
    rw [← hbb] at v3
    have v4 : IntKind.i64.wrap (b : Int) = (b : Int) := w64 (by omega) (by omega)
    have v5 : IntKind.i64.wrap (-(b : Int)) = -(b : Int) := w64 (by omega) (by omega)
    have v6 : ibits .xor .i64 (h : Int) (-(b : Int)) = n := by
      rw [hn, zig]
      have : b = 0 ∨ b = 1 := by omega
      rcases this with e | e
      · rw [if_neg (by omega), e, hh]; exact xor_0 (by omega) (by omega)
      · rw [if_pos (by omega), e, hh]; exact xor_m1 (by omega) (by omega)
    refine vwq_sq [0, 3, 4] fun K20 hK20 => vwq_of (vwp_region hT ?_)
    simp [v1, v1b, v2, v3, v4, v5, v6]
    repeat refine ⟨by first | assumption | omega | (intros; omega), ?_⟩
    refine hK20 _ ?_
    try clear hK20 K20
    refine vwq_seq_k fun K21 hK21 => ?_
    refine vwq_seq_k fun K22 hK22 => ?_
    have hno := Number_spec n
    have hfi := fits_spec ⟨n, ⟨#[]⟩⟩ 110 (by show (⟨#[]⟩ : ByteArray).size < _; decide)
    rw [mayB_num] at hfi
    have htake : takeN B = if numOK n = true then .ok (n, C) else .error 2 := by rw [takeN, ht, hn]
    obtain ⟨ok, hok⟩ : ∃ ok, ok = numOK n := ⟨_, rfl⟩
    rw [← hok] at hfi htake
    rcases ok with _ | _
    · have hbad : takeN B = .error 2 := by rw [htake]; rfl
      refine vwq_live [0, 4, 7] (vwq_of (vwp_storm hT hm [.pure, .mv, .mv, .pure, .pure, .off, .off, .off, .off, .off, .off, .off, .off, .off, .off, .off, .pure] [[], [0], [0, 1], [0, 1, 2], [0, 1, 2, 3], [0, 1, 2, 3, 4], [0, 1, 2, 3, 4, 5], [0, 1, 2, 3, 4, 5, 6], [0, 1, 2, 3, 4], [0, 1, 2, 3, 4], [0, 1, 2, 3, 4, 9], [0, 1, 2, 3, 4, 9, 10], [0, 1, 2, 3, 4, 9, 10, 11], [0, 1, 2, 3, 4, 9, 10, 11, 12], [0, 1, 2, 3, 4, 8, 9, 10, 11, 12, 13], [0, 1, 2, 3, 4, 5, 6, 7, 8, 9, 10, 11, 12, 13, 14], [0, 1, 2, 3, 4, 5, 6, 7, 8, 9, 10, 11, 12, 13, 14, 15]] (by kernel_rfl) ?_))
      simp
      refine ⟨.agg (PV.cells ⟨n, ⟨#[]⟩⟩), [rdr C], fun sl => ?_, ?_⟩
      · refine vcall_k [] (hno) ?_
        rintro r ob' ⟨rfl, rfl⟩
        simp
      simp
      refine ⟨.bool false, [rdr C], fun sl => ?_, ?_⟩
      · refine vcall_k [] (hfi) ?_
        rintro r ob' ⟨rfl, rfl⟩
        simp
      simp
      refine hK22 _ ?_
      try clear hK22 K22
      refine vwq_cond (by first | rfl | (simp; rfl)) (fun h10 => ?_) fun h10 => ?_
      · simp -failIfUnchanged at h10; all_goals
       refine vwq_region hT ?_
       simp
       exact panR_mk hbad _
      · simp -failIfUnchanged at h10; all_goals
       refine vwq_skip ?_
       refine hK21 _ ?_
       try clear hK21 K21
       refine vwq_seq_k fun K23 hK23 => ?_
       simp at *
    · have hgood : takeN B = .ok (n, C) := by rw [htake]; rfl
      have hrange : -4611686018427387904 ≤ n ∧ n ≤ 4611686018427387904 := by
        simp only [numOK] at hok
        have := hok.symm
        rw [Bool.and_eq_true, decide_eq_true_eq, decide_eq_true_eq] at this
        exact this
      have hnn := number_nil n hrange.1 hrange.2
      simp only [List.nil_append] at hnn
      obtain ⟨L, hL⟩ : ∃ L, L = (numB n).length := ⟨_, rfl⟩
      have hLe := hL.symm
      rw [← hL] at hnn
      have hBL : B.length = L + C.length := by rw [hnum, List.length_append, hL]
      have w1 : IntKind.i64.wrap ((B.length : Int) - (C.length : Int)) = (L : Int) := (w64 (by omega) (by omega)).trans (by omega)
      refine vwq_live [0, 4, 7] (vwq_of (vwp_storm hT hm [.pure, .mv, .mv, .pure, .pure, .pure, .mv, .win 3 3, .pure, .pure, .win 2 3, .win 2 3, .win 2 3, .win 2 3, .win 2 3, .win 3 3, .pure] [[], [0], [0, 1], [0, 1, 2], [0, 1, 2, 3], [0, 1, 2, 3, 4], [0, 1, 2, 3, 4, 5], [0, 1, 2, 3, 4, 5, 6], [0, 1, 2, 3, 4], [0, 1, 2, 3, 4], [0, 1, 2, 3, 4, 9], [0, 1, 2, 3, 4, 9, 10], [0, 1, 2, 3, 4, 9, 10, 11], [0, 1, 2, 3, 4, 9, 10, 11, 12], [0, 1, 2, 3, 4, 8, 9, 10, 11, 12, 13], [0, 1, 2, 3, 4, 5, 6, 7, 8, 9, 10, 11, 12, 13, 14], [0, 1, 2, 3, 4, 5, 6, 7, 8, 9, 10, 11, 12, 13, 14, 15]] (by kernel_rfl) ?_))
      simp [w1]
      repeat refine ⟨by first | assumption | omega | (intros; omega), ?_⟩
      refine ⟨.agg (PV.cells ⟨n, ⟨#[]⟩⟩), [rdr C], fun sl => ?_, ?_⟩
      · refine vcall_k [] (hno) ?_
        rintro r ob' ⟨rfl, rfl⟩
        simp
      simp [w1]
      repeat refine ⟨by first | assumption | omega | (intros; omega), ?_⟩
      refine ⟨.bool true, [rdr C], fun sl => ?_, ?_⟩
      · refine vcall_k [] (hfi) ?_
        rintro r ob' ⟨rfl, rfl⟩
        simp
      simp [w1]
      repeat refine ⟨by first | assumption | omega | (intros; omega), ?_⟩
      refine ⟨.sl 1 L 1 0 L, [rdr C, .live (bts (numB n))], fun sl => ?_, ?_⟩
      · refine vcall_k [] (hnn) ?_
        rintro r ob' ⟨rfl, rfl⟩
        simp
      simp [w1]
      repeat refine ⟨by first | assumption | omega | (intros; omega), ?_⟩
      refine hK22 _ ?_
      try clear hK22 K22
      refine vwq_cond (by first | rfl | (simp; rfl)) (fun h11 => ?_) fun h11 => ?_
      · simp -failIfUnchanged at h11; all_goals
       simp at *
      · simp -failIfUnchanged at h11; all_goals
       refine vwq_skip ?_
       refine hK21 _ ?_
       try clear hK21 K21
       refine vwq_sq [7] fun K24 hK24 => vwq_of (vwp_region hT ?_)
       simp
       refine hK24 _ ?_
       try clear hK24 K24
       refine vwq_ret (hR _ _ ?_)
       exact ret_k [2] [0] [rdr C] (.int .i64 n) ⟨n, C, hgood, rfl, rfl⟩
end Go.Proofs.YtgmcflbbdpbkeaaDoor
