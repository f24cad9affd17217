/- What is written is read, and no bytes but its own tell values. -/
import Derived.Test.YtgmcflbbdpbkeaaDoorPkS
namespace Go.Proofs.YtgmcflbbdpbkeaaDoor
open Go Go.VX Go.RowKit
set_option linter.unusedVariables false
set_option linter.unusedSimpArgs false
set_option maxHeartbeats 20000000
set_option maxRecDepth 100000

theorem strOfV_sL (t : ByteArray) : strOfV (bts (sL t)) = t := sL_inj (sL_strOfV (sL_byte t))
theorem strOfV_size {x : List Int} (h : byteL x) : (strOfV (bts x)).size = x.length := by rw [← sL_len, sL_strOfV h]
/-! ### Forth -/
theorem takeK_fwd : ∀ (f k u v : Nat) (C : List Int), f + k = 10 → (0 < k → 0 < v) → v * 128 ^ k < 18446744073709551616 → takeK f k u (varB v ++ C) = .ok (u + v * 128 ^ k, C)
  | 0, k, u, v, C, hf, hv, hb => by
    have e : k = 10 := by omega
    subst e
    have := hv (by omega)
    have h10 : (128 : Nat) ^ 10 = 1180591620717411303424 := by decide
    rw [h10] at hb
    omega
  | f + 1, k, u, v, C, hf, hv, hb => by
    have h9 : k = 9 → v ≤ 1 := fun e => by
      subst e
      have h9 : (128 : Nat) ^ 9 = 9223372036854775808 := by decide
      rw [h9] at hb
      omega
    by_cases h : v < 128
    · rw [varB_lt h, List.singleton_append, takeK, if_neg, if_pos (by omega), Int.toNat_natCast, Nat.mod_eq_of_lt h]
      rintro (⟨h1, h2⟩ | ⟨h1, h2⟩)
      · have := h9 h1; omega
      · have := hv h2; omega
    · rw [varB_ge h, List.cons_append, takeK, if_neg, if_neg (by omega), Int.toNat_natCast]
      · have e1 : (v % 128 + 128) % 128 = v % 128 := by omega
        have e2 : v / 128 * 128 ^ (k + 1) = v / 128 * 128 * 128 ^ k := by rw [Nat.pow_succ, Nat.mul_assoc, Nat.mul_comm (128 ^ k)]
        have e3 : v * 128 ^ k = v % 128 * 128 ^ k + v / 128 * 128 * 128 ^ k := by
          rw [← Nat.add_mul]; congr 1; omega
        rw [e1, takeK_fwd f (k + 1) _ (v / 128) C (by omega) (fun _ => by omega) (by rw [e2]; omega), e2, e3, Nat.add_assoc]
      · rintro (⟨h1, h2⟩ | ⟨h1, h2⟩)
        · have := h9 h1; omega
        · omega
theorem takeN_fwd {n : Int} (C : List Int) (h : numOK n = true) : takeN (numB n ++ C) = .ok (n, C) := by
  have hr : -4611686018427387904 ≤ n ∧ n ≤ 4611686018427387904 := by
    simp only [numOK, Bool.and_eq_true, decide_eq_true_eq] at h
    exact h
  have := zag_lt hr.1 hr.2
  unfold takeN numB
  rw [takeK_fwd 10 0 0 (zag n) C rfl (fun h => by omega) (by rw [Nat.pow_zero]; omega)]
  simp only [Nat.pow_zero, Nat.mul_one, Nat.zero_add, zig_zag, h, if_true]
theorem numOK_len {k : Nat} (h : k ≤ 1000) : numOK (k : Int) = true := by
  simp only [numOK, Bool.and_eq_true, decide_eq_true_eq]
  omega
theorem takeT_fwd (x C : List Int) (h : x.length ≤ 1000) : takeT (numB (x.length : Int) ++ (x ++ C)) = .ok (x, C) := by
  unfold takeT
  rw [takeN_fwd _ (numOK_len h)]
  simp only [Int.toNat_natCast]
  rw [if_neg (by omega), if_neg (by rw [List.length_append]; omega), List.take_left, List.drop_left]
theorem takeV_fwd {S : List Int} {i : Nat} {x : PV} {c : Int} (C : List Int) (hc : S.getD (i % S.length) 0 = c) (h : mayB x c = true) : takeV S i (valB x c ++ C) = .ok (x, C) := by
  unfold takeV valB
  rw [hc]
  split
  · rename_i h1
    subst h1
    obtain ⟨h0, h1, h2⟩ := may_n h
    rw [takeN_fwd _ (by simp only [numOK, Bool.and_eq_true, decide_eq_true_eq]; exact ⟨h1, h2⟩)]
    have : x.t = ⟨#[]⟩ := sL_inj (List.length_eq_zero_iff.1 (by rw [sL_len]; exact h0))
    simp only [Except.ok.injEq, Prod.mk.injEq, and_true]
    exact pv_eq rfl this.symm
  · rename_i h1
    obtain ⟨h0, h2⟩ := may_t h1 h
    rw [List.append_assoc, ← sL_len, takeT_fwd _ _ (by rw [sL_len]; exact h2)]
    simp only [Except.ok.injEq, Prod.mk.injEq, and_true]
    exact pv_eq h0.symm (strOfV_sL _)
theorem varB_pos (u : Nat) : 0 < (varB u).length := by
  by_cases h : u < 128
  · rw [varB_lt h]; simp
  · rw [varB_ge h]; simp
theorem valB_pos (x : PV) (c : Int) : 0 < (valB x c).length := by
  unfold valB
  split
  · exact varB_pos _
  · rw [List.length_append]
    have := varB_pos (zag (x.t.size : Int))
    rw [numB]; omega
theorem allK_fwd {S : List Int} {again : Bool} (hS : 0 < S.length) : ∀ (r l : List PV) (f : Nat), fitsV S l.length r = true → wrongL S again (l.length + r.length) = false → (bytesP S l.length r).length < f → allK S again f l (bytesP S l.length r) = .ok (l ++ r, [])
  | [], l, f, hfi, hw, hf => by
    rw [List.append_nil]
    refine allK_end ?_ hf
    simp only [wrongL, List.length_nil, Nat.add_zero] at hw
    simp only [moreB, bytesP]
    cases again <;> simp at hw ⊢ <;> omega
  | x :: r, l, f, hfi, hw, hf => by
    simp only [fitsV, Bool.and_eq_true] at hfi
    simp only [bytesP] at hf ⊢
    obtain ⟨c, hc⟩ : ∃ c, S.getD (l.length % S.length) 0 = c := ⟨_, rfl⟩
    rw [hc] at hfi hf ⊢
    have hm : moreB S again l.length (valB x c ++ bytesP S (l.length + 1) r) = true := by
      simp only [moreB]
      cases again
      · simp only [wrongL, List.length_cons] at hw
        simp at hw ⊢
        omega
      · have := valB_pos x c
        have : valB x c ++ bytesP S (l.length + 1) r ≠ [] := fun e => by
          rw [(List.append_eq_nil_iff.1 e).1] at this
          simp at this
        simp [this]
    obtain ⟨g, h1, h2⟩ := allK_step hm (takeV_fwd _ hc hfi.1) hf
    rw [h1]
    have hl : (l ++ [x]).length = l.length + 1 := by simp
    have := allK_fwd hS r (l ++ [x]) g (by rw [hl]; exact hfi.2) (by rw [hl]; rw [List.length_cons] at hw; rw [show l.length + 1 + r.length = l.length + (r.length + 1) by omega]; exact hw) (by
      have := valB_pos x c
      rw [hl]; rw [List.length_append] at hf; omega)
    rw [hl] at this
    rw [this, List.append_assoc]; rfl
theorem write_read {f : ByteArray} {l : List PV} {W : List Int} (h : writeP f l = (W, 0)) (hW : W.length ≤ 20000) : readP f W = (l, 0) := by
  unfold writeP at h
  split at h
  · cases h
  rename_i hF
  split at h
  · cases h
  rename_i hw
  split at h
  · cases h
  rename_i hfi
  split at h
  · cases h
  rename_i h200
  simp only [Prod.mk.injEq, and_true] at h
  have hF' : formF f = true := by simpa using hF
  have hS : 0 < (sL (formS f)).length := by rw [sL_len]; exact (formF_pos hF').1
  have := allK_fwd (again := formA f) hS l [] (W.length + 1) (by simpa using hfi) (by simpa using hw) (by rw [List.length_nil, h]; omega)
  rw [List.length_nil, h, List.nil_append] at this
  rw [readP_ok hF' (by omega) this, if_pos rfl, if_neg h200]
/-! ### And back -/
theorem takeV_bwd {S B C : List Int} {i : Nat} {x : PV} {c : Int} (hc : S.getD (i % S.length) 0 = c) (hb : byteL B) (h : takeV S i B = .ok (x, C)) : B = valB x c ++ C ∧ mayB x c = true ∧ byteL C ∧ C.length < B.length := by
  unfold takeV at h
  rw [hc] at h
  split at h
  · rename_i h1
    split at h
    · cases h
    rename_i n C' hN
    simp only [Except.ok.injEq, Prod.mk.injEq] at h
    obtain ⟨rfl, rfl⟩ := h
    obtain ⟨h2, h3⟩ := takeN_num hN hb
    exact ⟨by rw [valB, if_pos h1]; exact h2, by rw [h1, mayB_num]; exact h3, (takeN_byte hN hb).1, takeN_lt hN hb⟩
  · rename_i h1
    split at h
    · cases h
    rename_i y C' hT
    simp only [Except.ok.injEq, Prod.mk.injEq] at h
    obtain ⟨rfl, rfl⟩ := h
    obtain ⟨h2, h3, h4, h5, n, h6, h7⟩ := takeT_byte hT hb
    obtain ⟨h8, _⟩ := takeN_num h6 hb
    refine ⟨?_, ?_, h2, h3⟩
    · rw [valB, if_neg h1]
      show B = numB ((strOfV (bts y)).size : Int) ++ sL (strOfV (bts y)) ++ C'
      rw [strOfV_size h4, sL_strOfV h4, h7, List.append_assoc]; exact h8
    · rw [mayB, if_neg h1]
      show (decide ((0 : Int) = 0) && decide ((strOfV (bts y)).size ≤ 1000)) = true
      rw [strOfV_size h4]
      simp; omega
theorem allK_bwd {S : List Int} {again : Bool} : ∀ (f : Nat) (l : List PV) (B : List Int) {m : List PV} {C : List Int}, byteL B → (again = false → l.length ≤ S.length) → allK S again f l B = .ok (m, C) →
    ∃ r, m = l ++ r ∧ B = bytesP S l.length r ++ C ∧ fitsV S l.length r = true ∧ moreB S again m.length C = false ∧ (again = false → m.length ≤ S.length)
  | 0, l, B, m, C, hb, hl, h => by simp [allK] at h
  | f + 1, l, B, m, C, hb, hl, h => by
    rw [allK] at h
    split at h
    · rename_i hm
      split at h
      · cases h
      rename_i x D hv
      obtain ⟨c, hc⟩ : ∃ c, S.getD (l.length % S.length) 0 = c := ⟨_, rfl⟩
      obtain ⟨h1, h2, h3, h4⟩ := takeV_bwd hc hb hv
      have hll : (l ++ [x]).length = l.length + 1 := by simp
      obtain ⟨r, g1, g2, g3, g4, g5⟩ := allK_bwd f (l ++ [x]) D h3 (fun e => by
        rw [e] at hm
        simp [moreB] at hm
        rw [hll]; omega) h
      rw [hll] at g2 g3
      refine ⟨x :: r, by rw [g1, List.append_assoc]; rfl, ?_, ?_, g4, g5⟩
      · rw [bytesP, hc, List.append_assoc, ← g2]; exact h1
      · rw [fitsV, hc, h2, g3]; rfl
    · rename_i hm
      simp only [Except.ok.injEq, Prod.mk.injEq] at h
      obtain ⟨rfl, rfl⟩ := h
      exact ⟨[], by simp, by simp [bytesP], rfl, by simpa using hm, hl⟩
theorem read_write {f : ByteArray} {B : List Int} {m : List PV} (hb : byteL B) (h : readP f B = (m, 0)) : writeP f m = (B, 0) ∧ m.length ≤ 200 := by
  unfold readP at h
  split at h
  · cases h
  rename_i hF
  split at h
  · cases h
  split at h
  · rename_i l hal
    split at h
    · cases h
    rename_i h200
    simp only [Prod.mk.injEq, and_true] at h
    subst h
    unfold allR at hal
    split at hal
    · cases hal
    rename_i l' C hK
    split at hal
    · rename_i hC
      cases hal
      subst hC
      obtain ⟨r, g1, g2, g3, g4, g5⟩ := allK_bwd _ _ _ hb (fun _ => Nat.zero_le _) hK
      rw [List.nil_append] at g1
      subst g1
      rw [List.append_nil] at g2
      have hw : wrongL (sL (formS f)) (formA f) l.length = false := by
        simp only [moreB] at g4
        simp only [wrongL]
        cases hA : formA f
        · rw [hA] at g4 g5
          have := g5 rfl
          simp at g4 ⊢
          omega
        · rw [hA] at g4
          simpa using g4
      refine ⟨?_, by omega⟩
      rw [writeP, if_neg hF, if_neg (by simp [hw]), if_neg (by rw [show fitsV (sL (formS f)) 0 l = true from g3]; simp), if_neg h200]
      rw [← show B = bytesP (sL (formS f)) 0 l from g2]
    · cases hal
  · rename_i e hal
    simp only [Prod.mk.injEq] at h
    have := allR_e hb hal
    omega
theorem readP_e {f : ByteArray} {B : List Int} (h : (readP f B).2 ≠ 0) : (readP f B).1 = [] := by
  revert h
  unfold readP
  repeat' split
  all_goals simp
theorem fits_size {S : List Int} : ∀ (l : List PV) (i : Nat), fitsV S i l = true → ∀ x ∈ l, x.t.size ≤ 1000
  | [], _, _, x, hx => by cases hx
  | y :: l, i, h, x, hx => by
    simp only [fitsV, Bool.and_eq_true] at h
    rcases List.mem_cons.1 hx with rfl | hx
    · by_cases hc : S.getD (i % S.length) 0 = 110
      · rw [hc] at h
        have := may_n h.1
        omega
      · exact (may_t hc h.1).2
    · exact fits_size l (i + 1) h.2 x hx
theorem write_size {f : ByteArray} {m : List PV} {B : List Int} (h : writeP f m = (B, 0)) : ∀ x ∈ m, x.t.size ≤ 1000 := by
  unfold writeP at h
  split at h
  · cases h
  split at h
  · cases h
  split at h
  · cases h
  rename_i hfi
  exact fits_size m 0 (by simpa using hfi)
theorem writeP_byte {f : ByteArray} {l : List PV} : byteL (writeP f l).1 := by
  have key : ∀ (S : List Int) (l : List PV) (i : Nat), byteL (bytesP S i l) := by
    intro S l
    induction l with
    | nil => intro i x hx; cases hx
    | cons y l ih =>
      intro i x hx
      rcases List.mem_append.1 hx with h | h
      · exact valB_byte x h
      · exact ih _ x h
  unfold writeP
  repeat' split
  all_goals first | exact key _ _ _ | (intro x hx; cases hx)
end Go.Proofs.YtgmcflbbdpbkeaaDoor
