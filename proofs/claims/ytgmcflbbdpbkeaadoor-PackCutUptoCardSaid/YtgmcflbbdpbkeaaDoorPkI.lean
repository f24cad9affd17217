/- A reader takes a text; it panics, where there is none. -/
import Derived.Test.YtgmcflbbdpbkeaaDoorPkH
namespace Go.Proofs.YtgmcflbbdpbkeaaDoor
open Go Go.VX Go.RowKit
set_option linter.unusedVariables false
set_option linter.unusedSimpArgs false
set_option maxHeartbeats 20000000
set_option maxRecDepth 100000

theorem takeN_num {B C : List Int} {n : Int} (h : takeN B = .ok (n, C)) (hb : byteL B) : B = numB n ++ C ∧ numOK n = true := by
  unfold takeN at h
  split at h
  · cases h
  rename_i u B' ht
  split at h
  · rename_i hok
    simp only [Except.ok.injEq, Prod.mk.injEq] at h
    obtain ⟨rfl, rfl⟩ := h
    exact ⟨take_num ht hb, hok⟩
  · cases h
theorem takeN_byte {B C : List Int} {n : Int} (h : takeN B = .ok (n, C)) (hb : byteL B) : byteL C ∧ C.length ≤ B.length := by
  have h1 := (takeN_num h hb).1
  exact ⟨fun x hx => hb x (by rw [h1]; exact List.mem_append_right _ hx), by rw [h1, List.length_append]; omega⟩
/-- A text is taken. -/
def takeT (B : List Int) : Except Int (List Int × List Int) :=
  match takeN B with
  | .error e => .error e
  | .ok (n, C) => if n < 0 ∨ 1000 < n then .error 2 else if C.length < n.toNat then .error 3 else .ok (C.take n.toNat, C.drop n.toNat)
theorem takeT_err {B : List Int} {e : Int} (h : takeN B = .error e) : takeT B = .error e := by rw [takeT, h]
theorem rtext_spec (B : List Int) (hb : byteL B) (hBl : B.length < 1099511627776) : VCQ P 32 [.ptr 0 1 0] [rdr B] (fun r ob' => ∃ t C, takeT B = .ok (sL t, C) ∧ r = .str t ∧ ob' = [rdr C]) (fun v ob' => panR (takeT B) v ob') := by
  refine VCQ_of_vwq_k ent_32 Tryd.func32 rfl (by simp) fun R hR => ?_
  refine vwq_sq [0] fun K1 hK1 => vwq_of (vwp_region hT ?_)
  simp
  refine hK1 _ ?_
  try clear hK1 K1
  refine vwq_sq [0] fun K2 hK2 => vwq_region hT ?_
  simp
  refine vcallQ_k [0] (rnumber_spec B hb hBl) ?_ (by
    rintro v ob' ⟨e, B', h, rfl, rfl⟩
    simp
    exact panR_mk (takeT_err h) B')
  rintro r ob' ⟨n, C, hN, rfl, rfl⟩
  simp
  refine hK2 _ ?_
  try clear hK2 K2
  refine vwq_seq_k fun K3 hK3 => ?_
  refine vwq_block ?_
  refine vwq_seq_k fun K4 hK4 => ?_
  obtain ⟨hCb, hCl⟩ := takeN_byte hN hb
  have htt : takeT B = if n < 0 ∨ 1000 < n then .error 2 else if C.length < n.toNat then .error 3 else .ok (C.take n.toNat, C.drop n.toNat) := by rw [takeT, hN]
  have hcs : n < 0 ∨ (0 ≤ n ∧ 1000 < n) ∨ (0 ≤ n ∧ n ≤ 1000) := by omega
  rcases hcs with h0 | ⟨h0, h1⟩ | ⟨h0, h1⟩
  · have hbad : takeT B = .error 2 := by rw [htt, if_pos (.inl h0)]
    refine vwq_live [0, 3] (vwq_of (vwp_region hT ?_))
    simp [h0]
    refine hK4 _ ?_
    try clear hK4 K4
    refine vwq_cond (by first | rfl | (simp; rfl)) (fun h1 => ?_) fun h1 => ?_
    · simp -failIfUnchanged at h1; all_goals
     refine vwq_region hT ?_
     simp
     exact panR_mk hbad _
    · simp -failIfUnchanged at h1; all_goals
     refine vwq_seq_k fun K5 hK5 => ?_
     exfalso
     first | omega | simp at *
  · have h0n : ¬ n < 0 := by omega
    have hbad : takeT B = .error 2 := by rw [htt, if_pos (.inr h1)]
    refine vwq_live [0, 3] (vwq_of (vwp_region hT ?_))
    simp [h0n, h1]
    refine hK4 _ ?_
    try clear hK4 K4
    refine vwq_cond (by first | rfl | (simp; rfl)) (fun h2 => ?_) fun h2 => ?_
    · simp -failIfUnchanged at h2; all_goals
     refine vwq_region hT ?_
     simp
     exact panR_mk hbad _
    · simp -failIfUnchanged at h2; all_goals
     refine vwq_seq_k fun K6 hK6 => ?_
     exfalso
     first | omega | simp at *
  · obtain ⟨m, rfl⟩ := Int.eq_ofNat_of_zero_le h0
    have h0n : ¬ (m : Int) < 0 := by omega
    have h1n : ¬ (1000 : Int) < (m : Int) := by omega
    rw [if_neg (by omega), Int.toNat_natCast] at htt
    refine vwq_live [0, 3] (vwq_of (vwp_region hT ?_))
    simp [h0n, h1n]
    refine hK4 _ ?_
    try clear hK4 K4
    refine vwq_cond (by first | rfl | (simp; rfl)) (fun h3 => ?_) fun h3 => ?_
    · simp -failIfUnchanged at h3; all_goals
     exfalso
     first | omega | simp at *
    · simp -failIfUnchanged at h3; all_goals
     have w1 : IntKind.i64.wrap (m : Int) = (m : Int) := w64 (by omega) (by omega)
     refine vwq_sq [0, 3] fun K7 hK7 => vwq_of (vwp_region hT ?_)
     simp [w1]
     refine hK7 _ ?_
     try clear hK7 K7
     refine vwq_cond (by first | rfl | (simp; rfl)) (fun h4 => ?_) fun h4 => ?_
     · simp -failIfUnchanged at h4; all_goals
      have q := h4
      have hbad : takeT B = .error 3 := by rw [htt, if_pos (by omega)]
      refine vwq_region hT ?_
      simp
      exact panR_mk hbad _
     · simp -failIfUnchanged at h4; all_goals
      have q := h4
      rw [if_neg (by omega)] at htt
      refine vwq_skip ?_
      refine hK3 _ ?_
      try clear hK3 K3
      obtain ⟨C1, hC1⟩ : ∃ C1, C1 = C.take m := ⟨_, rfl⟩
      obtain ⟨C2, hC2⟩ : ∃ C2, C2 = C.drop m := ⟨_, rfl⟩
      rw [← hC1, ← hC2] at htt
      have hC1l : C1.length = m := by rw [hC1, List.length_take]; omega
      have hC2l : C2.length = C.length - m := by rw [hC2, List.length_drop]
      have hb1 : byteL C1 := fun x hx => hCb x (by rw [hC1] at hx; exact List.mem_of_mem_take hx)
      have ht1 : List.take m (bts C) = bts C1 := by rw [hC1, ← List.map_take]
      have hd1 : List.drop m (bts C) = bts C2 := by rw [hC2, ← List.map_drop]
      obtain ⟨t, ht⟩ : ∃ t, t = strOfV (bts C1) := ⟨_, rfl⟩
      have hts : sL t = C1 := by rw [ht]; exact sL_strOfV hb1
      have htk2 : List.take C2.length (bts C2) = bts C2 := List.take_of_length_le (by simp)
      refine vwq_sq [0, 3] fun K8 hK8 => vwq_of (vwp_region hT ?_)
      simp [ht1, hC1l, ← ht]
      repeat refine ⟨by first | assumption | omega | (intros; omega), ?_⟩
      refine hK8 _ ?_
      try clear hK8 K8
      refine vwq_sq [0, 3, 4] fun K9 hK9 => vwq_of (vwp_region hT ?_)
      simp [hd1, ← hC2l, htk2]
      repeat refine ⟨by first | assumption | omega | (intros; omega), ?_⟩
      refine hK9 _ ?_
      try clear hK9 K9
      refine vwq_sq [4] fun K10 hK10 => vwq_of (vwp_region hT ?_)
      simp
      refine hK10 _ ?_
      try clear hK10 K10
      refine vwq_ret (hR _ _ ?_)
      exact ret_k [2] [0] [rdr C2] (.str t) ⟨t, C2, by rw [htt, hts], rfl, rfl⟩
end Go.Proofs.YtgmcflbbdpbkeaaDoor
