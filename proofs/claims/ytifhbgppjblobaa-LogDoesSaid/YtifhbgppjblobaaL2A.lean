/- A record's sectors, by the document. -/
import Derived.Test.YtifhbgppjblobaaLogZ
namespace Go.Proofs.Ytifhbgppjblobaa
open Go Go.VX Go.RowKit
set_option linter.unusedVariables false
set_option linter.unusedSimpArgs false
set_option maxHeartbeats 20000000
set_option maxRecDepth 100000

/-- A record's sectors, one behind the other. -/
def flatL (b : List Int) (gen place : Nat) : List Int := ((secL b gen place).map pad).flatten
theorem chk_full {L : List Int} {k : Nat} (h : 32 * (k + 1) ≤ L.length) : pad (chk L k) = chk L k := by
  have : (chk L k).length = 32 := by simp; omega
  simp [pad, this]
theorem flat_full (L : List Int) : ∀ k, 32 * k ≤ L.length → ((chs L k).map pad).flatten = L.take (32 * k)
  | 0, _ => by simp [chs]
  | k + 1, h => by
    rw [chs_succ, List.map_append, List.flatten_append, flat_full L k (by omega)]
    simp only [List.map_cons, List.map_nil, List.flatten_cons, List.flatten_nil, List.append_nil]
    rw [chk_full h, show 32 * (k + 1) = 32 * k + 32 by omega, List.take_add (l := L) (i := 32 * k) (j := 32)]
theorem flat_all (L : List Int) : ((chs L (nch L)).map pad).flatten = L ++ List.replicate (32 * nch L - L.length) 0 := by
  by_cases h : 32 * nch L = L.length
  · rw [flat_full L _ (by omega), h]; simp
  · have hn : 32 * nch L - 31 ≤ L.length ∧ L.length ≤ 32 * nch L := by unfold nch; omega
    obtain ⟨k, hk⟩ : ∃ k, nch L = k + 1 := ⟨nch L - 1, by unfold nch at *; omega⟩
    rw [hk] at hn h ⊢
    rw [chs_succ, List.map_append, List.flatten_append, flat_full L k (by omega)]
    simp only [List.map_cons, List.map_nil, List.flatten_cons, List.flatten_nil, List.append_nil]
    have e1 : chk L k = L.drop (32 * k) := List.take_of_length_le (by simp; omega)
    rw [e1, pad, ← List.append_assoc, List.take_append_drop]
    congr 2
    rw [List.length_drop]; omega
theorem flatL_eq (b : List Int) (gen place : Nat) : flatL b gen place = firstL b gen place ++ (b.drop 17 ++ List.replicate (32 * nch (b.drop 17) - (b.length - 17)) 0) := by
  unfold flatL secL
  rw [List.map_cons, List.flatten_cons, flat_all, pad_first, List.length_drop]
theorem flatL_len (b : List Int) (gen place : Nat) : (flatL b gen place).length = 32 * (secL b gen place).length := by
  rw [flatL_eq, secL_length]
  simp only [List.length_append, first_len, List.length_replicate, List.length_drop]
  unfold nch
  rw [List.length_drop]
  omega
theorem sumL_eq {b : List Int} {gen place : Nat} : sumL b gen place = moreN 0 (topL b.length gen place ++ b) := moreN_append (topL_byte _ _ _) 0
theorem laid_ref (b : List Int) (gen place : Nat) (hl : b.length ≤ 200) (hb : byteL b) (hg : gen < 4294967296) (hp : place < 4294967296) : VC P 19 [sB b, .int .i64 (gen : Int), .int .i64 (place : Int)] [] (fun r ob' => r = .sl 0 (32 * (secL b gen place).length) 1 0 (32 * (secL b gen place).length) ∧ ob' = [.live (bts (flatL b gen place))]) := by
  refine VC_of_vwp_k ent_19 Try.func19 rfl (by simp) fun R hR => ?_
  refine vwp_sq [0, 1, 2] fun K1 hK1 => vwp_region hT ?_
  simp
  refine hK1 _ ?_
  try clear hK1 K1
  obtain ⟨g4, hg4⟩ : ∃ g4, g4 = laidB gen 4 := ⟨_, rfl⟩
  obtain ⟨p4, hp4⟩ : ∃ p4, p4 = laidB place 4 := ⟨_, rfl⟩
  have hg4l : g4.length = 4 := by rw [hg4, laidB_len]
  have hp4l : p4.length = 4 := by rw [hp4, laidB_len]
  have g4k : List.take 4 (bts g4) = bts g4 := List.take_of_length_le (by simp [hg4l])
  have p4k : List.take 4 (bts p4) = bts p4 := List.take_of_length_le (by simp [hp4l])
  have hf1 := four_spec gen (by omega)
  have hf2 := four_spec place (by omega)
  rw [← hg4] at hf1
  rw [← hp4] at hf2
  obtain ⟨bl, hbl⟩ : ∃ bl, bl = b.length := ⟨_, rfl⟩
  obtain ⟨c1, hc1⟩ : ∃ c1, c1 = bl / 256 := ⟨_, rfl⟩
  have t1 : (bl : Int).tdiv 256 = (c1 : Int) := by rw [hc1]; rfl
  have x1 : IntKind.i64.wrap (c1 : Int) = (c1 : Int) := w64 (by omega) (by omega)
  have w1 : IntKind.u8.wrap (c1 : Int) = ((c1 % 256 : Nat) : Int) := (wu8 (by omega)).trans (by omega)
  have w2 : IntKind.u8.wrap (bl : Int) = ((bl % 256 : Nat) : Int) := (wu8 (by omega)).trans (by omega)
  obtain ⟨tp, htp⟩ : ∃ tp, tp = topL bl gen place := ⟨_, rfl⟩
  have htpe : tp = [((c1 % 256 : Nat) : Int), ((bl % 256 : Nat) : Int)] ++ g4 ++ p4 := by rw [htp, topL, laidB2, hg4, hp4, hc1]
  have htpl : tp.length = 10 := by rw [htp, topL_len]
  have htpb : byteL tp := by rw [htp]; exact topL_byte _ _ _
  refine vwp_sq [0, 1, 2] fun K2 hK2 => vwp_region hT ?_
  simp [g4k, p4k, ← hbl, t1, x1, w1, w2, hg4l, hp4l]
  repeat refine ⟨by first | assumption | omega | (intros; omega), ?_⟩
  refine vcall_k [] (hf1) ?_
  rintro r ob' ⟨rfl, rfl⟩
  simp [g4k, p4k, ← hbl, t1, x1, w1, w2, hg4l, hp4l]
  repeat refine ⟨by first | assumption | omega | (intros; omega), ?_⟩
  refine vcall_k [] (hf2) ?_
  rintro r ob' ⟨rfl, rfl⟩
  simp [g4k, p4k, ← hbl, t1, x1, w1, w2, hg4l, hp4l]
  repeat refine ⟨by first | assumption | omega | (intros; omega), ?_⟩
  refine hK2 _ ?_
  try clear hK2 K2
  refine vwp_gh (st' := ⟨[(0, sB b), (1, .int .i64 (gen : Int)), (2, .int .i64 (place : Int)), (7, .sl 0 10 1 0 10)], [.live (bts tp)]⟩) (Gh.to_k [0, 1, 2, 7] [0] (hh := by rw [htpe]; simp [g4k, p4k])) ?_
  have tk10 : List.take 10 (bts tp) = bts tp := List.take_of_length_le (by simp [htpl])
  have tk10b : List.take (10 + bl) (bts tp ++ bts b) = bts tp ++ bts b := List.take_of_length_le (by simp [htpl, hbl])
  have hsm := rsum_spec (tp ++ b) (by simp; omega) (byteL_append htpb hb)
  obtain ⟨sm, hsme⟩ : ∃ sm, sm = moreN 0 (tp ++ b) := ⟨_, rfl⟩
  have hsml : sm < 4294967296 := by rw [hsme]; exact moreN_lt _ _
  rw [← hsme] at hsm
  refine vwp_sq [0, 7] fun K3 hK3 => vwp_region hT ?_
  simp [← hbl, htpl, tk10, tk10b]
  repeat refine ⟨by first | assumption | omega | (intros; omega), ?_⟩
  refine vcall_z [] (hsm) (by rintro r ob' ⟨rfl, rfl⟩; simp) ?_ (ha := by simp [htpl, ← hbl, tk10, tk10b]) (hok := by simp [htpl, ← hbl, tk10, tk10b]; rintro c (⟨a, _, rfl⟩ | ⟨a, _, rfl⟩) <;> rfl)
  rintro r ob' ⟨rfl, rfl⟩
  simp [← hbl, htpl, tk10, tk10b]
  repeat refine ⟨by first | assumption | omega | (intros; omega), ?_⟩
  refine hK3 _ ?_
  try clear hK3 K3
  refine vwp_gh (st' := ⟨[(0, sB b), (7, .sl 0 10 1 0 10), (8, .int .u32 (sm : Int))], [.live (bts tp)]⟩) (Gh.to_k [0, 7, 8] [0] (hh := by simp)) ?_
  obtain ⟨m, hm3⟩ : ∃ m, m = min bl 17 := ⟨_, rfl⟩
  have hmi : (if (17 : Int) < (bl : Int) then (17 : Int) else (bl : Int)) = (m : Int) := by split <;> omega
  have hmi2 : (if (bl : Int) < (17 : Int) then (bl : Int) else (17 : Int)) = (m : Int) := by split <;> omega
  have hmi3 : min (bl : Int) 17 = (m : Int) := by omega
  refine vwp_sq [0, 7, 8] fun K4 hK4 => vwp_region hT ?_
  simp [← hbl, hmi, hmi2, hmi3]
  repeat refine ⟨by first | assumption | omega | (intros; omega), ?_⟩
  refine hK4 _ ?_
  try clear hK4 K4
  have wi : IntKind.i64.wrap (sm : Int) = (sm : Int) := w64 (by omega) (by omega)
  have hf3 := four_spec sm (by omega)
  obtain ⟨s4, hs4⟩ : ∃ s4, s4 = laidB sm 4 := ⟨_, rfl⟩
  have hs4l : s4.length = 4 := by rw [hs4, laidB_len]
  rw [← hs4] at hf3
  have htk : List.take m (bts b) = bts (b.take 17) := by
    rw [← List.map_take]
    congr 1
    rw [hm3]
    by_cases h : 17 ≤ bl
    · rw [Nat.min_eq_right h]
    · rw [Nat.min_eq_left (by omega), List.take_of_length_le (by omega), List.take_of_length_le (by omega)]
  have hb17 : (b.take 17).length = m := by rw [List.length_take]; omega
  obtain ⟨b1, hb1⟩ : ∃ b1, b1 = b.take 17 := ⟨_, rfl⟩
  rw [← hb1] at htk hb17
  have hfl := filled_spec (tp ++ s4 ++ b1) (by simp; omega)
  obtain ⟨F, hF⟩ : ∃ F, F = markL (tp ++ s4 ++ b1) := ⟨_, rfl⟩
  have hFl : F.length = 32 := by rw [hF]; exact markL_len (by simp; omega)
  have hF2 : F = firstL b gen place := by
    rw [hF, htp, hs4, hb1, hsme, htp, hbl, firstL, sumL_eq]
  rw [← hF] at hfl
  have s4k : List.take 4 (bts s4) = bts s4 := List.take_of_length_le (by simp [hs4l])
  have tk14 : List.take (14 + m) (bts tp ++ (bts s4 ++ bts b1)) = bts tp ++ (bts s4 ++ bts b1) := List.take_of_length_le (by simp; omega)
  refine vwp_sq [0, 7, 8, 9] fun K5 hK5 => vwp_storm hT hm [.pure, .pure, .win 0 0, .mv, .mv, .pure, .pure, .win 0 2, .mv, .mv, .pure] [[], [], [1], [1, 2], [0, 1, 2, 3], [], [], [5, 6], [0, 1, 2, 3, 4, 5, 6, 7], [0, 1, 2, 3, 4, 5, 6, 7, 8], [0, 1, 2, 3, 4, 5, 6, 7, 8, 9]] (by kernel_rfl) ?_
  simp [s4k, tk10, wi, htk, htpl, hs4l, hb17, ← hbl]
  repeat refine ⟨by first | assumption | omega | (intros; omega), ?_⟩
  refine ⟨.sl 1 4 1 0 4, [.live (bts tp), .live (bts s4)], fun sl => ?_, ?_⟩
  · refine vcall_k [] (hf3) ?_
    rintro r ob' ⟨rfl, rfl⟩
    simp
  simp [s4k, tk10, wi, htk, htpl, hs4l, hb17, ← hbl]
  repeat refine ⟨by first | assumption | omega | (intros; omega), ?_⟩
  refine ⟨.sl 2 32 1 0 32, [.live (bts (tp ++ s4 ++ b1)), .live (bts s4), .live (bts F)], fun sl => ?_, ?_⟩
  · refine vcall_z [] (hfl) (by rintro r ob' ⟨rfl, rfl⟩; simp) ?_ (ha := by simp [htpl, hs4l, hb17, tk14]; omega) (hok := by simp [htpl, hs4l, hb17, tk14]; refine ⟨by omega, ?_⟩; rintro c (⟨a, _, rfl⟩ | ⟨a, _, rfl⟩ | ⟨a, _, rfl⟩) <;> rfl)
    rintro r ob' ⟨rfl, rfl⟩
    simp
  simp [s4k, tk10, wi, htk, htpl, hs4l, hb17, ← hbl]
  repeat refine ⟨by first | assumption | omega | (intros; omega), ?_⟩
  refine hK5 _ ?_
  try clear hK5 K5
  refine vwp_gh (st' := ⟨[(0, sB b), (9, .int .i64 (m : Int)), (10, .sl 0 32 1 0 32)], [.live (bts F)]⟩) (Gh.to_k [0, 9, 10] [2] (hh := by simp)) ?_
  obtain ⟨b2, hb2⟩ : ∃ b2, b2 = b.drop 17 := ⟨_, rfl⟩
  obtain ⟨L0, hL0⟩ : ∃ L0, L0 = 32 + (bl - m) := ⟨_, rfl⟩
  have hb2l : b2.length = bl - 17 := by rw [hb2, List.length_drop]; omega
  have hdr : List.drop m (bts b) = bts b2 := by
    rw [← List.map_drop, hb2]
    congr 1
    rw [hm3]
    by_cases h : 17 ≤ bl
    · rw [Nat.min_eq_right h]
    · rw [Nat.min_eq_left (by omega), List.drop_of_length_le (by omega), List.drop_of_length_le (by omega)]
  have hdt : List.take (bl - m) (bts b2) = bts b2 := List.take_of_length_le (by simp; omega)
  obtain ⟨Z, hZ⟩ : ∃ Z, Z = 32 * nch b2 - (bl - 17) := ⟨_, rfl⟩
  have hnc : nch b2 = (bl - 17 + 31) / 32 := by unfold nch; rw [hb2l]
  have hLZ : L0 + Z = 32 * (1 + nch b2) ∧ Z < 32 := by omega
  have hsl : (secL b gen place).length = 1 + nch b2 := by rw [secL_length, hb2]
  have hfe : flatL b gen place = F ++ (b2 ++ List.replicate Z 0) := by rw [flatL_eq, hF2, hZ, hb2, hbl]
  have hm17 : m ≤ 17 ∧ m ≤ bl := by omega
  refine vwp_sq [0, 9, 10] fun K6 hK6 => vwp_region hT ?_
  simp [← hbl, hdr, hdt, hFl]
  repeat refine ⟨by first | assumption | omega | (intros; omega), ?_⟩
  refine hK6 _ ?_
  try clear hK6 K6
  refine vwp_seq_k fun K7 hK7 => ?_
  refine vwp_block ?_
  refine vwp_loop_s (fun i : Nat => ⟨[(10, .sl 0 (L0 + i) 1 0 (L0 + i))], [.live (bts (F ++ (b2 ++ List.replicate i 0)))]⟩) (fun i => i ≤ Z) (fun i => Z - i) (0) (Gh.to_k [10] [0] (he := by simp; omega) (hh := by simp)) (by omega) ?_
  rintro i hi
  intro K8 hK8
  refine vwp_seq_k fun K9 hK9 => ?_
  have tm : ((L0 : Int) + (i : Int)).tmod 32 = (((L0 + i) % 32 : Nat) : Int) := rfl
  have htk2 : List.take (L0 + i) (bts (F ++ (b2 ++ List.replicate i 0))) = bts (F ++ (b2 ++ List.replicate i 0)) := List.take_of_length_le (by simp; omega)
  refine vwp_sq [10] fun K10 hK10 => vwp_region hT ?_
  simp [tm, htk2]
  repeat refine ⟨by first | assumption | omega | (intros; omega), ?_⟩
  refine hK10 _ ?_
  try clear hK10 K10
  refine vwp_cond (by first | rfl | (simp; rfl)) (fun h1 => ?_) fun h1 => ?_
  · simp -failIfUnchanged at h1; all_goals
   have q := h1
   have hiZ : i < Z := by omega
   refine vwp_skip ?_
   refine hK9 _ ?_
   try clear hK9 K9
   refine vwp_block ?_
   refine vwp_live [10] (vwp_region hT ?_)
   simp [htk2]
   repeat refine ⟨by first | assumption | omega | (intros; omega), ?_⟩
   exact hK8 (i + 1) _ (Gh.to_k [10] [0] (he := by simp; omega) (hh := by simp [List.replicate_succ'])) (by omega) (by omega)
  · simp -failIfUnchanged at h1; all_goals
   have q := h1
   have hiZ : i = Z := by omega
   refine vwp_exit ?_
   simp only [inBlk, thenQ, if_true]
   refine hK7 _ ?_
   try clear hK7 K7
   refine vwp_sq [10] fun K11 hK11 => vwp_region hT ?_
   simp
   refine hK11 _ ?_
   try clear hK11 K11
   refine vwp_ret (hR _ _ ?_)
   subst hiZ
   rw [hsl, hfe, ← hLZ.1]
   exact ret_k [6] [0] ([.live (bts (F ++ (b2 ++ List.replicate i 0)))]) (.sl 0 (L0 + i) 1 0 (L0 + i)) (⟨rfl, rfl⟩)
end Go.Proofs.Ytifhbgppjblobaa
