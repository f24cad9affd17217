/- A record's sectors. -/
import Derived.Test.YtifhbgppjblobaaLogI
namespace Go.Proofs.Ytifhbgppjblobaa
open Go Go.VX Go.RowKit
set_option linter.unusedVariables false
set_option linter.unusedSimpArgs false
set_option maxHeartbeats 20000000
set_option maxRecDepth 100000
theorem chunk_spec (L : List Int) : VC P 68 [sB L, .int .i64 32] [] (fun r ob' => r = .fn 76 [.ptr 0 1 0, .ptr 1 1 0] ∧ ob' = [.live [sB L], .live [.int .i64 32]]) := by
  refine VC_of_vwp_k ent_68 Try.func68 rfl (by simp) fun R hR => ?_
  refine vwp_sq [0, 1] fun K1 hK1 => vwp_region hT ?_
  simp
  refine hK1 _ ?_
  try clear hK1 K1
  refine vwp_seq_k fun K2 hK2 => ?_
  refine vwp_sq [2, 3] fun K3 hK3 => vwp_region hT ?_
  simp
  refine hK3 _ ?_
  try clear hK3 K3
  refine vwp_cond (by first | rfl | (simp; rfl)) (fun h1 => ?_) fun h1 => ?_
  · simp -failIfUnchanged at h1; all_goals
   simp at *
  · simp -failIfUnchanged at h1; all_goals
   refine vwp_skip ?_
   refine hK2 _ ?_
   try clear hK2 K2
   refine vwp_sq [2, 3] fun K4 hK4 => vwp_region hT ?_
   simp
   refine hK4 _ ?_
   try clear hK4 K4
   refine vwp_ret (hR _ _ ?_)
   exact ret_k [4] [0, 1] ([.live [sB L], .live [.int .i64 32]]) (.fn 76 [.ptr 0 1 0, .ptr 1 1 0]) (⟨rfl, rfl⟩)

@[simp] theorem chs_zero (L : List Int) : chs L 0 = [] := rfl
theorem chs_len (L : List Int) (k : Nat) : (chs L k).length = k := by simp [chs]
def topL (len gen place : Nat) : List Int := laidB len 2 ++ laidB gen 4 ++ laidB place 4
def sumL (b : List Int) (gen place : Nat) : Nat := moreN (moreN 0 (topL b.length gen place)) b
def firstL (b : List Int) (gen place : Nat) : List Int := markL (topL b.length gen place ++ laidB (sumL b gen place) 4 ++ b.take 17)
def secL (b : List Int) (gen place : Nat) : List (List Int) := firstL b gen place :: chs (b.drop 17) (nch (b.drop 17))
theorem topL_len (a b c : Nat) : (topL a b c).length = 10 := by simp [topL, laidB_len]
theorem topL_byte (a b c : Nat) : byteL (topL a b c) := by
  intro x hx
  simp only [topL, List.mem_append] at hx
  rcases hx with (hx | hx) | hx
  · exact laidB_byte _ _ x hx
  · exact laidB_byte _ _ x hx
  · exact laidB_byte _ _ x hx
theorem sectors2_spec (b : List Int) (gen place : Nat) (hl : b.length ≤ 200) (hb : byteL b) (hg : gen < 4294967296) (hp : place < 4294967296) : VC P 35 [sB b, .int .u32 gen, .int .i64 place] [] (fun r ob' => r = .sl 0 (secL b gen place).length 1 0 (secL b gen place).length ∧ ob' = [.live ((secL b gen place).map sB)]) := by
  refine VC_of_vwp_k ent_35 Try.func35 rfl (by simp) fun R hR => ?_
  refine vwp_sq [0, 1, 2] fun K1 hK1 => vwp_region hT ?_
  simp
  refine hK1 _ ?_
  try clear hK1 K1
  obtain ⟨A, hA⟩ : ∃ A, A = laidB b.length 2 := ⟨_, rfl⟩
  obtain ⟨B, hB⟩ : ∃ B, B = laidB gen 4 := ⟨_, rfl⟩
  obtain ⟨C, hC⟩ : ∃ C, C = laidB place 4 := ⟨_, rfl⟩
  have hAl : A.length = 2 := by rw [hA, laidB_len]
  have hBl : B.length = 4 := by rw [hB, laidB_len]
  have hCl : C.length = 4 := by rw [hC, laidB_len]
  have hsA := laid_spec b.length 2 (by omega) (by decide)
  have hsB := laid_spec gen 4 hg (by decide)
  have hsC := laid_spec place 4 hp (by decide)
  rw [← hA] at hsA
  rw [← hB] at hsB
  rw [← hC] at hsC
  have w1 : IntKind.u32.wrap (b.length : Int) = (b.length : Int) := wu32 (by omega) (by omega)
  have w2 : IntKind.u32.wrap (place : Int) = (place : Int) := wu32 (by omega) (by omega)
  obtain ⟨T10, hT10⟩ : ∃ T10, T10 = A ++ B ++ C := ⟨_, rfl⟩
  have hTl : T10.length = 10 := by rw [hT10]; simp; omega
  have hTt : T10 = topL b.length gen place := by rw [hT10, hA, hB, hC]; rfl
  have hTb : byteL T10 := by rw [hTt]; exact topL_byte _ _ _
  have hcat : catL [A, B, C] = T10 := by rw [hT10]; simp [catL]
  have hcc := bconcat_spec [A, B, C] (by simp) (by rw [hcat]; omega)
  rw [hcat] at hcc
  refine vwp_sq [0, 1, 2, 6] fun K2 hK2 => vwp_region hT ?_
  simp [w1, w2]
  repeat refine ⟨by first | assumption | omega | (intros; omega), ?_⟩
  refine vcall_k [] (hsA) ?_
  rintro r ob' ⟨rfl, rfl⟩
  simp [w1, w2]
  repeat refine ⟨by first | assumption | omega | (intros; omega), ?_⟩
  refine vcall_k [] (hsB) ?_
  rintro r ob' ⟨rfl, rfl⟩
  simp [w1, w2]
  repeat refine ⟨by first | assumption | omega | (intros; omega), ?_⟩
  refine vcall_k [] (hsC) ?_
  rintro r ob' ⟨rfl, rfl⟩
  simp [w1, w2]
  repeat refine ⟨by first | assumption | omega | (intros; omega), ?_⟩
  refine vcall_freeze 0 (by rfl) (by intro c hc; simp at hc; obtain ⟨z, _, rfl⟩ := hc; rfl) ?_
  refine vcall_cellFs 0 3 0 (by rfl) (by rfl) (by rfl) (by simp [hAl]) ?_
  refine vcall_freeze 1 (by rfl) (by intro c hc; simp at hc; obtain ⟨z, _, rfl⟩ := hc; rfl) ?_
  refine vcall_cellFs 1 3 1 (by rfl) (by rfl) (by rfl) (by simp [hBl]) ?_
  refine vcall_freeze 2 (by rfl) (by intro c hc; simp at hc; obtain ⟨z, _, rfl⟩ := hc; rfl) ?_
  refine vcall_cellFs 2 3 2 (by rfl) (by rfl) (by rfl) (by simp [hCl]) ?_
  refine vcall_freeze 3 (by rfl) (by simp) ?_
  refine vcall_k [] (hcc) ?_ (ha := by simp [hAl, hBl, hCl, List.take_of_length_le]) (hok := by simp)
  rintro r ob' ⟨rfl, rfl⟩
  simp [w1, w2]
  repeat refine ⟨by first | assumption | omega | (intros; omega), ?_⟩
  refine hK2 _ ?_
  try clear hK2 K2
  obtain ⟨s0, hs0⟩ : ∃ s0, s0 = moreN 0 T10 := ⟨_, rfl⟩
  have hs0l : s0 < 4294967296 := by rw [hs0]; exact moreN_lt _ _
  have hsum := sum_spec T10 (by omega) hTb
  rw [← hs0] at hsum
  obtain ⟨s1, hs1⟩ : ∃ s1, s1 = moreN s0 b := ⟨_, rfl⟩
  have hs1l : s1 < 4294967296 := by rw [hs1]; exact moreN_lt _ _
  have hmore := more_spec s0 b hs0l (by omega) hb
  rw [← hs1] at hmore
  have hsl : s1 = sumL b gen place := by rw [hs1, hs0, hTt]; rfl
  obtain ⟨D, hD⟩ : ∃ D, D = laidB s1 4 := ⟨_, rfl⟩
  have hDl : D.length = 4 := by rw [hD, laidB_len]
  have hsD := laid_spec s1 4 hs1l (by decide)
  rw [← hD] at hsD
  refine vwp_sq [0, 6, 7] fun K3 hK3 => vwp_region hT ?_
  simp
  refine vcall_z [] (hsum) (by rintro r ob' ⟨rfl, rfl⟩; simp) ?_ (ha := by simp [hTl, List.take_of_length_le]) (hok := by simp [hTl])
  rintro r ob' ⟨rfl, rfl⟩
  simp
  refine vcall_k [] (hmore) ?_
  rintro r ob' ⟨rfl, rfl⟩
  simp
  refine vcall_k [] (hsD) ?_
  rintro r ob' ⟨rfl, rfl⟩
  simp
  refine hK3 _ ?_
  try clear hK3 K3
  obtain ⟨m, hm17⟩ : ∃ m, m = min b.length 17 := ⟨_, rfl⟩
  have w3 : (if (17 : Int) < (b.length : Int) then (17 : Int) else (b.length : Int)) = (m : Int) := by split <;> omega
  have w3b : (if (b.length : Int) < (17 : Int) then (b.length : Int) else (17 : Int)) = (m : Int) := by split <;> omega
  refine vwp_sq [0, 6, 7, 8] fun K4 hK4 => vwp_region hT ?_
  simp [w3, w3b]
  repeat refine ⟨by first | assumption | omega | (intros; omega), ?_⟩
  refine hK4 _ ?_
  try clear hK4 K4
  obtain ⟨b1, hb1⟩ : ∃ b1, b1 = b.take 17 := ⟨_, rfl⟩
  have hb1l : b1.length = m := by rw [hb1, List.length_take]; omega
  have hbt : List.take m (bts b) = bts b1 := by
    rw [hb1, ← List.map_take]
    congr 1
    rcases Nat.lt_or_ge b.length 17 with h | h
    · rw [List.take_of_length_le (by omega), List.take_of_length_le (by omega)]
    · have : m = 17 := by omega
      rw [this]
  have hcat2 : catL [T10, D, b1] = T10 ++ D ++ b1 := by simp [catL]
  have hmk := marked_spec [T10, D, b1] (by simp) (by rw [hcat2]; simp; omega)
  rw [hcat2] at hmk
  obtain ⟨F, hF⟩ : ∃ F, F = markL (T10 ++ D ++ b1) := ⟨_, rfl⟩
  have hFl : F.length = 32 := by rw [hF]; exact markL_len (by simp; omega)
  rw [← hF] at hmk
  have hFf : F = firstL b gen place := by rw [hF, firstL, hTt, hb1, hD, hsl]
  refine vwp_sq [0, 6, 7, 8, 9] fun K5 hK5 => vwp_region hT ?_
  simp [hbt]
  repeat refine ⟨by first | assumption | omega | (intros; omega), ?_⟩
  refine vcall_freeze 4 (by rfl) (by intro c hc; simp at hc; obtain ⟨z, _, rfl⟩ := hc; rfl) ?_
  refine vcall_cellFs 4 6 0 (by rfl) (by rfl) (by rfl) (by simp [hTl]) ?_
  refine vcall_freeze 5 (by rfl) (by intro c hc; simp at hc; obtain ⟨z, _, rfl⟩ := hc; rfl) ?_
  refine vcall_cellFs 5 6 1 (by rfl) (by rfl) (by rfl) (by simp [hDl]) ?_
  refine vcall_freeze 6 (by rfl) (by simp) ?_
  refine vcall_k [] (hmk) ?_ (ha := by simp [hTl, hDl, hb1l, List.take_of_length_le]) (hok := by simp)
  rintro r ob' ⟨rfl, rfl⟩
  simp [hbt]
  repeat refine ⟨by first | assumption | omega | (intros; omega), ?_⟩
  refine hK5 _ ?_
  try clear hK5 K5
  refine vwp_seq_k fun K6 hK6 => ?_
  obtain ⟨L, hL⟩ : ∃ L, L = b.drop 17 := ⟨_, rfl⟩
  have hLl : L.length = b.length - m := by rw [hL, List.length_drop]; omega
  have hbd : List.take (b.length - m) (List.drop m (bts b)) = bts L := by
    rw [List.take_of_length_le (by simp), hL, ← List.map_drop]
    congr 1
    rcases Nat.lt_or_ge b.length 17 with h | h
    · rw [List.drop_of_length_le (by omega), List.drop_of_length_le (by omega)]
    · have : m = 17 := by omega
      rw [this]
  refine vwp_sq [0, 6, 9, 10] fun K7 hK7 => vwp_region hT ?_
  simp [hbd]
  repeat refine ⟨by first | assumption | omega | (intros; omega), ?_⟩
  refine vcall_k [] (chunk_spec L) ?_ (ha := by simp [hLl])
  rintro r ob' ⟨rfl, rfl⟩
  simp [hbd]
  repeat refine ⟨by first | assumption | omega | (intros; omega), ?_⟩
  refine hK7 _ ?_
  try clear hK7 K7
  refine vwp_block ?_
  refine vwp_gh ((Gh.freeze 7 (by rfl) (by intro c hc; simp at hc; obtain ⟨z, _, rfl⟩ := hc; rfl)).trans (Gh.cellFs 7 8 0 (by rfl) (by rfl) (by rfl) (by simp [hFl]))) ?_
  refine vwp_gh (st' := ⟨[(10, .ptr 0 1 0), (42, .fn 76 [.ptr 2 1 0, .ptr 3 1 0])], [.live [.sl 1 1 1 0 1], .live [sB F], .live [sB L], .live [.int .i64 32]]⟩) (Gh.to_k [10, 42] [9, 8, 10, 11] (hh := by simp [hFl, List.take_of_length_le])) ?_
  refine vwp_range [10] rfl fun ac bd hac hbd => ?_
  simp
  refine vcall_k [2, 3, 4, 0, 1] (chunk1_spec L (by omega) (n := 50) (ks := [10]) (vs := [.ptr 3 1 0]) (ps := #[43]) (ac := ac) (bd := bd) (fun i => [.live [.sl 4 (i + 1) 1 0 (i + 1)], .live ((F :: chs L i).map sB)]) (fun i hi => ?_)) ?_
  · refine YC_of_round hac hbd rfl (by simp) (by simp) ?_
    simp only [putL, List.zip_cons_cons, List.zip_nil_left, List.zip_nil_right, List.map]
    refine vwp_live [10, 43] (vwp_region hT ?_)
    simp
    try refine ⟨rfl, ?_⟩
    try simp only [List.set]
    refine vwp_block ?_
    obtain ⟨c, hc⟩ : ∃ c, c = chk L i := ⟨_, rfl⟩
    have hcl : c.length = min 32 (L.length - 32 * i) := by rw [hc, chk]; simp
    have hcn : c ≠ [] := fun e => by rw [e] at hcl; simp at hcl; omega
    have hcsl := chs_len L i
    try rw [← hc]
    refine vwp_live [10, 11] (vwp_storm hT hm [.win 0 2, .pure, .mv, .mv, .mv, .mv] [[], [], [1], [1, 2], [0, 1, 2, 3], [0, 1, 2, 3, 4]] (by kernel_rfl) ?_)
    simp [hcsl]
    repeat refine ⟨by first | assumption | omega | (intros; omega), ?_⟩
    refine ⟨.sl 5 c.length 1 0 c.length, [.live [sB L], .live [.int .i64 32], .loop .busy none 50 [10] [.ptr 3 1 0] #[43] ac bd, .live [.sl 4 (i + 1) 1 0 (i + 1)], .live ((F :: chs L i).map sB), .live (bts c)], fun sl => ?_, ?_⟩
    · refine vcall_k [] (bclone_spec c hcn (by omega)) ?_
      rintro r ob' ⟨rfl, rfl⟩
      simp
    simp [hcsl]
    repeat refine ⟨by first | assumption | omega | (intros; omega), ?_⟩
    refine ⟨⟨[], [.live [sB L], .live [.int .i64 32], .loop .busy none 50 [10] [.ptr 3 1 0] #[43] ac bd, .live [.sl 4 (i + 1 + 1) 1 0 (i + 1 + 1)], .live ((F :: chs L (i + 1)).map sB)]⟩, ((Gh.freeze 5 (by rfl) (by intro c hc; simp at hc; obtain ⟨z, _, rfl⟩ := hc; rfl)).trans (Gh.cellFs 5 4 (i + 1) (tot := c.length) (esz := 1) (off := 0) (n := c.length) (by rfl) (by simp [hcsl]) (by rfl) (by simp))).trans (Gh.to_k [] [0, 1, 2, 3, 4] (hh := by simp [chs_succ, hcsl, ← hc, List.take_of_length_le])), ?_⟩
    refine ⟨_, _, _, _, _, _, _, rfl, rfl, ?_⟩
    simp
  · rintro r ob' rfl
    simp
    refine ⟨_, _, _, _, _, _, _, _, rfl, by simp, ?_⟩
    simp only [inBlk, thenQ, List.set]
    refine hK6 _ ?_
    try clear hK6 K6
    refine vwp_sq [10] fun K8 hK8 => vwp_region hT ?_
    simp
    refine hK8 _ ?_
    try clear hK8 K8
    refine vwp_ret (hR _ _ ?_)
    have hse : secL b gen place = F :: chs L (nch L) := by rw [secL, hFf, hL]
    rw [hse]
    exact ret_k [6] [1] ([.live ((F :: chs L (nch L)).map sB)]) (.sl 0 (F :: chs L (nch L)).length 1 0 (F :: chs L (nch L)).length) (⟨rfl, rfl⟩) (hh := by simp [chs_len]) (hr := by simp [chs_len])
end Go.Proofs.Ytifhbgppjblobaa
