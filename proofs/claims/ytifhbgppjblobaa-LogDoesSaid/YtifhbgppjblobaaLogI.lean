/- Heads of generations; chunks. -/
import Derived.Test.YtifhbgppjblobaaLogH
import Derived.Test.YtifhbgppjblobaaVXc
namespace Go.Proofs.Ytifhbgppjblobaa
open Go Go.VX Go.RowKit
set_option linter.unusedVariables false
set_option linter.unusedSimpArgs false
set_option maxHeartbeats 20000000
set_option maxRecDepth 100000

def headL (gen : Nat) : List Int := markL (laidB gen 4 ++ laidB (moreN 0 (laidB gen 4)) 4)
theorem header_spec (gen : Nat) (hg : gen < 4294967296) : VC P 40 [.int .u32 gen] [] (fun r ob' => r = .sl 0 32 1 0 32 ∧ ob' = [.live (bts (headL gen))]) := by
  refine VC_of_vwp_k ent_40 Try.func40 rfl (by simp) fun R hR => ?_
  refine vwp_sq [0] fun K1 hK1 => vwp_region hT ?_
  simp
  refine hK1 _ ?_
  try clear hK1 K1
  refine vwp_sq [0] fun K2 hK2 => vwp_region hT ?_
  simp
  refine vcall_k [] (laid_spec gen 4 hg (by decide)) ?_
  rintro r ob' ⟨rfl, rfl⟩
  simp
  refine hK2 _ ?_
  try clear hK2 K2
  obtain ⟨A, hA⟩ : ∃ A, A = laidB gen 4 := ⟨_, rfl⟩
  have hAl : A.length = 4 := by rw [hA, laidB_len]
  have hAb : byteL A := by rw [hA]; exact laidB_byte _ _
  obtain ⟨s, hs⟩ : ∃ s, s = moreN 0 A := ⟨_, rfl⟩
  have hsl : s < 4294967296 := by rw [hs]; exact moreN_lt _ _
  have hsum := sum_spec A (by omega) hAb
  rw [← hs] at hsum
  obtain ⟨C, hC⟩ : ∃ C, C = laidB s 4 := ⟨_, rfl⟩
  have hCl : C.length = 4 := by rw [hC, laidB_len]
  have hla := laid_spec s 4 hsl (by decide)
  rw [← hC] at hla
  try rw [← hA]
  have hcat : catL [A, C] = A ++ C := by simp [catL]
  have hmk := marked_spec [A, C] (by simp) (by rw [hcat]; simp; omega)
  rw [hcat] at hmk
  have hh : headL gen = markL (A ++ C) := by rw [headL, ← hA, ← hs, ← hC]
  refine vwp_sq [3] fun K3 hK3 => vwp_region hT ?_
  simp
  refine vcall_z [] (hsum) (by rintro r ob' ⟨rfl, rfl⟩; simp) ?_ (ha := by simp [hAl, List.take_of_length_le]) (hok := by simp [hAl])
  rintro r ob' ⟨rfl, rfl⟩
  simp
  refine vcall_k [] (hla) ?_
  rintro r ob' ⟨rfl, rfl⟩
  simp
  refine vcall_freeze 0 (by rfl) (by intro c hc; simp at hc; obtain ⟨z, _, rfl⟩ := hc; rfl) ?_
  refine vcall_cellFs 0 2 0 (by rfl) (by rfl) (by rfl) (by simp [hAl]) ?_
  refine vcall_freeze 1 (by rfl) (by intro c hc; simp at hc; obtain ⟨z, _, rfl⟩ := hc; rfl) ?_
  refine vcall_cellFs 1 2 1 (by rfl) (by rfl) (by rfl) (by simp [hCl]) ?_
  refine vcall_freeze 2 (by rfl) (by simp) ?_
  refine vcall_k [] (hmk) ?_ (ha := by simp [hAl, hCl, List.take_of_length_le]) (hok := by simp)
  rintro r ob' ⟨rfl, rfl⟩
  simp
  refine hK3 _ ?_
  try clear hK3 K3
  refine vwp_ret (hR _ _ ?_)
  rw [hh]
  exact ret_k [2] [3] ([.live (bts (markL (A ++ C)))]) (.sl 0 32 1 0 32) (⟨rfl, rfl⟩)

abbrev chk (L : List Int) (i : Nat) : List Int := (L.drop (32 * i)).take 32
def nch (L : List Int) : Nat := (L.length + 31) / 32
def chs (L : List Int) (k : Nat) : List (List Int) := (List.range k).map (chk L)
theorem chs_succ (L : List Int) (k : Nat) : chs L (k + 1) = chs L k ++ [chk L k] := by simp [chs, List.range_succ]
theorem chunk1_spec (L : List Int) (hL : L.length < 1099511627776) {n : Nat} {ks : List Nat} {vs : List V} {ps : Array Tmp} {ac bd : Code} (S : Nat → List Ob)
  (hy : ∀ i, 32 * i < L.length → YC P 2 [sB (chk L i)] (.live [sB L] :: .live [.int .i64 32] :: .loop .ready none n ks vs ps ac bd :: S i) (fun r ob' => r = .bool true ∧ ob' = .live [sB L] :: .live [.int .i64 32] :: .loop .ready none n ks vs ps ac bd :: S (i + 1))) : VC P 76 [.yld 2, .ptr 0 1 0, .ptr 1 1 0] (.live [sB L] :: .live [.int .i64 32] :: .loop .ready none n ks vs ps ac bd :: S 0) (fun r ob' => ob' = .live [sB L] :: .live [.int .i64 32] :: .loop .ready none n ks vs ps ac bd :: S (nch L)) := by
  refine VC_of_vwp_k ent_76 Try.func76 rfl (by simp) fun R hR => ?_
  refine vwp_sq [0, 1, 2] fun K1 hK1 => vwp_region hT ?_
  simp
  refine hK1 _ ?_
  try clear hK1 K1
  refine vwp_block ?_
  refine vwp_loop_s (fun z : Nat × Nat => ⟨[(0, .yld 2), (1, .ptr 0 1 0), (2, .ptr 1 1 0), (4, .int .i64 (z.2 : Int))], .live [sB L] :: .live [.int .i64 32] :: .loop .ready none n ks vs ps ac bd :: S z.1⟩) (fun z => z.2 = 32 * z.1 ∧ z.2 ≤ L.length + 31) (fun z => L.length + 32 - z.2) (0, 0) (Gh.pick [0, 1, 2, 4]) ⟨rfl, by simp⟩ ?_
  rintro ⟨i, o⟩ ⟨ho, hi⟩
  dsimp only at ho hi ⊢
  intro K2 hK2
  refine vwp_seq_k fun K3 hK3 => ?_
  refine vwp_sq [0, 1, 2, 4] fun K4 hK4 => vwp_region hT ?_
  simp
  refine hK4 _ ?_
  try clear hK4 K4
  refine vwp_cond (by first | rfl | (simp; rfl)) (fun h1 => ?_) fun h1 => ?_
  · simp -failIfUnchanged at h1; all_goals
   refine vwp_skip ?_
   refine hK3 _ ?_
   try clear hK3 K3
   refine vwp_seq_k fun K5 hK5 => ?_
   refine vwp_block ?_
   obtain ⟨c, hc⟩ : ∃ c, c = chk L i := ⟨_, rfl⟩
   have hcl : c.length = min 32 (L.length - o) := by rw [hc, chk, ← ho]; simp
   have hyi := hy i (by omega)
   rw [← hc] at hyi
   obtain ⟨m, hm3⟩ : ∃ m, m = c.length := ⟨_, rfl⟩
   have w5 : (if ((L.length - o : Nat) : Int) < 32 then ((L.length - o : Nat) : Int) else 32) = (m : Int) := by split <;> omega
   have hoi : ((L.length : Int) - (o : Int)).toNat = L.length - o := by omega
   refine vwp_sq [0, 1, 2, 4] fun K6 hK6 => vwp_still hT hm (by kernel_rfl) ?_
   simp [w5]
   repeat refine ⟨by first | assumption | omega | (intros; omega), ?_⟩
   refine hK6 _ ?_
   try clear hK6 K6
   have w1 : IntKind.i64.wrap ((o : Int) + (m : Int)) = ((o : Int) + (m : Int)) := w64 (by omega) (by omega)
   have w2 : o + m - o = m := by omega
   have hcb : List.take m (List.drop o (bts L)) = bts c := by
     rw [hm3, hc, chk, ← ho, ← List.map_drop, ← List.map_take]
     congr 1
     rw [List.length_take, ← List.take_eq_take_min]
   refine vwp_sq [0, 1, 2, 4, 5] fun K7 hK7 => vwp_regionY hT ?_
   simp [w1, w2, hcb]
   repeat refine ⟨by first | assumption | omega | (intros; omega), ?_⟩
   rw [hm3]
   refine ycall_id hyi ?_
   rintro r ob' ⟨rfl, rfl⟩
   simp [w1, w2, hcb]
   repeat refine ⟨by first | assumption | omega | (intros; omega), ?_⟩
   refine hK7 _ ?_
   try clear hK7 K7
   refine vwp_cond (by first | rfl | (simp; rfl)) (fun h2 => ?_) fun h2 => ?_
   · simp -failIfUnchanged at h2; all_goals
    refine vwp_ret (hR _ _ ?_)
    have e : i = nch L := by unfold nch; omega
    subst e
    exact ⟨_, Gh.refl _ _, by simp [retQ]⟩
   · simp -failIfUnchanged at h2; all_goals
    refine vwp_skip ?_
    refine hK5 _ ?_
    try clear hK5 K5
    have w1 : IntKind.i64.wrap ((o : Int) + 32) = ((o + 32 : Nat) : Int) := w64 (by omega) (by omega)
    refine vwp_live [0, 1, 2, 4] (vwp_region hT ?_)
    simp [w1]
    exact hK2 (i + 1, o + 32) _ (Gh.pick [0, 1, 2, 4]) ⟨by dsimp only; omega, by dsimp only; omega⟩ (by dsimp only; omega)
  · simp -failIfUnchanged at h1; all_goals
   refine vwp_exit ?_
   simp only [inBlk, thenQ, if_true]
   refine hR _ _ ?_
   have e : i = nch L := by unfold nch; omega
   subst e
   exact ⟨_, Gh.refl _ _, by simp [retQ]⟩
end Go.Proofs.Ytifhbgppjblobaa
