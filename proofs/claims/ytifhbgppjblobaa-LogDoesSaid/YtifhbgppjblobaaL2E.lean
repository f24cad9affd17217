/- The document's answers: numbers, heads, halves, generations. -/
import Derived.Test.YtifhbgppjblobaaL2B
namespace Go.Proofs.Ytifhbgppjblobaa
open Go Go.VX Go.RowKit
set_option linter.unusedVariables false
set_option linter.unusedSimpArgs false
set_option maxHeartbeats 20000000
set_option maxRecDepth 100000
theorem number_ref (l : List Int) (hl : l.length ≤ 4) (hb : byteL l) : VC P 71 [sB l] [] (fun r ob' => r = .int .i64 (tellN l : Int) ∧ ob' = []) := by
  refine VC_of_vwp_k ent_71 Try.func71 rfl (by simp) fun R hR => ?_
  refine vwp_sq [0] fun K1 hK1 => vwp_region hT ?_
  simp
  refine hK1 _ ?_
  try clear hK1 K1
  refine vwp_sq [0] fun K2 hK2 => vwp_region hT ?_
  simp
  refine hK2 _ ?_
  try clear hK2 K2
  refine vwp_seq_k fun K3 hK3 => ?_
  refine vwp_sq [0, 3] fun K4 hK4 => vwp_region hT ?_
  simp
  refine hK4 _ ?_
  try clear hK4 K4
  refine vwp_block ?_
  refine vwp_loop_s (fun z : Nat × Nat => ⟨[(0, sB l), (3, .int .i64 (z.2 : Int)), (4, .int .i64 (z.1 : Int))], []⟩) (fun z => z.1 ≤ l.length ∧ z.2 = tellN (l.take z.1)) (fun z => l.length - z.1) ((0, 0)) (Gh.to_k [0, 3, 4] []) (⟨by simp, by simp [tellN]⟩) ?_
  rintro ⟨i, n⟩ ⟨hi, hn⟩
  dsimp only at hi hn ⊢
  intro K5 hK5
  refine vwp_seq_k fun K6 hK6 => ?_
  refine vwp_sq [0, 3, 4] fun K7 hK7 => vwp_region hT ?_
  simp
  refine hK7 _ ?_
  try clear hK7 K7
  refine vwp_cond (by first | rfl | (simp; rfl)) (fun h1 => ?_) fun h1 => ?_
  · simp -failIfUnchanged at h1; all_goals
   refine vwp_skip ?_
   refine hK6 _ ?_
   try clear hK6 K6
   refine vwp_seq_k fun K8 hK8 => ?_
   refine vwp_block ?_
   obtain ⟨x, hx⟩ := getI (l := l) (i := i) (by omega)
   have hx2 := hb x (List.mem_of_getElem? hx)
   have hlt := tell_lt hb i (by omega)
   rw [← hn] at hlt
   have hp : 256 ^ i ≤ 16777216 := by
     have : 256 ^ i ≤ 256 ^ 3 := Nat.pow_le_pow_right (by omega) (by omega)
     simpa using this
   obtain ⟨y, rfl⟩ := Int.eq_ofNat_of_zero_le hx2.1
   obtain ⟨n8, hn8⟩ : ∃ n8, n8 = n * 256 := ⟨_, rfl⟩
   have w1 : IntKind.i64.wrap (256 * (n : Int)) = (n8 : Int) := (w64 (by omega) (by omega)).trans (by omega)
   have w2 : IntKind.i64.wrap (y : Int) = (y : Int) := w64 (by omega) (by omega)
   have w3 : IntKind.i64.wrap ((n8 : Int) + (y : Int)) = (n8 : Int) + (y : Int) := w64 (by omega) (by omega)
   refine vwp_live [0, 3, 4] (vwp_region hT ?_)
   simp [hx, w1, w2, w3]
   repeat refine ⟨by first | assumption | omega | (intros; omega), ?_⟩
   refine hK8 _ ?_
   try clear hK8 K8
   have w1 : IntKind.i64.wrap ((i : Int) + 1) = i + 1 := w64 (by omega) (by omega)
   refine vwp_live [0, 3, 4] (vwp_region hT ?_)
   simp [w1]
   exact hK5 ((i + 1, n * 256 + y)) _ (Gh.to_k [0, 3, 4] [] (he := by simp; omega)) (⟨by dsimp only; omega, by dsimp only; rw [tell_take hx, hn]; rfl⟩) (by dsimp only; omega)
  · simp -failIfUnchanged at h1; all_goals
   refine vwp_exit ?_
   simp only [inBlk, thenQ, if_true]
   refine hK3 _ ?_
   try clear hK3 K3
   refine vwp_sq [3] fun K9 hK9 => vwp_region hT ?_
   simp
   refine hK9 _ ?_
   try clear hK9 K9
   refine vwp_ret (hR _ _ ?_)
   have e : i = l.length := by omega
   rw [e, List.take_length] at hn
   subst hn
   exact ret_k [2] [] ([]) (.int .i64 (tellN l : Int)) (⟨rfl, rfl⟩)

theorem blankB_eq (l : List Int) : decide (l = List.replicate l.length 0) = blankB l := by
  rw [Bool.eq_iff_iff]
  simp [blankB, List.eq_replicate_iff]
theorem zero_ref (l : List Int) (hl : l.length < 1099511627776) : VC P 48 [sB l] [] (fun r ob' => r = .bool (blankB l) ∧ ob' = []) := by
  refine VC_of_vwp_k ent_48 Try.func48 rfl (by simp) fun R hR => ?_
  refine vwp_sq [0] fun K1 hK1 => vwp_region hT ?_
  simp [-List.reduceReplicate]
  refine hK1 _ ?_
  try clear hK1 K1
  have hss := same_spec l (List.replicate l.length 0) (by omega) (by rw [List.length_replicate]; omega)
  rw [blankB_eq] at hss
  obtain ⟨L, hL⟩ : ∃ L, L = l.length := ⟨_, rfl⟩
  try rw [← hL] at hss
  try rw [← hL]
  refine vwp_sq [0] fun K2 hK2 => vwp_region hT ?_
  simp [-List.reduceReplicate, ← hL]
  repeat refine ⟨by first | assumption | omega | (intros; omega), ?_⟩
  refine vcall_z [] (hss) (by rintro r ob' ⟨rfl, rfl⟩; simp) ?_ (ha := by simp [← hL, List.take_of_length_le]) (hok := by simp [← hL])
  rintro r ob' ⟨rfl, rfl⟩
  simp [-List.reduceReplicate, ← hL]
  repeat refine ⟨by first | assumption | omega | (intros; omega), ?_⟩
  refine hK2 _ ?_
  try clear hK2 K2
  refine vwp_ret (hR _ _ ?_)
  exact ret_k [2] [] ([]) (.bool (blankB l)) (⟨rfl, rfl⟩)
theorem head_ref (gen : Nat) (hg : gen < 4294967296) : VC P 50 [.int .i64 (gen : Int)] [] (fun r ob' => r = .sl 0 32 1 0 32 ∧ ob' = [.live (bts (headL gen))]) := by
  refine VC_of_vwp_k ent_50 Try.func50 rfl (by simp) fun R hR => ?_
  refine vwp_sq [0] fun K1 hK1 => vwp_region hT ?_
  simp
  refine hK1 _ ?_
  try clear hK1 K1
  refine vwp_sq [0] fun K2 hK2 => vwp_region hT ?_
  simp
  refine vcall_k [] (four_spec gen (by omega)) ?_
  rintro r ob' ⟨rfl, rfl⟩
  simp
  refine hK2 _ ?_
  try clear hK2 K2
  obtain ⟨A, hA⟩ : ∃ A, A = laidB gen 4 := ⟨_, rfl⟩
  have hAl : A.length = 4 := by rw [hA, laidB_len]
  have hAb : byteL A := by rw [hA]; exact laidB_byte _ _
  try rw [← hA]
  have hAk : List.take 4 (bts A) = bts A := List.take_of_length_le (by simp [hAl])
  obtain ⟨s, hs⟩ : ∃ s, s = moreN 0 A := ⟨_, rfl⟩
  have hsl : s < 4294967296 := by rw [hs]; exact moreN_lt _ _
  have hsum := rsum_spec A (by omega) hAb
  rw [← hs] at hsum
  have wi : IntKind.i64.wrap (s : Int) = (s : Int) := w64 (by omega) (by omega)
  obtain ⟨C, hC⟩ : ∃ C, C = laidB s 4 := ⟨_, rfl⟩
  have hCl : C.length = 4 := by rw [hC, laidB_len]
  have hCk : List.take 4 (bts C) = bts C := List.take_of_length_le (by simp [hCl])
  have hla := four_spec s (by omega)
  rw [← hC] at hla
  have hfl := filled_spec (A ++ C) (by simp; omega)
  have hh : headL gen = markL (A ++ C) := by rw [headL, ← hA, ← hs, ← hC]
  have hk8 : List.take 8 (bts A ++ bts C) = bts A ++ bts C := List.take_of_length_le (by simp [hAl, hCl])
  refine vwp_sq [3] fun K3 hK3 => vwp_region hT ?_
  simp [hAk, hCk, hAl, hCl, wi]
  repeat refine ⟨by first | assumption | omega | (intros; omega), ?_⟩
  refine vcall_z [] (hsum) (by rintro r ob' ⟨rfl, rfl⟩; simp) ?_ (ha := by simp [hAl, hAk]) (hok := by simp [hAl])
  rintro r ob' ⟨rfl, rfl⟩
  simp [hAk, hCk, hAl, hCl, wi]
  repeat refine ⟨by first | assumption | omega | (intros; omega), ?_⟩
  refine vcall_k [] (hla) ?_
  rintro r ob' ⟨rfl, rfl⟩
  simp [hAk, hCk, hAl, hCl, wi]
  repeat refine ⟨by first | assumption | omega | (intros; omega), ?_⟩
  refine vcall_z [] (hfl) (by rintro r ob' ⟨rfl, rfl⟩; simp) ?_ (ha := by simp [hAl, hCl, hk8]) (hok := by simp [hAl, hCl]; rintro c (⟨a, _, rfl⟩ | ⟨a, _, rfl⟩) <;> rfl)
  rintro r ob' ⟨rfl, rfl⟩
  simp [hAk, hCk, hAl, hCl, wi]
  repeat refine ⟨by first | assumption | omega | (intros; omega), ?_⟩
  refine hK3 _ ?_
  try clear hK3 K3
  refine vwp_ret (hR _ _ ?_)
  rw [hh]
  exact ret_k [2] [3] ([.live (bts (markL (A ++ C)))]) (.sl 0 32 1 0 32) (⟨rfl, rfl⟩)
theorem per_ref (d : Dk) (n : Nat) (hd : d.ok n) : VC P 53 [.ptr 0 5 0] d.robs (fun r ob' => r = .int .i64 ((n / 2 : Nat) : Int) ∧ ob' = d.robs) := by
  refine VC_of_vwp_k ent_53 Try.func53 rfl (by simp) fun R hR => ?_
  refine vwp_sq [0] fun K1 hK1 => vwp_region hT ?_
  simp [Dk.robs]
  refine hK1 _ ?_
  try clear hK1 K1
  have hl := hd.len
  have hn2 := hd.n2
  have hn4 := hd.n4
  obtain ⟨LB, hLB⟩ : ∃ LB, LB = d.B.length := ⟨_, rfl⟩
  obtain ⟨p, hp⟩ : ∃ p, p = n / 2 := ⟨_, rfl⟩
  rw [← hLB] at hl
  have hn32 : n = LB / 32 := by omega
  have t1 : (LB : Int).tdiv 32 = (n : Int) := by rw [hn32]; rfl
  have t2 : (n : Int).tdiv 2 = (p : Int) := by rw [hp]; rfl
  have w1 : IntKind.i64.wrap (n : Int) = (n : Int) := w64 (by omega) (by omega)
  have w2 : IntKind.i64.wrap (p : Int) = (p : Int) := w64 (by omega) (by omega)
  refine vwp_sq [0] fun K2 hK2 => vwp_region hT ?_
  simp [Dk.robs, ← hLB, t1, t2, w1, w2]
  repeat refine ⟨by first | assumption | omega | (intros; omega), ?_⟩
  refine hK2 _ ?_
  try clear hK2 K2
  refine vwp_ret (hR _ _ ?_)
  rw [← hp]
  exact ret_k [2] [0, 1] (d.robs) (.int .i64 (p : Int)) (⟨rfl, rfl⟩) (hh := by simp [Dk.robs, hLB])
theorem half_ref (d : Dk) (n : Nat) (hd : d.ok n) (h : Nat) (hh : h ≤ 1) : VC P 47 [.ptr 0 5 0, .int .i64 h] d.robs (fun r ob' => r = .sl 1 d.B.length 1 (h * (32 * (n / 2))) (32 * (n / 2)) ∧ ob' = d.robs) := by
  refine VC_of_vwp_k ent_47 Try.func47 rfl (by simp) fun R hR => ?_
  refine vwp_sq [0, 1] fun K1 hK1 => vwp_region hT ?_
  simp [Dk.robs]
  refine hK1 _ ?_
  try clear hK1 K1
  have hl := hd.len
  have hn2 := hd.n2
  have hn4 := hd.n4
  obtain ⟨LB, hLB⟩ : ∃ LB, LB = d.B.length := ⟨_, rfl⟩
  obtain ⟨p, hp⟩ : ∃ p, p = n / 2 := ⟨_, rfl⟩
  rw [← hLB] at hl
  have hps := per_ref d n hd
  rw [← hp] at hps
  obtain ⟨m, hm1⟩ : ∃ m, m = 32 * p := ⟨_, rfl⟩
  obtain ⟨o, ho⟩ : ∃ o, o = h * m := ⟨_, rfl⟩
  have hom : o + m ≤ LB := by
    have : h = 0 ∨ h = 1 := by omega
    rcases this with e | e <;> rw [ho, e] <;> omega
  have w1 : IntKind.i64.wrap (32 * (p : Int)) = (m : Int) := (w64 (by omega) (by omega)).trans (by omega)
  have w2 : IntKind.i64.wrap ((h : Int) * (m : Int)) = (o : Int) := by rw [← Int.natCast_mul, ← ho]; exact w64 (by omega) (by omega)
  have w3 : IntKind.i64.wrap ((o : Int) + (m : Int)) = ((o + m : Nat) : Int) := w64 (by omega) (by omega)
  have e1 : o + m - o = m := by omega
  have hvs : ∀ x, vsub (o : Int) ((o : Int) + (m : Int)) x = x := fun x => vsub_add (by omega)
  refine vwp_sq [0, 1] fun K2 hK2 => vwp_region hT ?_
  simp [Dk.robs, w1]
  refine vcall_k [0, 1] (hps) ?_ (hh := by simp [Dk.robs])
  rintro r ob' ⟨rfl, rfl⟩
  simp [Dk.robs, w1]
  refine hK2 _ ?_
  try clear hK2 K2
  refine vwp_sq [0, 1, 5] fun K3 hK3 => vwp_region hT ?_
  simp [Dk.robs, w1, w2, w3, e1, hvs, ← hLB]
  repeat refine ⟨by first | assumption | omega | (intros; omega), ?_⟩
  refine hK3 _ ?_
  try clear hK3 K3
  refine vwp_ret (hR _ _ ?_)
  rw [← hp, ← hm1, ← ho]
  exact ret_k [4] [0, 1] (d.robs) (.sl 1 d.B.length 1 o m) (⟨rfl, rfl⟩) (hh := by simp [Dk.robs, hLB]) (hs := by simp [hLB]) (hr := by simp [hLB])
end Go.Proofs.Ytifhbgppjblobaa
