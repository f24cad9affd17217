/- Sums of bytes: by the table, and bit by bit. -/
import Derived.Test.YtifhbgppjblobaaLogC
namespace Go.Proofs.Ytifhbgppjblobaa
open Go Go.VX Go.RowKit
set_option linter.unusedVariables false
set_option linter.unusedSimpArgs false
set_option maxHeartbeats 20000000
set_option maxRecDepth 100000

def step (c : Nat) : Nat := if c % 2 = 1 then (c / 2) ^^^ 3988292384 else c / 2
def stepK : Nat → Nat → Nat
  | 0, c => c
  | k + 1, c => step (stepK k c)
theorem step_lt {c : Nat} (h : c < 4294967296) : step c < 4294967296 := by
  unfold step
  split
  · have : (c / 2) ^^^ 3988292384 < 2 ^ 32 := Nat.xor_lt_two_pow (by omega) (by decide)
    simpa using this
  · omega
theorem stepK_lt {c : Nat} (h : c < 4294967296) : ∀ k, stepK k c < 4294967296
  | 0 => h
  | k + 1 => step_lt (stepK_lt h k)
def tabL : List Int := (List.range 256).map fun n => ((stepK 8 n : Nat) : Int)
theorem tabL_len : tabL.length = 256 := by simp [tabL]
theorem tabL_get {n : Nat} (h : n < 256) : tabL[n]? = some ((stepK 8 n : Nat) : Int) := by simp [tabL, h]
theorem bfill_set {X : List Int} {i : Nat} {x : Int} (h : X[i]? = some x) : (X.take i ++ List.replicate (X.length - i) 0).set i x = X.take (i + 1) ++ List.replicate (X.length - (i + 1)) 0 := by
  have hi := (List.getElem?_eq_some_iff.1 h).1
  have hl : (X.take i).length = i := by simp; omega
  obtain ⟨k, hk⟩ : ∃ k, X.length - i = k + 1 := ⟨X.length - i - 1, by omega⟩
  have hk2 : X.length - (i + 1) = k := by omega
  rw [List.set_append_right _ _ (by omega), hl, Nat.sub_self, hk, hk2, List.replicate_succ, List.set_cons_zero, List.take_add_one, h]
  simp
theorem spl_set32 {l : List Int} {q : Nat} (h : q < l.length) (x : Int) : spl (l.map (V.int .u32)) q [.int .u32 x] = (l.set q x).map (.int .u32) := by
  rw [spl_eq (by simp; omega), List.map_set, List.set_eq_take_append_cons_drop, if_pos (by simpa using h)]
  simp
theorem step_eq {c : Nat} (h : c < 4294967296) : ibits .xor .u32 ((c / 2 : Nat) : Int) (ibits .and .u32 3988292384 (IntKind.u32.wrap (0 - ((c % 2 : Nat) : Int)))) = ((step c : Nat) : Int) := by
  rcases Nat.mod_two_eq_zero_or_one c with e | e
  · have e1 : IntKind.u32.wrap (0 - ((c % 2 : Nat) : Int)) = ((0 : Nat) : Int) := by rw [e]; rfl
    have e2 : (3988292384 : Int) = ((3988292384 : Nat) : Int) := rfl
    rw [e1, e2, and32 (by omega) (by omega), xor32 (by omega) (by simp), step, if_neg (by omega)]
    simp
  · have e1 : IntKind.u32.wrap (0 - ((c % 2 : Nat) : Int)) = ((4294967295 : Nat) : Int) := by rw [e]; rfl
    have e2 : (3988292384 : Int) = ((3988292384 : Nat) : Int) := rfl
    have e3 : 3988292384 &&& 4294967295 = 3988292384 := by decide
    rw [e1, e2, and32 (by omega) (by omega), e3, xor32 (by omega) (by omega), step, if_pos e]
theorem and1_32 {c : Nat} (h : c < 4294967296) : ibits .and .u32 (c : Int) 1 = ((c % 2 : Nat) : Int) := by
  have e : (1 : Int) = ((1 : Nat) : Int) := rfl
  rw [e, and32 h (by omega), Nat.and_one_is_mod]
theorem table_spec  : VC P 75 [] [] (fun r ob' => r = .agg (tabL.map (.int .u32)) ∧ ob' = []) := by
  refine VC_of_vwp_c hT ent_75 Try.func75 rfl (by simp) fun R hR => ?_
  refine vwp_sq [] fun K1 hK1 => vwp_region hT ?_
  simp [-List.reduceReplicate]
  refine hK1 _ ?_
  try clear hK1 K1
  refine vwp_sq [0] fun K2 hK2 => vwp_region hT ?_
  simp [-List.reduceReplicate]
  refine hK2 _ ?_
  try clear hK2 K2
  refine vwp_seq_k fun K3 hK3 => ?_
  refine vwp_sq [0, 1] fun K4 hK4 => vwp_region hT ?_
  simp [-List.reduceReplicate]
  refine hK4 _ ?_
  try clear hK4 K4
  refine vwp_block ?_
  refine vwp_loop_s (fun n : Nat => ⟨[(0, .ptr 0 256 0), (1, .ptr 1 256 0), (4, .int .i64 (n : Int))], [.live (List.replicate 256 (.int .u32 0)), .live ((tabL.take n).map (.int .u32) ++ List.replicate (256 - n) (.int .u32 0))]⟩) (fun n => n ≤ 256) (fun n => 256 - n) (0) (Gh.to_k [0, 1, 4] [0, 1] (he := by simp [-List.reduceReplicate]) (hh := by simp [-List.reduceReplicate])) (by omega) ?_
  rintro n hn
  intro K5 hK5
  refine vwp_sq [0, 1, 4] fun K6 hK6 => vwp_region hT ?_
  simp [-List.reduceReplicate]
  refine hK6 _ ?_
  try clear hK6 K6
  refine vwp_seq_k fun K7 hK7 => ?_
  refine vwp_cond (by first | rfl | (simp; rfl)) (fun h1 => ?_) fun h1 => ?_
  · simp -failIfUnchanged at h1; all_goals
   refine vwp_skip ?_
   refine hK7 _ ?_
   try clear hK7 K7
   refine vwp_seq_k fun K8 hK8 => ?_
   refine vwp_block ?_
   refine vwp_sq [0, 1, 4] fun K9 hK9 => vwp_region hT ?_
   simp [-List.reduceReplicate]
   refine hK9 _ ?_
   try clear hK9 K9
   have w2 : IntKind.u32.wrap (n : Int) = (n : Int) := wu32 (by omega) (by omega)
   refine vwp_sq [0, 1, 2, 4] fun K10 hK10 => vwp_region hT ?_
   simp [-List.reduceReplicate, w2]
   repeat refine ⟨by first | assumption | omega | (intros; omega), ?_⟩
   refine hK10 _ ?_
   try clear hK10 K10
   refine vwp_seq_k fun K11 hK11 => ?_
   refine vwp_sq [0, 1, 2, 3, 4] fun K12 hK12 => vwp_region hT ?_
   simp [-List.reduceReplicate]
   refine hK12 _ ?_
   try clear hK12 K12
   refine vwp_block ?_
   refine vwp_loop_s (fun u : Nat × Nat => ⟨[(0, .ptr 0 256 0), (1, .ptr 1 256 0), (2, .int .i64 (n : Int)), (3, .int .u32 (u.2 : Int)), (4, .int .i64 (n : Int)), (9, .int .i64 (u.1 : Int))], [.live (List.replicate 256 (.int .u32 0)), .live ((tabL.take n).map (.int .u32) ++ List.replicate (256 - n) (.int .u32 0))]⟩) (fun u => u.1 ≤ 8 ∧ u.2 = stepK u.1 n) (fun u => 8 - u.1) ((0, n)) (Gh.to_k [0, 1, 2, 3, 4, 9] [0, 1] (hh := by simp [-List.reduceReplicate])) (⟨by simp, rfl⟩) ?_
   rintro ⟨j, c⟩ ⟨hj, hc⟩
   dsimp only at hj hc ⊢
   intro K13 hK13
   refine vwp_sq [0, 1, 2, 3, 4, 9] fun K14 hK14 => vwp_region hT ?_
   simp [-List.reduceReplicate]
   refine hK14 _ ?_
   try clear hK14 K14
   refine vwp_seq_k fun K15 hK15 => ?_
   refine vwp_cond (by first | rfl | (simp; rfl)) (fun h2 => ?_) fun h2 => ?_
   · simp -failIfUnchanged at h2; all_goals
    refine vwp_skip ?_
    refine hK15 _ ?_
    try clear hK15 K15
    refine vwp_seq_k fun K16 hK16 => ?_
    refine vwp_block ?_
    have hcl : c < 4294967296 := by rw [hc]; exact stepK_lt (by omega) j
    obtain ⟨c2, hc2⟩ : ∃ c2, c2 = step c := ⟨_, rfl⟩
    obtain ⟨h, hh⟩ : ∃ h, h = c / 2 := ⟨_, rfl⟩
    obtain ⟨b, hb⟩ : ∃ b, b = c % 2 := ⟨_, rfl⟩
    have w2 : (c : Int).fdiv (2 ^ min 1 32) = (h : Int) := by
      rw [Int.fdiv_eq_ediv_of_nonneg _ (by decide)]; show (c : Int) / 2 = h; omega
    have w2b : (c : Int).fdiv 2 = (h : Int) := w2
    have w3 := and1_32 hcl
    rw [← hb] at w3
    have w4 := step_eq hcl
    rw [← hh, ← hb, ← hc2] at w4
    have w5 : IntKind.u32.wrap (-(b : Int)) = IntKind.u32.wrap (0 - (b : Int)) := by congr 1; omega
    refine vwp_live [0, 1, 2, 3, 4, 9] (vwp_region hT ?_)
    simp [-List.reduceReplicate, w2, w2b, w3, w5, w4]
    repeat refine ⟨by first | assumption | omega | (intros; omega), ?_⟩
    refine hK16 _ ?_
    try clear hK16 K16
    have w1 : IntKind.i64.wrap ((j : Int) + 1) = j + 1 := w64 (by omega) (by omega)
    refine vwp_live [0, 1, 2, 3, 4, 9] (vwp_region hT ?_)
    simp [-List.reduceReplicate, w1]
    exact hK13 ((j + 1, c2)) _ (Gh.to_k [0, 1, 2, 3, 4, 9] [0, 1] (hh := by simp [-List.reduceReplicate])) (⟨by dsimp only; omega, by dsimp only; rw [hc2, hc]; rfl⟩) (by dsimp only; omega)
   · simp -failIfUnchanged at h2; all_goals
    refine vwp_exit ?_
    simp only [inBlk, thenQ, if_true]
    refine hK11 _ ?_
    try clear hK11 K11
    have e8 : j = 8 := by omega
    rw [e8] at hc
    have ht := tabL_get (n := n) (by omega)
    rw [← hc] at ht
    have hl := tabL_len
    have hsp := spl_set32 (l := tabL.take n ++ List.replicate (tabL.length - n) 0) (q := n) (by simp; omega) (c : Int)
    rw [bfill_set ht, tabL_len] at hsp
    simp only [List.map_append, List.map_take, List.map_replicate] at hsp
    have hmin : min n tabL.length = n := by omega
    have hmin2 : n + (256 - n) = 256 := by omega
    refine vwp_live [0, 1, 2, 3, 4] (vwp_region hT ?_)
    simp [-List.reduceReplicate, hmin, hmin2, hl]
    repeat refine ⟨by first | assumption | omega | (intros; omega), ?_⟩
    refine hK8 _ ?_
    try clear hK8 K8
    have w1 : IntKind.i64.wrap ((n : Int) + 1) = n + 1 := w64 (by omega) (by omega)
    refine vwp_live [0, 1, 4] (vwp_region hT ?_)
    simp [-List.reduceReplicate, w1]
    exact hK5 (n + 1) _ (Gh.to_k [0, 1, 4] [0, 1] (hh := by simp [-List.reduceReplicate, hsp])) (by omega) (by omega)
  · simp -failIfUnchanged at h1; all_goals
   refine vwp_exit ?_
   simp only [inBlk, thenQ, if_true]
   refine hK3 _ ?_
   try clear hK3 K3
   have en : n = 256 := by omega
   have hl := tabL_len
   have hfull : List.take n (tabL.map (V.int .u32)) ++ List.replicate (256 - n) (V.int .u32 0) = tabL.map (.int .u32) := by
     rw [List.take_of_length_le (by simp; omega), en]; simp
   have hspl : spl (List.replicate 256 (V.int .u32 0)) 0 (tabL.map (V.int .u32)) = tabL.map (V.int .u32) := by
     rw [spl_eq (by simp [-List.reduceReplicate, hl]), List.drop_of_length_le (by simp [-List.reduceReplicate, hl])]; simp
   have ht256 : List.take 256 (tabL.map (V.int .u32)) = tabL.map (V.int .u32) := List.take_of_length_le (by simp [hl])
   refine vwp_sq [0, 1] fun K17 hK17 => vwp_region hT ?_
   simp [-List.reduceReplicate, hfull, hspl, hl, ht256]
   repeat refine ⟨by first | assumption | omega | (intros; omega), ?_⟩
   refine hK17 _ ?_
   try clear hK17 K17
   refine vwp_ret (hR _ _ ?_)
   exact retc_only [] [] (p := True) (xs := [.agg (tabL.map (.int .u32))]) (xs' := [.agg (tabL.map (.int .u32))]) (by simp [-List.reduceReplicate, hl, ht256]) trivial (by simp) (by simp) rfl (by simp) (by simp) rfl (by simp) ⟨rfl, rfl⟩
end Go.Proofs.Ytifhbgppjblobaa
