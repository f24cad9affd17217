/- Operations; rows that are the same; numbers and sectors, by the document. -/
import Derived.Test.YtifhbgppjblobaaLogX
import Derived.Test.YtifhbgppjblobaaSame
namespace Go.Proofs.Ytifhbgppjblobaa
open Go Go.VX Go.RowKit
set_option linter.unusedVariables false
set_option linter.unusedSimpArgs false
set_option maxHeartbeats 20000000
set_option maxRecDepth 100000
structure DOp where
  do_ : Int
  a : Int
  c : Int
  b : List Int
abbrev DOp.cells (x : DOp) : List V := [.int .i64 x.do_, .int .i64 x.a, .int .i64 x.c, .fs x.b.length (bts x.b)]
def opsV (l : List DOp) : List V := l.flatMap DOp.cells
theorem opsV_length (l : List DOp) : (opsV l).length = l.length * 4 := by
  induction l with
  | nil => rfl
  | cons x l ih => simp only [opsV, List.flatMap_cons, List.length_append] at ih ⊢; rw [ih]; simp; omega
theorem opsV_drop : ∀ {l : List DOp} {i : Nat} {x : DOp}, l[i]? = some x → List.drop (i * 4) (opsV l) = x.cells ++ opsV (l.drop (i + 1))
  | [], i, x, h => by simp at h
  | y :: l, 0, x, h => by simp at h; subst h; simp [opsV]
  | y :: l, i + 1, x, h => by
    have e : (i + 1) * 4 = 4 + i * 4 := by omega
    have e2 : opsV (y :: l) = y.cells ++ opsV l := rfl
    rw [e, e2, ← List.drop_drop]
    have e3 : List.drop 4 (y.cells ++ opsV l) = opsV l := rfl
    rw [e3, opsV_drop (by simpa using h)]
    rfl


theorem Dk.fused_ok {d : Dk} {n : Nat} (hd : d.ok n) (a c : Int) (ha : a ≤ 9223372036854775807) : (d.fused a c).ok n := by
  obtain ⟨hl, ht0, ht1, hf, hn2, hn4, hf2⟩ := hd
  exact ⟨hl, by show 0 ≤ min (max c 0) 32; omega, by show min (max c 0) 32 ≤ 32; omega, by show -1 ≤ max a (-1); omega, hn2, hn4, by show max a (-1) ≤ _; omega⟩
theorem Dk.crashed_ok {d : Dk} {n : Nat} (hd : d.ok n) : d.crashed.ok n := by
  obtain ⟨hl, ht0, ht1, hf, hn2, hn4, hf2⟩ := hd
  exact ⟨hl, ht0, ht1, by show (-1 : Int) ≤ -1; omega, hn2, hn4, by show (-1 : Int) ≤ _; omega⟩
theorem Dk.new_ok {n : Nat} (h1 : 2 ≤ n) (h2 : n ≤ 4096) : (Dk.new n).ok n := ⟨by simp [Dk.new, -List.reduceReplicate], by show (0 : Int) ≤ 0; omega, by show (0 : Int) ≤ 32; omega, by show (-1 : Int) ≤ -1; omega, h1, h2, by show (-1 : Int) ≤ _; omega⟩
def sumB (l : List DOp) : Nat := (l.map fun x => x.b.length).sum
theorem sumB_take {l : List DOp} {i : Nat} {x : DOp} (h : l[i]? = some x) : sumB (l.take (i + 1)) = sumB (l.take i) + x.b.length := by
  unfold sumB
  rw [List.take_add_one, h]
  simp
/-- What is looked at is not large. -/
def smallOps (l : List DOp) : Prop := l.length ≤ 40 ∧ 4 * sumB l ≤ 4000
theorem large_spec (l : List DOp) (hl : l.length ≤ 140737488355328) (hb : ∀ x ∈ l, x.b.length ≤ 140737488355328) : VC P 7 [.fs l.length (opsV l)] [] (fun r ob' => (∃ v, r = .bool v ∧ (v = false → smallOps l)) ∧ ob' = []) := by
  refine VC_of_vwp_k ent_7 Try.func7 rfl (by simp) fun R hR => ?_
  refine vwp_sq [0] fun K1 hK1 => vwp_region hT ?_
  simp
  refine hK1 _ ?_
  try clear hK1 K1
  refine vwp_sq [0] fun K2 hK2 => vwp_region hT ?_
  simp
  refine hK2 _ ?_
  try clear hK2 K2
  refine vwp_seq_k fun K3 hK3 => ?_
  refine vwp_sq [0, 3] fun K4 hK4 => vwp_region hT ?_
  simp
  refine hK4 _ ?_
  try clear hK4 K4
  refine vwp_block ?_
  refine vwp_loop_s (fun u : Nat × Nat => ⟨[(0, .fs l.length (opsV l)), (3, .int .i64 (u.2 : Int)), (4, .int .i64 (u.1 : Int))], []⟩) (fun u => u.1 ≤ l.length ∧ u.2 = 4 * sumB (l.take u.1) ∧ u.2 ≤ 1125899906842624) (fun u => l.length - u.1) ((0, 0)) (Gh.to_k [0, 3, 4] []) (⟨by simp, by simp [sumB], by simp⟩) ?_
  rintro ⟨i, s⟩ ⟨hi, hs, hs2⟩
  dsimp only at hi hs hs2 ⊢
  intro K5 hK5
  refine vwp_seq_k fun K6 hK6 => ?_
  refine vwp_sq [0, 3, 4] fun K7 hK7 => vwp_region hT ?_
  simp
  refine hK7 _ ?_
  try clear hK7 K7
  refine vwp_cond (by first | rfl | (simp; rfl)) (fun h1 => ?_) fun h1 => ?_
  · simp -failIfUnchanged at h1; all_goals
   refine vwp_skip ?_
   refine hK6 _ ?_
   try clear hK6 K6
   refine vwp_seq_k fun K8 hK8 => ?_
   refine vwp_block ?_
   obtain ⟨x, hx⟩ := getI (l := l) (i := i) (by omega)
   have hxb := hb x (List.mem_of_getElem? hx)
   have hdr := opsV_drop hx
   have w1 : IntKind.i64.wrap (4 * (x.b.length : Int)) = 4 * (x.b.length : Int) := w64 (by omega) (by omega)
   have w2 : IntKind.i64.wrap ((s : Int) + 4 * (x.b.length : Int)) = (s : Int) + 4 * (x.b.length : Int) := w64 (by omega) (by omega)
   refine vwp_live [0, 3, 4] (vwp_region hT ?_)
   simp [hdr, opsV_length, w1, w2]
   repeat refine ⟨by first | assumption | omega | (intros; omega), ?_⟩
   refine hK8 _ ?_
   try clear hK8 K8
   have w1 : IntKind.i64.wrap ((i : Int) + 1) = i + 1 := w64 (by omega) (by omega)
   refine vwp_live [0, 3, 4] (vwp_region hT ?_)
   simp [w1]
   exact hK5 ((i + 1, s + 4 * x.b.length)) _ (Gh.to_k [0, 3, 4] []) (⟨by dsimp only; omega, by dsimp only; rw [sumB_take hx]; omega, by dsimp only; omega⟩) (by dsimp only; omega)
  · simp -failIfUnchanged at h1; all_goals
   refine vwp_exit ?_
   simp only [inBlk, thenQ, if_true]
   refine hK3 _ ?_
   try clear hK3 K3
   refine vwp_sq [0, 3] fun K9 hK9 => vwp_region hT ?_
   simp
   refine hK9 _ ?_
   try clear hK9 K9
   refine vwp_ret (hR _ _ ?_)
   refine (show _ → _ from fun h => h) ?_
   exact ret_k [2] [] [] (.bool (decide (40 < (l.length : Int)) || decide (4000 < (s : Int)))) (by
     refine ⟨⟨_, rfl, fun hv => ?_⟩, rfl⟩
     simp only [Bool.or_eq_false_iff, decide_eq_false_iff_not] at hv
     have e : i = l.length := by omega
     rw [e, List.take_length] at hs
     exact ⟨by omega, by omega⟩)

def manyL (x : DOp) : List (List Int) := List.replicate (min x.a 4).toNat x.b
theorem manyL_len (x : DOp) : (manyL x).length = (min x.a 4).toNat := by simp [manyL]
theorem many_spec (x : DOp) : VC P 11 [.agg x.cells] [] (fun r ob' => r = .sl 0 (manyL x).length 1 0 (manyL x).length ∧ ob' = [.live ((manyL x).map sB)]) := by
  refine VC_of_vwp_k ent_11 Try.func11 rfl (by simp) fun R hR => ?_
  refine vwp_sq [0] fun K1 hK1 => vwp_region hT ?_
  simp
  refine hK1 _ ?_
  try clear hK1 K1
  obtain ⟨K, hK⟩ : ∃ K, K = (min x.a 4).toNat := ⟨_, rfl⟩
  have hml : (manyL x).length = K := by rw [manyL_len, hK]
  refine vwp_sq [1] fun K2 hK2 => vwp_region hT ?_
  simp
  refine hK2 _ ?_
  try clear hK2 K2
  refine vwp_seq_k fun K3 hK3 => ?_
  refine vwp_gh (Gh.virt 3 1 (by rfl)) ?_
  simp
  refine vwp_sq [1, 3] fun K4 hK4 => vwp_region hT ?_
  simp
  refine hK4 _ ?_
  try clear hK4 K4
  refine vwp_block ?_
  refine vwp_loop_s (fun i : Nat => ⟨[(1, .ptr 0 4 0), (3, .sl 1 i 1 0 i), (4, .int .i64 (i : Int))], [.live x.cells, .live ((List.replicate (i) x.b).map sB)]⟩) (fun i => i ≤ K) (fun i => K - i) (0) (Gh.to_k [1, 3, 4] [0, 1] (hh := by simp)) (by omega) ?_
  rintro i hi
  intro K5 hK5
  refine vwp_seq_k fun K6 hK6 => ?_
  refine vwp_sq [1, 3, 4] fun K7 hK7 => vwp_region hT ?_
  simp
  repeat refine ⟨by first | assumption | omega | (intros; omega), ?_⟩
  refine hK7 _ ?_
  try clear hK7 K7
  refine vwp_cond (by first | rfl | (simp; rfl)) (fun h1 => ?_) fun h1 => ?_
  · simp -failIfUnchanged at h1; all_goals
   refine vwp_skip ?_
   refine hK6 _ ?_
   try clear hK6 K6
   refine vwp_seq_k fun K8 hK8 => ?_
   refine vwp_block ?_
   refine vwp_live [1, 3, 4] (vwp_region hT ?_)
   simp
   repeat refine ⟨by first | assumption | omega | (intros; omega), ?_⟩
   refine hK8 _ ?_
   try clear hK8 K8
   have w1 : IntKind.i64.wrap ((i : Int) + 1) = i + 1 := w64 (by omega) (by omega)
   refine vwp_live [1, 3, 4] (vwp_region hT ?_)
   simp [w1]
   exact hK5 (i + 1) _ (Gh.to_k [1, 3, 4] [0, 1] (hh := by simp [List.replicate_succ'])) (by omega) (by omega)
  · simp -failIfUnchanged at h1; all_goals
   refine vwp_exit ?_
   simp only [inBlk, thenQ, if_true]
   refine hK3 _ ?_
   try clear hK3 K3
   refine vwp_sq [3] fun K9 hK9 => vwp_region hT ?_
   simp
   refine hK9 _ ?_
   try clear hK9 K9
   refine vwp_ret (hR _ _ ?_)
   have e : i = K := by omega
   subst e
   rw [hml]
   exact ret_k [2] [1] ([.live ((manyL x).map sB)]) (.sl 0 i 1 0 i) (⟨rfl, rfl⟩) (hh := by simp [manyL, ← hK])
theorem rsame_spec (a b : List (List Int)) (ha : a.length < 1099511627776) (hb : b.length < 1099511627776) (hal : ∀ x ∈ a, x.length < 1099511627776) (hbl : ∀ x ∈ b, x.length < 1099511627776) : VC P 15 [sBB a, sBB b] [] (fun r ob' => r = .bool (decide (a = b)) ∧ ob' = []) := by
  refine VC_of_vwp_k ent_15 Try.func15 rfl (by simp) fun R hR => ?_
  refine vwp_sq [0, 1] fun K1 hK1 => vwp_region hT ?_
  simp
  refine hK1 _ ?_
  try clear hK1 K1
  refine vwp_seq_k fun K2 hK2 => ?_
  refine vwp_sq [0, 1] fun K3 hK3 => vwp_region hT ?_
  simp
  refine hK3 _ ?_
  try clear hK3 K3
  refine vwp_cond (by first | rfl | (simp; rfl)) (fun h1 => ?_) fun h1 => ?_
  · simp -failIfUnchanged at h1; all_goals
   have q := h1
   refine vwp_sq [] fun K4 hK4 => vwp_region hT ?_
   simp
   refine hK4 _ ?_
   try clear hK4 K4
   refine vwp_ret (hR _ _ ?_)
   have e : ¬ a = b := fun e => by rw [e] at q; simp at q
   exact ret_k [4] [] ([]) (.bool false) (⟨by rw [decide_eq_false e], rfl⟩)
  · simp -failIfUnchanged at h1; all_goals
   have q := h1
   refine vwp_skip ?_
   refine hK2 _ ?_
   try clear hK2 K2
   refine vwp_seq_k fun K5 hK5 => ?_
   refine vwp_sq [0, 1] fun K6 hK6 => vwp_region hT ?_
   simp
   refine hK6 _ ?_
   try clear hK6 K6
   refine vwp_block ?_
   refine vwp_loop_s (fun i : Nat => ⟨[(0, sBB a), (1, sBB b), (5, .int .i64 (i : Int))], []⟩) (fun i => i ≤ a.length ∧ a.take i = b.take i) (fun i => a.length - i) (0) (Gh.to_k [0, 1, 5] []) (⟨by omega, rfl⟩) ?_
   rintro i ⟨hi, hab⟩
   intro K7 hK7
   refine vwp_seq_k fun K8 hK8 => ?_
   refine vwp_sq [0, 1, 5] fun K9 hK9 => vwp_region hT ?_
   simp
   refine hK9 _ ?_
   try clear hK9 K9
   refine vwp_cond (by first | rfl | (simp; rfl)) (fun h2 => ?_) fun h2 => ?_
   · simp -failIfUnchanged at h2; all_goals
    refine vwp_skip ?_
    refine hK8 _ ?_
    try clear hK8 K8
    refine vwp_seq_k fun K10 hK10 => ?_
    refine vwp_block ?_
    have hlen : a.length = b.length := by omega
    obtain ⟨x, hx⟩ := getI (l := a) (i := i) (by omega)
    obtain ⟨y, hy⟩ := getI (l := b) (i := i) (by omega)
    have hss := same_spec x y (by have := hal x (List.mem_of_getElem? hx); omega) (by have := hbl y (List.mem_of_getElem? hy); omega)
    refine vwp_sq [0, 1, 5] fun K11 hK11 => vwp_calm hT hm (by kernel_rfl) ?_
    simp [hx, hy]
    repeat refine ⟨by first | assumption | omega | (intros; omega), ?_⟩
    refine ⟨.bool (decide (x = y)), fun sl => ?_, ?_⟩
    · refine vcall_k [] (hss) ?_
      rintro r ob' ⟨rfl, rfl⟩
      simp
    simp [hx, hy]
    repeat refine ⟨by first | assumption | omega | (intros; omega), ?_⟩
    refine hK11 _ ?_
    try clear hK11 K11
    refine vwp_cond (by first | rfl | (simp; rfl)) (fun h3 => ?_) fun h3 => ?_
    · simp -failIfUnchanged at h3; all_goals
     have q2 := h3
     have hne : ¬ x = y := by simpa using q2
     refine vwp_sq [] fun K12 hK12 => vwp_region hT ?_
     simp
     refine hK12 _ ?_
     try clear hK12 K12
     refine vwp_ret (hR _ _ ?_)
     have e : ¬ a = b := fun e => by
       rw [e, hy] at hx
       exact hne (Option.some.inj hx).symm
     exact ret_k [4] [] ([]) (.bool false) (⟨by rw [decide_eq_false e], rfl⟩)
    · simp -failIfUnchanged at h3; all_goals
     have q2 := h3
     have hxy : x = y := by simpa using q2
     refine vwp_skip ?_
     refine hK10 _ ?_
     try clear hK10 K10
     have w1 : IntKind.i64.wrap ((i : Int) + 1) = i + 1 := w64 (by omega) (by omega)
     refine vwp_live [0, 1, 5] (vwp_region hT ?_)
     simp [w1]
     exact hK7 (i + 1) _ (Gh.to_k [0, 1, 5] []) (⟨by omega, by rw [List.take_add_one, List.take_add_one, hab, hx, hy, hxy]⟩) (by omega)
   · simp -failIfUnchanged at h2; all_goals
    refine vwp_exit ?_
    simp only [inBlk, thenQ, if_true]
    refine hK5 _ ?_
    try clear hK5 K5
    refine vwp_sq [] fun K13 hK13 => vwp_region hT ?_
    simp
    refine hK13 _ ?_
    try clear hK13 K13
    refine vwp_ret (hR _ _ ?_)
    have e : a = b := by
      have e1 : a.take i = a := List.take_of_length_le (by omega)
      have e2 : b.take i = b := List.take_of_length_le (by omega)
      rw [e1, e2] at hab
      exact hab
    exact ret_k [4] [] ([]) (.bool true) (⟨by rw [decide_eq_true e], rfl⟩)
end Go.Proofs.Ytifhbgppjblobaa
