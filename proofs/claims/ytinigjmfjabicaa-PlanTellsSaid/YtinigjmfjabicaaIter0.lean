/- Rows as iterators, and iterators as rows: the walk. -/
import Derived.Test.YtinigjmfjabicaaBase
import Derived.Test.YtinigjmfjabicaaVXc
namespace Go.Proofs.Ytinigjmfjabicaa
open Go Go.VX Go.RowKit
set_option linter.unusedVariables false
set_option linter.unusedSimpArgs false
set_option maxHeartbeats 20000000
set_option maxRecDepth 100000
theorem values1_spec (L : List Int) (hL : L.length < 1099511627776) {n : Nat} {ks : List Nat} {vs : List V} {ps : Array Tmp} {ac bd : Code} (S : Nat → List Ob)
  (hy : ∀ i x, L[i]? = some x → YC P 1 [.int .i64 x] (.live [.fs L.length (L.map (.int .i64))] :: .loop .ready none n ks vs ps ac bd :: S i) (fun r ob' => r = .bool true ∧ ob' = .live [.fs L.length (L.map (.int .i64))] :: .loop .ready none n ks vs ps ac bd :: S (i + 1))) : VC P 70 [.yld 1, .ptr 0 1 0] (.live [.fs L.length (L.map (.int .i64))] :: .loop .ready none n ks vs ps ac bd :: S 0) (fun r ob' => ob' = .live [.fs L.length (L.map (.int .i64))] :: .loop .ready none n ks vs ps ac bd :: S L.length) := by
  refine VC_of_vwp_k ent_70 Try.func70 rfl (by simp) fun R hR => ?_
  refine vwp_sq [0, 1] fun K1 hK1 => vwp_region hT ?_
  simp
  refine hK1 _ ?_
  try clear hK1 K1
  refine vwp_block ?_
  refine vwp_loop_s (fun i : Nat => ⟨[(0, .yld 1), (5, .fs L.length (L.map (.int .i64))), (6, .int .i64 L.length), (7, .int .i64 (i : Int))], .live [.fs L.length (L.map (.int .i64))] :: .loop .ready none n ks vs ps ac bd :: S i⟩) (fun i => i ≤ L.length) (fun i => L.length - i) 0 (Gh.pick [0, 5, 6, 7]) (by omega) ?_
  rintro i hi
  intro K2 hK2
  refine vwp_sq [0, 5, 6, 7] fun K3 hK3 => vwp_region hT ?_
  simp
  refine hK3 _ ?_
  try clear hK3 K3
  refine vwp_seq_k fun K4 hK4 => ?_
  refine vwp_cond (by first | rfl | (simp; rfl)) (fun h1 => ?_) fun h1 => ?_
  · simp -failIfUnchanged at h1; all_goals
   refine vwp_skip ?_
   refine hK4 _ ?_
   try clear hK4 K4
   refine vwp_seq_k fun K5 hK5 => ?_
   refine vwp_block ?_
   obtain ⟨x, hx⟩ := getI (l := L) (i := i) (by omega)
   refine vwp_sq [0, 5, 6, 7] fun K6 hK6 => vwp_region hT ?_
   simp [hx]
   repeat refine ⟨by first | assumption | omega | (intros; omega), ?_⟩
   refine hK6 _ ?_
   try clear hK6 K6
   refine vwp_sq [0, 4, 5, 6, 7] fun K7 hK7 => vwp_regionY hT ?_
   simp
   refine ycall_id (hy i x hx) ?_
   rintro r ob' ⟨rfl, rfl⟩
   simp
   refine hK7 _ ?_
   try clear hK7 K7
   refine vwp_cond (by first | rfl | (simp; rfl)) (fun h2 => ?_) fun h2 => ?_
   · simp -failIfUnchanged at h2; all_goals
    refine vwp_ret (hR _ _ ?_)
    have e : i = L.length := by omega
    subst e
    exact ⟨_, Gh.refl _ _, by simp [retQ]⟩
   · simp -failIfUnchanged at h2; all_goals
    refine vwp_skip ?_
    refine hK5 _ ?_
    try clear hK5 K5
    have w1 : IntKind.i64.wrap ((i : Int) + 1) = i + 1 := w64 (by omega) (by omega)
    refine vwp_live [0, 5, 6, 7] (vwp_region hT ?_)
    simp [w1]
    exact hK2 (i + 1) _ (Gh.pick [0, 5, 6, 7]) (by omega) (by omega)
  · simp -failIfUnchanged at h1; all_goals
   refine vwp_exit ?_
   simp only [inBlk, thenQ, if_true]
   refine hR _ _ ?_
   have e : i = L.length := by omega
   subst e
   exact ⟨_, Gh.refl _ _, by simp [retQ]⟩
theorem appendSeq_spec (L : List Int) (hL : L.length < 1099511627776) : VC P 103 [.nils, .fn 70 [.ptr 0 1 0]] [.live [.fs L.length (L.map (.int .i64))]] (fun r ob' => r = .sl 1 L.length 1 0 L.length ∧ ob' = [.live [.fs L.length (L.map (.int .i64))], .live (L.map (.int .i64))]) := by
  refine VC_of_vwp_k ent_103 Try.func103 rfl (by simp) fun R hR => ?_
  refine vwp_sq [0, 1] fun K1 hK1 => vwp_region hT ?_
  simp
  refine hK1 _ ?_
  try clear hK1 K1
  refine vwp_seq_k fun K2 hK2 => ?_
  refine vwp_sq [1, 2, 4] fun K3 hK3 => vwp_region hT ?_
  simp
  refine hK3 _ ?_
  try clear hK3 K3
  refine vwp_block ?_
  refine vwp_gh (Gh.virtC 1 0 1 rfl rfl) ?_
  simp
  refine vwp_range [2] rfl fun ac bd hac hbd => ?_
  simp
  refine vcall_k [0, 3, 1, 2] (values1_spec L hL (n := 13) (ks := [2]) (vs := [.ptr 2 1 0]) (ps := #[7]) (ac := ac) (bd := bd) (fun i => [.live [.sl 3 i 1 0 i], .live ((L.map (.int .i64)).take i)]) (fun i x hx => ?_)) ?_
  · refine YC_of_round hac hbd rfl (by simp) (by simp) ?_
    simp only [putL, List.zip_cons_cons, List.zip_nil_left, List.zip_nil_right, List.map]
    refine vwp_live [2, 7] (vwp_region hT ?_)
    simp
    try refine ⟨rfl, ?_⟩
    try simp only [List.set]
    refine vwp_block ?_
    obtain ⟨hi, hi2⟩ := List.getElem?_eq_some_iff.1 hx
    have w1 : (L.map (V.int .i64)).take (i + 1) = (L.map (V.int .i64)).take i ++ [.int .i64 x] := by rw [List.take_add_one]; simp [hx]
    have w2 : min i L.length = i := by omega
    refine vwp_live [2, 5] (vwp_region hT ?_)
    simp [w1, w2]
    repeat refine ⟨by first | assumption | omega | (intros; omega), ?_⟩
    refine ⟨⟨[], [.live [.fs L.length (L.map (.int .i64))], .loop .busy none 13 [2] [.ptr 2 1 0] #[7] ac bd, .live [.sl 3 (i + 1) 1 0 (i + 1)], .live ((L.map (.int .i64)).take (i + 1))]⟩, Gh.to_k [] [0, 1, 2, 3] (hh := by simp [w1]), ?_⟩
    refine ⟨_, _, _, _, _, _, _, rfl, rfl, ?_⟩
    simp [w1]
  · rintro r ob' rfl
    simp
    refine ⟨_, _, _, _, _, _, _, _, rfl, by simp, ?_⟩
    simp only [inBlk, thenQ, List.set]
    refine hK2 _ ?_
    try clear hK2 K2
    refine vwp_sq [2] fun K4 hK4 => vwp_region hT ?_
    simp
    refine hK4 _ ?_
    try clear hK4 K4
    refine vwp_ret (hR _ _ ?_)
    exact ret_k [4] [0, 2] ([.live [.fs L.length (L.map (.int .i64))], .live (L.map (.int .i64))]) (.sl 1 L.length 1 0 L.length) (⟨rfl, rfl⟩)
theorem values_spec (L : List Int) : VC P 36 [.fs L.length (L.map (.int .i64))] [] (fun r ob' => r = .fn 70 [.ptr 0 1 0] ∧ ob' = [.live [.fs L.length (L.map (.int .i64))]]) := by
  refine VC_of_vwp_k ent_36 Try.func36 rfl (by simp) fun R hR => ?_
  refine vwp_sq [0] fun K1 hK1 => vwp_region hT ?_
  simp
  refine hK1 _ ?_
  try clear hK1 K1
  refine vwp_sq [1] fun K2 hK2 => vwp_region hT ?_
  simp
  refine hK2 _ ?_
  try clear hK2 K2
  refine vwp_ret (hR _ _ ?_)
  exact ret_k [2] [0] ([.live [.fs L.length (L.map (.int .i64))]]) (.fn 70 [.ptr 0 1 0]) (⟨rfl, rfl⟩)
theorem collect_spec (L : List Int) (hL : L.length < 1099511627776) : VC P 69 [.fn 70 [.ptr 0 1 0]] [.live [.fs L.length (L.map (.int .i64))]] (fun r ob' => r = .sl 1 L.length 1 0 L.length ∧ ob' = [.live [.fs L.length (L.map (.int .i64))], .live (L.map (.int .i64))]) := by
  refine VC_of_vwp_k ent_69 Try.func69 rfl (by simp) fun R hR => ?_
  refine vwp_sq [0] fun K1 hK1 => vwp_region hT ?_
  simp
  refine hK1 _ ?_
  try clear hK1 K1
  refine vwp_sq [0] fun K2 hK2 => vwp_region hT ?_
  simp
  refine vcall_k [0] (appendSeq_spec L hL) ?_
  rintro r ob' ⟨rfl, rfl⟩
  simp
  refine hK2 _ ?_
  try clear hK2 K2
  refine vwp_ret (hR _ _ ?_)
  exact ret_k [2] [0, 1] ([.live [.fs L.length (L.map (.int .i64))], .live (L.map (.int .i64))]) (.sl 1 L.length 1 0 L.length) (⟨rfl, rfl⟩)
end Go.Proofs.Ytinigjmfjabicaa
