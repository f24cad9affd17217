/- Worlds that may be: the walk. -/
import Derived.Test.YtinigjmfjabicaaPlE
namespace Go.Proofs.Ytinigjmfjabicaa
open Go Go.VX Go.RowKit
set_option linter.unusedVariables false
set_option linter.unusedSimpArgs false
set_option maxHeartbeats 20000000
set_option maxRecDepth 100000

/-! ### Numbers seen -/
abbrev setE (K : List Int) : List (V × V) := K.map fun k => (V.int .i64 k, V.bool true)
theorem vfind_set (x : Int) : ∀ (K : List Int) (j : Nat), (x ∉ K ∧ vfindK (.int .i64 x) (setE K) j = some none) ∨ (∃ i, K[i]? = some x ∧ vfindK (.int .i64 x) (setE K) j = some (some (j + i, .bool true)))
  | [], j => .inl ⟨by simp, rfl⟩
  | k :: K, j => by
    by_cases h : x = k
    · exact .inr ⟨0, by simp [h], by simp [vfindK, sameK, h]⟩
    · have hb : (x == k) = false := by simpa using h
      rcases vfind_set x K (j + 1) with ⟨h1, h2⟩ | ⟨i, h1, h2⟩
      · exact .inl ⟨by simp [h, h1], by simp only [setE, List.map_cons, vfindK, sameK, if_true, hb]; exact h2⟩
      · exact .inr ⟨i + 1, by simpa using h1, by simp only [setE, List.map_cons, vfindK, sameK, if_true, hb]; rw [← setE, h2]; simp; omega⟩
theorem set_modify (K : List Int) (i : Nat) : (setE K).modify i (fun e => (e.1, V.bool true)) = setE K := by
  apply List.ext_getElem?
  intro j
  rw [List.getElem?_modify]
  simp only [setE, List.getElem?_map]
  by_cases h : i = j
  · simp [h]; cases K[j]? <;> simp
  · simp [h]
@[simp] theorem rnO_set (f : Nat → Nat) (K : List Int) (bs : List Nat) (ck : Nat) : rnO f (.map (setE K) bs ck) = .map (setE K) bs ck := rnO_map f _ (fun _ => rfl) K bs ck
theorem rnO_set1 (f : Nat → Nat) (K : List Int) (x : Int) (bs : List Nat) (ck : Nat) : rnO f (.map (setE K ++ [(.int .i64 x, .bool true)]) bs ck) = .map (setE (K ++ [x])) bs ck := by
  have e : setE K ++ [(V.int .i64 x, V.bool true)] = setE (K ++ [x]) := by simp
  rw [e]; exact rnO_set f _ bs ck
structure SetOf (l K : List Int) : Prop where
  nd : K.Nodup
  mem : ∀ x, x ∈ K ↔ x ∈ l
theorem SetOf.nil : SetOf [] [] := ⟨by simp, by simp⟩
theorem SetOf.have {l K : List Int} {x : Int} (h : SetOf l K) (hx : x ∈ K) : SetOf (l ++ [x]) K := ⟨h.nd, fun y => by
  rw [List.mem_append, List.mem_singleton, ← h.mem]
  constructor
  · exact .inl
  · rintro (h1 | rfl)
    · exact h1
    · exact hx⟩
theorem SetOf.more {l K : List Int} {x : Int} (h : SetOf l K) (hx : x ∉ K) : SetOf (l ++ [x]) (K ++ [x]) := ⟨by
  rw [List.nodup_append]
  refine ⟨h.nd, by simp, fun a ha b hb => ?_⟩
  simp at hb; subst hb; intro e; subst e; exact hx ha, fun y => by simp [h.mem]⟩
theorem sub_len : ∀ {K l : List Int}, K.Nodup → (∀ x ∈ K, x ∈ l) → K.length ≤ l.length
  | [], l, _, _ => by simp
  | k :: K, l, hn, hs => by
    rw [List.nodup_cons] at hn
    have hk := hs k (by simp)
    have h1 : K.length ≤ (l.erase k).length := sub_len hn.2 fun x hx => (List.mem_erase_of_ne (by rintro rfl; exact hn.1 hx)).2 (hs x (by simp [hx]))
    rw [List.length_erase_of_mem hk] at h1
    have := List.length_pos_of_mem hk
    simp only [List.length_cons]; omega
theorem SetOf.le {l K : List Int} (h : SetOf l K) : K.length ≤ l.length := sub_len h.nd fun x hx => (h.mem x).1 hx
theorem SetOf.lt {l K : List Int} (h : SetOf l K) : K.length < l.length ↔ ¬ l.Nodup := by
  have hle := h.le
  constructor
  · intro q hn
    have := ((List.perm_ext_iff_of_nodup h.nd hn).2 h.mem).length_eq
    omega
  · intro hn
    rw [List.nodup_iff_count] at hn
    have hn2 : ∃ a, ¬ List.count a l ≤ 1 := Classical.not_forall.1 hn
    obtain ⟨a, ha⟩ := hn2
    have hal : a ∈ l := List.count_pos_iff.1 (by omega)
    have h1 : K.length ≤ (l.erase a).length := sub_len h.nd fun x hx => by
      by_cases e : x = a
      · subst e; exact List.count_pos_iff.1 (by rw [List.count_erase_self]; omega)
      · exact (List.mem_erase_of_ne e).2 ((h.mem x).1 hx)
    rw [List.length_erase_of_mem hal] at h1
    have := List.length_pos_of_mem hal
    omega
theorem wid_o (o : Od) : VC P 89 [.agg (Od.cells o)] [] (fun r ob' => r = .int .i64 o.id ∧ ob' = []) := by
  refine VC_of_vwp_k ent_89 Try.func89 rfl (by simp) fun R hR => ?_
  refine vwp_sq [0] fun K1 hK1 => vwp_region hT ?_
  simp
  refine hK1 _ ?_
  try clear hK1 K1
  refine vwp_sq [1] fun K2 hK2 => vwp_region hT ?_
  simp
  refine hK2 _ ?_
  try clear hK2 K2
  refine vwp_ret (hR _ _ ?_)
  exact ret_k [2] [] ([]) (.int .i64 o.id) (⟨rfl, rfl⟩)
theorem wid_t (o : Tk) : VC P 91 [.agg (Tk.cells o)] [] (fun r ob' => r = .int .i64 o.id ∧ ob' = []) := by
  refine VC_of_vwp_k ent_91 Try.func91 rfl (by simp) fun R hR => ?_
  refine vwp_sq [0] fun K1 hK1 => vwp_region hT ?_
  simp
  refine hK1 _ ?_
  try clear hK1 K1
  refine vwp_sq [1] fun K2 hK2 => vwp_region hT ?_
  simp
  refine hK2 _ ?_
  try clear hK2 K2
  refine vwp_ret (hR _ _ ?_)
  exact ret_k [2] [] ([]) (.int .i64 o.id) (⟨rfl, rfl⟩)

structure KS where (i : Nat) (K : List Int) (bs : List Nat) (ck : Nat)
theorem alike_o (l : List Od) (hl : l.length < 1099511627776) : VC P 88 [.fs l.length (rowsV l), .fn 89 []] [] (fun r ob' => r = .bool (!decide (l.map (·.id)).Nodup) ∧ ob' = []) := by
  refine VC_of_vwp_k ent_88 Try.func88 rfl (by simp) fun R hR => ?_
  refine vwp_sq [0, 1] fun K1 hK1 => vwp_region hT ?_
  simp
  refine hK1 _ ?_
  try clear hK1 K1
  refine vwp_sq [0, 1] fun K2 hK2 => vwp_region hT ?_
  simp
  refine hK2 _ ?_
  try clear hK2 K2
  refine vwp_seq_k fun K3 hK3 => ?_
  refine vwp_sq [0, 1, 5] fun K4 hK4 => vwp_region hT ?_
  simp
  refine hK4 _ ?_
  try clear hK4 K4
  refine vwp_block ?_
  refine vwp_loop_s (fun u : KS => ⟨[(0, .fs l.length (rowsV l)), (1, .fn 89 []), (5, .mp 0), (9, .fs l.length (rowsV l)), (10, .int .i64 l.length), (11, .int .i64 (u.i : Int))], [.map (setE u.K) u.bs u.ck]⟩) (fun u => u.i ≤ l.length ∧ SetOf ((l.take u.i).map (·.id)) u.K) (fun u => l.length - u.i) (⟨0, [], [], 0⟩) (Gh.to_k [0, 1, 5, 9, 10, 11] [0]) (⟨by simp, SetOf.nil⟩) ?_
  rintro ⟨i, K, bs, ck⟩ ⟨hi, hK⟩
  dsimp only at hi hK ⊢
  intro K5 hK5
  refine vwp_sq [0, 1, 5, 9, 10, 11] fun K6 hK6 => vwp_region hT ?_
  simp
  refine hK6 _ ?_
  try clear hK6 K6
  refine vwp_seq_k fun K7 hK7 => ?_
  refine vwp_cond (by first | rfl | (simp; rfl)) (fun h1 => ?_) fun h1 => ?_
  · simp -failIfUnchanged at h1; all_goals
   refine vwp_skip ?_
   refine hK7 _ ?_
   try clear hK7 K7
   refine vwp_seq_k fun K8 hK8 => ?_
   refine vwp_block ?_
   obtain ⟨s, hs⟩ := getI (l := l) (i := i) (by omega)
   have hrow := rowOd hs
   have hlen := lenOd l
   have htk : (l.take (i + 1)).map (·.id) = (l.take i).map (·.id) ++ [s.id] := by rw [take_snoc hs]; simp
   refine vwp_sq [0, 1, 5, 9, 10, 11] fun K9 hK9 => vwp_region hT ?_
   simp [hrow, hlen]
   repeat refine ⟨by first | assumption | omega | (intros; omega), ?_⟩
   refine hK9 _ ?_
   try clear hK9 K9
   rcases vfind_set s.id K 0 with ⟨hnin, hv⟩ | ⟨p, hp, hv⟩
   · refine vwp_live [0, 1, 5, 7, 9, 10, 11] (vwp_region hT ?_)
     simp [hv]
     repeat refine ⟨by first | assumption | omega | (intros; omega), ?_⟩
     refine vcall_k [] (wid_o s) ?_
     rintro r ob' ⟨rfl, rfl⟩
     simp [hv]
     repeat refine ⟨by first | assumption | omega | (intros; omega), ?_⟩
     refine hK8 _ ?_
     try clear hK8 K8
     have w1 : IntKind.i64.wrap ((i : Int) + 1) = i + 1 := w64 (by omega) (by omega)
     refine vwp_live [0, 1, 5, 9, 10, 11] (vwp_region hT ?_)
     simp [w1]
     exact hK5 ⟨i + 1, K ++ [s.id], bs ++ [ck], ck + 1⟩ _ (Gh.to_k [0, 1, 5, 9, 10, 11] [0] (hh := by simp [rnO_set1])) ⟨by dsimp only; omega, by dsimp only; rw [htk]; exact hK.more hnin⟩ (by dsimp only; omega)
   · have hmo := set_modify K p
     have hin := List.mem_of_getElem? hp
     refine vwp_live [0, 1, 5, 7, 9, 10, 11] (vwp_region hT ?_)
     simp [hv, hmo, Nat.zero_add]
     repeat refine ⟨by first | assumption | omega | (intros; omega), ?_⟩
     refine vcall_k [] (wid_o s) ?_
     rintro r ob' ⟨rfl, rfl⟩
     simp [hv, hmo, Nat.zero_add]
     repeat refine ⟨by first | assumption | omega | (intros; omega), ?_⟩
     refine hK8 _ ?_
     try clear hK8 K8
     have w1 : IntKind.i64.wrap ((i : Int) + 1) = i + 1 := w64 (by omega) (by omega)
     refine vwp_live [0, 1, 5, 9, 10, 11] (vwp_region hT ?_)
     simp [w1]
     exact hK5 ⟨i + 1, K, bs, ck⟩ _ (Gh.to_k [0, 1, 5, 9, 10, 11] [0] (hh := by simp)) ⟨by dsimp only; omega, by dsimp only; rw [htk]; exact hK.have hin⟩ (by dsimp only; omega)
  · simp -failIfUnchanged at h1; all_goals
   refine vwp_exit ?_
   simp only [inBlk, thenQ, if_true]
   refine hK3 _ ?_
   try clear hK3 K3
   refine vwp_sq [0, 5] fun K10 hK10 => vwp_region hT ?_
   simp
   refine hK10 _ ?_
   try clear hK10 K10
   refine vwp_ret (hR _ _ ?_)
   obtain rfl : i = l.length := by omega
   rw [List.take_length] at hK
   have hlt := hK.lt
   have hle := hK.le
   rw [List.length_map] at hlt hle
   exact ret_k [4] [] ([]) (.bool (!decide (l.map (·.id)).Nodup)) (⟨rfl, rfl⟩) (hr := by simp only [retV, keepS]; simp; rw [Bool.eq_iff_iff, decide_eq_true_eq, Bool.not_eq_true', decide_eq_false_iff_not]; exact hlt)
theorem alike_t (l : List Tk) (hl : l.length < 1099511627776) : VC P 90 [.fs l.length (rowsV l), .fn 91 []] [] (fun r ob' => r = .bool (!decide (l.map (·.id)).Nodup) ∧ ob' = []) := by
  refine VC_of_vwp_k ent_90 Try.func90 rfl (by simp) fun R hR => ?_
  refine vwp_sq [0, 1] fun K1 hK1 => vwp_region hT ?_
  simp
  refine hK1 _ ?_
  try clear hK1 K1
  refine vwp_sq [0, 1] fun K2 hK2 => vwp_region hT ?_
  simp
  refine hK2 _ ?_
  try clear hK2 K2
  refine vwp_seq_k fun K3 hK3 => ?_
  refine vwp_sq [0, 1, 5] fun K4 hK4 => vwp_region hT ?_
  simp
  refine hK4 _ ?_
  try clear hK4 K4
  refine vwp_block ?_
  refine vwp_loop_s (fun u : KS => ⟨[(0, .fs l.length (rowsV l)), (1, .fn 91 []), (5, .mp 0), (9, .fs l.length (rowsV l)), (10, .int .i64 l.length), (11, .int .i64 (u.i : Int))], [.map (setE u.K) u.bs u.ck]⟩) (fun u => u.i ≤ l.length ∧ SetOf ((l.take u.i).map (·.id)) u.K) (fun u => l.length - u.i) (⟨0, [], [], 0⟩) (Gh.to_k [0, 1, 5, 9, 10, 11] [0]) (⟨by simp, SetOf.nil⟩) ?_
  rintro ⟨i, K, bs, ck⟩ ⟨hi, hK⟩
  dsimp only at hi hK ⊢
  intro K5 hK5
  refine vwp_sq [0, 1, 5, 9, 10, 11] fun K6 hK6 => vwp_region hT ?_
  simp
  refine hK6 _ ?_
  try clear hK6 K6
  refine vwp_seq_k fun K7 hK7 => ?_
  refine vwp_cond (by first | rfl | (simp; rfl)) (fun h1 => ?_) fun h1 => ?_
  · simp -failIfUnchanged at h1; all_goals
   refine vwp_skip ?_
   refine hK7 _ ?_
   try clear hK7 K7
   refine vwp_seq_k fun K8 hK8 => ?_
   refine vwp_block ?_
   obtain ⟨s, hs⟩ := getI (l := l) (i := i) (by omega)
   have hrow := rowTk hs
   have hlen := lenTk l
   have htk : (l.take (i + 1)).map (·.id) = (l.take i).map (·.id) ++ [s.id] := by rw [take_snoc hs]; simp
   refine vwp_sq [0, 1, 5, 9, 10, 11] fun K9 hK9 => vwp_region hT ?_
   simp [hrow, hlen]
   repeat refine ⟨by first | assumption | omega | (intros; omega), ?_⟩
   refine hK9 _ ?_
   try clear hK9 K9
   rcases vfind_set s.id K 0 with ⟨hnin, hv⟩ | ⟨p, hp, hv⟩
   · refine vwp_live [0, 1, 5, 7, 9, 10, 11] (vwp_region hT ?_)
     simp [hv]
     repeat refine ⟨by first | assumption | omega | (intros; omega), ?_⟩
     refine vcall_k [] (wid_t s) ?_
     rintro r ob' ⟨rfl, rfl⟩
     simp [hv]
     repeat refine ⟨by first | assumption | omega | (intros; omega), ?_⟩
     refine hK8 _ ?_
     try clear hK8 K8
     have w1 : IntKind.i64.wrap ((i : Int) + 1) = i + 1 := w64 (by omega) (by omega)
     refine vwp_live [0, 1, 5, 9, 10, 11] (vwp_region hT ?_)
     simp [w1]
     exact hK5 ⟨i + 1, K ++ [s.id], bs ++ [ck], ck + 1⟩ _ (Gh.to_k [0, 1, 5, 9, 10, 11] [0] (hh := by simp [rnO_set1])) ⟨by dsimp only; omega, by dsimp only; rw [htk]; exact hK.more hnin⟩ (by dsimp only; omega)
   · have hmo := set_modify K p
     have hin := List.mem_of_getElem? hp
     refine vwp_live [0, 1, 5, 7, 9, 10, 11] (vwp_region hT ?_)
     simp [hv, hmo, Nat.zero_add]
     repeat refine ⟨by first | assumption | omega | (intros; omega), ?_⟩
     refine vcall_k [] (wid_t s) ?_
     rintro r ob' ⟨rfl, rfl⟩
     simp [hv, hmo, Nat.zero_add]
     repeat refine ⟨by first | assumption | omega | (intros; omega), ?_⟩
     refine hK8 _ ?_
     try clear hK8 K8
     have w1 : IntKind.i64.wrap ((i : Int) + 1) = i + 1 := w64 (by omega) (by omega)
     refine vwp_live [0, 1, 5, 9, 10, 11] (vwp_region hT ?_)
     simp [w1]
     exact hK5 ⟨i + 1, K, bs, ck⟩ _ (Gh.to_k [0, 1, 5, 9, 10, 11] [0] (hh := by simp)) ⟨by dsimp only; omega, by dsimp only; rw [htk]; exact hK.have hin⟩ (by dsimp only; omega)
  · simp -failIfUnchanged at h1; all_goals
   refine vwp_exit ?_
   simp only [inBlk, thenQ, if_true]
   refine hK3 _ ?_
   try clear hK3 K3
   refine vwp_sq [0, 5] fun K10 hK10 => vwp_region hT ?_
   simp
   refine hK10 _ ?_
   try clear hK10 K10
   refine vwp_ret (hR _ _ ?_)
   obtain rfl : i = l.length := by omega
   rw [List.take_length] at hK
   have hlt := hK.lt
   have hle := hK.le
   rw [List.length_map] at hlt hle
   exact ret_k [4] [] ([]) (.bool (!decide (l.map (·.id)).Nodup)) (⟨rfl, rfl⟩) (hr := by simp only [retV, keepS]; simp; rw [Bool.eq_iff_iff, decide_eq_true_eq, Bool.not_eq_true', decide_eq_false_iff_not]; exact hlt)
end Go.Proofs.Ytinigjmfjabicaa
