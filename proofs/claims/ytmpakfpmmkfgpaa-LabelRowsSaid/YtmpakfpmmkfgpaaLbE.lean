/- Maps of numbers; what stands twice, aliases, places, what is granted: the walk. -/
import Derived.Test.YtmpakfpmmkfgpaaLbD
import Derived.Test.YtmpakfpmmkfgpaaVXc
namespace Go.Proofs.Ytmpakfpmmkfgpaa
open Go Go.VX Go.RowKit
set_option linter.unusedVariables false
set_option linter.unusedSimpArgs false
set_option maxHeartbeats 20000000
set_option maxRecDepth 100000
/-! ### Numbers seen -/
abbrev setE (K : List Int) : List (V × V) := K.map fun k => (V.int .i64 k, V.bool true)
theorem vfind_set (x : Int) : ∀ (K : List Int) (j : Nat), (x ∉ K ∧ vfindK (.int .i64 x) (setE K) j = some none) ∨ (∃ i, K[i]? = some x ∧ vfindK (.int .i64 x) (setE K) j = some (some (j + i, .bool true)))
  | [], j => .inl ⟨by simp, rfl⟩
  | k :: K, j => by
    by_cases h : x = k
    · exact .inr ⟨0, by simp [h], by simp [vfindK, sameK, h]⟩
    · have hb : (x == k) = false := by simpa using h
      rcases vfind_set x K (j + 1) with ⟨h1, h2⟩ | ⟨i, h1, h2⟩
      · exact .inl ⟨by simp [h, h1], by simp only [setE, List.map_cons, vfindK, sameK, if_true, hb]; exact h2⟩
      · exact .inr ⟨i + 1, by simpa using h1, by simp only [setE, List.map_cons, vfindK, sameK, if_true, hb]; rw [← setE, h2]; simp; omega⟩
theorem set_modify (K : List Int) (i : Nat) : (setE K).modify i (fun e => (e.1, V.bool true)) = setE K := by
  apply List.ext_getElem?
  intro j
  rw [List.getElem?_modify]
  simp only [setE, List.getElem?_map]
  by_cases h : i = j
  · simp [h]; cases K[j]? <;> simp
  · simp [h]
@[simp] theorem rnO_set (f : Nat → Nat) (K : List Int) (bs : List Nat) (ck : Nat) : rnO f (.map (setE K) bs ck) = .map (setE K) bs ck := rnO_map f _ (fun _ => rfl) K bs ck
theorem rnO_set1 (f : Nat → Nat) (K : List Int) (x : Int) (bs : List Nat) (ck : Nat) : rnO f (.map (setE K ++ [(.int .i64 x, .bool true)]) bs ck) = .map (setE (K ++ [x])) bs ck := by
  have e : setE K ++ [(V.int .i64 x, V.bool true)] = setE (K ++ [x]) := by simp
  rw [e]; exact rnO_set f _ bs ck
structure SetOf (l K : List Int) : Prop where
  nd : K.Nodup
  mem : ∀ x, x ∈ K ↔ x ∈ l
theorem SetOf.nil : SetOf [] [] := ⟨by simp, by simp⟩
theorem SetOf.have {l K : List Int} {x : Int} (h : SetOf l K) (hx : x ∈ K) : SetOf (l ++ [x]) K := ⟨h.nd, fun y => by
  rw [List.mem_append, List.mem_singleton, ← h.mem]
  constructor
  · exact .inl
  · rintro (h1 | rfl)
    · exact h1
    · exact hx⟩
theorem SetOf.more {l K : List Int} {x : Int} (h : SetOf l K) (hx : x ∉ K) : SetOf (l ++ [x]) (K ++ [x]) := ⟨by
  rw [List.nodup_append]
  refine ⟨h.nd, by simp, fun a ha b hb => ?_⟩
  simp at hb; subst hb; intro e; subst e; exact hx ha, fun y => by simp [h.mem]⟩
theorem sub_len : ∀ {K l : List Int}, K.Nodup → (∀ x ∈ K, x ∈ l) → K.length ≤ l.length
  | [], l, _, _ => by simp
  | k :: K, l, hn, hs => by
    rw [List.nodup_cons] at hn
    have hk := hs k (by simp)
    have h1 : K.length ≤ (l.erase k).length := sub_len hn.2 fun x hx => (List.mem_erase_of_ne (by rintro rfl; exact hn.1 hx)).2 (hs x (by simp [hx]))
    rw [List.length_erase_of_mem hk] at h1
    have := List.length_pos_of_mem hk
    simp only [List.length_cons]; omega
theorem SetOf.le {l K : List Int} (h : SetOf l K) : K.length ≤ l.length := sub_len h.nd fun x hx => (h.mem x).1 hx
theorem SetOf.lt {l K : List Int} (h : SetOf l K) : K.length < l.length ↔ ¬ l.Nodup := by
  have hle := h.le
  constructor
  · intro q hn
    have := ((List.perm_ext_iff_of_nodup h.nd hn).2 h.mem).length_eq
    omega
  · intro hn
    rw [List.nodup_iff_count] at hn
    have hn2 : ∃ a, ¬ List.count a l ≤ 1 := Classical.not_forall.1 hn
    obtain ⟨a, ha⟩ := hn2
    have hal : a ∈ l := List.count_pos_iff.1 (by omega)
    have h1 : K.length ≤ (l.erase a).length := sub_len h.nd fun x hx => by
      by_cases e : x = a
      · subst e; exact List.count_pos_iff.1 (by rw [List.count_erase_self]; omega)
      · exact (List.mem_erase_of_ne e).2 ((h.mem x).1 hx)
    rw [List.length_erase_of_mem hal] at h1
    have := List.length_pos_of_mem hal
    omega

structure KS where (i : Nat) (K : List Int) (bs : List Nat) (ck : Nat)
/-- Entries of a list, found by a key. -/
theorem vfind_map {α : Type} (f : α → Int) (g : α → V) (x : Int) : ∀ (L : List α) (j : Nat), (x ∉ L.map f ∧ vfindK (.int .i64 x) (L.map fun a => (V.int .i64 (f a), g a)) j = some none) ∨ (∃ i a, L[i]? = some a ∧ f a = x ∧ vfindK (.int .i64 x) (L.map fun a => (V.int .i64 (f a), g a)) j = some (some (j + i, g a)))
  | [], j => .inl ⟨by simp, rfl⟩
  | k :: K, j => by
    by_cases h : x = f k
    · exact .inr ⟨0, k, by simp, h.symm, by simp [vfindK, sameK, h]⟩
    · have hb : (x == f k) = false := by simpa using h
      rcases vfind_map f g x K (j + 1) with ⟨h1, h2⟩ | ⟨i, a, h1, h2, h3⟩
      · exact .inl ⟨by rw [List.map_cons, List.mem_cons, not_or]; exact ⟨h, h1⟩, by simp only [List.map_cons, vfindK, sameK, if_true, hb]; exact h2⟩
      · exact .inr ⟨i + 1, a, by simpa using h1, h2, by simp only [List.map_cons, vfindK, sameK, if_true, hb]; rw [h3]; simp; omega⟩
def alE (K : List Int) : List (V × V) := K.map fun k => (V.int .i64 k, V.int .i64 ((K.idxOf k : Int) + 1))
theorem alE_snoc {K : List Int} {t : Int} (h : t ∉ K) : alE K ++ [(V.int .i64 t, V.int .i64 ((K.length : Int) + 1))] = alE (K ++ [t]) := by
  unfold alE
  rw [List.map_append]
  congr 1
  · refine List.map_congr_left fun k hk => ?_
    simp [List.idxOf_append, hk]
  · simp [List.idxOf_append, h]
theorem rnO_mp {α : Type} (f : Nat → Nat) (K : List α) (a b : α → Int) (bs : List Nat) (ck : Nat) : rnO f (.map (K.map fun k => (V.int .i64 (a k), V.int .i64 (b k))) bs ck) = .map (K.map fun k => (V.int .i64 (a k), V.int .i64 (b k))) bs ck := rnO_map f _ (fun _ => rfl) K bs ck
@[simp] theorem rnO_al (f : Nat → Nat) (K : List Int) (bs : List Nat) (ck : Nat) : rnO f (.map (alE K) bs ck) = .map (alE K) bs ck := rnO_mp f K _ _ bs ck
theorem alE_len (K : List Int) : (alE K).length = K.length := by simp [alE]
def mnE (l : List Int) : List (V × V) := (dd l).map fun t => (V.int .i64 t, V.int .i64 ((l.count t : Nat) : Int))
@[simp] theorem rnO_mn (f : Nat → Nat) (K : List Int) (bs : List Nat) (ck : Nat) : rnO f (.map (mnE K) bs ck) = .map (mnE K) bs ck := rnO_mp f (dd K) (fun t => t) _ bs ck
theorem mnE_new {l : List Int} {t : Int} (h : t ∉ l) : mnE l ++ [(V.int .i64 t, V.int .i64 1)] = mnE (l ++ [t]) := by
  unfold mnE
  have : addN (dd l) t = dd l ++ [t] := if_neg (fun e => h (dd_mem.1 e))
  rw [dd_snoc, this, List.map_append]
  congr 1
  · refine List.map_congr_left fun k hk => ?_
    have hne : k ≠ t := by rintro rfl; exact h (dd_mem.1 hk)
    simp [List.count_append, List.count_cons, hne.symm]
  · simp [List.count_append, List.count_eq_zero.2 h]
theorem mnE_more {l : List Int} {t : Int} {j : Nat} (hj : (dd l)[j]? = some t) : (mnE l).modify j (fun e => (e.1, V.int .i64 (((l.count t : Nat) : Int) + 1))) = mnE (l ++ [t]) := by
  have hm : t ∈ dd l := List.mem_of_getElem? hj
  have : addN (dd l) t = dd l := if_pos hm
  unfold mnE
  rw [dd_snoc, this]
  apply List.ext_getElem?
  intro k
  rw [List.getElem?_modify, List.getElem?_map, List.getElem?_map]
  by_cases hk : j = k
  · subst hk
    simp [hj, List.count_append]
  · cases hq : (dd l)[k]? with
    | none => simp
    | some u =>
      have hne : t ≠ u := by
        rintro rfl
        exact hk ((List.getElem?_inj (List.getElem?_eq_some_iff.1 hj).1 (dd_nodup l)).1 (hj.trans hq.symm))
      simp [hk, List.count_append, List.count_cons, hne]
theorem vfind_mn (x : Int) (l : List Int) : (x ∉ l ∧ vfindK (.int .i64 x) (mnE l) 0 = some none) ∨ (∃ i, (dd l)[i]? = some x ∧ vfindK (.int .i64 x) (mnE l) 0 = some (some (i, .int .i64 ((l.count x : Nat) : Int)))) := by
  rcases vfind_map (fun t => t) (fun t => V.int .i64 ((l.count t : Nat) : Int)) x (dd l) 0 with ⟨h1, h2⟩ | ⟨i, a, h1, rfl, h3⟩
  · exact .inl ⟨by simpa [dd_mem] using h1, h2⟩
  · exact .inr ⟨i, h1, by rw [Nat.zero_add] at h3; exact h3⟩
theorem vfind_al (x : Int) (K : List Int) : (x ∉ K ∧ vfindK (.int .i64 x) (alE K) 0 = some none) ∨ (∃ i, K[i]? = some x ∧ vfindK (.int .i64 x) (alE K) 0 = some (some (i, .int .i64 ((K.idxOf x : Int) + 1)))) := by
  rcases vfind_map (fun t => t) (fun t => V.int .i64 ((K.idxOf t : Int) + 1)) x K 0 with ⟨h1, h2⟩ | ⟨i, a, h1, rfl, h3⟩
  · exact .inl ⟨by simpa using h1, h2⟩
  · exact .inr ⟨i, h1, by rw [Nat.zero_add] at h3; exact h3⟩
theorem twice_spec (x : Whl) (hs : x.ss.length < 1099511627776) (hf : x.fs.length < 1099511627776) : VC P 17 [.agg x.c] [] (fun r ob' => r = .bool (!decide (idsP x).Nodup) ∧ ob' = []) := by
  refine VC_of_vwp_k ent_17 Try.func17 rfl (by simp) fun R hR => ?_
  refine vwp_sq [0] fun K1 hK1 => vwp_region hT ?_
  simp
  refine hK1 _ ?_
  try clear hK1 K1
  refine vwp_sq [1] fun K2 hK2 => vwp_region hT ?_
  simp
  refine hK2 _ ?_
  try clear hK2 K2
  refine vwp_seq_k fun K3 hK3 => ?_
  refine vwp_sq [1, 3] fun K4 hK4 => vwp_region hT ?_
  simp
  refine hK4 _ ?_
  try clear hK4 K4
  refine vwp_block ?_
  refine vwp_loop_s (fun u : KS => ⟨[(1, .ptr 0 6 0), (3, .mp 1), (10, fsV x.ss), (11, .int .i64 x.ss.length), (12, .int .i64 (u.i : Int))], [.live x.c, .map (setE u.K) u.bs u.ck]⟩) (fun u => u.i ≤ x.ss.length ∧ SetOf ((x.ss.take u.i).map (·.oi)) u.K) (fun u => x.ss.length - u.i) (⟨0, [], [], 0⟩) (Gh.to_k [1, 3, 10, 11, 12] [0, 1]) (⟨by simp, SetOf.nil⟩) ?_
  rintro ⟨i, K, bs, ck⟩ ⟨hi, hK⟩
  dsimp only at hi hK ⊢
  intro K5 hK5
  refine vwp_sq [1, 3, 10, 11, 12] fun K6 hK6 => vwp_region hT ?_
  simp
  refine hK6 _ ?_
  try clear hK6 K6
  refine vwp_seq_k fun K7 hK7 => ?_
  refine vwp_cond (by first | rfl | (simp; rfl)) (fun h1 => ?_) fun h1 => ?_
  · simp -failIfUnchanged at h1; all_goals
   refine vwp_skip ?_
   refine hK7 _ ?_
   try clear hK7 K7
   refine vwp_seq_k fun K8 hK8 => ?_
   refine vwp_block ?_
   obtain ⟨s, hs1⟩ := getI (l := x.ss) (i := i) (by omega)
   have hrow := rowStp hs1
   have hlen := lenStp x.ss
   have htk : (x.ss.take (i + 1)).map (·.oi) = (x.ss.take i).map (·.oi) ++ [s.oi] := by rw [take_snoc hs1]; simp
   refine vwp_sq [1, 3, 10, 11, 12] fun K9 hK9 => vwp_region hT ?_
   simp [hrow, hlen]
   repeat refine ⟨by first | assumption | omega | (intros; omega), ?_⟩
   refine hK9 _ ?_
   try clear hK9 K9
   rcases vfind_set s.oi K 0 with ⟨hnin, hv⟩ | ⟨p, hp, hv⟩
   · refine vwp_live [1, 3, 5, 10, 11, 12] (vwp_region hT ?_)
     simp [hv]
     repeat refine ⟨by first | assumption | omega | (intros; omega), ?_⟩
     refine hK8 _ ?_
     try clear hK8 K8
     have w1 : IntKind.i64.wrap ((i : Int) + 1) = i + 1 := w64 (by omega) (by omega)
     refine vwp_live [1, 3, 10, 11, 12] (vwp_region hT ?_)
     simp [w1]
     exact hK5 ⟨i + 1, K ++ [s.oi], bs ++ [ck], ck + 1⟩ _ (Gh.to_k [1, 3, 10, 11, 12] [0, 1] (hh := by simp [rnO_set1])) ⟨by dsimp only; omega, by dsimp only; rw [htk]; exact hK.more hnin⟩ (by dsimp only; omega)
   · have hmo := set_modify K p
     have hin := List.mem_of_getElem? hp
     refine vwp_live [1, 3, 5, 10, 11, 12] (vwp_region hT ?_)
     simp [hv, hmo, Nat.zero_add]
     repeat refine ⟨by first | assumption | omega | (intros; omega), ?_⟩
     refine hK8 _ ?_
     try clear hK8 K8
     have w1 : IntKind.i64.wrap ((i : Int) + 1) = i + 1 := w64 (by omega) (by omega)
     refine vwp_live [1, 3, 10, 11, 12] (vwp_region hT ?_)
     simp [w1]
     exact hK5 ⟨i + 1, K, bs, ck⟩ _ (Gh.to_k [1, 3, 10, 11, 12] [0, 1] (hh := by simp)) ⟨by dsimp only; omega, by dsimp only; rw [htk]; exact hK.have hin⟩ (by dsimp only; omega)
  · simp -failIfUnchanged at h1; all_goals
   refine vwp_exit ?_
   simp only [inBlk, thenQ, if_true]
   refine hK3 _ ?_
   try clear hK3 K3
   refine vwp_seq_k fun K10 hK10 => ?_
   obtain rfl : i = x.ss.length := by omega
   rw [List.take_length] at hK
   refine vwp_sq [1, 3] fun K11 hK11 => vwp_region hT ?_
   simp
   refine hK11 _ ?_
   try clear hK11 K11
   refine vwp_block ?_
   refine vwp_loop_s (fun u : KS => ⟨[(1, .ptr 0 6 0), (3, .mp 1), (21, fsV x.fs), (22, .int .i64 x.fs.length), (23, .int .i64 (u.i : Int))], [.live x.c, .map (setE u.K) u.bs u.ck]⟩) (fun u => u.i ≤ x.fs.length ∧ SetOf (x.ss.map (·.oi) ++ (x.fs.take u.i).map (·.oi)) u.K) (fun u => x.fs.length - u.i) (⟨0, K, bs, ck⟩) (Gh.to_k [1, 3, 21, 22, 23] [0, 1] (hh := by simp)) (⟨by simp, by simpa using hK⟩) ?_
   rintro ⟨i, K, bs, ck⟩ ⟨hi, hK⟩
   dsimp only at hi hK ⊢
   intro K12 hK12
   refine vwp_sq [1, 3, 21, 22, 23] fun K13 hK13 => vwp_region hT ?_
   simp
   refine hK13 _ ?_
   try clear hK13 K13
   refine vwp_seq_k fun K14 hK14 => ?_
   refine vwp_cond (by first | rfl | (simp; rfl)) (fun h2 => ?_) fun h2 => ?_
   · simp -failIfUnchanged at h2; all_goals
    refine vwp_skip ?_
    refine hK14 _ ?_
    try clear hK14 K14
    refine vwp_seq_k fun K15 hK15 => ?_
    refine vwp_block ?_
    obtain ⟨s, hs1⟩ := getI (l := x.fs) (i := i) (by omega)
    have hrow := rowLft hs1
    have hlen := lenLft x.fs
    have htk : x.ss.map (·.oi) ++ (x.fs.take (i + 1)).map (·.oi) = (x.ss.map (·.oi) ++ (x.fs.take i).map (·.oi)) ++ [s.oi] := by rw [take_snoc hs1]; simp
    refine vwp_sq [1, 3, 21, 22, 23] fun K16 hK16 => vwp_region hT ?_
    simp [hrow, hlen]
    repeat refine ⟨by first | assumption | omega | (intros; omega), ?_⟩
    refine hK16 _ ?_
    try clear hK16 K16
    rcases vfind_set s.oi K 0 with ⟨hnin, hv⟩ | ⟨p, hp, hv⟩
    · refine vwp_live [1, 3, 7, 21, 22, 23] (vwp_region hT ?_)
      simp [hv]
      repeat refine ⟨by first | assumption | omega | (intros; omega), ?_⟩
      refine hK15 _ ?_
      try clear hK15 K15
      have w1 : IntKind.i64.wrap ((i : Int) + 1) = i + 1 := w64 (by omega) (by omega)
      refine vwp_live [1, 3, 21, 22, 23] (vwp_region hT ?_)
      simp [w1]
      exact hK12 ⟨i + 1, K ++ [s.oi], bs ++ [ck], ck + 1⟩ _ (Gh.to_k [1, 3, 21, 22, 23] [0, 1] (hh := by simp [rnO_set1])) ⟨by dsimp only; omega, by dsimp only; rw [htk]; exact hK.more hnin⟩ (by dsimp only; omega)
    · have hmo := set_modify K p
      have hin := List.mem_of_getElem? hp
      refine vwp_live [1, 3, 7, 21, 22, 23] (vwp_region hT ?_)
      simp [hv, hmo, Nat.zero_add]
      repeat refine ⟨by first | assumption | omega | (intros; omega), ?_⟩
      refine hK15 _ ?_
      try clear hK15 K15
      have w1 : IntKind.i64.wrap ((i : Int) + 1) = i + 1 := w64 (by omega) (by omega)
      refine vwp_live [1, 3, 21, 22, 23] (vwp_region hT ?_)
      simp [w1]
      exact hK12 ⟨i + 1, K, bs, ck⟩ _ (Gh.to_k [1, 3, 21, 22, 23] [0, 1] (hh := by simp)) ⟨by dsimp only; omega, by dsimp only; rw [htk]; exact hK.have hin⟩ (by dsimp only; omega)
   · simp -failIfUnchanged at h2; all_goals
    refine vwp_exit ?_
    simp only [inBlk, thenQ, if_true]
    refine hK10 _ ?_
    try clear hK10 K10
    obtain rfl : i = x.fs.length := by omega
    rw [List.take_length] at hK
    have hlt := hK.lt
    have hle := hK.le
    rw [List.length_append, List.length_map, List.length_map] at hlt hle
    have w2 : IntKind.i64.wrap ((x.ss.length : Int) + x.fs.length) = x.ss.length + x.fs.length := w64 (by omega) (by omega)
    have hD : decide ((K.length : Int) < x.ss.length + x.fs.length) = !decide (idsP x).Nodup := by
      rw [Bool.eq_iff_iff, decide_eq_true_eq, Bool.not_eq_true', decide_eq_false_iff_not]
      exact ⟨fun h => hlt.1 (by omega), fun h => by have := hlt.2 h; omega⟩
    refine vwp_sq [1, 3] fun K17 hK17 => vwp_region hT ?_
    simp [w2, hD]
    refine hK17 _ ?_
    try clear hK17 K17
    refine vwp_ret (hR _ _ ?_)
    exact ret_k [2] [] ([]) (.bool (!decide (idsP x).Nodup)) (⟨rfl, rfl⟩)

structure KA where (i : Nat) (bs : List Nat) (ck : Nat)
theorem aliases_spec (L : List Stp) (hl : L.length < 1099511627776) : VC P 22 [fsV L] [] (fun r ob' => r = .mp 0 ∧ ∃ bs ck, ob' = [.map (alE (dd (L.map (·.tr)))) bs ck]) := by
  refine VC_of_vwp_k ent_22 Try.func22 rfl (by simp) fun R hR => ?_
  refine vwp_sq [0] fun K1 hK1 => vwp_region hT ?_
  simp
  refine hK1 _ ?_
  try clear hK1 K1
  refine vwp_sq [0] fun K2 hK2 => vwp_region hT ?_
  simp
  refine hK2 _ ?_
  try clear hK2 K2
  refine vwp_seq_k fun K3 hK3 => ?_
  refine vwp_sq [0, 3] fun K4 hK4 => vwp_region hT ?_
  simp
  refine hK4 _ ?_
  try clear hK4 K4
  refine vwp_block ?_
  refine vwp_loop_s (fun u : KA => ⟨[(3, .mp 0), (9, fsV L), (10, .int .i64 L.length), (11, .int .i64 (u.i : Int))], [.map (alE (dd ((L.take u.i).map (·.tr)))) u.bs u.ck]⟩) (fun u => u.i ≤ L.length) (fun u => L.length - u.i) (⟨0, [], 0⟩) (Gh.to_k [3, 9, 10, 11] [0] (hh := by simp [alE, dd])) (by simp) ?_
  rintro ⟨i, bs, ck⟩ hi
  dsimp only at hi ⊢
  obtain ⟨K, hK⟩ : ∃ K, K = dd ((L.take i).map (·.tr)) := ⟨_, rfl⟩
  rw [← hK]
  intro K5 hK5
  refine vwp_sq [3, 9, 10, 11] fun K6 hK6 => vwp_region hT ?_
  simp
  refine hK6 _ ?_
  try clear hK6 K6
  refine vwp_seq_k fun K7 hK7 => ?_
  refine vwp_cond (by first | rfl | (simp; rfl)) (fun h1 => ?_) fun h1 => ?_
  · simp -failIfUnchanged at h1; all_goals
   refine vwp_skip ?_
   refine hK7 _ ?_
   try clear hK7 K7
   refine vwp_seq_k fun K8 hK8 => ?_
   refine vwp_block ?_
   obtain ⟨s, hs⟩ := getI (l := L) (i := i) (by omega)
   have hrow := rowStp hs
   have hlen := lenStp L
   have htk : dd ((L.take (i + 1)).map (·.tr)) = addN K s.tr := by rw [take_snoc hs, List.map_append, List.map_cons, List.map_nil, dd_snoc, hK]
   have htk2 : dd (List.take (i + 1) (L.map (·.tr))) = addN K s.tr := by rw [← List.map_take, htk]
   have hKl : K.length ≤ i := by rw [hK]; exact Nat.le_trans (dd_le _) (by simp; omega)
   have hal := alE_len K
   refine vwp_sq [3, 9, 10, 11] fun K9 hK9 => vwp_region hT ?_
   simp [hrow, hlen]
   repeat refine ⟨by first | assumption | omega | (intros; omega), ?_⟩
   refine hK9 _ ?_
   try clear hK9 K9
   refine vwp_seq_k fun K10 hK10 => ?_
   rcases vfind_al s.tr K with ⟨hnin, hv⟩ | ⟨p, hp, hv⟩
   · have hadd : addN K s.tr = K ++ [s.tr] := if_neg hnin
     have w2 : IntKind.i64.wrap ((K.length : Int) + 1) = K.length + 1 := w64 (by omega) (by omega)
     have hsn := alE_snoc hnin
     refine vwp_live [3, 5, 9, 10, 11] (vwp_region hT ?_)
     simp [hv]
     repeat refine ⟨by first | assumption | omega | (intros; omega), ?_⟩
     refine hK10 _ ?_
     try clear hK10 K10
     refine vwp_sq [3, 5, 7, 9, 10, 11] fun K11 hK11 => vwp_region hT ?_
     simp
     refine hK11 _ ?_
     try clear hK11 K11
     refine vwp_cond (by first | rfl | (simp; rfl)) (fun h2 => ?_) fun h2 => ?_
     · simp -failIfUnchanged at h2; all_goals
      refine vwp_live [3, 5, 9, 10, 11] (vwp_region hT ?_)
      simp [hv, hal, w2, hsn]
      repeat refine ⟨by first | assumption | omega | (intros; omega), ?_⟩
      refine hK8 _ ?_
      try clear hK8 K8
      have w1 : IntKind.i64.wrap ((i : Int) + 1) = i + 1 := w64 (by omega) (by omega)
      refine vwp_live [3, 9, 10, 11] (vwp_region hT ?_)
      simp [w1]
      exact hK5 ⟨i + 1, bs ++ [ck], ck + 1⟩ _ (Gh.to_k [3, 9, 10, 11] [0] (hh := by simp [htk2, hadd])) (by dsimp only; omega) (by dsimp only; omega)
     · simp -failIfUnchanged at h2; all_goals
      refine vwp_skip ?_
      refine hK8 _ ?_
      try clear hK8 K8
      simp_all
   · have hadd : addN K s.tr = K := if_pos (List.mem_of_getElem? hp)
     refine vwp_live [3, 5, 9, 10, 11] (vwp_region hT ?_)
     simp [hv]
     repeat refine ⟨by first | assumption | omega | (intros; omega), ?_⟩
     refine hK10 _ ?_
     try clear hK10 K10
     refine vwp_sq [3, 5, 7, 9, 10, 11] fun K12 hK12 => vwp_region hT ?_
     simp
     refine hK12 _ ?_
     try clear hK12 K12
     refine vwp_cond (by first | rfl | (simp; rfl)) (fun h3 => ?_) fun h3 => ?_
     · simp -failIfUnchanged at h3; all_goals
      simp_all
     · simp -failIfUnchanged at h3; all_goals
      refine vwp_skip ?_
      refine hK8 _ ?_
      try clear hK8 K8
      have w1 : IntKind.i64.wrap ((i : Int) + 1) = i + 1 := w64 (by omega) (by omega)
      refine vwp_live [3, 9, 10, 11] (vwp_region hT ?_)
      simp [w1]
      exact hK5 ⟨i + 1, bs, ck⟩ _ (Gh.to_k [3, 9, 10, 11] [0] (hh := by simp [htk2, hadd])) (by dsimp only; omega) (by dsimp only; omega)
  · simp -failIfUnchanged at h1; all_goals
   refine vwp_exit ?_
   simp only [inBlk, thenQ, if_true]
   refine hK3 _ ?_
   try clear hK3 K3
   refine vwp_sq [3] fun K13 hK13 => vwp_region hT ?_
   simp
   refine hK13 _ ?_
   try clear hK13 K13
   refine vwp_ret (hR _ _ ?_)
   obtain rfl : i = L.length := by omega
   rw [List.take_length] at hK
   rw [← hK]
   exact ret_k [2] [0] ([.map (alE K) bs ck]) (.mp 0) (⟨rfl, _, _, rfl⟩)

theorem ret_gh {nt : Sh} {a b : St} {R : St → Prop} (g : Gh nt a b) (h : ∃ st', Gh nt b st' ∧ R st') : ∃ st', Gh nt a st' ∧ R st' := by
  obtain ⟨st', g', q⟩ := h
  exact ⟨st', g.trans g', q⟩

theorem stpC {l : List Stp} {c : V} (hc : c ∈ rowsV l) : ∃ n, c = V.int .i64 n := by
  obtain ⟨a, _, h⟩ := List.mem_flatMap.1 hc
  simp at h
  rcases h with rfl | rfl | rfl | rfl <;> exact ⟨_, rfl⟩
theorem clone_spec (l : List Stp) (hl : l.length < 1099511627776) : VC P 37 [fsV l] [] (fun r ob' => r = .sl 0 (l.length * 4) 4 0 l.length ∧ ob' = [.live (rowsV l)]) := by
  refine VC_of_vwp_k ent_37 Try.func37 rfl (by simp) fun R hR => ?_
  refine vwp_sq [0] fun K1 hK1 => vwp_region hT ?_
  simp
  refine hK1 _ ?_
  try clear hK1 K1
  refine vwp_seq_k fun K2 hK2 => ?_
  refine vwp_seq_k fun K3 hK3 => ?_
  have hlen := lenStp l
  have htk : List.take (l.length * 4) (rowsV l) = rowsV l := List.take_of_length_le (by omega)
  by_cases hne : l = []
  · subst hne
    refine vwp_live [0] (vwp_regionA hT ?_)
    simp
    refine ⟨?_, ?_⟩
    · refine hK3 _ ?_
      try clear hK3 K3
      refine vwp_cond (by first | rfl | (simp; rfl)) (fun h1 => ?_) fun h1 => ?_
      · simp -failIfUnchanged at h1; all_goals
       refine vwp_seq_k fun K4 hK4 => ?_
       simp_all
      · simp -failIfUnchanged at h1; all_goals
       refine vwp_skip ?_
       refine hK2 _ ?_
       try clear hK2 K2
       refine vwp_sq [0] fun K5 hK5 => vwp_region hT ?_
       simp
       repeat refine ⟨by first | assumption | omega | (intros; omega), ?_⟩
       refine hK5 _ ?_
       try clear hK5 K5
       refine vwp_ret (hR _ _ ?_)
       exact ret_k [2] [0] ([.live []]) (.sl 0 0 4 0 0) (⟨rfl, rfl⟩) (hh := by simp [zerosV])
    · repeat refine ⟨by first | assumption | omega | (intros; omega), ?_⟩
      refine hK3 _ ?_
      try clear hK3 K3
      refine vwp_cond (by first | rfl | (simp; rfl)) (fun h2 => ?_) fun h2 => ?_
      · simp -failIfUnchanged at h2; all_goals
       refine vwp_sq [] fun K6 hK6 => vwp_region hT ?_
       simp
       refine hK6 _ ?_
       try clear hK6 K6
       refine vwp_ret (hR _ _ ?_)
       refine ret_gh (Gh.virt 2 4 (by simp)) ?_
       simp
       exact ret_k [2] [0] ([.live []]) (.sl 0 0 4 0 0) (⟨rfl, rfl⟩) (hh := by simp [zerosV])
      · simp -failIfUnchanged at h2; all_goals
       refine vwp_skip ?_
       refine hK2 _ ?_
       try clear hK2 K2
       refine vwp_seq_k fun K7 hK7 => ?_
       simp_all
  · have hl0 : l.length ≠ 0 := fun e => hne (List.length_eq_zero_iff.1 e)
    have hr0 : rowsV l ≠ [] := fun e => hl0 (by rw [e] at hlen; simp at hlen; omega)
    refine vwp_live [0] (vwp_region hT ?_)
    simp [hl0, hr0]
    refine hK3 _ ?_
    try clear hK3 K3
    refine vwp_cond (by first | rfl | (simp; rfl)) (fun h3 => ?_) fun h3 => ?_
    · simp -failIfUnchanged at h3; all_goals
     refine vwp_seq_k fun K8 hK8 => ?_
     simp at *
    · simp -failIfUnchanged at h3; all_goals
     refine vwp_skip ?_
     refine hK2 _ ?_
     try clear hK2 K2
     refine vwp_sq [0] fun K9 hK9 => vwp_region hT ?_
     simp [zerosV, spl, hlen]
     repeat refine ⟨by first | assumption | omega | (intros; omega), ?_⟩
     refine hK9 _ ?_
     try clear hK9 K9
     refine vwp_ret (hR _ _ ?_)
     exact ret_k [2] [0] ([.live (rowsV l)]) (.sl 0 (l.length * 4) 4 0 l.length) (⟨rfl, rfl⟩) (hh := by simp [htk]) (hr := by simp)

structure KP where (i : Nat) (bs : List Nat) (ck : Nat) (cs : List Nat) (dk : Nat)
def plE (M L : List Stp) : List (V × V) := L.map fun s => (V.int .i64 s.oi, V.int .i64 (placeP M s))
@[simp] theorem rnO_pl (f : Nat → Nat) (M K : List Stp) (bs : List Nat) (ck : Nat) : rnO f (.map (plE M K) bs ck) = .map (plE M K) bs ck := rnO_mp f K _ _ bs ck
theorem placeP_perm {a b : List Stp} (h : a.Perm b) (s : Stp) : placeP a s = placeP b s := by unfold placeP; rw [countP_perm h]
theorem places_spec (L : List Stp) (hl : L.length < 1099511627776) (hn : (L.map (·.oi)).Nodup) : VC P 23 [fsV L] [] (fun r ob' => r = .mp 0 ∧ ∃ M bs ck, M.Perm L ∧ ob' = [.map (plE M M) bs ck]) := by
  refine VC_of_vwp_k ent_23 Try.func23 rfl (by simp) fun R hR => ?_
  refine vwp_sq [0] fun K1 hK1 => vwp_region hT ?_
  simp
  refine hK1 _ ?_
  try clear hK1 K1
  refine vwp_sq [0] fun K2 hK2 => vwp_region hT ?_
  simp
  refine hK2 _ ?_
  try clear hK2 K2
  refine vwp_sq [0, 3, 4] fun K3 hK3 => vwp_region hT ?_
  simp
  refine vcall_z [] (clone_spec L hl) (by rintro r ob' ⟨rfl, rfl⟩; simp; intro c hc; obtain ⟨n, rfl⟩ := stpC hc; rfl) ?_
  rintro r ob' ⟨rfl, rfl⟩
  simp
  refine hK3 _ ?_
  try clear hK3 K3
  refine vwp_sq [0, 3, 4] fun K4 hK4 => vwp_region hT ?_
  simp
  refine vcall_k [2] (sortL_spec L hl) ?_
  rintro r ob' ⟨rfl, M, hMp, hMs, rfl⟩
  simp
  refine hK4 _ ?_
  try clear hK4 K4
  refine vwp_seq_k fun K5 hK5 => ?_
  have hML := hMp.length_eq
  have hlenM := lenStp M
  rw [hML] at hlenM
  refine vwp_sq [0, 3, 4] fun K6 hK6 => vwp_region hT ?_
  simp [hlenM]
  refine hK6 _ ?_
  try clear hK6 K6
  refine vwp_block ?_
  have hlex := lex_of hn hMp hMs
  have hMn : (M.map (·.oi)).Nodup := ((hMp.map _).nodup_iff).2 hn
  refine vwp_loop_s (fun u : KP => ⟨[(3, .mp 0), (4, .mp 1), (13, .sl 2 (M.length * 4) 4 0 M.length), (14, .int .i64 M.length), (15, .int .i64 (u.i : Int))], [.map (plE M (M.take u.i)) u.bs u.ck, .map (mnE ((M.take u.i).map (·.tr))) u.cs u.dk, .live (rowsV M)]⟩) (fun u => u.i ≤ M.length) (fun u => M.length - u.i) (⟨0, [], 0, [], 0⟩) (Gh.to_k [3, 4, 13, 14, 15] [0, 1, 2] (he := by simp [hML]) (hh := by simp [plE, mnE, dd])) (by simp) ?_
  rintro ⟨i, bs, ck, cs, dk⟩ hi
  dsimp only at hi ⊢
  obtain ⟨l, hL⟩ : ∃ l, l = (M.take i).map (·.tr) := ⟨_, rfl⟩
  obtain ⟨E, hE⟩ : ∃ E, E = plE M (M.take i) := ⟨_, rfl⟩
  rw [← hL, ← hE]
  intro K7 hK7
  refine vwp_sq [3, 4, 13, 14, 15] fun K8 hK8 => vwp_region hT ?_
  simp
  refine hK8 _ ?_
  try clear hK8 K8
  refine vwp_seq_k fun K9 hK9 => ?_
  refine vwp_cond (by first | rfl | (simp; rfl)) (fun h1 => ?_) fun h1 => ?_
  · simp -failIfUnchanged at h1; all_goals
   refine vwp_skip ?_
   refine hK9 _ ?_
   try clear hK9 K9
   refine vwp_seq_k fun K10 hK10 => ?_
   refine vwp_block ?_
   obtain ⟨s, hs⟩ := getI (l := M) (i := i) (by omega)
   have hrow := rowStp hs
   have hlen := lenStp M
   have htk : (M.take (i + 1)).map (·.tr) = l ++ [s.tr] := by rw [take_snoc hs, List.map_append, List.map_cons, List.map_nil, hL]
   have htk2 : List.take (i + 1) (M.map (·.tr)) = l ++ [s.tr] := by rw [← List.map_take, htk]
   have hplc := place_at hlex hs
   rw [htk] at hplc
   have hll : l.length = i := by rw [hL]; simp; omega
   have hE2 : plE M (M.take (i + 1)) = E ++ [(V.int .i64 s.oi, V.int .i64 (placeP M s))] := by rw [take_snoc hs, hE]; simp [plE]
   have hnin : s.oi ∉ (M.take i).map (·.oi) := by
     intro h
     have e := split_at' hs
     rw [e, List.map_append, List.nodup_append] at hMn
     exact hMn.2.2 s.oi h s.oi (by simp) rfl
   have hv3 : vfindK (.int .i64 s.oi) E 0 = some none := by
     rw [hE]
     rcases vfind_map (fun s : Stp => s.oi) (fun s => V.int .i64 (placeP M s)) s.oi (M.take i) 0 with ⟨_, h⟩ | ⟨_, a, h, h2, _⟩
     · exact h
     · exact absurd (List.mem_map.2 ⟨a, List.mem_of_getElem? h, h2⟩) hnin
   have hcnt : (l ++ [s.tr]).count s.tr = l.count s.tr + 1 := by simp [List.count_append]
   have hcl := List.count_le_length (a := s.tr) (l := l)
   obtain ⟨q, hq, hv2⟩ : ∃ q, (dd (l ++ [s.tr]))[q]? = some s.tr ∧ vfindK (.int .i64 s.tr) (mnE (l ++ [s.tr])) 0 = some (some (q, .int .i64 (((l ++ [s.tr]).count s.tr : Nat) : Int))) := by
     rcases vfind_mn s.tr (l ++ [s.tr]) with ⟨h, _⟩ | h
     · exact absurd (by simp) h
     · exact h
   rw [hplc] at hv2
   refine vwp_sq [3, 4, 13, 14, 15] fun K11 hK11 => vwp_region hT ?_
   simp [hrow, hlen]
   repeat refine ⟨by first | assumption | omega | (intros; omega), ?_⟩
   refine hK11 _ ?_
   try clear hK11 K11
   refine vwp_seq_k fun K12 hK12 => ?_
   rcases vfind_mn s.tr l with ⟨hno, hv⟩ | ⟨j, hj, hv⟩
   · have hw1 : IntKind.i64.wrap 1 = 1 := rfl
     have hnew := mnE_new hno
     refine vwp_live [3, 4, 6, 13, 14, 15] (vwp_region hT ?_)
     simp [hv, hw1, hnew]
     repeat refine ⟨by first | assumption | omega | (intros; omega), ?_⟩
     refine hK12 _ ?_
     try clear hK12 K12
     refine vwp_live [3, 4, 6, 13, 14, 15] (vwp_region hT ?_)
     simp [hv2, hv3]
     repeat refine ⟨by first | assumption | omega | (intros; omega), ?_⟩
     refine hK10 _ ?_
     try clear hK10 K10
     have w1 : IntKind.i64.wrap ((i : Int) + 1) = i + 1 := w64 (by omega) (by omega)
     refine vwp_live [3, 4, 13, 14, 15] (vwp_region hT ?_)
     simp [w1]
     exact hK7 ⟨i + 1, bs ++ [ck], ck + 1, cs ++ [dk], dk + 1⟩ _ (Gh.to_k [3, 4, 13, 14, 15] [0, 1, 2] (hh := by simp [htk2, ← hE2])) (by dsimp only; omega) (by dsimp only; omega)
   · have w2 : IntKind.i64.wrap (((l.count s.tr : Nat) : Int) + 1) = ((l.count s.tr : Nat) : Int) + 1 := w64 (by omega) (by omega)
     have hmore := mnE_more hj
     refine vwp_live [3, 4, 6, 13, 14, 15] (vwp_region hT ?_)
     simp [hv, w2, hmore]
     repeat refine ⟨by first | assumption | omega | (intros; omega), ?_⟩
     refine hK12 _ ?_
     try clear hK12 K12
     refine vwp_live [3, 4, 6, 13, 14, 15] (vwp_region hT ?_)
     simp [hv2, hv3]
     repeat refine ⟨by first | assumption | omega | (intros; omega), ?_⟩
     refine hK10 _ ?_
     try clear hK10 K10
     have w1 : IntKind.i64.wrap ((i : Int) + 1) = i + 1 := w64 (by omega) (by omega)
     refine vwp_live [3, 4, 13, 14, 15] (vwp_region hT ?_)
     simp [w1]
     exact hK7 ⟨i + 1, bs ++ [ck], ck + 1, cs, dk⟩ _ (Gh.to_k [3, 4, 13, 14, 15] [0, 1, 2] (hh := by simp [htk2, ← hE2])) (by dsimp only; omega) (by dsimp only; omega)
  · simp -failIfUnchanged at h1; all_goals
   refine vwp_exit ?_
   simp only [inBlk, thenQ, if_true]
   refine hK5 _ ?_
   try clear hK5 K5
   refine vwp_sq [3] fun K13 hK13 => vwp_region hT ?_
   simp
   refine hK13 _ ?_
   try clear hK13 K13
   refine vwp_ret (hR _ _ ?_)
   obtain rfl : i = M.length := by omega
   rw [List.take_length] at hE
   rw [hE]
   exact ret_k [2] [0] ([.map (plE M M) bs ck]) (.mp 0) (⟨rfl, M, _, _, hMp, rfl⟩)
end Go.Proofs.Ytmpakfpmmkfgpaa
