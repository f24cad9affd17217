/- Rows without what comes again; searching: the walk. -/
import Derived.Test.YtinigjmfjabicaaPlO
namespace Go.Proofs.Ytinigjmfjabicaa
open Go Go.VX Go.RowKit
set_option linter.unusedVariables false
set_option linter.unusedSimpArgs false
set_option maxHeartbeats 20000000
set_option maxRecDepth 100000

/-- Does a number come again at once? -/
def adjB : List Int → Bool
  | a :: b :: r => decide (a = b) || adjB (b :: r)
  | _ => false
theorem adjB_iff : ∀ {l : List Int}, adjB l = true ↔ ∃ (i : Nat) (x : Int), l[i]? = some x ∧ l[i + 1]? = some x
  | [] => by simp [adjB]
  | [a] => by
    simp only [adjB, Bool.false_eq_true, false_iff, not_exists]
    rintro i x ⟨_, h⟩
    simp at h
  | a :: b :: r => by
    simp only [adjB, Bool.or_eq_true, decide_eq_true_eq, adjB_iff (l := b :: r)]
    constructor
    · rintro (rfl | ⟨i, x, h1, h2⟩)
      · exact ⟨0, a, rfl, rfl⟩
      · exact ⟨i + 1, x, by simpa using h1, by simpa using h2⟩
    · rintro ⟨i, x, h1, h2⟩
      cases i with
      | zero => left; simp at h1 h2; rw [h1, h2]
      | succ i => right; exact ⟨i, x, by simpa using h1, by simpa using h2⟩
theorem adjB_sorted : ∀ {l : List Int}, l.Pairwise (· ≤ ·) → adjB l = false → l.Pairwise (· < ·)
  | [], _, _ => by simp
  | [a], _, _ => by simp
  | a :: b :: r, h, h2 => by
    simp only [adjB, Bool.or_eq_false_iff, decide_eq_false_iff_not] at h2
    rw [List.pairwise_cons] at h ⊢
    have ih := adjB_sorted h.2 h2.2
    have hab : a < b := by have := h.1 b (by simp); omega
    refine ⟨fun x hx => ?_, ih⟩
    rcases List.mem_cons.1 hx with rfl | hx
    · exact hab
    · have := (List.pairwise_cons.1 ih).1 x hx; omega
theorem srt_perm (l : List Int) : (srt l).Perm l := List.mergeSort_perm _ _
theorem srt_len (l : List Int) : (srt l).length = l.length := (srt_perm l).length_eq
theorem srt_sorted (l : List Int) : (srt l).Pairwise (· ≤ ·) := by
  have := List.pairwise_mergeSort (le := fun x y : Int => decide (x ≤ y)) (fun a b c h1 h2 => by simp at h1 h2 ⊢; omega) (fun a b => by simp; omega) l
  exact this.imp (by simp)
theorem adjB_srt (l : List Int) : adjB (srt l) = dupB l := by
  rw [Bool.eq_iff_iff]
  unfold dupB
  rw [Bool.not_eq_true', decide_eq_false_iff_not]
  constructor
  · intro h hn
    have hn2 : (srt l).Nodup := (srt_perm l).nodup_iff.2 hn
    obtain ⟨i, x, h1, h2⟩ := adjB_iff.1 h
    have := (List.getElem?_inj (l := srt l) (i := i) (j := i + 1) (by exact (List.getElem?_eq_some_iff.1 h1).1) hn2).1 (by rw [h1, h2])
    omega
  · intro hn
    rw [← Bool.not_eq_false]
    intro h
    have := adjB_sorted (srt_sorted l) h
    exact hn ((srt_perm l).nodup_iff.1 (this.imp fun h e => by omega))
theorem srt_unique {a b : List Int} (h : a.Perm b) (ha : a.Pairwise (· ≤ ·)) (hb : b.Pairwise (· ≤ ·)) : a = b :=
  List.Perm.eq_of_pairwise (le := fun x y => x ≤ y) (fun x y _ _ h1 h2 => by omega) ha hb h
theorem srt_eq {a l : List Int} (h : a.Perm l) (ha : a.Pairwise (· ≤ ·)) : srt l = a := srt_unique ((srt_perm l).trans h.symm) (srt_sorted l) ha
theorem spl_tail {cs : List Int} {m n : Nat} (hc : cs.length = n) (h : m < n) : spl (ints cs) m (List.replicate (n - m) (V.int .i64 0)) = ints (cs.take m ++ List.replicate (n - m) 0) := by
  rw [spl_eq (by simp; omega)]
  simp [ints, List.map_take]
  omega
structure KC where (v m : Nat) (cs : List Int)
theorem spl_int {cs : List Int} {m : Nat} (h : m < cs.length) (a : Int) : spl (ints cs) m [.int .i64 a] = ints (cs.set m a) := by
  rw [spl_eq (by simp; omega)]
  simp [ints, List.set_eq_take_append_cons_drop, h, List.map_take, List.map_drop]
theorem compact_spec (L : List Int) (hL : L.length < 1099511627776) : VC P 37 [.sl 0 L.length 1 0 L.length] [.live (ints L)] (fun r ob' => ∃ m cs, r = .sl 0 L.length 1 0 m ∧ ob' = [.live cs] ∧ cs.length = L.length ∧ (m < L.length ↔ adjB L = true)) := by
  refine VC_of_vwp_k ent_37 Try.func37 rfl (by simp) fun R hR => ?_
  refine vwp_sq [0] fun K1 hK1 => vwp_region hT ?_
  simp
  refine hK1 _ ?_
  try clear hK1 K1
  refine vwp_seq_k fun K2 hK2 => ?_
  refine vwp_sq [0] fun K3 hK3 => vwp_region hT ?_
  simp
  refine hK3 _ ?_
  try clear hK3 K3
  refine vwp_cond (by first | rfl | (simp; rfl)) (fun h1 => ?_) fun h1 => ?_
  · simp -failIfUnchanged at h1; all_goals
   have q := h1
   refine vwp_sq [0] fun K4 hK4 => vwp_region hT ?_
   simp
   refine hK4 _ ?_
   try clear hK4 K4
   refine vwp_ret (hR _ _ ?_)
   exact ret_k [2] [0] ([.live (ints L)]) (.sl 0 L.length 1 0 L.length) (⟨L.length, _, rfl, rfl, by simp, by
       constructor
       · intro k; omega
       · intro k
         obtain ⟨i, x, k1, k2⟩ := adjB_iff.1 k
         have := (List.getElem?_eq_some_iff.1 k2).1
         omega⟩)
  · simp -failIfUnchanged at h1; all_goals
   have q := h1
   have h2l : 2 ≤ L.length := by omega
   refine vwp_skip ?_
   refine hK2 _ ?_
   try clear hK2 K2
   refine vwp_seq_k fun K5 hK5 => ?_
   refine vwp_sq [0] fun K6 hK6 => vwp_region hT ?_
   simp
   refine hK6 _ ?_
   try clear hK6 K6
   refine vwp_block ?_
   refine vwp_loop_s (fun u : Nat => ⟨[(0, .sl 0 L.length 1 0 L.length), (3, .int .i64 (u + 1 : Nat))], [.live (ints L)]⟩) (fun u => u + 1 ≤ L.length ∧ ∀ (j : Nat) x, j < u → L[j]? = some x → ¬ L[j + 1]? = some x) (fun u => L.length - u) (0) (Gh.to_k [0, 3] [0]) (⟨by omega, fun j x hj _ => by omega⟩) ?_
   rintro u ⟨hu, hno⟩
   intro K7 hK7
   refine vwp_seq_k fun K8 hK8 => ?_
   refine vwp_sq [0, 3] fun K9 hK9 => vwp_region hT ?_
   simp
   refine hK9 _ ?_
   try clear hK9 K9
   refine vwp_cond (by first | rfl | (simp; rfl)) (fun h2 => ?_) fun h2 => ?_
   · simp -failIfUnchanged at h2; all_goals
    refine vwp_skip ?_
    refine hK8 _ ?_
    try clear hK8 K8
    refine vwp_seq_k fun K10 hK10 => ?_
    refine vwp_block ?_
    obtain ⟨x, hx⟩ := getI (l := L) (i := u + 1) (by omega)
    obtain ⟨y, hy⟩ := getI (l := L) (i := u) (by omega)
    have w3 : IntKind.i64.wrap (u : Int) = (u : Int) := w64 (by omega) (by omega)
    refine vwp_sq [0, 3] fun K11 hK11 => vwp_still hT hm (by kernel_rfl) ?_
    simp [hx, hy, w3]
    repeat refine ⟨by first | assumption | omega | (intros; omega), ?_⟩
    refine hK11 _ ?_
    try clear hK11 K11
    refine vwp_cond (by first | rfl | (simp; rfl)) (fun h3 => ?_) fun h3 => ?_
    · simp -failIfUnchanged at h3; all_goals
     have q := h3
     have hxy : x = y := by simpa using q
     have hadj : adjB L = true := adjB_iff.2 ⟨u, y, hy, by rw [hx, hxy]⟩
     have hvs : ∀ z, vsub ((u : Int) + 1) (L.length : Int) z = z := fun z => vsub_lt (by omega)
     refine vwp_sq [0, 3] fun K12 hK12 => vwp_region hT ?_
     simp [hvs]
     repeat refine ⟨by first | assumption | omega | (intros; omega), ?_⟩
     refine hK12 _ ?_
     try clear hK12 K12
     refine vwp_seq_k fun K13 hK13 => ?_
     refine vwp_sq [0, 3, 4] fun K14 hK14 => vwp_region hT ?_
     simp
     refine hK14 _ ?_
     try clear hK14 K14
     refine vwp_block ?_
     refine vwp_loop_s (fun z : KC => ⟨[(0, .sl 0 L.length 1 0 L.length), (3, .int .i64 (z.m : Int)), (4, .sl 0 L.length 1 (u + 1) (L.length - (u + 1))), (5, .int .i64 (z.v + 1 : Nat))], [.live (ints z.cs)]⟩) (fun z => z.v + 1 ≤ L.length - (u + 1) ∧ 1 ≤ z.m ∧ z.cs.length = L.length ∧ z.m ≤ u + 1 + z.v ∧ ∀ j, u + 1 + z.v ≤ j → z.cs[j]? = L[j]?) (fun z => L.length - z.v) (⟨0, u + 1, L⟩) (Gh.to_k [0, 3, 4, 5] [0]) (⟨by dsimp only; omega, by simp, by simp, by simp, fun j _ => rfl⟩) ?_
     rintro ⟨v, m, cs⟩ ⟨hv, hm1, hcl, hm2, hcs⟩
     dsimp only at hv hm1 hcl hm2 hcs ⊢
     intro K15 hK15
     refine vwp_seq_k fun K16 hK16 => ?_
     refine vwp_sq [0, 3, 4, 5] fun K17 hK17 => vwp_region hT ?_
     simp [hcl]
     refine hK17 _ ?_
     try clear hK17 K17
     refine vwp_cond (by first | rfl | (simp; rfl)) (fun h4 => ?_) fun h4 => ?_
     · simp -failIfUnchanged at h4; all_goals
      obtain ⟨a, ha⟩ := getI (l := L) (i := u + 1 + (v + 1)) (by omega)
      obtain ⟨b, hb⟩ := getI (l := L) (i := u + 1 + v) (by omega)
      have ca : cs[u + 1 + (v + 1)]? = some a := by rw [hcs _ (by omega)]; exact ha
      have cb : cs[u + 1 + v]? = some b := by rw [hcs _ (by omega)]; exact hb
      have w5 : IntKind.i64.wrap (v : Int) = (v : Int) := w64 (by omega) (by omega)
      have hmn : m < L.length := by omega
      refine vwp_skip ?_
      refine hK16 _ ?_
      try clear hK16 K16
      refine vwp_cut_s (fun z : Nat × List Int => ⟨[(0, .sl 0 L.length 1 0 L.length), (3, .int .i64 (z.1 : Int)), (4, .sl 0 L.length 1 (u + 1) (L.length - (u + 1))), (5, .int .i64 (v + 1 : Nat))], [.live (ints z.2)]⟩) (fun z => 1 ≤ z.1 ∧ z.2.length = L.length ∧ z.1 ≤ u + 1 + (v + 1) ∧ ∀ j, u + 1 + (v + 1) ≤ j → z.2[j]? = L[j]?) (fun K18 hK18 => ?_) ?_
      · refine vwp_block ?_
        refine vwp_sq [0, 3, 4, 5] fun K19 hK19 => vwp_still hT hm (by kernel_rfl) ?_
        simp [ca, cb, w5, hcl]
        repeat refine ⟨by first | assumption | omega | (intros; omega), ?_⟩
        refine hK19 _ ?_
        try clear hK19 K19
        refine vwp_cond (by first | rfl | (simp; rfl)) (fun h5 => ?_) fun h5 => ?_
        · simp -failIfUnchanged at h5; all_goals
         refine vwp_sq [0, 3, 4, 5] fun K20 hK20 => vwp_region hT ?_
         simp [ca, hcl]
         repeat refine ⟨by first | assumption | omega | (intros; omega), ?_⟩
         refine hK20 _ ?_
         try clear hK20 K20
         have w6 : IntKind.i64.wrap ((m : Int) + 1) = ((m + 1 : Nat) : Int) := (w64 (by omega) (by omega)).trans (by omega)
         refine vwp_live [0, 3, 4, 5] (vwp_region hT ?_)
         simp [w6]
         exact hK18 (m + 1, cs.set m a) _ (Gh.to_k [0, 3, 4, 5] [0] (hh := by simp [spl_int (cs := cs) (m := m) (by omega)])) ⟨by dsimp only; omega, by simp [hcl], by dsimp only; omega, fun j hj => by dsimp only; rw [List.getElem?_set_ne (by omega)]; exact hcs j (by omega)⟩
        · simp -failIfUnchanged at h5; all_goals
         refine vwp_skip ?_
         exact hK18 ((m, cs)) _ (Gh.to_k [0, 3, 4, 5] [0]) (⟨hm1, hcl, by dsimp only; omega, fun j hj => hcs j (by omega)⟩)
      · rintro ⟨m2, cs2⟩ ⟨hm1, hcl, hm2, hcs⟩
        dsimp only at hm1 hcl hm2 hcs ⊢
        have w7 : IntKind.i64.wrap ((v : Int) + 1 + 1) = (v : Int) + 1 + 1 := w64 (by omega) (by omega)
        refine vwp_live [0, 3, 4, 5] (vwp_region hT ?_)
        simp [w7]
        exact hK15 (⟨v + 1, m2, cs2⟩) _ (Gh.to_k [0, 3, 4, 5] [0]) (⟨by dsimp only; omega, hm1, hcl, hm2, hcs⟩) (by dsimp only; omega)
     · simp -failIfUnchanged at h4; all_goals
      have hmn : m < L.length := by omega
      refine vwp_exit ?_
      simp only [inBlk, thenQ, if_true]
      refine hK13 _ ?_
      try clear hK13 K13
      have hvs2 : ∀ z, vsub (m : Int) (L.length : Int) z = z := fun z => vsub_lt (by omega)
      refine vwp_sq [0, 3] fun K21 hK21 => vwp_region hT ?_
      simp [hvs2, hcl]
      repeat refine ⟨by first | assumption | omega | (intros; omega), ?_⟩
      refine hK21 _ ?_
      try clear hK21 K21
      have hst := spl_tail hcl (show m < L.length by omega)
      obtain ⟨D, hD⟩ : ∃ D, D = cs.take m ++ List.replicate (L.length - m) (0 : Int) := ⟨_, rfl⟩
      have hDl : D.length = L.length := by rw [hD]; simp; omega
      rw [← hD] at hst
      rw [hst]
      have hvs3 : ∀ z, vsub 0 (m : Int) z = z := fun z => vsub_lt (by omega)
      refine vwp_sq [0, 3] fun K22 hK22 => vwp_region hT ?_
      simp [hvs3, hDl]
      repeat refine ⟨by first | assumption | omega | (intros; omega), ?_⟩
      refine hK22 _ ?_
      try clear hK22 K22
      refine vwp_ret (hR _ _ ?_)
      exact ret_k [2] [0] ([.live (ints D)]) (.sl 0 L.length 1 0 m) (⟨m, _, rfl, rfl, by simpa using hDl, ⟨fun _ => hadj, fun _ => by omega⟩⟩)
    · simp -failIfUnchanged at h3; all_goals
     have q := h3
     have hxy : ¬ x = y := by simpa using q
     refine vwp_skip ?_
     refine hK10 _ ?_
     try clear hK10 K10
     have w4 : IntKind.i64.wrap ((u : Int) + 1 + 1) = (u : Int) + 1 + 1 := w64 (by omega) (by omega)
     refine vwp_live [0, 3] (vwp_region hT ?_)
     simp [w4]
     exact hK7 (u + 1) _ (Gh.to_k [0, 3] [0]) (⟨by omega, fun j z hj hz => by
         rcases Nat.lt_or_ge j u with q | q
         · exact hno j z q hz
         · obtain rfl : u = j := by omega
           rw [hy] at hz; cases hz; rw [hx]; intro e; cases e; exact hxy rfl⟩) (by omega)
   · simp -failIfUnchanged at h2; all_goals
    refine vwp_exit ?_
    simp only [inBlk, thenQ, if_true]
    refine hK5 _ ?_
    try clear hK5 K5
    refine vwp_sq [0] fun K23 hK23 => vwp_region hT ?_
    simp
    refine hK23 _ ?_
    try clear hK23 K23
    refine vwp_ret (hR _ _ ?_)
    exact ret_k [2] [0] ([.live (ints L)]) (.sl 0 L.length 1 0 L.length) (⟨L.length, _, rfl, rfl, by simp, by
        constructor
        · intro k; omega
        · intro k
          obtain ⟨i, x, k1, k2⟩ := adjB_iff.1 k
          have := (List.getElem?_eq_some_iff.1 k2).1
          exact absurd k2 (hno i x (by omega) k1)⟩)
end Go.Proofs.Ytinigjmfjabicaa
