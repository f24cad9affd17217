/- The law PlanTells: the walk. -/
import Derived.Test.YtinigjmfjabicaaPlD1
import Derived.Test.YtinigjmfjabicaaPlZ
namespace Go.Proofs.Ytinigjmfjabicaa
open Go Go.VX Go.RowKit
set_option linter.unusedVariables false
set_option linter.unusedSimpArgs false
set_option maxHeartbeats 20000000
set_option maxRecDepth 100000

theorem idB_rn {f : Nat → Nat} {n : Nat} (hf : ∀ j, f j = n + j) (b i : Nat) : f (idB b i) = idB (n + b) i := by rw [hf]; simp only [idB]; omega
theorem rowsL_rn {f : Nat → Nat} {n : Nat} (hf : ∀ j, f j = n + j) (b : Nat) : ∀ (i : Nat) (l : List Rt), (rowsL b i l).map (rn1 f) = rowsL (n + b) i l
  | _, [] => rfl
  | i, s :: l => by
    simp only [rowsL, List.map_cons, rowsL_rn hf b (i + 1) l, rn1, rn0, idB_rn hf]
theorem blk_rn {f : Nat → Nat} {n : Nat} (hf : ∀ j, f j = n + j) (b : Nat) : ∀ (i : Nat) (l : List Rt), (blk b i l).map (rnO f) = blk (n + b) i l
  | _, [] => rfl
  | i, s :: l => by
    have e1 : rnO f (.live (Rt.cells s)) = .live (Rt.cells s) := by simp
    have e2 : rnO f (.live (ints s.st)) = .live (ints s.st) := by simp
    have e3 : rnO f (.live [.int .i64 s.tr, .sl (idB b i) s.st.length 1 0 s.st.length]) = .live [.int .i64 s.tr, .sl (idB (n + b) i) s.st.length 1 0 s.st.length] := by simp [idB_rn hf]
    rw [blk, List.map_cons, List.map_cons, List.map_cons, e1, e2, e3, blk_rn hf b (i + 1) l]
    rfl
theorem blk_get (b : Nat) : ∀ (i0 : Nat) {l : List Rt} {i : Nat} {s : Rt}, l[i]? = some s → (blk b i0 l)[3 * i + 1]? = some (.live (ints s.st))
  | i0, [], i, s, h => by simp at h
  | i0, a :: l, 0, s, h => by simp at h; subst h; rfl
  | i0, a :: l, i + 1, s, h => by
    rw [show 3 * (i + 1) + 1 = 3 * i + 1 + 3 by omega]
    exact blk_get b (i0 + 1) (l := l) (i := i) (by simpa using h)
theorem Lies.app {ob : List Ob} {k b : Nat} {rs : List Rt} (h : Lies ob k b rs) (m : List Ob) : Lies (ob ++ m) k b rs :=
  ⟨get_app h.rows m, fun i s hs => get_app (h.st i s hs) m⟩
/-- A store with a world, a plan, and a plan like it whose rows may be written. -/
structure Pool (ob : List Ob) (w : Wd) (a : Pn) : Prop where
  fw : ob[0]? = some (.live w.c)
  fp : ob[1]? = some (.live a.c)
  fq : ob[8 + 3 * a.rs.length]? = some (.live [.sl 7 (a.rs.length * 2) 2 0 a.rs.length, sI a.un])
  fr : ob[7]? = some (.live (rowsL 8 0 a.rs))
  fs : ∀ i s, a.rs[i]? = some s → ∃ L : List Int, L.length = s.st.length ∧ ob[idB 8 i]? = some (.live (ints L))
theorem Pool.app {ob : List Ob} {w : Wd} {a : Pn} (h : Pool ob w a) (m : List Ob) : Pool (ob ++ m) w a :=
  ⟨get_app h.fw m, get_app h.fp m, get_app h.fq m, get_app h.fr m, fun i s hs => by
    obtain ⟨L, h1, h2⟩ := h.fs i s hs
    exact ⟨L, h1, get_app h2 m⟩⟩
theorem Pool.set {ob : List Ob} {w : Wd} {a : Pn} (h : Pool ob w a) {i : Nat} {s : Rt} (hs : a.rs[i]? = some s) {L : List Int} (hL : L.length = s.st.length) : Pool (ob.set (idB 8 i) (.live (ints L))) w a := by
  have hi := (List.getElem?_eq_some_iff.1 hs).1
  have hid : idB 8 i = 8 + 3 * i + 1 := rfl
  refine ⟨?_, ?_, ?_, ?_, fun j t ht => ?_⟩
  · rw [List.getElem?_set_ne (by omega)]; exact h.fw
  · rw [List.getElem?_set_ne (by omega)]; exact h.fp
  · rw [List.getElem?_set_ne (by omega)]; exact h.fq
  · rw [List.getElem?_set_ne (by omega)]; exact h.fr
  · by_cases e : i = j
    · subst e
      rw [hs] at ht; cases ht
      obtain ⟨L0, _, h2⟩ := h.fs i s hs
      exact ⟨L, hL, by rw [List.getElem?_set_self (List.getElem?_eq_some_iff.1 h2).1]⟩
    · obtain ⟨L0, h1, h2⟩ := h.fs j t ht
      refine ⟨L0, h1, ?_⟩
      rw [List.getElem?_set_ne (by simp only [idB]; omega)]
      exact h2
theorem get_b {α : Type} {l : List α} {i : Nat} {x : α} (h : l[i]? = some x) (hi : i < l.length) : l[i] = x := by
  rw [List.getElem?_eq_getElem hi] at h; exact Option.some.inj h
theorem spl_ints {L : List Int} {j : Nat} {z : Int} (hj : j < L.length) : spl (ints L) j [V.int IntKind.i64 z] = ints (L.set j z) := by
  have e : (ints L).set j (V.int IntKind.i64 z) = ints (L.set j z) := by simp [List.map_set]
  rw [← e]
  simp only [spl]
theorem pool_mk (w : Wd) (a b : Pn) (x3 x4 x5 x6 : Ob) {ob : List Ob} (h : ob = .live w.c :: .live a.c :: .live b.c :: x3 :: x4 :: x5 :: x6 :: .live (rowsL 8 0 a.rs) :: (blk 8 0 a.rs ++ [.live [.sl 7 (a.rs.length * 2) 2 0 a.rs.length, sI a.un]])) :
    Pool ob w a ∧ Lies ob 7 8 a.rs ∧ ob[2]? = some (.live b.c) := by
  subst h
  have hb : ∀ i s, a.rs[i]? = some s → (Ob.live w.c :: .live a.c :: .live b.c :: x3 :: x4 :: x5 :: x6 :: .live (rowsL 8 0 a.rs) :: (blk 8 0 a.rs ++ [.live [.sl 7 (a.rs.length * 2) 2 0 a.rs.length, sI a.un]]))[idB 8 i]? = some (.live (ints s.st)) := by
    intro i s hs
    rw [show idB 8 i = 3 * i + 1 + 8 by simp only [idB]; omega]
    exact get_app (blk_get 8 0 hs) _
  have hq : (Ob.live w.c :: .live a.c :: .live b.c :: x3 :: x4 :: x5 :: x6 :: .live (rowsL 8 0 a.rs) :: (blk 8 0 a.rs ++ [.live [.sl 7 (a.rs.length * 2) 2 0 a.rs.length, sI a.un]]))[8 + 3 * a.rs.length]? = some (.live [.sl 7 (a.rs.length * 2) 2 0 a.rs.length, sI a.un]) := by
    rw [show 8 + 3 * a.rs.length = 3 * a.rs.length + 8 by omega]
    have := get_end (blk 8 0 a.rs) [Ob.live [.sl 7 (a.rs.length * 2) 2 0 a.rs.length, sI a.un]] 0
    rw [blk_len, Nat.add_zero] at this
    exact this
  exact ⟨⟨rfl, rfl, hq, rfl, fun i s hs => ⟨s.st, rfl, hb i s hs⟩⟩, ⟨rfl, hb⟩, rfl⟩
structure KQ2 where (i : Nat) (ob : List Ob)
theorem law_ptells (w : Wd) (a b : Pn) (ua : a.un.length ≤ 140737488355328) (ra : a.rs.length ≤ 140737488355328) (sa : ∀ r ∈ a.rs, r.st.length ≤ 140737488355328) (ub : b.un.length ≤ 140737488355328) (rb : b.rs.length ≤ 140737488355328) (sb : ∀ r ∈ b.rs, r.st.length ≤ 140737488355328) : VC P 5 [.agg w.c, .agg a.c, .agg b.c] [] (fun r ob' => r = .bool true ∧ ob' = []) := by
  refine VC_of_vwp_k ent_5 Try.func5 rfl (by simp) fun R hR => ?_
  refine vwp_sq [0, 1, 2] fun K1 hK1 => vwp_region hT ?_
  simp
  refine hK1 _ ?_
  try clear hK1 K1
  refine vwp_seq_k fun K2 hK2 => ?_
  refine vwp_sq [3, 4, 5] fun K3 hK3 => vwp_region hT ?_
  simp
  refine vcall_k [] (awake9) ?_
  rintro r ob' ⟨rfl, rfl⟩
  simp
  refine hK3 _ ?_
  try clear hK3 K3
  refine vwp_cond (by first | rfl | (simp; rfl)) (fun h1 => ?_) fun h1 => ?_
  · simp -failIfUnchanged at h1; all_goals
   refine vwp_seq_k fun K4 hK4 => ?_
   simp_all
  · simp -failIfUnchanged at h1; all_goals
   refine vwp_skip ?_
   refine hK2 _ ?_
   try clear hK2 K2
   refine vwp_seq_k fun K5 hK5 => ?_
   refine vwp_sq [3, 4, 5] fun K6 hK6 => vwp_region hT ?_
   simp [zerosV, spl]
   refine vcall_z [] (large_pspec w [a, b] (by simp) (by simp; exact ⟨⟨ua, ra, sa⟩, ub, rb, sb⟩)) (by rintro r ob' ⟨rfl, rfl⟩; simp) ?_ (ha := by simp [rowsV])
   rintro r ob' ⟨rfl, rfl⟩
   simp [zerosV, spl]
   refine hK6 _ ?_
   try clear hK6 K6
   refine vwp_cond (by first | rfl | (simp; rfl)) (fun h2 => ?_) fun h2 => ?_
   · simp -failIfUnchanged at h2; all_goals
    refine vwp_sq [] fun K7 hK7 => vwp_region hT ?_
    simp
    refine hK7 _ ?_
    try clear hK7 K7
    refine vwp_ret (hR _ _ ?_)
    exact ret_k [6] [] ([]) (.bool true) (⟨rfl, rfl⟩)
   · simp -failIfUnchanged at h2; all_goals
    have q := h2
    obtain ⟨fa, fb⟩ : a.few ∧ b.few := by
      simp -failIfUnchanged at q
      exact ⟨(lrgP_no q.1.1).1, (lrgP_no q.1.2).1⟩
    have hl1 : w.os.length ≤ 50 ∧ w.ts.length ≤ 50 := by
      simp -failIfUnchanged at q
      have := q.2
      simp only [lrgW, decide_eq_false_iff_not] at this
      omega
    refine vwp_skip ?_
    refine hK5 _ ?_
    try clear hK5 K5
    refine vwp_sq [3, 4, 5] fun K8 hK8 => vwp_region hT ?_
    simp
    refine vcall_z [] (check_spec w (by omega) (by omega) a fa.rs fa.cat fa.un) (by rintro r ob' ⟨rfl, rfl⟩; simp) ?_
    rintro r ob' ⟨rfl, rfl⟩
    simp
    refine hK8 _ ?_
    try clear hK8 K8
    refine vwp_sq [3, 4, 5, 7, 8] fun K9 hK9 => vwp_region hT ?_
    simp
    refine vcall_z [] (dcheck_spec w (by omega) (by omega) a fa.rs fa.cat fa.un) (by rintro r ob' ⟨rfl, rfl⟩; simp) ?_
    rintro r ob' ⟨rfl, rfl⟩
    simp
    refine hK9 _ ?_
    try clear hK9 K9
    refine vwp_cut_s (fun u : KQ2 => ⟨[(3, .ptr 0 5 0), (4, .ptr 1 2 0), (5, .ptr 2 2 0), (7, .int .i64 (checkP w a).1), (8, .int .i64 (checkP w a).2), (9, .int .i64 (checkP w a).1), (10, .int .i64 (checkP w a).2), (11, .ptr (8 + 3 * a.rs.length) 2 0)], u.ob⟩) (fun u => Pool u.ob w a ∧ Lies u.ob 7 8 a.rs ∧ u.ob[2]? = some (.live b.c)) (fun K10 hK10 => ?_) ?_
    · refine vwp_live [3, 4, 5, 7, 8, 9, 10] (vwp_region hT ?_)
      simp
      repeat refine ⟨by first | assumption | omega | (intros; omega), ?_⟩
      refine vcall_k [] (copyl_spec a fa) ?_
      rintro r ob' ⟨rfl, rfl⟩
      simp
      repeat refine ⟨by first | assumption | omega | (intros; omega), ?_⟩
      have hf4 : ∀ j, fOf [] 4 j = 4 + j := by intro j; simp [fOf]
      rw [rowsL_rn hf4, blk_rn hf4]
      exact hK10 ⟨0, _⟩ _ (Gh.pick [3, 4, 5, 7, 8, 9, 10, 11] (he := by simp [blk_len]; omega)) (pool_mk w a b _ _ _ _ rfl)
    · rintro ⟨_, OB⟩ ⟨hP, hLi, hb2⟩
      dsimp only at hP hLi hb2 ⊢
      have hcat := fa.cat
      have hunl := fa.un
      have hsl := servP_len a
      have hrl := unsF_le w.os (catR a.rs)
      rw [← restP_len w a] at hrl
      have f0 := hP.fw
      have f1 := hP.fp
      have f0a : ∀ m, (OB ++ m)[0]? = some (.live w.c) := fun m => get_app hP.fw m
      have f1a : ∀ m, (OB ++ m)[1]? = some (.live a.c) := fun m => get_app hP.fp m
      have f2a : ∀ m, (OB ++ m)[2]? = some (.live b.c) := fun m => get_app hb2 m
      have f3 := hP.fq
      have f3a : ∀ m, (OB ++ m)[8 + 3 * a.rs.length]? = some (.live [.sl 7 (a.rs.length * 2) 2 0 a.rs.length, sI a.un]) := fun m => get_app hP.fq m
      have f0b : ∀ m (h : 0 < (OB ++ m).length), (OB ++ m)[0] = .live w.c := fun m h => get_b (f0a m) h
      have f1b : ∀ m (h : 1 < (OB ++ m).length), (OB ++ m)[1] = .live a.c := fun m h => get_b (f1a m) h
      have f2b : ∀ m (h : 2 < (OB ++ m).length), (OB ++ m)[2] = .live b.c := fun m h => get_b (f2a m) h
      have f3b : ∀ m (h : 8 + 3 * a.rs.length < (OB ++ m).length), (OB ++ m)[8 + 3 * a.rs.length] = .live [.sl 7 (a.rs.length * 2) 2 0 a.rs.length, sI a.un] := fun m h => get_b (f3a m) h
      have e0 : ∀ m : List Ob, (OB ++ m)[OB.length]? = m[0]? := fun m => get_end OB m 0
      have e1 : ∀ (m : List Ob) j, (OB ++ m)[OB.length + j]? = m[j]? := fun m j => get_end OB m j
      have htS : List.take (catR a.rs).length (ints (servP a)) = ints (servP a) := List.take_of_length_le (by simp; omega)
      have htR : List.take (restP w a).length (ints (restP w a)) = ints (restP w a) := List.take_of_length_le (by simp)
      refine vwp_cut_s (fun u : KQ2 => ⟨[(3, .ptr 0 5 0), (4, .ptr 1 2 0), (7, .int .i64 (checkP w a).1), (8, .int .i64 (checkP w a).2), (11, .ptr (8 + 3 * a.rs.length) 2 0)], u.ob⟩) (fun u => Pool u.ob w a) (fun K11 hK11 => ?_) ?_
      · refine vwp_sq [3, 4, 5, 7, 8, 9, 10, 11] fun K12 hK12 => vwp_storm hT hm [.pure, .pure, .win 0 0, .pure, .pure, .pure, .win 0 0, .pure, .pure, .win 0 0, .mv, .win 0 1, .mv, .mv, .pure, .pure, .pure, .win 3 3, .win 3 3, .mv, .win 3 4, .win 3 4, .mv, .mv, .pure, .pure, .pure, .win 6 6, .win 6 6, .win 6 6, .mv, .win 6 7, .win 6 7, .win 6 7, .mv, .win 8 8, .pure, .pure, .win 8 8, .win 8 8, .mv, .pure, .pure] [[], [], [0, 1], [0, 1, 2], [0, 1, 2, 3], [0, 1, 2, 3], [0, 1, 2, 3, 4, 5], [0, 1, 2, 3, 4, 5, 6], [0, 1, 2, 3, 4, 5, 6, 7], [0, 1, 2, 3, 4, 5, 6, 7, 8], [0, 1, 2, 3, 4, 5, 6, 7, 8, 9], [0, 1, 2, 3, 4, 5, 6, 7, 8], [0, 1, 2, 3, 4, 5, 6, 7, 8, 9, 10, 11], [0, 1, 2, 3, 4, 5, 6, 7, 8, 9, 10, 11, 12], [0, 1, 2, 3, 4, 5, 6, 7, 8, 9, 10, 11, 12, 13], [0, 1, 2, 3, 4, 5, 6, 7, 8, 9, 10, 11, 12, 13, 14], [0, 1, 2, 3, 4, 5, 6, 7, 8, 9, 10, 11, 12, 13, 14, 15], [0, 1, 2, 3, 4, 5, 6, 7, 8, 9, 10, 11, 12, 13, 14, 15, 16], [0, 1, 2, 3, 4, 5, 6, 7, 8, 9, 10, 11, 12, 13, 14, 15, 16], [0, 1, 2, 3, 4, 5, 6, 7, 8, 9, 10, 11, 12, 13, 14, 15, 16, 17, 18], [0, 1, 2, 3, 4, 5, 6, 7, 8, 9, 10, 11, 12, 13, 14, 15, 16], [0, 1, 2, 3, 4, 5, 6, 7, 8, 9, 10, 11, 12, 13, 14, 15, 16], [0, 1, 2, 3, 4, 5, 6, 7, 8, 9, 10, 11, 12, 13, 14, 15, 16, 17, 18, 19, 20, 21], [0, 1, 2, 3, 4, 5, 6, 7, 8, 9, 10, 11, 12, 13, 14, 15, 16, 17, 18, 19, 20, 21, 22], [0, 1, 2, 3, 4, 5, 6, 7, 8, 9, 10, 11, 12, 13, 14, 15, 16, 17, 18, 19, 20, 21, 22, 23], [0, 1, 2, 3, 4, 5, 6, 7, 8, 9, 10, 11, 12, 13, 14, 15, 16, 17, 18, 19, 20, 21, 22, 23, 24], [0, 1, 2, 3, 4, 5, 6, 7, 8, 9, 10, 11, 12, 13, 14, 15, 16, 17, 18, 19, 20, 21, 22, 23, 24, 25], [0, 1, 2, 3, 4, 5, 6, 7, 8, 9, 10, 11, 12, 13, 14, 15, 16, 17, 18, 19, 20, 21, 22, 23, 24, 25, 26], [0, 1, 2, 3, 4, 5, 6, 7, 8, 9, 10, 11, 12, 13, 14, 15, 16, 17, 18, 19, 20, 21, 22, 23, 24, 25, 26], [0, 1, 2, 3, 4, 5, 6, 7, 8, 9, 10, 11, 12, 13, 14, 15, 16, 17, 18, 19, 20, 21, 22, 23, 24, 25, 26], [0, 1, 2, 3, 4, 5, 6, 7, 8, 9, 10, 11, 12, 13, 14, 15, 16, 17, 18, 19, 20, 21, 22, 23, 24, 25, 26, 27, 28, 29], [0, 1, 2, 3, 4, 5, 6, 7, 8, 9, 10, 11, 12, 13, 14, 15, 16, 17, 18, 19, 20, 21, 22, 23, 24, 25, 26], [0, 1, 2, 3, 4, 5, 6, 7, 8, 9, 10, 11, 12, 13, 14, 15, 16, 17, 18, 19, 20, 21, 22, 23, 24, 25, 26], [0, 1, 2, 3, 4, 5, 6, 7, 8, 9, 10, 11, 12, 13, 14, 15, 16, 17, 18, 19, 20, 21, 22, 23, 24, 25, 26], [0, 1, 2, 3, 4, 5, 6, 7, 8, 9, 10, 11, 12, 13, 14, 15, 16, 17, 18, 19, 20, 21, 22, 23, 24, 25, 26, 27, 28, 29, 30, 31, 32, 33], [0, 1, 2, 3, 4, 5, 6, 7, 8, 9, 10, 11, 12, 13, 14, 15, 16, 17, 18, 19, 20, 21, 22, 23, 24, 25, 26, 27, 28, 29, 30, 31, 32, 33, 34], [0, 1, 2, 3, 4, 5, 6, 7, 8, 9, 10, 11, 12, 13, 14, 15, 16, 17, 18, 19, 20, 21, 22, 23, 24, 25, 26, 27, 28, 29, 30, 31, 32, 33, 34, 35], [0, 1, 2, 3, 4, 5, 6, 7, 8, 9, 10, 11, 12, 13, 14, 15, 16, 17, 18, 19, 20, 21, 22, 23, 24, 25, 26, 27, 28, 29, 30, 31, 32, 33, 34, 35, 36], [0, 1, 2, 3, 4, 5, 6, 7, 8, 9, 10, 11, 12, 13, 14, 15, 16, 17, 18, 19, 20, 21, 22, 23, 24, 25, 26, 27, 28, 29, 30, 31, 32, 33, 34, 35, 36, 37], [0, 1, 2, 3, 4, 5, 6, 7, 8, 9, 10, 11, 12, 13, 14, 15, 16, 17, 18, 19, 20, 21, 22, 23, 24, 25, 26, 27, 28, 29, 30, 31, 32, 33, 34, 35, 36, 37], [0, 1, 2, 3, 4, 5, 6, 7, 8, 9, 10, 11, 12, 13, 14, 15, 16, 17, 18, 19, 20, 21, 22, 23, 24, 25, 26, 27, 28, 29, 30, 31, 32, 33, 34, 35, 36, 37, 38, 39], [0, 1, 2, 3, 4, 5, 6, 7, 8, 9, 10, 11, 12, 13, 14, 15, 16, 17, 18, 19, 20, 21, 22, 23, 24, 25, 26, 27, 28, 29, 30, 31, 32, 33, 34, 35, 36, 37, 38, 39, 40], [0, 1, 2, 3, 4, 5, 6, 7, 8, 9, 10, 11, 12, 13, 14, 15, 16, 17, 18, 19, 20, 21, 22, 23, 24, 25, 26, 27, 28, 29, 30, 31, 32, 33, 34, 35, 36, 37, 38, 39, 40, 41]] (by kernel_rfl) ?_
        simp [f0, f1, hb2, f3, f0a, f1a, f2a, f3a, f0b, f1b, f2b, f3b]
        refine ⟨.sl OB.length (catR a.rs).length 1 0 (catR a.rs).length, OB ++ [.live (ints (servP a))], fun sl => ?_, ?_⟩
        · refine vcall_k [] (served_spec a fa.rs fa.cat) ?_
          rintro r ob' ⟨rfl, rfl⟩
          simp [f0, f1, hb2, f3, f0a, f1a, f2a, f3a, f0b, f1b, f2b, f3b, e0, e1]
        simp [f0, f1, hb2, f3, f0a, f1a, f2a, f3a, f0b, f1b, f2b, f3b]
        refine ⟨.sl (OB.length + 1) (catR a.rs).length 1 0 (catR a.rs).length, OB ++ [.live (ints (servP a)), .live (ints (servP a))], fun sl => ?_, ?_⟩
        · refine vcall_k [] (dserved_spec a fa.rs fa.cat) ?_
          rintro r ob' ⟨rfl, rfl⟩
          simp [f0, f1, hb2, f3, f0a, f1a, f2a, f3a, f0b, f1b, f2b, f3b, e0, e1]
        simp [f0, f1, hb2, f3, f0a, f1a, f2a, f3a, f0b, f1b, f2b, f3b]
        refine ⟨.bool true, OB ++ [.live (ints (servP a)), .live (ints (servP a))], fun sl => ?_, ?_⟩
        · refine vcall_z [] (same_spec (servP a) (servP a) (by omega) (by omega)) (by rintro r ob' ⟨rfl, rfl⟩; simp) ?_ (ha := by simp [e0, e1, hsl, htS]) (hok := by simp [e0, e1, hsl, htS])
          rintro r ob' ⟨rfl, rfl⟩
          simp [f0, f1, hb2, f3, f0a, f1a, f2a, f3a, f0b, f1b, f2b, f3b, e0, e1]
        simp [f0, f1, hb2, f3, f0a, f1a, f2a, f3a, f0b, f1b, f2b, f3b]
        refine ⟨.sl (OB.length + 2) (restP w a).length 1 0 (restP w a).length, OB ++ [.live (ints (servP a)), .live (ints (servP a)), .live (ints (restP w a))], fun sl => ?_, ?_⟩
        · refine vcall_z [] (rest_spec w (by omega) a fa.rs fa.cat) (by rintro r ob' ⟨rfl, rfl⟩; simp) ?_ (ha := by simp [f0a])
          rintro r ob' ⟨rfl, rfl⟩
          simp [f0, f1, hb2, f3, f0a, f1a, f2a, f3a, f0b, f1b, f2b, f3b, e0, e1]
        simp [f0, f1, hb2, f3, f0a, f1a, f2a, f3a, f0b, f1b, f2b, f3b]
        refine ⟨.sl (OB.length + 3) (restP w a).length 1 0 (restP w a).length, OB ++ [.live (ints (servP a)), .live (ints (servP a)), .live (ints (restP w a)), .live (ints (restP w a))], fun sl => ?_, ?_⟩
        · refine vcall_z [] (drest_spec w (by omega) a fa.rs fa.cat) (by rintro r ob' ⟨rfl, rfl⟩; simp) ?_ (ha := by simp [f0a])
          rintro r ob' ⟨rfl, rfl⟩
          simp [f0, f1, hb2, f3, f0a, f1a, f2a, f3a, f0b, f1b, f2b, f3b, e0, e1]
        simp [f0, f1, hb2, f3, f0a, f1a, f2a, f3a, f0b, f1b, f2b, f3b]
        refine ⟨.bool true, OB ++ [.live (ints (servP a)), .live (ints (servP a)), .live (ints (restP w a)), .live (ints (restP w a))], fun sl => ?_, ?_⟩
        · refine vcall_z [] (same_spec (restP w a) (restP w a) (by omega) (by omega)) (by rintro r ob' ⟨rfl, rfl⟩; simp) ?_ (ha := by simp [e0, e1, htR]) (hok := by simp [e0, e1, htR])
          rintro r ob' ⟨rfl, rfl⟩
          simp [f0, f1, hb2, f3, f0a, f1a, f2a, f3a, f0b, f1b, f2b, f3b, e0, e1]
        simp [f0, f1, hb2, f3, f0a, f1a, f2a, f3a, f0b, f1b, f2b, f3b]
        refine ⟨.bool (lessP w a b), OB ++ [.live (ints (servP a)), .live (ints (servP a)), .live (ints (restP w a)), .live (ints (restP w a))], fun sl => ?_, ?_⟩
        · refine vcall_z [] (less_pspec w (by omega) (by omega) a b fa fb) (by rintro r ob' ⟨rfl, rfl⟩; simp) ?_ (ha := by simp [f0a, f1a, f2a]) (hok := by simp)
          rintro r ob' ⟨rfl, rfl⟩
          simp [f0, f1, hb2, f3, f0a, f1a, f2a, f3a, f0b, f1b, f2b, f3b, e0, e1]
        simp [f0, f1, hb2, f3, f0a, f1a, f2a, f3a, f0b, f1b, f2b, f3b]
        refine ⟨.bool (lessP w a b), OB ++ [.live (ints (servP a)), .live (ints (servP a)), .live (ints (restP w a)), .live (ints (restP w a))], fun sl => ?_, ?_⟩
        · refine vcall_z [] (dless_pspec w (by omega) (by omega) a b fa fb) (by rintro r ob' ⟨rfl, rfl⟩; simp) ?_ (ha := by simp [f0a, f1a, f2a]) (hok := by simp)
          rintro r ob' ⟨rfl, rfl⟩
          simp [f0, f1, hb2, f3, f0a, f1a, f2a, f3a, f0b, f1b, f2b, f3b, e0, e1]
        simp [f0, f1, hb2, f3, f0a, f1a, f2a, f3a, f0b, f1b, f2b, f3b]
        refine ⟨.bool true, OB ++ [.live (ints (servP a)), .live (ints (servP a)), .live (ints (restP w a)), .live (ints (restP w a)), .live a.c, .live [.sl 7 (a.rs.length * 2) 2 0 a.rs.length, sI a.un]], fun sl => ?_, ?_⟩
        · refine vcall_id (equalq_spec a fa _ 7 8 (hLi.app _)) ?_
          rintro r ob' ⟨rfl, rfl⟩
          simp [f0, f1, hb2, f3, f0a, f1a, f2a, f3a, f0b, f1b, f2b, f3b, e0, e1]
        simp [f0, f1, hb2, f3, f0a, f1a, f2a, f3a, f0b, f1b, f2b, f3b]
        refine hK12 _ ?_
        try clear hK12 K12
        refine vwp_cond (by first | rfl | (simp; rfl)) (fun h3 => ?_) fun h3 => ?_
        · simp -failIfUnchanged at h3; all_goals
         refine vwp_seq_k fun K13 hK13 => ?_
         simp_all
        · simp -failIfUnchanged at h3; all_goals
         refine vwp_skip ?_
         exact hK11 ⟨0, _⟩ _ (Gh.pick [3, 4, 7, 8, 11]) (hP.app _)
      · rintro ⟨_, OB2⟩ hP2
        dsimp only at hP2 ⊢
        have hrl8 := rowsL_len 8 0 a.rs
        refine vwp_seq_k fun K14 hK14 => ?_
        refine vwp_sq [3, 4, 7, 8, 11] fun K15 hK15 => vwp_region hT ?_
        simp [hP2.fw, hP2.fp, hP2.fq, hP2.fr, hrl8]
        refine hK15 _ ?_
        try clear hK15 K15
        refine vwp_block ?_
        refine vwp_loop_s (fun u : KQ2 => ⟨[(3, .ptr 0 5 0), (4, .ptr 1 2 0), (7, .int .i64 (checkP w a).1), (8, .int .i64 (checkP w a).2), (11, .ptr (8 + 3 * a.rs.length) 2 0), (82, .int .i64 (a.rs.length : Int)), (83, .int .i64 (u.i : Int))], u.ob⟩) (fun u => u.i ≤ a.rs.length ∧ Pool u.ob w a) (fun u => a.rs.length - u.i) ⟨0, _⟩ (Gh.pick [3, 4, 7, 8, 11, 82, 83]) ⟨Nat.zero_le _, hP2⟩ ?_
        rintro ⟨i, OB3⟩ ⟨hi, hP3⟩
        dsimp only at hi hP3 ⊢
        intro K16 hK16
        refine vwp_sq [3, 4, 7, 8, 11, 82, 83] fun K17 hK17 => vwp_region hT ?_
        simp
        refine hK17 _ ?_
        try clear hK17 K17
        refine vwp_seq_k fun K18 hK18 => ?_
        refine vwp_cond (by first | rfl | (simp; rfl)) (fun h4 => ?_) fun h4 => ?_
        · simp -failIfUnchanged at h4; all_goals
         refine vwp_skip ?_
         refine hK18 _ ?_
         try clear hK18 K18
         refine vwp_seq_k fun K19 hK19 => ?_
         refine vwp_block ?_
         obtain ⟨s, hs⟩ := getI (l := a.rs) (i := i) (by omega)
         obtain ⟨q0, q1⟩ := rowsL_get 8 0 hs
         rw [Nat.zero_add] at q1
         have li : i * 2 + 1 < a.rs.length * 2 := by omega
         have hst : s.st.length < 1099511627776 := by
           have h1 := catR_le a.rs (i + 1)
           have h2 := fa.cat
           rw [catR_take hs, List.length_append] at h1
           omega
         have q1b := get_b q1 (by omega)
         obtain ⟨L, hLn, hLg⟩ := hP3.fs i s hs
         refine vwp_sq [3, 4, 7, 8, 11, 82, 83] fun K20 hK20 => vwp_region hT ?_
         simp
         refine hK20 _ ?_
         try clear hK20 K20
         refine vwp_sq [3, 4, 7, 8, 11, 12, 82, 83] fun K21 hK21 => vwp_region hT ?_
         simp [hP3.fw, hP3.fp, hP3.fq, hP3.fr, q0, q1, q1b, hrl8, li, hLg, hLn]
         repeat refine ⟨by first | assumption | omega | (intros; omega), ?_⟩
         refine hK21 _ ?_
         try clear hK21 K21
         refine vwp_block ?_
         refine vwp_loop_s (fun u : KQ2 => ⟨[(3, .ptr 0 5 0), (4, .ptr 1 2 0), (7, .int .i64 (checkP w a).1), (8, .int .i64 (checkP w a).2), (11, .ptr (8 + 3 * a.rs.length) 2 0), (12, .int .i64 (i : Int)), (82, .int .i64 (a.rs.length : Int)), (83, .int .i64 (i : Int)), (92, .int .i64 (s.st.length : Int)), (93, .int .i64 (u.i : Int))], u.ob⟩) (fun u => u.i ≤ s.st.length ∧ Pool u.ob w a) (fun u => s.st.length - u.i) ⟨0, _⟩ (Gh.pick [3, 4, 7, 8, 11, 12, 82, 83, 92, 93]) ⟨Nat.zero_le _, hP3⟩ ?_
         rintro ⟨j, OB4⟩ ⟨hj, hP4⟩
         dsimp only at hj hP4 ⊢
         intro K22 hK22
         refine vwp_sq [3, 4, 7, 8, 11, 12, 82, 83, 92, 93] fun K23 hK23 => vwp_region hT ?_
         simp
         refine hK23 _ ?_
         try clear hK23 K23
         refine vwp_seq_k fun K24 hK24 => ?_
         refine vwp_cond (by first | rfl | (simp; rfl)) (fun h5 => ?_) fun h5 => ?_
         · simp -failIfUnchanged at h5; all_goals
          refine vwp_skip ?_
          refine hK24 _ ?_
          try clear hK24 K24
          refine vwp_seq_k fun K25 hK25 => ?_
          refine vwp_block ?_
          refine vwp_sq [3, 4, 7, 8, 11, 12, 82, 83, 92, 93] fun K26 hK26 => vwp_region hT ?_
          simp
          refine hK26 _ ?_
          try clear hK26 K26
          obtain ⟨L4, hLn4, hLg4⟩ := hP4.fs i s hs
          have hj4 : j < L4.length := by omega
          have hj5 : j < s.st.length := by omega
          have hlt4 : idB 8 i < OB4.length := (List.getElem?_eq_some_iff.1 hLg4).1
          have hg4b : OB4[idB 8 i] = .live (ints L4) := get_b hLg4 hlt4
          obtain ⟨x4, hx4⟩ := getI hj4
          have hx4b : L4[j] = x4 := get_b hx4 hj4
          refine vwp_live [3, 4, 7, 8, 11, 12, 13, 82, 83, 92, 93] (vwp_region hT ?_)
          simp [hP4.fw, hP4.fp, hP4.fq, hP4.fr, q0, q1, q1b, hrl8, li, hLg4, hLn4, hj4, hj5, hlt4, hg4b, hx4, hx4b]
          repeat refine ⟨by first | assumption | omega | (intros; omega), ?_⟩
          refine hK25 _ ?_
          try clear hK25 K25
          generalize IntKind.i64.wrap (x4 + 1) = z4
          have hsp : spl (ints L4) j [V.int IntKind.i64 z4] = ints (L4.set j z4) := spl_ints hj4
          rw [hsp]
          have hP5 : Pool (OB4.set (idB 8 i) (.live (ints (L4.set j z4)))) w a := hP4.set hs (by simp; omega)
          generalize OB4.set (idB 8 i) (.live (ints (L4.set j z4))) = OB5 at hP5 ⊢
          have w1 : IntKind.i64.wrap ((j : Int) + 1) = j + 1 := w64 (by omega) (by omega)
          refine vwp_live [3, 4, 7, 8, 11, 12, 82, 83, 92, 93] (vwp_region hT ?_)
          simp [w1]
          exact hK22 ⟨j + 1, _⟩ _ (Gh.pick [3, 4, 7, 8, 11, 12, 82, 83, 92, 93]) ⟨by show j + 1 ≤ s.st.length; omega, hP5⟩ (by show s.st.length - (j + 1) < s.st.length - j; omega)
         · simp -failIfUnchanged at h5; all_goals
          refine vwp_exit ?_
          simp only [inBlk, thenQ, if_true]
          refine hK19 _ ?_
          try clear hK19 K19
          have w1 : IntKind.i64.wrap ((i : Int) + 1) = i + 1 := w64 (by omega) (by omega)
          refine vwp_live [3, 4, 7, 8, 11, 82, 83] (vwp_region hT ?_)
          simp [w1]
          exact hK16 ⟨i + 1, _⟩ _ (Gh.pick [3, 4, 7, 8, 11, 82, 83]) ⟨by show i + 1 ≤ a.rs.length; omega, hP4⟩ (by show a.rs.length - (i + 1) < a.rs.length - i; omega)
        · simp -failIfUnchanged at h4; all_goals
         refine vwp_exit ?_
         simp only [inBlk, thenQ, if_true]
         refine hK14 _ ?_
         try clear hK14 K14
         refine vwp_sq [3, 4, 7, 8] fun K27 hK27 => vwp_region hT ?_
         simp [hP3.fw, hP3.fp, hP3.fq, hP3.fr]
         refine vcall_z [] (check_spec w (by omega) (by omega) a fa.rs fa.cat fa.un) (by rintro r ob' ⟨rfl, rfl⟩; simp) ?_ (ha := by simp)
         rintro r ob' ⟨rfl, rfl⟩
         simp [hP3.fw, hP3.fp, hP3.fq, hP3.fr]
         refine hK27 _ ?_
         try clear hK27 K27
         refine vwp_sq [7, 8, 14, 15] fun K28 hK28 => vwp_region hT ?_
         simp
         refine hK28 _ ?_
         try clear hK28 K28
         refine vwp_ret (hR _ _ ?_)
         exact ret_k [6] [] ([]) (.bool true) (⟨rfl, rfl⟩)
end Go.Proofs.Ytinigjmfjabicaa
