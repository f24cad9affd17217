/- The law PlanOnce: the walk. -/
import Derived.Test.YtinigjmfjabicaaPlZ
namespace Go.Proofs.Ytinigjmfjabicaa
open Go Go.VX Go.RowKit
set_option linter.unusedVariables false
set_option linter.unusedSimpArgs false
set_option maxHeartbeats 20000000
set_option maxRecDepth 100000

/-! ### Numbers and what is counted of them -/
abbrev entF (g : Int → Int) (K : List Int) : List (V × V) := K.map fun k => (V.int .i64 k, V.int .i64 (g k))
theorem vfind_F (g : Int → Int) (x : Int) : ∀ (K : List Int) (j : Nat), (x ∉ K ∧ vfindK (.int .i64 x) (entF g K) j = some none) ∨ (∃ i, K[i]? = some x ∧ vfindK (.int .i64 x) (entF g K) j = some (some (j + i, .int .i64 (g x))))
  | [], j => .inl ⟨by simp, rfl⟩
  | k :: K, j => by
    by_cases h : x = k
    · exact .inr ⟨0, by simp [h], by simp [vfindK, sameK, h]⟩
    · have hb : (x == k) = false := by simpa using h
      rcases vfind_F g x K (j + 1) with ⟨h1, h2⟩ | ⟨i, h1, h2⟩
      · exact .inl ⟨by simp [h, h1], by simp only [entF, List.map_cons, vfindK, sameK, if_true, hb]; exact h2⟩
      · exact .inr ⟨i + 1, by simpa using h1, by simp only [entF, List.map_cons, vfindK, sameK, if_true, hb]; rw [← entF, h2]; simp; omega⟩
@[simp] theorem rnO_F (f : Nat → Nat) (g : Int → Int) (K : List Int) (bs : List Nat) (ck : Nat) : rnO f (.map (entF g K) bs ck) = .map (entF g K) bs ck := rnO_map f _ (fun _ => rfl) K bs ck
abbrev setN (K : List Int) : List (V × V) := K.map fun k => (V.int .i64 k, V.int .i64 1)
theorem vfind_N (x : Int) (K : List Int) : (x ∉ K ∧ vfindK (.int .i64 x) (setN K) 0 = some none) ∨ (∃ i, K[i]? = some x ∧ vfindK (.int .i64 x) (setN K) 0 = some (some (0 + i, .int .i64 1))) := vfind_F (fun _ => 1) x K 0
@[simp] theorem rnO_N (f : Nat → Nat) (K : List Int) (bs : List Nat) (ck : Nat) : rnO f (.map (setN K) bs ck) = .map (setN K) bs ck := rnO_map f _ (fun _ => rfl) K bs ck
theorem rnO_N1 (f : Nat → Nat) (K : List Int) (x : Int) (bs : List Nat) (ck : Nat) : rnO f (.map (setN K ++ [(.int .i64 x, .int .i64 1)]) bs ck) = .map (setN (K ++ [x])) bs ck := by
  have e : setN K ++ [(V.int .i64 x, V.int .i64 1)] = setN (K ++ [x]) := by simp
  rw [e]; exact rnO_N f _ bs ck
theorem rnO_F1 (f : Nat → Nat) (g : Int → Int) (K : List Int) (x y : Int) (h : y = g x) (bs : List Nat) (ck : Nat) : rnO f (.map (entF g K ++ [(.int .i64 x, .int .i64 y)]) bs ck) = .map (entF g (K ++ [x])) bs ck := by
  have e : entF g K ++ [(V.int .i64 x, V.int .i64 y)] = entF g (K ++ [x]) := by simp [h]
  rw [e]; exact rnO_F f g _ bs ck

theorem checkP_ok {w : Wd} {p : Pn} (h : (checkP w p).2 = 0) : w.ok ∧ p.rs.length ≤ 6 ∧ ∃ cs, runsP w p.rs = (some cs, 0) ∧ (trs p.rs).Nodup ∧ (catR p.rs).Nodup ∧ p.un = restP w p ∧ checkP w p = (cs.sum, 0) := by
  have h0 := h
  unfold checkP at h
  split at h
  · rename_i he; exact absurd h he
  rename_i he
  have hok : w.ok := Wd.e_zero.1 (Classical.byContradiction he)
  split at h
  · cases h
  rename_i h6
  split at h
  · rename_i e hr
    exfalso
    have : ∀ {l : List Rt} {e : Int}, runsP w l = (none, e) → e ≠ 0 := by
      intro l
      induction l with
      | nil => intro e h; simp [runsP] at h
      | cons r l ih =>
        intro e h
        simp only [runsP] at h
        split at h
        · rename_i hr; cases h; exact runP_none hr
        · split at h
          · rename_i hl; cases h; exact ih hl
          · cases h
    exact this hr h
  · rename_i cs e hr
    split at h
    · cases h
    rename_i hd
    split at h
    · cases h
    rename_i hu
    have hd1 : (trs p.rs).Nodup ∧ (catR p.rs).Nodup := by
      simp only [Bool.or_eq_true, not_or, dupB, Bool.not_eq_true', decide_eq_false_iff_not, Classical.not_not] at hd
      exact hd
    have he0 : runsP w p.rs = (some cs, 0) := by
      have : ∀ {l : List Rt} {cs : List Int} {e : Int}, runsP w l = (some cs, e) → e = 0 := by
        intro l
        induction l with
        | nil => intro cs e h; simp [runsP] at h; exact h.2.symm
        | cons r l ih =>
          intro cs e h
          simp only [runsP] at h
          split at h
          · cases h
          · split at h
            · cases h
            · cases h; rfl
      rw [hr, this hr]
    have hu2 : p.un = restP w p := Classical.byContradiction hu
    refine ⟨hok, by omega, cs, he0, hd1.1, hd1.2, hu2, ?_⟩
    unfold checkP
    rw [if_neg he, if_neg h6, hr]
    dsimp only
    rw [if_neg hd, if_neg hu]
theorem runsP_zero {w : Wd} : ∀ {l : List Rt} {cs : List Int} {e : Int}, runsP w l = (some cs, e) → e = 0
  | [], cs, e, h => by simp [runsP] at h; exact h.2.symm
  | r :: l, cs, e, h => by
    simp only [runsP] at h
    split at h
    · cases h
    · split at h
      · cases h
      · cases h; rfl
theorem runsP_at {w : Wd} : ∀ {l : List Rt} {cs : List Int} {e : Int}, runsP w l = (some cs, e) → ∀ (i : Nat) r, l[i]? = some r → ∃ t, runP w r = (some t, 0) ∧ cs[i]? = some t.co
  | [], cs, e, _, i, r, h => by simp at h
  | r0 :: l, cs, e, h, i, r, hr => by
    simp only [runsP] at h
    split at h
    · cases h
    rename_i t e2 hr0
    split at h
    · cases h
    rename_i cs2 e3 hl
    cases h
    cases i with
    | zero =>
      simp at hr; subst hr
      obtain ⟨he, _⟩ := runP_some hr0
      subst he
      exact ⟨t, hr0, rfl⟩
    | succ i => simpa using runsP_at hl i r (by simpa using hr)
theorem pick_in {os : List Od} : ∀ {l : List Int} {L : List Od}, pick os l = some L → ∀ id ∈ l, id ∈ os.map (·.id)
  | [], L, _, id, h => by cases h
  | x :: l, L, h, id, hid => by
    simp only [pick] at h
    split at h
    · cases h
    rename_i i hi
    split at h
    · cases h
    cases hp : pick os l with
    | none => rw [hp] at h; cases h
    | some L2 =>
      rcases List.mem_cons.1 hid with rfl | hid
      · obtain ⟨o, h1, h2⟩ := fndO_some hi
        exact List.mem_map.2 ⟨o, List.mem_of_getElem? h1, h2⟩
      · exact pick_in hp id hid
theorem checkP_bad {w : Wd} {p : Pn} : (checkP w p).2 ≠ 0 → (checkP w p).1 = 0 := by
  unfold checkP
  split
  · intro _; rfl
  split
  · intro _; rfl
  split
  · intro _; rfl
  split
  · intro _; rfl
  split
  · intro _; rfl
  · intro h; exact absurd rfl h
theorem run_stops {w : Wd} {r : Rt} {t : Tr} {e : Int} (h : runP w r = (some t, e)) : ∀ id ∈ r.st, id ∈ w.os.map (·.id) := by
  obtain ⟨_, _, _, _, _, _, _, hp, _⟩ := runP_some h
  exact pick_in hp
theorem cat_sub {w : Wd} {l : List Rt} {cs : List Int} {e : Int} (h : runsP w l = (some cs, e)) : ∀ id ∈ catR l, id ∈ w.os.map (·.id) := by
  intro id hid
  obtain ⟨r, hr, hi⟩ := List.mem_flatMap.1 hid
  obtain ⟨i, hi2⟩ := List.mem_iff_getElem?.1 hr
  obtain ⟨t, ht, _⟩ := runsP_at h i r hi2
  exact run_stops ht id hi
theorem unsF_mem {os : List Od} {C : List Int} {x : Int} : x ∈ unsF os C ↔ x ∈ os.map (·.id) ∧ x ∉ C := by
  unfold unsF
  rw [List.mem_filter]
  simp [← hasB_mem]
/-- All orders, once. -/
theorem all_once {w : Wd} {C : List Int} (hn : (w.os.map (·.id)).Nodup) (hc : C.Nodup) (hs : ∀ id ∈ C, id ∈ w.os.map (·.id)) : (C ++ srt (unsF w.os C)).Perm (w.os.map (·.id)) := by
  have h1 : (C ++ srt (unsF w.os C)).Perm (C ++ unsF w.os C) := (srt_perm _).append_left C
  refine h1.trans ((List.perm_ext_iff_of_nodup ?_ hn).2 fun x => ?_)
  · rw [List.nodup_append]
    refine ⟨hc, hn.sublist List.filter_sublist, fun a ha b hb => ?_⟩
    rintro rfl
    exact (unsF_mem.1 hb).2 ha
  · rw [List.mem_append, unsF_mem]
    constructor
    · rintro (h | h)
      · exact hs x h
      · exact h.1
    · intro h
      by_cases q : x ∈ C
      · exact .inl q
      · exact .inr ⟨h, q⟩

structure KM where (i : Nat) (a b : List Nat × Nat)
structure KN where (i : Nat) (a : List Nat × Nat)
theorem law_ponce (w : Wd) (p : Pn) (up : p.un.length ≤ 140737488355328) (rp : p.rs.length ≤ 140737488355328) (sp : ∀ r ∈ p.rs, r.st.length ≤ 140737488355328) : VC P 7 [.agg w.c, .agg p.c] [] (fun r ob' => r = .bool true ∧ ob' = []) := by
  refine VC_of_vwp_k ent_7 Try.func7 rfl (by simp) fun R hR => ?_
  refine vwp_sq [0, 1] fun K1 hK1 => vwp_region hT ?_
  simp
  refine hK1 _ ?_
  try clear hK1 K1
  refine vwp_seq_k fun K2 hK2 => ?_
  refine vwp_sq [2, 3] fun K3 hK3 => vwp_region hT ?_
  simp
  refine vcall_k [] (awake9) ?_
  rintro r ob' ⟨rfl, rfl⟩
  simp
  refine hK3 _ ?_
  try clear hK3 K3
  refine vwp_cond (by first | rfl | (simp; rfl)) (fun h1 => ?_) fun h1 => ?_
  · simp -failIfUnchanged at h1; all_goals
   refine vwp_seq_k fun K4 hK4 => ?_
   simp_all
  · simp -failIfUnchanged at h1; all_goals
   refine vwp_skip ?_
   refine hK2 _ ?_
   try clear hK2 K2
   refine vwp_seq_k fun K5 hK5 => ?_
   refine vwp_sq [2, 3] fun K6 hK6 => vwp_region hT ?_
   simp [zerosV, spl]
   refine vcall_z [] (large_pspec w [p] (by simp) (by simp; exact ⟨up, rp, sp⟩)) (by rintro r ob' ⟨rfl, rfl⟩; simp) ?_ (ha := by simp [rowsV])
   rintro r ob' ⟨rfl, rfl⟩
   simp [zerosV, spl]
   refine hK6 _ ?_
   try clear hK6 K6
   refine vwp_cond (by first | rfl | (simp; rfl)) (fun h2 => ?_) fun h2 => ?_
   · simp -failIfUnchanged at h2; all_goals
    refine vwp_sq [] fun K7 hK7 => vwp_region hT ?_
    simp
    refine hK7 _ ?_
    try clear hK7 K7
    refine vwp_ret (hR _ _ ?_)
    exact ret_k [4] [] ([]) (.bool true) (⟨rfl, rfl⟩)
   · simp -failIfUnchanged at h2; all_goals
    have q := h2
    have fp : p.few := by simp -failIfUnchanged at q; exact (lrgP_no q.1).1
    have hl1 : w.os.length ≤ 50 ∧ w.ts.length ≤ 50 := by
      simp -failIfUnchanged at q
      have := q.2
      simp only [lrgW, decide_eq_false_iff_not] at this
      omega
    refine vwp_skip ?_
    refine hK5 _ ?_
    try clear hK5 K5
    refine vwp_sq [2, 3] fun K8 hK8 => vwp_region hT ?_
    simp
    refine vcall_z [] (check_spec w (by omega) (by omega) p fp.rs fp.cat fp.un) (by rintro r ob' ⟨rfl, rfl⟩; simp) ?_
    rintro r ob' ⟨rfl, rfl⟩
    simp
    refine hK8 _ ?_
    try clear hK8 K8
    refine vwp_seq_k fun K9 hK9 => ?_
    refine vwp_sq [2, 3, 5, 6] fun K10 hK10 => vwp_region hT ?_
    simp
    refine hK10 _ ?_
    try clear hK10 K10
    refine vwp_cond (by first | rfl | (simp; rfl)) (fun h3 => ?_) fun h3 => ?_
    · simp -failIfUnchanged at h3; all_goals
     have q := h3
     have hz : (checkP w p).1 = 0 := checkP_bad (by simpa using q)
     refine vwp_sq [5] fun K11 hK11 => vwp_region hT ?_
     simp [hz]
     refine hK11 _ ?_
     try clear hK11 K11
     refine vwp_ret (hR _ _ ?_)
     exact ret_k [4] [] ([]) (.bool true) (⟨rfl, rfl⟩)
    · simp -failIfUnchanged at h3; all_goals
     have q := h3
     obtain ⟨hok, h6, cs, hrs, htn, hcn, hun, hck⟩ := checkP_ok (by simpa using q)
     have hsub := cat_sub hrs
     have hperm := all_once hok.ond hcn hsub
     have hun2 : srt (unsF w.os (catR p.rs)) = p.un := hun.symm
     rw [hun2] at hperm
     have hXn : (catR p.rs ++ p.un).Nodup := hperm.nodup_iff.2 hok.ond
     refine vwp_skip ?_
     refine hK9 _ ?_
     try clear hK9 K9
     refine vwp_sq [2, 3] fun K12 hK12 => vwp_region hT ?_
     simp
     refine hK12 _ ?_
     try clear hK12 K12
     refine vwp_sq [2, 3, 7] fun K13 hK13 => vwp_region hT ?_
     simp
     refine hK13 _ ?_
     try clear hK13 K13
     refine vwp_seq_k fun K14 hK14 => ?_
     refine vwp_sq [2, 3, 7, 8] fun K15 hK15 => vwp_region hT ?_
     simp
     refine hK15 _ ?_
     try clear hK15 K15
     refine vwp_block ?_
     refine vwp_loop_s (fun u : KM => ⟨[(2, .ptr 0 5 0), (3, .ptr 1 2 0), (7, .mp 2), (8, .mp 3), (38, rtV p.rs), (39, .int .i64 p.rs.length), (40, .int .i64 (u.i : Int))], [.live w.c, .live p.c, .map (setN (catR (p.rs.take u.i))) u.a.1 u.a.2, .map (setE (trs (p.rs.take u.i))) u.b.1 u.b.2]⟩) (fun u => u.i ≤ p.rs.length) (fun u => p.rs.length - u.i) (⟨0, ([], 0), ([], 0)⟩) (Gh.to_k [2, 3, 7, 8, 38, 39, 40] [0, 1, 3, 4] (hh := by simp [catR, trs])) (by simp) ?_
     rintro ⟨i, am, bm⟩ hi
     dsimp only at hi ⊢
     intro K16 hK16
     refine vwp_sq [2, 3, 7, 8, 38, 39, 40] fun K17 hK17 => vwp_region hT ?_
     simp
     refine hK17 _ ?_
     try clear hK17 K17
     refine vwp_seq_k fun K18 hK18 => ?_
     refine vwp_cond (by first | rfl | (simp; rfl)) (fun h4 => ?_) fun h4 => ?_
     · simp -failIfUnchanged at h4; all_goals
      refine vwp_skip ?_
      refine hK18 _ ?_
      try clear hK18 K18
      refine vwp_seq_k fun K19 hK19 => ?_
      refine vwp_block ?_
      obtain ⟨s, hs⟩ := getI (l := p.rs) (i := i) (by omega)
      have hrow := rowRt hs
      have hlen := lenRt p.rs
      obtain ⟨tr, hrun, _⟩ := runsP_at hrs i s hs
      have hst : s.st.length < 1099511627776 := by
        have h1 := catR_le p.rs (i + 1)
        have h2 := fp.cat
        rw [catR_take hs, List.length_append] at h1
        omega
      have htrN : s.tr ∉ trs (p.rs.take i) := by
        have h1 : (trs (p.rs.take (i + 1))).Nodup := htn.sublist ((List.take_sublist _ _).map _)
        rw [trs_take hs, List.nodup_append] at h1
        exact fun h => h1.2.2 s.tr h s.tr (by simp) rfl
      have hv : vfindK (.int .i64 s.tr) (setE (trs (p.rs.take i))) 0 = some none := by
        rcases vfind_set s.tr (trs (p.rs.take i)) 0 with ⟨_, h⟩ | ⟨j, h, _⟩
        · exact h
        · exact absurd (List.mem_of_getElem? h) htrN
      refine vwp_sq [2, 3, 7, 8, 38, 39, 40] fun K20 hK20 => vwp_region hT ?_
      simp [hrow, hlen]
      repeat refine ⟨by first | assumption | omega | (intros; omega), ?_⟩
      refine hK20 _ ?_
      try clear hK20 K20
      refine vwp_seq_k fun K21 hK21 => ?_
      refine vwp_sq [2, 3, 7, 8, 10, 38, 39, 40] fun K22 hK22 => vwp_region hT ?_
      simp
      repeat refine ⟨by first | assumption | omega | (intros; omega), ?_⟩
      refine vcall_z [] (run_spec w (by omega) (by omega) s hst) (by rw [hrun]; rintro r ob' ⟨rfl, rfl⟩; simp; intro c hc; obtain ⟨n, rfl⟩ := vsC hc; rfl) ?_
      rw [hrun]
      rintro r ob' ⟨rfl, rfl⟩
      simp
      repeat refine ⟨by first | assumption | omega | (intros; omega), ?_⟩
      refine hK22 _ ?_
      try clear hK22 K22
      refine vwp_sq [2, 3, 7, 8, 10, 12, 38, 39, 40] fun K23 hK23 => vwp_region hT ?_
      simp [hv]
      repeat refine ⟨by first | assumption | omega | (intros; omega), ?_⟩
      refine hK23 _ ?_
      try clear hK23 K23
      refine vwp_cond (by first | rfl | (simp; rfl)) (fun h5 => ?_) fun h5 => ?_
      · simp -failIfUnchanged at h5; all_goals
       refine vwp_seq_k fun K24 hK24 => ?_
       simp_all
      · simp -failIfUnchanged at h5; all_goals
       refine vwp_skip ?_
       refine hK21 _ ?_
       try clear hK21 K21
       refine vwp_sq [2, 3, 7, 8, 10, 38, 39, 40] fun K25 hK25 => vwp_region hT ?_
       simp [hv]
       repeat refine ⟨by first | assumption | omega | (intros; omega), ?_⟩
       refine hK25 _ ?_
       try clear hK25 K25
       refine vwp_sq [2, 3, 7, 8, 10, 38, 39, 40] fun K26 hK26 => vwp_region hT ?_
       simp
       refine hK26 _ ?_
       try clear hK26 K26
       refine vwp_block ?_
       refine vwp_loop_s (fun u : KN => ⟨[(2, .ptr 0 5 0), (3, .ptr 1 2 0), (7, .mp 2), (8, .mp 3), (38, rtV p.rs), (39, .int .i64 p.rs.length), (40, .int .i64 (i : Int)), (62, sI s.st), (63, .int .i64 s.st.length), (64, .int .i64 (u.i : Int))], [.live w.c, .live p.c, .map (setN (catR (p.rs.take i) ++ s.st.take u.i)) u.a.1 u.a.2, .map (setE (trs (p.rs.take i) ++ [s.tr])) (bm.1 ++ [bm.2], bm.2 + 1).1 (bm.1 ++ [bm.2], bm.2 + 1).2]⟩) (fun u => u.i ≤ s.st.length) (fun u => s.st.length - u.i) (⟨0, am⟩) (Gh.to_k [2, 3, 7, 8, 38, 39, 40, 62, 63, 64] [0, 1, 2, 3] (hh := by simp [rnO_set1])) (by simp) ?_
       rintro ⟨j, am1⟩ hj
       dsimp only at hj ⊢
       obtain ⟨K, hK⟩ : ∃ K, K = catR (p.rs.take i) ++ s.st.take j := ⟨_, rfl⟩
       rw [← hK]
       intro K27 hK27
       refine vwp_sq [2, 3, 7, 8, 38, 39, 40, 62, 63, 64] fun K28 hK28 => vwp_region hT ?_
       simp
       refine hK28 _ ?_
       try clear hK28 K28
       refine vwp_seq_k fun K29 hK29 => ?_
       refine vwp_cond (by first | rfl | (simp; rfl)) (fun h6 => ?_) fun h6 => ?_
       · simp -failIfUnchanged at h6; all_goals
        refine vwp_skip ?_
        refine hK29 _ ?_
        try clear hK29 K29
        refine vwp_seq_k fun K30 hK30 => ?_
        refine vwp_block ?_
        obtain ⟨id, hid⟩ := getI (l := s.st) (i := j) (by omega)
        have hK2 : catR (p.rs.take i) ++ s.st.take (j + 1) = K ++ [id] := by rw [take_snoc hid, hK, List.append_assoc]
        have hKn : id ∉ K := by
          have h1 : (catR (p.rs.take (i + 1))).Nodup := by
            have h2 : catR p.rs = catR (p.rs.take (i + 1)) ++ catR (p.rs.drop (i + 1)) := by simp only [catR]; rw [← List.flatMap_append, List.take_append_drop]
            rw [h2, List.nodup_append] at hcn
            exact hcn.1
          rw [catR_take hs, split_at hid, ← List.append_assoc, List.nodup_append, ← hK] at h1
          exact fun h => h1.2.2 id h id (by simp) rfl
        have hv2 : vfindK (.int .i64 id) (setN K) 0 = some none := by
          rcases vfind_N id K with ⟨_, h⟩ | ⟨q, h, _⟩
          · exact h
          · exact absurd (List.mem_of_getElem? h) hKn
        have hw1 : IntKind.i64.wrap 1 = 1 := rfl
        refine vwp_sq [2, 3, 7, 8, 38, 39, 40, 62, 63, 64] fun K31 hK31 => vwp_region hT ?_
        simp [hid]
        repeat refine ⟨by first | assumption | omega | (intros; omega), ?_⟩
        refine hK31 _ ?_
        try clear hK31 K31
        refine vwp_live [2, 3, 7, 8, 14, 38, 39, 40, 62, 63, 64] (vwp_region hT ?_)
        simp [hv2, hw1]
        repeat refine ⟨by first | assumption | omega | (intros; omega), ?_⟩
        refine hK30 _ ?_
        try clear hK30 K30
        have w1 : IntKind.i64.wrap ((j : Int) + 1) = j + 1 := w64 (by omega) (by omega)
        refine vwp_live [2, 3, 7, 8, 38, 39, 40, 62, 63, 64] (vwp_region hT ?_)
        simp [w1]
        exact hK27 (⟨j + 1, (am1.1 ++ [am1.2], am1.2 + 1)⟩) _ (Gh.to_k [2, 3, 7, 8, 38, 39, 40, 62, 63, 64] [0, 1, 2, 3] (hh := by simp [hK2, rnO_N1, rnO_set1])) (by dsimp only; omega) (by dsimp only; omega)
       · simp -failIfUnchanged at h6; all_goals
        have htk3 : s.st.take j = s.st := List.take_of_length_le (by omega)
        rw [hK, htk3, ← catR_take hs]
        refine vwp_exit ?_
        simp only [inBlk, thenQ, if_true]
        refine hK19 _ ?_
        try clear hK19 K19
        have w1 : IntKind.i64.wrap ((i : Int) + 1) = i + 1 := w64 (by omega) (by omega)
        refine vwp_live [2, 3, 7, 8, 38, 39, 40] (vwp_region hT ?_)
        simp [w1]
        exact hK16 (⟨i + 1, am1, (bm.1 ++ [bm.2], bm.2 + 1)⟩) _ (Gh.to_k [2, 3, 7, 8, 38, 39, 40] [0, 1, 2, 3] (hh := by simp [trs_take hs, rnO_set1])) (by dsimp only; omega) (by dsimp only; omega)
     · simp -failIfUnchanged at h4; all_goals
      refine vwp_exit ?_
      simp only [inBlk, thenQ, if_true]
      refine hK14 _ ?_
      try clear hK14 K14
      refine vwp_seq_k fun K32 hK32 => ?_
      refine vwp_sq [2, 3, 7] fun K33 hK33 => vwp_region hT ?_
      simp
      refine hK33 _ ?_
      try clear hK33 K33
      refine vwp_block ?_
      obtain rfl : i = p.rs.length := by omega
      rw [List.take_length]
      have hune := fp.un
      refine vwp_loop_s (fun u : KN => ⟨[(2, .ptr 0 5 0), (7, .mp 2), (75, sI p.un), (76, .int .i64 p.un.length), (77, .int .i64 (u.i : Int))], [.live w.c, .live p.c, .map (setN (catR p.rs ++ p.un.take u.i)) u.a.1 u.a.2]⟩) (fun u => u.i ≤ p.un.length) (fun u => p.un.length - u.i) (⟨0, am⟩) (Gh.to_k [2, 7, 75, 76, 77] [0, 1, 2] (hh := by simp)) (by simp) ?_
      rintro ⟨j, am1⟩ hj
      dsimp only at hj ⊢
      obtain ⟨K, hK⟩ : ∃ K, K = catR p.rs ++ p.un.take j := ⟨_, rfl⟩
      rw [← hK]
      intro K34 hK34
      refine vwp_sq [2, 7, 75, 76, 77] fun K35 hK35 => vwp_region hT ?_
      simp
      refine hK35 _ ?_
      try clear hK35 K35
      refine vwp_seq_k fun K36 hK36 => ?_
      refine vwp_cond (by first | rfl | (simp; rfl)) (fun h7 => ?_) fun h7 => ?_
      · simp -failIfUnchanged at h7; all_goals
       refine vwp_skip ?_
       refine hK36 _ ?_
       try clear hK36 K36
       refine vwp_seq_k fun K37 hK37 => ?_
       refine vwp_block ?_
       obtain ⟨id, hid⟩ := getI (l := p.un) (i := j) (by omega)
       have hK2 : catR p.rs ++ p.un.take (j + 1) = K ++ [id] := by rw [take_snoc hid, hK, List.append_assoc]
       have hKn : id ∉ K := by
         have h1 := hXn
         rw [split_at hid, ← List.append_assoc, List.nodup_append, ← hK] at h1
         exact fun h => h1.2.2 id h id (by simp) rfl
       have hv2 : vfindK (.int .i64 id) (setN K) 0 = some none := by
         rcases vfind_N id K with ⟨_, h⟩ | ⟨q, h, _⟩
         · exact h
         · exact absurd (List.mem_of_getElem? h) hKn
       have hw1 : IntKind.i64.wrap 1 = 1 := rfl
       refine vwp_sq [2, 7, 75, 76, 77] fun K38 hK38 => vwp_region hT ?_
       simp [hid]
       repeat refine ⟨by first | assumption | omega | (intros; omega), ?_⟩
       refine hK38 _ ?_
       try clear hK38 K38
       refine vwp_live [2, 7, 16, 75, 76, 77] (vwp_region hT ?_)
       simp [hv2, hw1]
       repeat refine ⟨by first | assumption | omega | (intros; omega), ?_⟩
       refine hK37 _ ?_
       try clear hK37 K37
       have w1 : IntKind.i64.wrap ((j : Int) + 1) = j + 1 := w64 (by omega) (by omega)
       refine vwp_live [2, 7, 75, 76, 77] (vwp_region hT ?_)
       simp [w1]
       exact hK34 (⟨j + 1, (am1.1 ++ [am1.2], am1.2 + 1)⟩) _ (Gh.to_k [2, 7, 75, 76, 77] [0, 1, 2] (hh := by simp [hK2, rnO_N1])) (by dsimp only; omega) (by dsimp only; omega)
      · simp -failIfUnchanged at h7; all_goals
       refine vwp_exit ?_
       simp only [inBlk, thenQ, if_true]
       refine hK32 _ ?_
       try clear hK32 K32
       refine vwp_seq_k fun K39 hK39 => ?_
       refine vwp_sq [2, 7] fun K40 hK40 => vwp_region hT ?_
       simp
       refine hK40 _ ?_
       try clear hK40 K40
       refine vwp_block ?_
       obtain rfl : j = p.un.length := by omega
       rw [List.take_length] at hK
       have hpl := hperm.length_eq
       rw [← hK, List.length_map] at hpl
       refine vwp_loop_s (fun i : Nat => ⟨[(2, .ptr 0 5 0), (7, .mp 2), (87, odV w.os), (88, .int .i64 w.os.length), (89, .int .i64 (i : Int))], [.live w.c, .live p.c, .map (setN K) am1.1 am1.2]⟩) (fun i => i ≤ w.os.length) (fun i => w.os.length - i) (0) (Gh.to_k [2, 7, 87, 88, 89] [0, 1, 2]) (by omega) ?_
       rintro i hi
       intro K41 hK41
       refine vwp_sq [2, 7, 87, 88, 89] fun K42 hK42 => vwp_region hT ?_
       simp
       refine hK42 _ ?_
       try clear hK42 K42
       refine vwp_seq_k fun K43 hK43 => ?_
       refine vwp_cond (by first | rfl | (simp; rfl)) (fun h8 => ?_) fun h8 => ?_
       · simp -failIfUnchanged at h8; all_goals
        refine vwp_skip ?_
        refine hK43 _ ?_
        try clear hK43 K43
        refine vwp_seq_k fun K44 hK44 => ?_
        refine vwp_block ?_
        obtain ⟨o, ho3⟩ := getI (l := w.os) (i := i) (by omega)
        have hrow := rowOd ho3
        have hlen := lenOd w.os
        have hmem : o.id ∈ K := by rw [hK]; exact hperm.mem_iff.2 (List.mem_map.2 ⟨o, List.mem_of_getElem? ho3, rfl⟩)
        obtain ⟨qv, hv3⟩ : ∃ qv, vfindK (.int .i64 o.id) (setN K) 0 = some (some (0 + qv, .int .i64 1)) := by
          rcases vfind_N o.id K with ⟨h, _⟩ | ⟨q, _, h⟩
          · exact absurd hmem h
          · exact ⟨q, h⟩
        refine vwp_sq [2, 7, 87, 88, 89] fun K45 hK45 => vwp_region hT ?_
        simp [hrow, hlen]
        repeat refine ⟨by first | assumption | omega | (intros; omega), ?_⟩
        refine hK45 _ ?_
        try clear hK45 K45
        refine vwp_sq [2, 7, 18, 87, 88, 89] fun K46 hK46 => vwp_region hT ?_
        simp [hv3]
        repeat refine ⟨by first | assumption | omega | (intros; omega), ?_⟩
        refine hK46 _ ?_
        try clear hK46 K46
        refine vwp_cond (by first | rfl | (simp; rfl)) (fun h9 => ?_) fun h9 => ?_
        · simp -failIfUnchanged at h9; all_goals
         refine vwp_seq_k fun K47 hK47 => ?_
         simp_all
        · simp -failIfUnchanged at h9; all_goals
         refine vwp_skip ?_
         refine hK44 _ ?_
         try clear hK44 K44
         have w1 : IntKind.i64.wrap ((i : Int) + 1) = i + 1 := w64 (by omega) (by omega)
         refine vwp_live [2, 7, 87, 88, 89] (vwp_region hT ?_)
         simp [w1]
         exact hK41 (i + 1) _ (Gh.to_k [2, 7, 87, 88, 89] [0, 1, 2]) (by omega) (by omega)
       · simp -failIfUnchanged at h8; all_goals
        refine vwp_exit ?_
        simp only [inBlk, thenQ, if_true]
        refine hK39 _ ?_
        try clear hK39 K39
        refine vwp_sq [2, 7] fun K48 hK48 => vwp_region hT ?_
        simp [hpl]
        refine hK48 _ ?_
        try clear hK48 K48
        refine vwp_ret (hR _ _ ?_)
        exact ret_k [4] [] ([]) (.bool true) (⟨rfl, rfl⟩)
end Go.Proofs.Ytinigjmfjabicaa
