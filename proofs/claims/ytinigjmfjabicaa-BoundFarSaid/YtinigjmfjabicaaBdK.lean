/- The law BoundFar: the walk. -/
import Derived.Test.YtinigjmfjabicaaBdJ
namespace Go.Proofs.Ytinigjmfjabicaa
open Go Go.VX Go.RowKit
set_option linter.unusedVariables false
set_option linter.unusedSimpArgs false
set_option maxHeartbeats 20000000
set_option maxRecDepth 100000

theorem makeP_bad {w : Wd} {ids : List Int} {e : Int} (h : makeP w ids = (none, e)) : e ≠ 0 := by
  unfold makeP at h
  split at h
  · rename_i q; cases h; exact q
  split at h
  · cases h; decide
  split at h
  · cases h; decide
  · cases h
theorem zerosV_int (n : Nat) : zerosV [V.int .i64 0] n = ints (List.replicate n 0) := by
  rw [zerosV_eq]
  induction n with
  | zero => rfl
  | succ n ih => rw [List.replicate_succ, List.flatten_cons, ih, List.replicate_succ]; rfl
@[simp] theorem rnO_M (f : Nat → Nat) (l : List Od) (bs : List Nat) (ck : Nat) : rnO f (.map (setM l) bs ck) = .map (setM l) bs ck := by
  simp [rnO, rnV]
@[simp] theorem rnO_G (f : Nat → Nat) (g : Int → Int) (K : List Int) (bs : List Nat) (ck : Nat) : rnO f (.map (entF g K) bs ck) = .map (entF g K) bs ck := rnO_map f _ (fun _ => rfl) K bs ck
theorem rnO_M1 (f : Nat → Nat) (l : List Od) (o : Od) (bs : List Nat) (ck : Nat) : rnO f (.map (setM l ++ [(.int .i64 o.id, .int .i64 o.nd)]) bs ck) = .map (setM (l ++ [o])) bs ck := by
  have e : setM l ++ [(V.int .i64 o.id, V.int .i64 o.nd)] = setM (l ++ [o]) := by simp
  rw [e]; exact rnO_M f _ bs ck
/-- How many of the first orders are at a node. -/
def cnt (os : List Od) (ids : List Int) (j : Nat) (x : Int) : Int := (((ids.map (ndO os)).take j).count x : Nat)
theorem cnt_step {os : List Od} {ids : List Int} {j : Nat} {id : Int} (h : ids[j]? = some id) (x : Int) : cnt os ids (j + 1) x = cnt os ids j x + (if x = ndO os id then 1 else 0) := by
  have h1 : (ids.map (ndO os))[j]? = some (ndO os id) := by rw [List.getElem?_map, h]; rfl
  unfold cnt
  rw [take_snoc h1, List.count_append, List.count_singleton]
  by_cases e : x = ndO os id
  · subst e; simp
  · have e2 : (ndO os id == x) = false := by simpa using fun q => e q.symm
    rw [e2, if_neg e]; simp
theorem cnt_le (os : List Od) (ids : List Int) (j : Nat) (x : Int) : 0 ≤ cnt os ids j x ∧ cnt os ids j x ≤ ids.length := by
  unfold cnt
  have h1 : ((ids.map (ndO os)).take j).count x ≤ ((ids.map (ndO os)).take j).length := List.count_le_length
  rw [List.length_take, List.length_map] at h1
  omega
theorem cnt_zero {os : List Od} {ids : List Int} {j : Nat} {x : Int} (h : x ∉ (ids.map (ndO os)).take j) : cnt os ids j x = 0 := by
  unfold cnt
  rw [List.count_eq_zero_of_not_mem h]; rfl
structure FarI where (i : Nat) (a : List Nat × Nat)
structure FarJ where (j : Nat) (K : List Int) (a : List Nat × Nat)
theorem quo_bounds {n : Int} (hn : 0 < n) (i : Nat) (hi : i ≤ 400) : 0 ≤ (i : Int).tdiv n ∧ (i : Int).tdiv n ≤ 400 ∧ 0 ≤ (i : Int).tmod n ∧ (i : Int).tmod n ≤ 400 := by
  obtain ⟨m, rfl⟩ := Int.eq_ofNat_of_zero_le (Int.le_of_lt hn)
  have h1 : (i : Int).tdiv (m : Int) = ((i / m : Nat) : Int) := rfl
  have h2 : (i : Int).tmod (m : Int) = ((i % m : Nat) : Int) := rfl
  have h3 := Nat.div_le_self i m
  have h4 := Nat.mod_le i m
  rw [h1, h2]
  generalize i / m = a at h3 ⊢
  generalize i % m = b at h4 ⊢
  omega
theorem law_bfar (w : Wd) (ids : List Int) (far : Int) : VC P 4 [.agg w.c, sI ids, .int .i64 far] [] (fun r ob' => r = .bool true ∧ ob' = []) := by
  refine VC_of_vwp_k ent_4 Try.func4 rfl (by simp) fun R hR => ?_
  refine vwp_sq [0, 1, 2] fun K1 hK1 => vwp_region hT ?_
  simp
  refine hK1 _ ?_
  try clear hK1 K1
  refine vwp_seq_k fun K2 hK2 => ?_
  refine vwp_sq [1, 2, 3] fun K3 hK3 => vwp_region hT ?_
  simp
  refine vcall_k [] (awake12) ?_
  rintro r ob' ⟨rfl, rfl⟩
  simp
  refine hK3 _ ?_
  try clear hK3 K3
  refine vwp_cond (by first | rfl | (simp; rfl)) (fun h1 => ?_) fun h1 => ?_
  · simp -failIfUnchanged at h1; all_goals
   refine vwp_seq_k fun K4 hK4 => ?_
   simp_all
  · simp -failIfUnchanged at h1; all_goals
   refine vwp_skip ?_
   refine hK2 _ ?_
   try clear hK2 K2
   refine vwp_seq_k fun K5 hK5 => ?_
   refine vwp_sq [1, 2, 3] fun K6 hK6 => vwp_region hT ?_
   simp
   refine vcall_z [] (lrgW_spec w ids.length) (by rintro r ob' ⟨rfl, rfl⟩; simp) ?_
   rintro r ob' ⟨rfl, rfl⟩
   simp
   refine hK6 _ ?_
   try clear hK6 K6
   refine vwp_cond (by first | rfl | (simp; rfl)) (fun h2 => ?_) fun h2 => ?_
   · simp -failIfUnchanged at h2; all_goals
    refine vwp_sq [] fun K7 hK7 => vwp_region hT ?_
    simp
    refine hK7 _ ?_
    try clear hK7 K7
    refine vwp_ret (hR _ _ ?_)
    exact ret_k [6] [] ([]) (.bool true) (⟨rfl, rfl⟩)
   · simp -failIfUnchanged at h2; all_goals
    have q := h2
    obtain ⟨⟨hlw, hf0⟩, hf1⟩ := q
    simp only [lrgW, decide_eq_false_iff_not] at hlw
    have l1 : w.os.length ≤ 50 ∧ w.ts.length ≤ 50 ∧ w.D.length ≤ 400 ∧ w.T.length ≤ 400 ∧ ids.length ≤ 100 := by omega
    refine vwp_skip ?_
    refine hK5 _ ?_
    try clear hK5 K5
    refine vwp_sq [1, 2, 3] fun K8 hK8 => vwp_region hT ?_
    simp
    repeat refine ⟨by first | assumption | omega | (intros; omega), ?_⟩
    refine hK8 _ ?_
    try clear hK8 K8
    refine vwp_cut_s (fun _ : Unit => ⟨[(1, sI ids), (2, .int .i64 far), (3, .ptr 0 5 0)], [.live (w.fr far).c]⟩) (fun _ => True) (fun K9 hK9 => ?_) ?_
    · refine vwp_sq [1, 2, 3] fun K10 hK10 => vwp_region hT ?_
      simp
      refine hK10 _ ?_
      try clear hK10 K10
      refine vwp_block ?_
      refine vwp_loop_s (fun i : Nat => ⟨[(1, sI ids), (2, .int .i64 far), (3, .ptr 0 5 0), (46, .int .i64 w.D.length), (47, .int .i64 (i : Int))], [.live [.int .i64 w.n, .sl 1 w.D.length 1 0 w.D.length, sI w.T, odV w.os, tkV w.ts], .live (ints (farL w.n far w.D.length i))]⟩) (fun i => i ≤ w.D.length) (fun i => w.D.length - i) (0) (Gh.to_k [1, 2, 3, 46, 47] [0, 1] (hh := by simp [zerosV_int, farL_zero])) (by omega) ?_
      rintro i hi
      have hfl := farL_len w.n far w.D.length i
      intro K11 hK11
      refine vwp_sq [1, 2, 3, 46, 47] fun K12 hK12 => vwp_region hT ?_
      simp
      refine hK12 _ ?_
      try clear hK12 K12
      refine vwp_seq_k fun K13 hK13 => ?_
      refine vwp_cond (by first | rfl | (simp; rfl)) (fun h3 => ?_) fun h3 => ?_
      · simp -failIfUnchanged at h3; all_goals
       refine vwp_skip ?_
       refine hK13 _ ?_
       try clear hK13 K13
       refine vwp_seq_k fun K14 hK14 => ?_
       refine vwp_block ?_
       refine vwp_sq [1, 2, 3, 46, 47] fun K15 hK15 => vwp_region hT ?_
       simp
       refine hK15 _ ?_
       try clear hK15 K15
       refine vwp_seq_k fun K16 hK16 => ?_
       by_cases hn : 0 < w.n
       · obtain ⟨b1, b2, b3, b4⟩ := quo_bounds hn i (by omega)
         have hqd : (i : Int).tdiv w.n = (i : Int) / w.n := Int.tdiv_eq_ediv_of_nonneg (by omega)
         have wq : IntKind.i64.wrap ((i : Int) / w.n) = (i : Int) / w.n := by rw [← hqd]; exact w64 (by omega) (by omega)
         have wr : IntKind.i64.wrap ((i : Int).tmod w.n) = (i : Int).tmod w.n := w64 (by omega) (by omega)
         refine vwp_live [1, 2, 3, 7, 46, 47] (vwp_still hT hm (by kernel_rfl) ?_)
         simp [hn, wq, wr]
         repeat refine ⟨by first | assumption | omega | (intros; omega), ?_⟩
         refine hK16 _ ?_
         try clear hK16 K16
         refine vwp_cond (by first | rfl | (simp; rfl)) (fun h4 => ?_) fun h4 => ?_
         · simp -failIfUnchanged at h4; all_goals
          have q := h4
          have hat : farAt w.n far i = far := by unfold farAt; rw [if_pos ⟨hn, by simpa using q⟩]
          have hst : spl (ints (farL w.n far w.D.length i)) i [.int .i64 far] = ints (farL w.n far w.D.length (i + 1)) := by rw [spl_int (by rw [farL_len]; omega), farL_step, hat]
          refine vwp_live [1, 2, 3, 7, 46, 47] (vwp_region hT ?_)
          simp [hfl]
          repeat refine ⟨by first | assumption | omega | (intros; omega), ?_⟩
          refine hK14 _ ?_
          try clear hK14 K14
          have w1 : IntKind.i64.wrap ((i : Int) + 1) = i + 1 := w64 (by omega) (by omega)
          refine vwp_live [1, 2, 3, 46, 47] (vwp_region hT ?_)
          simp [w1]
          exact hK11 (i + 1) _ (Gh.to_k [1, 2, 3, 46, 47] [0, 1] (hh := by simp [hst])) (by omega) (by omega)
         · simp -failIfUnchanged at h4; all_goals
          have q := h4
          have hst := farL_skip (n := w.n) (far := far) (L := w.D.length) (i := i) (by unfold farAt; rw [if_neg]; intro k; exact k.2 (by simpa using q))
          refine vwp_skip ?_
          refine hK14 _ ?_
          try clear hK14 K14
          have w1 : IntKind.i64.wrap ((i : Int) + 1) = i + 1 := w64 (by omega) (by omega)
          refine vwp_live [1, 2, 3, 46, 47] (vwp_region hT ?_)
          simp [w1]
          exact hK11 (i + 1) _ (Gh.to_k [1, 2, 3, 46, 47] [0, 1] (hh := by simp [hst])) (by omega) (by omega)
       · refine vwp_live [1, 2, 3, 7, 46, 47] (vwp_still hT hm (by kernel_rfl) ?_)
         simp [hn]
         repeat refine ⟨by first | assumption | omega | (intros; omega), ?_⟩
         refine hK16 _ ?_
         try clear hK16 K16
         refine vwp_cond (by first | rfl | (simp; rfl)) (fun h5 => ?_) fun h5 => ?_
         · simp -failIfUnchanged at h5; all_goals
          simp_all
         · simp -failIfUnchanged at h5; all_goals
          have hst := farL_skip (n := w.n) (far := far) (L := w.D.length) (i := i) (by unfold farAt; rw [if_neg]; intro k; exact hn k.1)
          refine vwp_skip ?_
          refine hK14 _ ?_
          try clear hK14 K14
          have w1 : IntKind.i64.wrap ((i : Int) + 1) = i + 1 := w64 (by omega) (by omega)
          refine vwp_live [1, 2, 3, 46, 47] (vwp_region hT ?_)
          simp [w1]
          exact hK11 (i + 1) _ (Gh.to_k [1, 2, 3, 46, 47] [0, 1] (hh := by simp [hst])) (by omega) (by omega)
      · simp -failIfUnchanged at h3; all_goals
       refine vwp_exit ?_
       simp only [inBlk, thenQ, if_true]
       obtain rfl : i = w.D.length := by omega
       have htk : List.take w.D.length (ints (farL w.n far w.D.length w.D.length)) = ints (farL w.n far w.D.length w.D.length) := List.take_of_length_le (by simp [farL_len])
       exact hK9 () _ (((Gh.freeze 1 rfl ints_nid).trans (Gh.cellFs 1 0 1 rfl rfl rfl (by simp [farL_len]))).trans (Gh.to_k [1, 2, 3] [0] (hh := by simp [Wd.fr, farL_len, htk]))) trivial
    · rintro _ _
      obtain ⟨v, hv⟩ : ∃ v, v = w.fr far := ⟨_, rfl⟩
      have hvo : v.os = w.os := by rw [hv]; rfl
      have hvt : v.ts = w.ts := by rw [hv]; rfl
      have hvn : v.n = w.n := by rw [hv]; rfl
      rw [← hv]
      refine vwp_seq_k fun K17 hK17 => ?_
      rcases hmk : makeP v ids with ⟨_ | t, e⟩
      · have hne := makeP_bad hmk
        refine vwp_live [1, 2, 3] (vwp_region hT ?_)
        simp
        repeat refine ⟨by first | assumption | omega | (intros; omega), ?_⟩
        refine vcall_z [] (make_spec v (by rw [hvo]; omega) (by rw [hvt]; omega) ids (by omega)) (by rw [hmk]; rintro r ob' ⟨rfl, rfl⟩; simp) ?_
        rw [hmk]
        rintro r ob' ⟨rfl, rfl⟩
        simp
        repeat refine ⟨by first | assumption | omega | (intros; omega), ?_⟩
        refine hK17 _ ?_
        try clear hK17 K17
        refine vwp_seq_k fun K18 hK18 => ?_
        refine vwp_sq [1, 2, 3, 8, 9] fun K19 hK19 => vwp_region hT ?_
        simp [hne]
        refine hK19 _ ?_
        try clear hK19 K19
        refine vwp_cond (by first | rfl | (simp; rfl)) (fun h6 => ?_) fun h6 => ?_
        · simp -failIfUnchanged at h6; all_goals
         refine vwp_sq [8] fun K20 hK20 => vwp_region hT ?_
         simp
         refine hK20 _ ?_
         try clear hK20 K20
         refine vwp_ret (hR _ _ ?_)
         exact ret_k [6] [] ([]) (.bool true) (⟨rfl, rfl⟩)
        · simp -failIfUnchanged at h6; all_goals
         refine vwp_skip ?_
         refine hK18 _ ?_
         try clear hK18 K18
         refine vwp_seq_k fun K21 hK21 => ?_
         simp_all
      · obtain ⟨he, hok, hnd, L, hpk, htc, hLl, hL12, hLo, hLn⟩ := makeP_some hmk
        subst he
        obtain ⟨hti, htd⟩ : t.inn.length = (srt ids).length ∧ t.ids = srt ids := by rw [htc]; exact mkC_len (by rw [srt_len]; omega)
        rw [srt_len] at hti
        have htdl : t.ids.length = ids.length := by rw [htd, srt_len]
        have hv0 : v.e = 0 := Wd.e_zero.2 hok
        refine vwp_live [1, 2, 3] (vwp_region hT ?_)
        simp
        repeat refine ⟨by first | assumption | omega | (intros; omega), ?_⟩
        refine vcall_z [] (make_spec v (by rw [hvo]; omega) (by rw [hvt]; omega) ids (by omega)) (by rw [hmk]; rintro r ob' ⟨rfl, rfl⟩; simp) ?_
        rw [hmk]
        rintro r ob' ⟨rfl, rfl⟩
        simp
        repeat refine ⟨by first | assumption | omega | (intros; omega), ?_⟩
        refine hK17 _ ?_
        try clear hK17 K17
        refine vwp_seq_k fun K22 hK22 => ?_
        refine vwp_seq_k fun K23 hK23 => ?_
        by_cases hid0 : ids = []
        · have hl0 : (ids.length : Int) = 0 := by rw [hid0]; rfl
          have hbo : t.bo = 0 := by
            have : L = [] := List.length_eq_zero_iff.1 (by omega)
            rw [htc, this]; rfl
          refine vwp_live [1, 2, 3, 8, 9] (vwp_region hT ?_)
          simp [hid0]
          refine vcall_z [] (rworld_spec v (by rw [hvo]; omega) (by rw [hvt]; omega)) (by rw [hv0]; rintro r ob' ⟨rfl, rfl⟩; simp) ?_
          rw [hv0]
          rintro r ob' ⟨rfl, rfl⟩
          simp [hid0]
          refine hK23 _ ?_
          try clear hK23 K23
          refine vwp_cond (by first | rfl | (simp; rfl)) (fun h7 => ?_) fun h7 => ?_
          · simp -failIfUnchanged at h7; all_goals
           refine vwp_sq [8] fun K24 hK24 => vwp_region hT ?_
           simp [hbo]
           refine hK24 _ ?_
           try clear hK24 K24
           refine vwp_ret (hR _ _ ?_)
           exact ret_k [6] [] ([]) (.bool true) (⟨rfl, rfl⟩)
          · simp -failIfUnchanged at h7; all_goals
           refine vwp_skip ?_
           refine hK22 _ ?_
           try clear hK22 K22
           refine vwp_seq_k fun K25 hK25 => ?_
           simp_all
        · have hl0 : ¬ ids = [] := hid0
          have hl1 : ids.length ≠ 0 := fun e => hid0 (List.length_eq_zero_iff.1 e)
          have hLne : L ≠ [] := by intro e; rw [e] at hLl; exact hl1 hLl.symm
          have hmk2 : t = ⟨srt ids, inF v L L.length, leaNd v L, lea (v.ts.map (·.ra)), lea (v.ts.map (·.fx)), lea (v.ts.map (·.fx)) + lea (v.ts.map (·.ra)) * ((inF v L L.length).sum + leaNd v L)⟩ := by rw [htc]; unfold mkC; rw [if_neg hLne]
          have hL1 : ∀ o ∈ L, 1 ≤ o.nd ∧ o.nd < w.n := fun o ho => by have := ordB_iff.1 (hLo o ho); omega
          have hA : areaB (w.fr far).n (w.fr far).D (w.fr far).T = true := by rw [← hv]; exact hok.A
          have hba : t.ba = far := by rw [hmk2]; show leaNd v L = far; rw [hv]; exact leaNd_far hA hL1 hLne
          have hbo : t.bo = t.fx + t.ra * (t.inn.sum + far) := by
            have : t.bo = t.fx + t.ra * (t.inn.sum + t.ba) := by rw [hmk2]
            rw [this, hba]
          have hinn : ∀ (i : Nat) (o : Od), L[i]? = some o → t.inn[i]? = some (if o.nd ∈ (L.eraseIdx i).map (·.nd) then 0 else far) := by
            intro i o ho
            rw [hmk2]
            show (inF v L L.length)[i]? = _
            rw [inF_get ho, hv, inP_far hf0 hA hL1 ho]
          have hra : ∀ s ∈ v.ts, t.ra ≤ s.ra := by intro s hs; rw [hmk2]; exact lea_le (List.mem_map.2 ⟨s, hs, rfl⟩)
          have hfx : ∀ s ∈ v.ts, t.fx ≤ s.fx := by intro s hs; rw [hmk2]; exact lea_le (List.mem_map.2 ⟨s, hs, rfl⟩)
          have hra2 : 0 ≤ t.ra ∧ t.ra ≤ 1000 := by rw [hmk2]; exact ra_bounds hok
          have hfx2 : 0 ≤ t.fx ∧ t.fx ≤ 1000000 := by rw [hmk2]; exact fx_bounds hok
          have hinb : ∀ n ∈ t.inn, 0 ≤ n ∧ n ≤ 1000000 := by rw [hmk2]; exact inF_bounds hok.A hLn L.length
          have hvol : v.os.length = w.os.length := by rw [hvo]
          have hvtl : v.ts.length = w.ts.length := by rw [hvt]
          refine vwp_live [1, 2, 3, 8, 9] (vwp_region hT ?_)
          simp [hl0]
          refine vcall_z [] (rworld_spec v (by rw [hvo]; omega) (by rw [hvt]; omega)) (by rw [hv0]; rintro r ob' ⟨rfl, rfl⟩; simp) ?_
          rw [hv0]
          rintro r ob' ⟨rfl, rfl⟩
          simp [hl0]
          refine hK23 _ ?_
          try clear hK23 K23
          refine vwp_cond (by first | rfl | (simp; rfl)) (fun h8 => ?_) fun h8 => ?_
          · simp -failIfUnchanged at h8; all_goals
           refine vwp_seq_k fun K26 hK26 => ?_
           simp_all
          · simp -failIfUnchanged at h8; all_goals
           refine vwp_skip ?_
           refine hK22 _ ?_
           try clear hK22 K22
           refine vwp_sq [1, 2, 3, 8] fun K27 hK27 => vwp_region hT ?_
           simp
           refine hK27 _ ?_
           try clear hK27 K27
           refine vwp_sq [1, 2, 3, 8, 10] fun K28 hK28 => vwp_region hT ?_
           simp
           refine hK28 _ ?_
           try clear hK28 K28
           refine vwp_seq_k fun K29 hK29 => ?_
           refine vwp_sq [1, 2, 3, 8, 10, 11] fun K30 hK30 => vwp_region hT ?_
           simp
           refine hK30 _ ?_
           try clear hK30 K30
           refine vwp_block ?_
           refine vwp_loop_s (fun u : FarI => ⟨[(1, sI ids), (2, .int .i64 far), (3, .ptr 0 5 0), (8, .ptr 3 6 0), (10, .mp 4), (11, .mp 5), (98, odV v.os), (99, .int .i64 v.os.length), (100, .int .i64 (u.i : Int))], [.live v.c, .live (ints t.ids), .live (ints t.inn), .live [.sl 1 t.ids.length 1 0 t.ids.length, .sl 2 t.inn.length 1 0 t.inn.length, .int .i64 t.ba, .int .i64 t.ra, .int .i64 t.fx, .int .i64 t.bo], .map [] [] 0, .map (setM (v.os.take u.i)) u.a.1 u.a.2]⟩) (fun u => u.i ≤ v.os.length) (fun u => v.os.length - u.i) (⟨0, ([], 0)⟩) (Gh.to_k [1, 2, 3, 8, 10, 11, 98, 99, 100] [0, 1, 2, 3, 4, 5] (hh := by simp)) (by simp) ?_
           rintro ⟨i, am⟩ hi
           dsimp only at hi ⊢
           obtain ⟨K, hK⟩ : ∃ K, K = v.os.take i := ⟨_, rfl⟩
           rw [← hK]
           intro K31 hK31
           refine vwp_sq [1, 2, 3, 8, 10, 11, 98, 99, 100] fun K32 hK32 => vwp_region hT ?_
           simp
           refine hK32 _ ?_
           try clear hK32 K32
           refine vwp_seq_k fun K33 hK33 => ?_
           refine vwp_cond (by first | rfl | (simp; rfl)) (fun h9 => ?_) fun h9 => ?_
           · simp -failIfUnchanged at h9; all_goals
            refine vwp_skip ?_
            refine hK33 _ ?_
            try clear hK33 K33
            refine vwp_seq_k fun K34 hK34 => ?_
            refine vwp_block ?_
            obtain ⟨o, ho3⟩ := getI (l := v.os) (i := i) (by omega)
            have hrow := rowOd ho3
            have hlen := lenOd v.os
            have hK2 : v.os.take (i + 1) = K ++ [o] := by rw [take_snoc ho3, hK]
            have hv1 : vfindK (.int .i64 o.id) (setM K) 0 = some none := by
              rcases vfind_M o.id K 0 with ⟨_, h⟩ | ⟨q, o2, hq, ho2, _⟩
              · exact h
              · exfalso
                obtain ⟨o4, hm, he⟩ := fndO_some hq
                have h1 : ((v.os.take (i + 1)).map (·.id)).Nodup := hok.ond.sublist ((List.take_sublist _ _).map _)
                rw [hK2, List.map_append, List.nodup_append] at h1
                exact h1.2.2 o4.id (List.mem_map.2 ⟨o4, List.mem_of_getElem? hm, rfl⟩) o.id (by simp) he
            refine vwp_sq [1, 2, 3, 8, 10, 11, 98, 99, 100] fun K35 hK35 => vwp_region hT ?_
            simp [hrow, hlen]
            repeat refine ⟨by first | assumption | omega | (intros; omega), ?_⟩
            refine hK35 _ ?_
            try clear hK35 K35
            refine vwp_live [1, 2, 3, 8, 10, 11, 13, 98, 99, 100] (vwp_region hT ?_)
            simp [hv1]
            repeat refine ⟨by first | assumption | omega | (intros; omega), ?_⟩
            refine hK34 _ ?_
            try clear hK34 K34
            have w1 : IntKind.i64.wrap ((i : Int) + 1) = i + 1 := w64 (by omega) (by omega)
            refine vwp_live [1, 2, 3, 8, 10, 11, 98, 99, 100] (vwp_region hT ?_)
            simp [w1]
            exact hK31 (⟨i + 1, (am.1 ++ [am.2], am.2 + 1)⟩) _ (Gh.to_k [1, 2, 3, 8, 10, 11, 98, 99, 100] [0, 1, 2, 3, 4, 5] (hh := by simp [hK2, rnO_M1])) (by dsimp only; omega) (by dsimp only; omega)
           · simp -failIfUnchanged at h9; all_goals
            obtain rfl : i = v.os.length := by omega
            rw [List.take_length] at hK
            subst hK
            obtain ⟨nm, hnm⟩ : ∃ nm, nm = am := ⟨_, rfl⟩
            rw [← hnm]
            refine vwp_exit ?_
            simp only [inBlk, thenQ, if_true]
            refine hK29 _ ?_
            try clear hK29 K29
            refine vwp_seq_k fun K36 hK36 => ?_
            refine vwp_sq [1, 2, 3, 8, 10, 11] fun K37 hK37 => vwp_region hT ?_
            simp
            refine hK37 _ ?_
            try clear hK37 K37
            refine vwp_block ?_
            refine vwp_loop_s (fun u : FarJ => ⟨[(1, sI ids), (2, .int .i64 far), (3, .ptr 0 5 0), (8, .ptr 3 6 0), (10, .mp 4), (11, .mp 5), (110, sI ids), (111, .int .i64 ids.length), (112, .int .i64 (u.j : Int))], [.live v.c, .live (ints t.ids), .live (ints t.inn), .live [.sl 1 t.ids.length 1 0 t.ids.length, .sl 2 t.inn.length 1 0 t.inn.length, .int .i64 t.ba, .int .i64 t.ra, .int .i64 t.fx, .int .i64 t.bo], .map (entF (cnt v.os ids u.j) u.K) u.a.1 u.a.2, .map (setM v.os) nm.1 nm.2]⟩) (fun u => u.j ≤ ids.length ∧ u.K.Nodup ∧ ∀ x, x ∈ u.K ↔ x ∈ (ids.map (ndO v.os)).take u.j) (fun u => ids.length - u.j) (⟨0, [], ([], 0)⟩) (Gh.to_k [1, 2, 3, 8, 10, 11, 110, 111, 112] [0, 1, 2, 3, 4, 5] (hh := by simp)) (⟨by simp, by simp, by simp⟩) ?_
            rintro ⟨j, K, am⟩ ⟨hj, hKn, hKm⟩
            dsimp only at hj hKn hKm ⊢
            intro K38 hK38
            refine vwp_sq [1, 2, 3, 8, 10, 11, 110, 111, 112] fun K39 hK39 => vwp_region hT ?_
            simp
            refine hK39 _ ?_
            try clear hK39 K39
            refine vwp_seq_k fun K40 hK40 => ?_
            refine vwp_cond (by first | rfl | (simp; rfl)) (fun h10 => ?_) fun h10 => ?_
            · simp -failIfUnchanged at h10; all_goals
             refine vwp_skip ?_
             refine hK40 _ ?_
             try clear hK40 K40
             refine vwp_seq_k fun K41 hK41 => ?_
             refine vwp_block ?_
             obtain ⟨id, hid⟩ := getI (l := ids) (i := j) (by omega)
             have hin : id ∈ v.os.map (·.id) := pick_all hpk id ((srt_perm ids).mem_iff.2 (List.mem_of_getElem? hid))
             obtain ⟨q, o, hq, ho3, hv2⟩ : ∃ (q : Nat) (o : Od), fndO v.os id = some q ∧ v.os[q]? = some o ∧ vfindK (.int .i64 id) (setM v.os) 0 = some (some (0 + q, .int .i64 o.nd)) := by
               rcases vfind_M id v.os 0 with ⟨h, _⟩ | h
               · exact absurd hin h
               · exact h
             have hnd2 : ndO v.os id = o.nd := by simp [ndO, hq, ho3]
             have hnt : (ids.map (ndO v.os)).take (j + 1) = (ids.map (ndO v.os)).take j ++ [o.nd] := by rw [take_snoc (l := ids.map (ndO v.os)) (by rw [List.getElem?_map, hid]; rfl), hnd2]
             have hcs := cnt_step (os := v.os) hid
             rw [hnd2] at hcs
             have hcl := cnt_le v.os ids j o.nd
             have hw3 : IntKind.i64.wrap (cnt v.os ids j o.nd + 1) = cnt v.os ids j o.nd + 1 := w64 (by omega) (by omega)
             have hw1 : IntKind.i64.wrap 1 = 1 := rfl
             refine vwp_sq [1, 2, 3, 8, 10, 11, 110, 111, 112] fun K42 hK42 => vwp_region hT ?_
             simp [hid]
             repeat refine ⟨by first | assumption | omega | (intros; omega), ?_⟩
             refine hK42 _ ?_
             try clear hK42 K42
             rcases vfind_F (cnt v.os ids j) o.nd K 0 with ⟨hnk, hv3⟩ | ⟨q2, hq2, hv3⟩
             · obtain ⟨K2, hK2⟩ : ∃ K2, K2 = K ++ [o.nd] := ⟨_, rfl⟩
               have hnew := entF_new (cnt v.os ids j) (cnt v.os ids (j + 1)) K o.nd 1 hnk (by rw [hcs, if_pos rfl, cnt_zero (fun h => hnk ((hKm _).2 h))]; rfl) (fun k hk => by rw [hcs, if_neg (by rintro rfl; exact hnk hk)]; omega)
               rw [← hK2] at hnew
               have hKn2 : K2.Nodup := by rw [hK2, List.nodup_append]; exact ⟨hKn, by simp, fun a ha b hb => by simp at hb; subst hb; rintro rfl; exact hnk ha⟩
               have hKm2 : ∀ x, x ∈ K2 ↔ x ∈ (ids.map (ndO v.os)).take (j + 1) := by intro x; rw [hK2, hnt, List.mem_append, List.mem_append, hKm]
               obtain ⟨am2, ham2⟩ : ∃ am2, am2 = (am.1 ++ [am.2], am.2 + 1) := ⟨_, rfl⟩
               have ha1 : am.1 ++ [am.2] = am2.1 := by rw [ham2]
               have ha2 : am.2 + 1 = am2.2 := by rw [ham2]
               refine vwp_live [1, 2, 3, 8, 10, 11, 15, 110, 111, 112] (vwp_region hT ?_)
               simp [hv2, hv3, hw1, hnew, ha1, ha2]
               repeat refine ⟨by first | assumption | omega | (intros; omega), ?_⟩
               refine hK41 _ ?_
               try clear hK41 K41
               have w1 : IntKind.i64.wrap ((j : Int) + 1) = j + 1 := w64 (by omega) (by omega)
               refine vwp_live [1, 2, 3, 8, 10, 11, 110, 111, 112] (vwp_region hT ?_)
               simp [w1]
               exact hK38 (⟨j + 1, K2, am2⟩) _ (Gh.to_k [1, 2, 3, 8, 10, 11, 110, 111, 112] [0, 1, 2, 3, 4, 5] (hh := by simp)) (⟨by dsimp only; omega, hKn2, hKm2⟩) (by dsimp only; omega)
             · obtain ⟨K2, hK2⟩ : ∃ K2, K2 = K := ⟨_, rfl⟩
               have hnew := entF_old (cnt v.os ids j) (cnt v.os ids (j + 1)) K q2 o.nd (cnt v.os ids j o.nd + 1) hKn hq2 (by rw [hcs, if_pos rfl]) (fun k hk hne => by rw [hcs, if_neg hne]; omega)
               rw [← hK2] at hnew
               have hKn2 : K2.Nodup := by rw [hK2]; exact hKn
               have hKm2 : ∀ x, x ∈ K2 ↔ x ∈ (ids.map (ndO v.os)).take (j + 1) := by
                 intro x
                 rw [hK2, hnt, List.mem_append, ← hKm, List.mem_singleton]
                 exact ⟨.inl, fun h => h.elim (fun y => y) fun e => e ▸ List.mem_of_getElem? hq2⟩
               obtain ⟨am2, ham2⟩ : ∃ am2, am2 = am := ⟨_, rfl⟩
               rw [← ham2]
               rw [← hK2] at hv3 ⊢
               refine vwp_live [1, 2, 3, 8, 10, 11, 15, 110, 111, 112] (vwp_region hT ?_)
               simp [hv2, hv3, hw3, hnew]
               repeat refine ⟨by first | assumption | omega | (intros; omega), ?_⟩
               refine hK41 _ ?_
               try clear hK41 K41
               have w1 : IntKind.i64.wrap ((j : Int) + 1) = j + 1 := w64 (by omega) (by omega)
               refine vwp_live [1, 2, 3, 8, 10, 11, 110, 111, 112] (vwp_region hT ?_)
               simp [w1]
               exact hK38 (⟨j + 1, K2, am2⟩) _ (Gh.to_k [1, 2, 3, 8, 10, 11, 110, 111, 112] [0, 1, 2, 3, 4, 5] (hh := by simp)) (⟨by dsimp only; omega, hKn2, hKm2⟩) (by dsimp only; omega)
            · simp -failIfUnchanged at h10; all_goals
             obtain rfl : j = ids.length := by omega
             rw [List.take_of_length_le (by simp)] at hKm
             refine vwp_exit ?_
             simp only [inBlk, thenQ, if_true]
             refine hK36 _ ?_
             try clear hK36 K36
             refine vwp_seq_k fun K43 hK43 => ?_
             refine vwp_sq [1, 2, 3, 8, 10, 11] fun K44 hK44 => vwp_region hT ?_
             simp [hti, htdl, hba]
             refine hK44 _ ?_
             try clear hK44 K44
             refine vwp_cond (by first | rfl | (simp; rfl)) (fun h11 => ?_) fun h11 => ?_
             · simp -failIfUnchanged at h11; all_goals
              refine vwp_seq_k fun K45 hK45 => ?_
              simp_all
             · simp -failIfUnchanged at h11; all_goals
              refine vwp_skip ?_
              refine hK43 _ ?_
              try clear hK43 K43
              refine vwp_sq [2, 3, 8, 10, 11] fun K46 hK46 => vwp_region hT ?_
              simp
              refine hK46 _ ?_
              try clear hK46 K46
              refine vwp_seq_k fun K47 hK47 => ?_
              refine vwp_sq [2, 3, 8, 10, 11, 16] fun K48 hK48 => vwp_region hT ?_
              simp [hti]
              refine hK48 _ ?_
              try clear hK48 K48
              refine vwp_block ?_
              refine vwp_loop_s (fun i : Nat => ⟨[(2, .int .i64 far), (3, .ptr 0 5 0), (8, .ptr 3 6 0), (10, .mp 4), (11, .mp 5), (16, .int .i64 (far + (t.inn.take i).sum)), (145, .sl 2 ids.length 1 0 ids.length), (146, .int .i64 ids.length), (147, .int .i64 (i : Int))], [.live v.c, .live (ints t.ids), .live (ints t.inn), .live [.sl 1 ids.length 1 0 ids.length, .sl 2 ids.length 1 0 ids.length, .int .i64 far, .int .i64 t.ra, .int .i64 t.fx, .int .i64 t.bo], .map (entF (cnt v.os ids ids.length) K) am.1 am.2, .map (setM v.os) nm.1 nm.2]⟩) (fun i => i ≤ ids.length) (fun i => ids.length - i) (0) (Gh.to_k [2, 3, 8, 10, 11, 16, 145, 146, 147] [0, 1, 2, 3, 4, 5] (he := by simp)) (by omega) ?_
              rintro i hi
              intro K49 hK49
              refine vwp_sq [2, 3, 8, 10, 11, 16, 145, 146, 147] fun K50 hK50 => vwp_region hT ?_
              simp
              refine hK50 _ ?_
              try clear hK50 K50
              refine vwp_seq_k fun K51 hK51 => ?_
              refine vwp_cond (by first | rfl | (simp; rfl)) (fun h12 => ?_) fun h12 => ?_
              · simp -failIfUnchanged at h12; all_goals
               refine vwp_skip ?_
               refine hK51 _ ?_
               try clear hK51 K51
               refine vwp_seq_k fun K52 hK52 => ?_
               refine vwp_block ?_
               obtain ⟨id, hid⟩ := getI (l := srt ids) (i := i) (by rw [srt_len]; omega)
               obtain ⟨o, q, hLo2, hq, ho3⟩ := pick_get hpk i id hid
               obtain ⟨x, hxe⟩ : ∃ x, x = (if o.nd ∈ (L.eraseIdx i).map (·.nd) then 0 else far) := ⟨_, rfl⟩
               have hx := hinn i o hLo2
               rw [← hxe] at hx
               have htid : t.ids[i]? = some id := by rw [htd]; exact hid
               have hv2 : vfindK (.int .i64 id) (setM v.os) 0 = some (some (0 + q, .int .i64 o.nd)) := by
                 rcases vfind_M id v.os 0 with ⟨h, _⟩ | ⟨q', o', hq', ho', h⟩
                 · exact absurd (pick_all hpk id (List.mem_of_getElem? hid)) h
                 · rw [hq] at hq'; cases hq'; rw [ho3] at ho'; cases ho'; exact h
               have hnd2 : ndO v.os id = o.nd := by simp [ndO, hq, ho3]
               have hmK : o.nd ∈ K := (hKm _).2 (List.mem_map.2 ⟨id, (srt_perm ids).mem_iff.1 (List.mem_of_getElem? hid), hnd2⟩)
               obtain ⟨q2, hv3⟩ : ∃ q2, vfindK (.int .i64 o.nd) (entF (cnt v.os ids ids.length) K) 0 = some (some (0 + q2, .int .i64 (cnt v.os ids ids.length o.nd))) := by
                 rcases vfind_F (cnt v.os ids ids.length) o.nd K 0 with ⟨h, _⟩ | ⟨q2, _, h⟩
                 · exact absurd hmK h
                 · exact ⟨q2, h⟩
               have hcf := count_far hpk hLo2
               have hcc : cnt v.os ids ids.length o.nd = ((ids.map (ndO v.os)).count o.nd : Nat) := by unfold cnt; rw [List.take_of_length_le (by simp)]
               have hsb := sum_bounds2 (D := t.inn.take i) (m := 1000000) fun n hn => hinb n (List.mem_of_mem_take hn)
               rw [List.length_take, Nat.min_eq_left (by omega)] at hsb
               have hxb := hinb x (List.mem_of_getElem? hx)
               have hsm : IntKind.i64.wrap (far + (t.inn.take i).sum + x) = far + ((t.inn.take i).sum + x) := (w64 (by omega) (by omega)).trans (by omega)
               have hsm0 : IntKind.i64.wrap (far + (t.inn.take i).sum) = far + (t.inn.take i).sum := w64 (by omega) (by omega)
               have hxl := (List.getElem?_eq_some_iff.1 hx).2
               refine vwp_sq [2, 3, 8, 10, 11, 16, 145, 146, 147] fun K53 hK53 => vwp_region hT ?_
               simp [hx, hxl, hti]
               repeat refine ⟨by first | assumption | omega | (intros; omega), ?_⟩
               refine hK53 _ ?_
               try clear hK53 K53
               refine vwp_sq [2, 3, 8, 10, 11, 16, 17, 18, 145, 146, 147] fun K54 hK54 => vwp_region hT ?_
               simp
               refine hK54 _ ?_
               try clear hK54 K54
               refine vwp_seq_k fun K55 hK55 => ?_
               refine vwp_seq_k fun K56 hK56 => ?_
               by_cases hsh : o.nd ∈ (L.eraseIdx i).map (·.nd)
               · rw [if_pos hsh] at hxe
                 subst hxe
                 have hc : 1 < cnt v.os ids ids.length o.nd := by rw [hcc]; have := hcf.2 hsh; omega
                 refine vwp_live [2, 3, 8, 10, 11, 16, 17, 18, 19, 145, 146, 147] (vwp_region hT ?_)
                 simp [htid, htdl, hv2, hv3, hc]
                 repeat refine ⟨by first | assumption | omega | (intros; omega), ?_⟩
                 refine hK56 _ ?_
                 try clear hK56 K56
                 refine vwp_cond (by first | rfl | (simp; rfl)) (fun h13 => ?_) fun h13 => ?_
                 · simp -failIfUnchanged at h13; all_goals
                  refine vwp_live [2, 3, 8, 10, 11, 16, 18, 145, 146, 147] (vwp_region hT ?_)
                  simp
                  refine hK55 _ ?_
                  try clear hK55 K55
                  refine vwp_seq_k fun K57 hK57 => ?_
                  refine vwp_sq [2, 3, 8, 10, 11, 16, 18, 19, 145, 146, 147] fun K58 hK58 => vwp_region hT ?_
                  simp
                  refine hK58 _ ?_
                  try clear hK58 K58
                  refine vwp_cond (by first | rfl | (simp; rfl)) (fun h14 => ?_) fun h14 => ?_
                  · simp -failIfUnchanged at h14; all_goals
                   refine vwp_seq_k fun K59 hK59 => ?_
                   simp_all
                  · simp -failIfUnchanged at h14; all_goals
                   refine vwp_skip ?_
                   refine hK57 _ ?_
                   try clear hK57 K57
                   refine vwp_live [2, 3, 8, 10, 11, 16, 18, 145, 146, 147] (vwp_region hT ?_)
                   simp [hsm, hsm0]
                   refine hK52 _ ?_
                   try clear hK52 K52
                   have w1 : IntKind.i64.wrap ((i : Int) + 1) = i + 1 := w64 (by omega) (by omega)
                   refine vwp_live [2, 3, 8, 10, 11, 16, 145, 146, 147] (vwp_region hT ?_)
                   simp [w1]
                   exact hK49 (i + 1) _ (Gh.to_k [2, 3, 8, 10, 11, 16, 145, 146, 147] [0, 1, 2, 3, 4, 5] (he := by simp [take_snoc hx, hsm, hsm0]) (hh := by simp)) (by omega) (by omega)
                 · simp -failIfUnchanged at h13; all_goals
                  refine vwp_skip ?_
                  refine hK55 _ ?_
                  try clear hK55 K55
                  refine vwp_seq_k fun K60 hK60 => ?_
                  refine vwp_seq_k fun K61 hK61 => ?_
                  simp_all
               · rw [if_neg hsh] at hxe
                 subst hxe
                 have hc : ¬ 1 < cnt v.os ids ids.length o.nd := by rw [hcc]; intro k; exact hsh (hcf.1 (by omega))
                 refine vwp_live [2, 3, 8, 10, 11, 16, 17, 18, 19, 145, 146, 147] (vwp_region hT ?_)
                 simp [htid, htdl, hv2, hv3, hc]
                 repeat refine ⟨by first | assumption | omega | (intros; omega), ?_⟩
                 refine hK56 _ ?_
                 try clear hK56 K56
                 refine vwp_cond (by first | rfl | (simp; rfl)) (fun h15 => ?_) fun h15 => ?_
                 · simp -failIfUnchanged at h15; all_goals
                  simp_all
                 · simp -failIfUnchanged at h15; all_goals
                  refine vwp_skip ?_
                  refine hK55 _ ?_
                  try clear hK55 K55
                  refine vwp_seq_k fun K62 hK62 => ?_
                  refine vwp_sq [2, 3, 8, 10, 11, 16, 18, 19, 145, 146, 147] fun K63 hK63 => vwp_region hT ?_
                  simp
                  refine hK63 _ ?_
                  try clear hK63 K63
                  refine vwp_cond (by first | rfl | (simp; rfl)) (fun h16 => ?_) fun h16 => ?_
                  · simp -failIfUnchanged at h16; all_goals
                   refine vwp_seq_k fun K64 hK64 => ?_
                   simp_all
                  · simp -failIfUnchanged at h16; all_goals
                   refine vwp_skip ?_
                   refine hK62 _ ?_
                   try clear hK62 K62
                   refine vwp_live [2, 3, 8, 10, 11, 16, 18, 145, 146, 147] (vwp_region hT ?_)
                   simp [hsm, hsm0]
                   refine hK52 _ ?_
                   try clear hK52 K52
                   have w1 : IntKind.i64.wrap ((i : Int) + 1) = i + 1 := w64 (by omega) (by omega)
                   refine vwp_live [2, 3, 8, 10, 11, 16, 145, 146, 147] (vwp_region hT ?_)
                   simp [w1]
                   exact hK49 (i + 1) _ (Gh.to_k [2, 3, 8, 10, 11, 16, 145, 146, 147] [0, 1, 2, 3, 4, 5] (he := by simp [take_snoc hx, hsm, hsm0]) (hh := by simp)) (by omega) (by omega)
              · simp -failIfUnchanged at h12; all_goals
               obtain rfl : i = ids.length := by omega
               rw [List.take_of_length_le (by omega)]
               refine vwp_exit ?_
               simp only [inBlk, thenQ, if_true]
               refine hK47 _ ?_
               try clear hK47 K47
               refine vwp_seq_k fun K65 hK65 => ?_
               refine vwp_sq [3, 8, 16] fun K66 hK66 => vwp_region hT ?_
               simp
               refine hK66 _ ?_
               try clear hK66 K66
               refine vwp_block ?_
               refine vwp_loop_s (fun i : Nat => ⟨[(8, .ptr 3 6 0), (16, .int .i64 (far + t.inn.sum)), (171, tkV v.ts), (172, .int .i64 v.ts.length), (173, .int .i64 (i : Int))], [.live v.c, .live (ints t.ids), .live (ints t.inn), .live [.sl 1 ids.length 1 0 ids.length, .sl 2 ids.length 1 0 ids.length, .int .i64 far, .int .i64 t.ra, .int .i64 t.fx, .int .i64 t.bo]]⟩) (fun i => i ≤ v.ts.length) (fun i => v.ts.length - i) (0) (Gh.to_k [8, 16, 171, 172, 173] [0, 1, 2, 3]) (by omega) ?_
               rintro i hi
               intro K67 hK67
               refine vwp_sq [8, 16, 171, 172, 173] fun K68 hK68 => vwp_region hT ?_
               simp
               refine hK68 _ ?_
               try clear hK68 K68
               refine vwp_seq_k fun K69 hK69 => ?_
               refine vwp_cond (by first | rfl | (simp; rfl)) (fun h17 => ?_) fun h17 => ?_
               · simp -failIfUnchanged at h17; all_goals
                refine vwp_skip ?_
                refine hK69 _ ?_
                try clear hK69 K69
                refine vwp_seq_k fun K70 hK70 => ?_
                refine vwp_block ?_
                obtain ⟨s, hs⟩ := getI (l := v.ts) (i := i) (by omega)
                have hrow := rowTk hs
                have hlen := lenTk v.ts
                have hb1 : ¬ s.ra < t.ra := Int.not_lt.2 (hra s (List.mem_of_getElem? hs))
                have hb2 : ¬ s.fx < t.fx := Int.not_lt.2 (hfx s (List.mem_of_getElem? hs))
                refine vwp_sq [8, 16, 171, 172, 173] fun K71 hK71 => vwp_region hT ?_
                simp [hrow, hlen]
                repeat refine ⟨by first | assumption | omega | (intros; omega), ?_⟩
                refine hK71 _ ?_
                try clear hK71 K71
                refine vwp_sq [8, 16, 21, 171, 172, 173] fun K72 hK72 => vwp_region hT ?_
                simp [hb1, hb2]
                refine hK72 _ ?_
                try clear hK72 K72
                refine vwp_cond (by first | rfl | (simp; rfl)) (fun h18 => ?_) fun h18 => ?_
                · simp -failIfUnchanged at h18; all_goals
                 refine vwp_seq_k fun K73 hK73 => ?_
                 simp_all
                · simp -failIfUnchanged at h18; all_goals
                 refine vwp_skip ?_
                 refine hK70 _ ?_
                 try clear hK70 K70
                 have w1 : IntKind.i64.wrap ((i : Int) + 1) = i + 1 := w64 (by omega) (by omega)
                 refine vwp_live [8, 16, 171, 172, 173] (vwp_region hT ?_)
                 simp [w1]
                 exact hK67 (i + 1) _ (Gh.to_k [8, 16, 171, 172, 173] [0, 1, 2, 3]) (by omega) (by omega)
               · simp -failIfUnchanged at h17; all_goals
                refine vwp_exit ?_
                simp only [inBlk, thenQ, if_true]
                refine hK65 _ ?_
                try clear hK65 K65
                have hsb := sum_bounds2 (D := t.inn) (m := 1000000) hinb
                rw [hti] at hsb
                have hmb : 0 ≤ t.ra * (far + t.inn.sum) := Int.mul_nonneg hra2.1 (by omega)
                have hmb2 : t.ra * (far + t.inn.sum) ≤ 1000 * (far + t.inn.sum) := Int.mul_le_mul_of_nonneg_right hra2.2 (by omega)
                have hwm : IntKind.i64.wrap (t.ra * (far + t.inn.sum)) = t.ra * (far + t.inn.sum) := w64 (by omega) (by omega)
                have hwa : IntKind.i64.wrap (t.fx + t.ra * (far + t.inn.sum)) = t.bo := by rw [hbo, Int.add_comm t.inn.sum far]; exact w64 (by omega) (by omega)
                refine vwp_sq [8, 16] fun K74 hK74 => vwp_region hT ?_
                simp [hwm, hwa]
                refine hK74 _ ?_
                try clear hK74 K74
                refine vwp_ret (hR _ _ ?_)
                exact ret_k [6] [] ([]) (.bool true) (⟨rfl, rfl⟩)
end Go.Proofs.Ytinigjmfjabicaa
