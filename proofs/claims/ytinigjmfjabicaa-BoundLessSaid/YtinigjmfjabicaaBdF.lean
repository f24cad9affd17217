/- The document's certificate: the walk. -/
import Derived.Test.YtinigjmfjabicaaBdE
namespace Go.Proofs.Ytinigjmfjabicaa
open Go Go.VX Go.RowKit
set_option linter.unusedVariables false
set_option linter.unusedSimpArgs false
set_option maxHeartbeats 20000000
set_option maxRecDepth 100000

theorem pick_get {os : List Od} : ∀ {l : List Int} {L : List Od}, pick os l = some L → ∀ (i : Nat) id, l[i]? = some id → ∃ o q, L[i]? = some o ∧ fndO os id = some q ∧ os[q]? = some o
  | [], L, _, i, id, h => by simp at h
  | x :: l, L, h, i, id, hid => by
    simp only [pick] at h
    split at h
    · cases h
    rename_i q hq
    split at h
    · cases h
    rename_i o ho
    cases hp : pick os l with
    | none => rw [hp] at h; cases h
    | some L2 =>
      rw [hp] at h
      simp at h
      subst h
      cases i with
      | zero => simp at hid; subst hid; exact ⟨o, q, rfl, hq, ho⟩
      | succ i => simpa using pick_get hp i id (by simpa using hid)
theorem pick_fnd {os : List Od} : ∀ {l : List Int}, (pick os l).isSome = l.all (fndB os)
  | [] => rfl
  | x :: l => by
    have ih := pick_fnd (os := os) (l := l)
    simp only [pick, List.all_cons]
    split
    · rename_i h; simp [fndB, h]
    · rename_i q hq
      obtain ⟨o, ho, _⟩ := fndO_some hq
      rw [ho]
      simp [fndB, hq, ← ih]
theorem inJ_map {w : Wd} {L : List Od} {i j : Nat} {o s : Od} (h : L[j]? = some s) : lea ((inJ L i (j + 1)).map fun f => lg w.n w.D f o.nd) = if j ≠ i ∧ lg w.n w.D s.nd o.nd < lea ((inJ L i j).map fun f => lg w.n w.D f o.nd) then lg w.n w.D s.nd o.nd else lea ((inJ L i j).map fun f => lg w.n w.D f o.nd) := by
  rw [inJ_step h]
  by_cases e : j = i
  · rw [if_pos e, List.append_nil, if_neg (fun k => k.1 e)]
  · rw [if_neg e, List.map_append, List.map_singleton, lea_snoc (by simp [inJ])]
    by_cases q : lg w.n w.D s.nd o.nd < lea ((inJ L i j).map fun f => lg w.n w.D f o.nd)
    · rw [if_pos q, if_pos ⟨e, q⟩]
    · rw [if_neg q, if_neg (fun k => q k.2)]
theorem lea_take {f : Od → Int} {L : List Od} {i : Nat} {o : Od} (h : L[i]? = some o) : lea ((L.map f).take (i + 1)) = if i = 0 ∨ f o < lea ((L.map f).take i) then f o else lea ((L.map f).take i) := by
  rw [take_snoc (x := f o) (by simp [h])]
  rcases Nat.eq_zero_or_pos i with e | e
  · subst e; simp [lea]
  · have hlt := (List.getElem?_eq_some_iff.1 h).1
    have hne : (L.map f).take i ≠ [] := by
      intro k
      have := congrArg List.length k
      rw [List.length_take, List.length_map, List.length_nil] at this
      omega
    rw [lea_snoc hne]
    by_cases q : f o < lea ((L.map f).take i)
    · rw [if_pos q, if_pos (.inr q)]
    · rw [if_neg q, if_neg]; rintro (k | k); omega; exact q k
theorem lea_takeT {f : Tk → Int} {L : List Tk} {i : Nat} {o : Tk} (h : L[i]? = some o) : lea ((L.map f).take (i + 1)) = if i = 0 ∨ f o < lea ((L.map f).take i) then f o else lea ((L.map f).take i) := by
  rw [take_snoc (x := f o) (by simp [h])]
  rcases Nat.eq_zero_or_pos i with e | e
  · subst e; simp [lea]
  · have hlt := (List.getElem?_eq_some_iff.1 h).1
    have hne : (L.map f).take i ≠ [] := by
      intro k
      have := congrArg List.length k
      rw [List.length_take, List.length_map, List.length_nil] at this
      omega
    rw [lea_snoc hne]
    by_cases q : f o < lea ((L.map f).take i)
    · rw [if_pos q, if_pos (.inr q)]
    · rw [if_neg q, if_neg]; rintro (k | k); omega; exact q k
theorem dmake_spec (w : Wd) (ho : w.os.length < 1099511627776) (ht : w.ts.length < 1099511627776) (ids : List Int) (hi : ids.length < 1099511627776) : VC P 14 [.agg w.c, sI ids] [] (fun r ob' => resC (makeP w ids) r ob') := by
  refine VC_of_vwp_c hT ent_14 Try.func14 rfl (by simp) fun R hR => ?_
  refine vwp_sq [0, 1] fun K1 hK1 => vwp_region hT ?_
  simp
  refine hK1 _ ?_
  try clear hK1 K1
  refine vwp_sq [1, 2, 4] fun K2 hK2 => vwp_region hT ?_
  simp
  refine vcall_z [] (dworld_spec w ho ht) (by rintro r ob' ⟨rfl, rfl⟩; simp) ?_
  rintro r ob' ⟨rfl, rfl⟩
  simp
  refine hK2 _ ?_
  try clear hK2 K2
  refine vwp_seq_k fun K3 hK3 => ?_
  refine vwp_sq [1, 2, 4, 6] fun K4 hK4 => vwp_region hT ?_
  simp
  refine hK4 _ ?_
  try clear hK4 K4
  refine vwp_cond (by first | rfl | (simp; rfl)) (fun h1 => ?_) fun h1 => ?_
  · simp -failIfUnchanged at h1; all_goals
   have he := h1
   refine vwp_sq [4, 6] fun K5 hK5 => vwp_region hT ?_
   simp
   repeat refine ⟨by first | assumption | omega | (intros; omega), ?_⟩
   refine hK5 _ ?_
   try clear hK5 K5
   refine vwp_ret (hR _ _ ?_)
   have hw : makeP w ids = (none, w.e) := by
     unfold makeP; rw [if_pos he]
   rw [hw]
   exact retc_only [] [] (p := True) (xs := [.agg [.nils, .nils, .int .i64 0, .int .i64 0, .int .i64 0, .int .i64 0], .int .i64 (w.e)]) (xs' := [.agg [.nils, .nils, .int .i64 0, .int .i64 0, .int .i64 0, .int .i64 0], .int .i64 (w.e)]) (by simp) trivial (by simp) (by simp) rfl (by simp) (by simp) rfl (by simp) ⟨rfl, rfl⟩
  · simp -failIfUnchanged at h1; all_goals
   have he : w.e = 0 := by simpa using h1
   have hok := Wd.e_zero.1 he
   have hA := hok.A
   refine vwp_skip ?_
   refine hK3 _ ?_
   try clear hK3 K3
   refine vwp_cut_s (fun S : List Int => ⟨[(1, sI ids), (2, .ptr 0 5 0), (4, .ptr 1 6 0), (7, .ptr 3 6 0)], [.live w.c, .live [.nils, .nils, .int .i64 0, .int .i64 0, .int .i64 0, .int .i64 0], .live (ints S), .live [.sl 2 S.length 1 0 S.length, .nils, .int .i64 (0), .int .i64 (0), .int .i64 (0), .int .i64 (0)]]⟩) (fun S => S = srt ids) (fun K6 hK6 => ?_) ?_
   · refine vwp_live [1, 2, 4] (vwp_region hT ?_)
     simp
     repeat refine ⟨by first | assumption | omega | (intros; omega), ?_⟩
     refine vcall_k [] (rsorted_spec ids hi) ?_
     rintro r ob' ⟨rfl, rfl⟩
     simp
     repeat refine ⟨by first | assumption | omega | (intros; omega), ?_⟩
     exact hK6 ((srt ids)) _ (Gh.to_k [1, 2, 4, 7] [0, 1, 2, 3] (he := by simp [srt_len]) (hh := by simp [srt_len])) (rfl)
   · rintro S hS
     have hsl := srt_len ids
     have hadj := adjB_srt ids
     rw [← hS] at hsl hadj
     have htk : List.take S.length (ints S) = ints S := List.take_of_length_le (by simp)
     refine vwp_seq_k fun K7 hK7 => ?_
     refine vwp_sq [1, 2, 4, 7] fun K8 hK8 => vwp_region hT ?_
     simp
     refine hK8 _ ?_
     try clear hK8 K8
     refine vwp_block ?_
     have hz1 : adjB (S.take 1) = false := by
       cases S with
       | nil => rfl
       | cons a S => rfl
     refine vwp_loop_s (fun v : Nat => ⟨[(1, sI ids), (2, .ptr 0 5 0), (4, .ptr 1 6 0), (7, .ptr 3 6 0), (8, .int .i64 (v + 1 : Nat))], [.live w.c, .live [.nils, .nils, .int .i64 0, .int .i64 0, .int .i64 0, .int .i64 0], .live (ints S), .live [.sl 2 S.length 1 0 S.length, .nils, .int .i64 (0), .int .i64 (0), .int .i64 (0), .int .i64 (0)]]⟩) (fun v => v ≤ S.length ∧ adjB (S.take (v + 1)) = false) (fun v => S.length - v) (0) (Gh.to_k [1, 2, 4, 7, 8] [0, 1, 2, 3]) (⟨by omega, hz1⟩) ?_
     rintro v ⟨hv, hno⟩
     intro K9 hK9
     refine vwp_seq_k fun K10 hK10 => ?_
     refine vwp_sq [1, 2, 4, 7, 8] fun K11 hK11 => vwp_region hT ?_
     simp
     refine hK11 _ ?_
     try clear hK11 K11
     refine vwp_cond (by first | rfl | (simp; rfl)) (fun h2 => ?_) fun h2 => ?_
     · simp -failIfUnchanged at h2; all_goals
      refine vwp_skip ?_
      refine hK10 _ ?_
      try clear hK10 K10
      refine vwp_seq_k fun K12 hK12 => ?_
      refine vwp_block ?_
      obtain ⟨x, hx⟩ := getI (l := S) (i := v + 1) (by omega)
      obtain ⟨y, hy⟩ := getI (l := S) (i := v) (by omega)
      have w3 : IntKind.i64.wrap (v : Int) = (v : Int) := w64 (by omega) (by omega)
      refine vwp_sq [1, 2, 4, 7, 8] fun K13 hK13 => vwp_still hT hm (by kernel_rfl) ?_
      simp [hx, hy, w3]
      repeat refine ⟨by first | assumption | omega | (intros; omega), ?_⟩
      refine hK13 _ ?_
      try clear hK13 K13
      refine vwp_cond (by first | rfl | (simp; rfl)) (fun h3 => ?_) fun h3 => ?_
      · simp -failIfUnchanged at h3; all_goals
       have q := h3
       have hxy : x = y := by simpa using q
       refine vwp_sq [4] fun K14 hK14 => vwp_region hT ?_
       simp
       repeat refine ⟨by first | assumption | omega | (intros; omega), ?_⟩
       refine hK14 _ ?_
       try clear hK14 K14
       refine vwp_ret (hR _ _ ?_)
       have hw : makeP w ids = (none, 6) := by
         unfold makeP; rw [if_neg (by simp [he]), if_pos (by rw [← hadj]; exact adjB_iff.2 ⟨v, y, hy, by rw [hx, hxy]⟩)]
       rw [hw]
       exact retc_only [] [] (p := True) (xs := [.agg [.nils, .nils, .int .i64 0, .int .i64 0, .int .i64 0, .int .i64 0], .int .i64 (6)]) (xs' := [.agg [.nils, .nils, .int .i64 0, .int .i64 0, .int .i64 0, .int .i64 0], .int .i64 (6)]) (by simp) trivial (by simp) (by simp) rfl (by simp) (by simp) rfl (by simp) ⟨rfl, rfl⟩
      · simp -failIfUnchanged at h3; all_goals
       have q := h3
       have hxy : ¬ x = y := by simpa using q
       refine vwp_skip ?_
       refine hK12 _ ?_
       try clear hK12 K12
       have w4 : IntKind.i64.wrap ((v : Int) + 1 + 1) = (v : Int) + 1 + 1 := w64 (by omega) (by omega)
       refine vwp_live [1, 2, 4, 7, 8] (vwp_region hT ?_)
       simp [w4]
       exact hK9 (v + 1) _ (Gh.to_k [1, 2, 4, 7, 8] [0, 1, 2, 3]) (⟨by omega, by rw [adjB_take hx hy, hno]; simpa using hxy⟩) (by omega)
     · simp -failIfUnchanged at h2; all_goals
      refine vwp_exit ?_
      simp only [inBlk, thenQ, if_true]
      refine hK7 _ ?_
      try clear hK7 K7
      refine vwp_seq_k fun K15 hK15 => ?_
      rw [List.take_of_length_le (by omega)] at hno
      have hdp : ¬ dupB ids = true := by rw [← hadj, hno]; simp
      have hso : S.Pairwise (· < ·) := adjB_sorted (by rw [hS]; exact srt_sorted ids) hno
      have hinc : incB S = true := incB_iff.2 hso
      have hmk : makeP w ids = match pick w.os S with
          | none => (none, 5)
          | some L => (some (mkC w S L), 0) := by unfold makeP; rw [if_neg (by simp [he]), if_neg hdp, ← hS]; (try rfl)
      have hidB : idsB w.os S = (pick w.os S).isSome := by rw [idsB, hinc, Bool.and_true, pick_fnd]
      refine vwp_sq [1, 2, 4, 7] fun K16 hK16 => vwp_region hT ?_
      simp
      refine vcall_z [] (ids_spec w ho S (by omega)) (by rintro r ob' ⟨rfl, rfl⟩; simp) ?_ (ha := by simp [htk]) (hok := by simp)
      rintro r ob' ⟨rfl, rfl⟩
      simp
      refine hK16 _ ?_
      try clear hK16 K16
      refine vwp_cond (by first | rfl | (simp; rfl)) (fun h4 => ?_) fun h4 => ?_
      · simp -failIfUnchanged at h4; all_goals
       have q := h4
       have hpk : pick w.os S = none := by rw [hidB] at q; simpa using q
       refine vwp_sq [4] fun K17 hK17 => vwp_region hT ?_
       simp
       repeat refine ⟨by first | assumption | omega | (intros; omega), ?_⟩
       refine hK17 _ ?_
       try clear hK17 K17
       refine vwp_ret (hR _ _ ?_)
       have hw : makeP w ids = (none, 5) := by
         rw [hmk, hpk]
       rw [hw]
       exact retc_only [] [] (p := True) (xs := [.agg [.nils, .nils, .int .i64 0, .int .i64 0, .int .i64 0, .int .i64 0], .int .i64 (5)]) (xs' := [.agg [.nils, .nils, .int .i64 0, .int .i64 0, .int .i64 0, .int .i64 0], .int .i64 (5)]) (by simp) trivial (by simp) (by simp) rfl (by simp) (by simp) rfl (by simp) ⟨rfl, rfl⟩
      · simp -failIfUnchanged at h4; all_goals
       have q := h4
       obtain ⟨L, hL⟩ : ∃ L, pick w.os S = some L := by rw [hidB] at q; exact Option.isSome_iff_exists.1 q
       rw [hL] at hmk
       have hLl := (pick_len _ hL).1
       have hdn : S.Nodup := hso.imp fun h e => by omega
       have hl12 := pick_nodup hL hdn
       have ho12 := hok.o12
       have hLo : ∀ o ∈ L, ordB w.n o = true := fun o ho => hok.os o ((pick_len _ hL).2 o ho)
       have hLn : ∀ o ∈ L, 0 ≤ o.nd ∧ o.nd < w.n := fun o ho => by have := ordB_iff.1 (hLo o ho); omega
       have hn0 : (0 : Int) ≤ 0 ∧ (0 : Int) < w.n := ⟨by omega, by have := areaB_n hA; omega⟩
       refine vwp_skip ?_
       refine hK15 _ ?_
       try clear hK15 K15
       refine vwp_seq_k fun K18 hK18 => ?_
       refine vwp_sq [1, 2, 4, 7] fun K19 hK19 => vwp_region hT ?_
       simp
       refine hK19 _ ?_
       try clear hK19 K19
       refine vwp_cond (by first | rfl | (simp; rfl)) (fun h5 => ?_) fun h5 => ?_
       · simp -failIfUnchanged at h5; all_goals
        have q := h5
        obtain rfl : ids = [] := List.length_eq_zero_iff.1 (by simpa using q)
        obtain rfl : S = [] := by rw [hS]; simp [srt]
        obtain rfl : L = [] := List.length_eq_zero_iff.1 (by simpa using hLl)
        refine vwp_gh (Gh.virtC 3 1 1 rfl rfl) ?_
        simp
        refine vwp_sq [4, 7] fun K20 hK20 => vwp_region hT ?_
        simp
        repeat refine ⟨by first | assumption | omega | (intros; omega), ?_⟩
        refine hK20 _ ?_
        try clear hK20 K20
        refine vwp_ret (hR _ _ ?_)
        have hw : makeP w [] = (some ⟨[], [], 0, 0, 0, 0⟩, 0) := hmk
        rw [hw]
        exact retc_only [2, 4] [.live [], .live []] (p := True) (xs := [.agg [.sl 2 0 1 0 0, .sl 4 0 1 0 0, .int .i64 0, .int .i64 0, .int .i64 0, .int .i64 0], .int .i64 0]) (xs' := [.agg [.sl 0 0 1 0 0, .sl 1 0 1 0 0, .int .i64 0, .int .i64 0, .int .i64 0, .int .i64 0], .int .i64 0]) (by simp) trivial (by simp) (by simp) rfl (by simp) (by simp) rfl (by simp) ⟨rfl, rfl⟩
       · simp -failIfUnchanged at h5; all_goals
        have q := h5
        have hL1 : 1 ≤ L.length := by
          rcases Nat.eq_zero_or_pos L.length with e | e
          · exfalso; apply q; rw [← List.length_eq_zero_iff]; omega
          · exact e
        have hLne : L ≠ [] := fun e => by rw [e] at hL1; simp at hL1
        refine vwp_skip ?_
        refine hK18 _ ?_
        try clear hK18 K18
        refine vwp_sq [2, 4, 7] fun K21 hK21 => vwp_region hT ?_
        simp
        refine hK21 _ ?_
        try clear hK21 K21
        refine vwp_seq_k fun K22 hK22 => ?_
        refine vwp_sq [2, 4, 7, 9] fun K23 hK23 => vwp_region hT ?_
        simp
        refine hK23 _ ?_
        try clear hK23 K23
        refine vwp_block ?_
        refine vwp_gh (Gh.virtC 3 1 1 rfl rfl) ?_
        simp
        refine vwp_loop_s (fun i : Nat => ⟨[(2, .ptr 0 5 0), (4, .ptr 1 6 0), (7, .ptr 3 6 0), (9, .int .i64 (inF w L i).sum), (10, .int .i64 (i : Int))], [.live w.c, .live [.nils, .nils, .int .i64 0, .int .i64 0, .int .i64 0, .int .i64 0], .live (ints S), .live [.sl 2 S.length 1 0 S.length, .sl 4 (inF w L i).length 1 0 (inF w L i).length, .int .i64 (lea ((L.map fun o => lg w.n w.D o.nd 0).take i)), .int .i64 (0), .int .i64 (0), .int .i64 (0)], .live (ints (inF w L i))]⟩) (fun i => i ≤ L.length) (fun i => L.length - i) (0) (Gh.to_k [2, 4, 7, 9, 10] [0, 1, 2, 3, 4] (he := by simp [inF]) (hh := by simp [inF, lea])) (by omega) ?_
        rintro i hi3
        have hfl := inF_len w L i hi3
        have hfb := inF_bounds hA hLn i
        have hfs := sum_bounds2 hfb
        intro K24 hK24
        refine vwp_seq_k fun K25 hK25 => ?_
        refine vwp_sq [2, 4, 7, 9, 10] fun K26 hK26 => vwp_region hT ?_
        simp
        refine hK26 _ ?_
        try clear hK26 K26
        refine vwp_cond (by first | rfl | (simp; rfl)) (fun h6 => ?_) fun h6 => ?_
        · simp -failIfUnchanged at h6; all_goals
         refine vwp_skip ?_
         refine hK25 _ ?_
         try clear hK25 K25
         refine vwp_seq_k fun K27 hK27 => ?_
         refine vwp_block ?_
         obtain ⟨id, hid⟩ := getI (l := S) (i := i) (by omega)
         obtain ⟨o, qi, ho3, hfq, hoq⟩ := pick_get hL i id hid
         have hon := hLn o (List.mem_of_getElem? ho3)
         refine vwp_sq [2, 4, 7, 9, 10] fun K28 hK28 => vwp_calm hT hm (by kernel_rfl) ?_
         simp [hid]
         repeat refine ⟨by first | assumption | omega | (intros; omega), ?_⟩
         refine ⟨.int .i64 o.nd, fun sl => ?_, ?_⟩
         · refine vcall_z [] (node_spec w ho id hfq hoq) (by rintro r ob' ⟨rfl, rfl⟩; simp) ?_
           rintro r ob' ⟨rfl, rfl⟩
           simp
         simp [hid]
         repeat refine ⟨by first | assumption | omega | (intros; omega), ?_⟩
         refine hK28 _ ?_
         try clear hK28 K28
         refine vwp_sq [2, 4, 7, 9, 10, 11] fun K29 hK29 => vwp_region hT ?_
         simp
         refine vcall_z [] (rleg_spec hA 0 o.nd hn0 hon) (by rintro r ob' ⟨rfl, rfl⟩; simp) ?_
         rintro r ob' ⟨rfl, rfl⟩
         simp
         refine hK29 _ ?_
         try clear hK29 K29
         refine vwp_seq_k fun K30 hK30 => ?_
         refine vwp_sq [2, 4, 7, 9, 10, 11, 12] fun K31 hK31 => vwp_region hT ?_
         simp
         refine hK31 _ ?_
         try clear hK31 K31
         refine vwp_block ?_
         refine vwp_loop_s (fun j : Nat => ⟨[(2, .ptr 0 5 0), (4, .ptr 1 6 0), (7, .ptr 3 6 0), (9, .int .i64 (inF w L i).sum), (10, .int .i64 (i : Int)), (11, .int .i64 o.nd), (12, .int .i64 (lea ((inJ L i j).map fun f => lg w.n w.D f o.nd))), (15, .int .i64 (j : Int))], [.live w.c, .live [.nils, .nils, .int .i64 0, .int .i64 0, .int .i64 0, .int .i64 0], .live (ints S), .live [.sl 2 S.length 1 0 S.length, .sl 4 (inF w L i).length 1 0 (inF w L i).length, .int .i64 (lea ((L.map fun o => lg w.n w.D o.nd 0).take i)), .int .i64 (0), .int .i64 (0), .int .i64 (0)], .live (ints (inF w L i))]⟩) (fun j => j ≤ L.length) (fun j => L.length - j) (0) (Gh.to_k [2, 4, 7, 9, 10, 11, 12, 15] [0, 1, 2, 3, 4] (he := by simp [inJ_zero, lea])) (by omega) ?_
         rintro j hj
         intro K32 hK32
         refine vwp_seq_k fun K33 hK33 => ?_
         refine vwp_sq [2, 4, 7, 9, 10, 11, 12, 15] fun K34 hK34 => vwp_region hT ?_
         simp
         refine hK34 _ ?_
         try clear hK34 K34
         refine vwp_cond (by first | rfl | (simp; rfl)) (fun h7 => ?_) fun h7 => ?_
         · simp -failIfUnchanged at h7; all_goals
          refine vwp_skip ?_
          refine hK33 _ ?_
          try clear hK33 K33
          refine vwp_seq_k fun K35 hK35 => ?_
          refine vwp_block ?_
          obtain ⟨id2, hid2⟩ := getI (l := S) (i := j) (by omega)
          obtain ⟨s, qj, hs3, hfq2, hoq2⟩ := pick_get hL j id2 hid2
          have hsn := hLn s (List.mem_of_getElem? hs3)
          have hst := inJ_map (w := w) (i := i) (o := o) hs3
          refine vwp_sq [2, 4, 7, 9, 10, 11, 12, 15] fun K36 hK36 => vwp_calm hT hm (by kernel_rfl) ?_
          simp [hid2]
          repeat refine ⟨by first | assumption | omega | (intros; omega), ?_⟩
          refine ⟨.int .i64 s.nd, fun sl => ?_, ?_⟩
          · refine vcall_z [] (node_spec w ho id2 hfq2 hoq2) (by rintro r ob' ⟨rfl, rfl⟩; simp) ?_
            rintro r ob' ⟨rfl, rfl⟩
            simp
          simp [hid2]
          repeat refine ⟨by first | assumption | omega | (intros; omega), ?_⟩
          refine ⟨.tup [.int .i64 (lg w.n w.D s.nd o.nd), .int .i64 (lg w.n w.T s.nd o.nd), .int .i64 0], fun sl => ?_, ?_⟩
          · refine vcall_z [] (rleg_spec hA s.nd o.nd hsn hon) (by rintro r ob' ⟨rfl, rfl⟩; simp) ?_
            rintro r ob' ⟨rfl, rfl⟩
            simp
          simp [hid2]
          repeat refine ⟨by first | assumption | omega | (intros; omega), ?_⟩
          refine hK36 _ ?_
          try clear hK36 K36
          refine vwp_sq [2, 4, 7, 9, 10, 11, 12, 15, 16] fun K37 hK37 => vwp_region hT ?_
          simp
          refine hK37 _ ?_
          try clear hK37 K37
          refine vwp_cond (by first | rfl | (simp; rfl)) (fun h8 => ?_) fun h8 => ?_
          · simp -failIfUnchanged at h8; all_goals
           have q := h8
           have hnw := hst.trans (if_pos ⟨by omega, q.2⟩)
           refine vwp_live [2, 4, 7, 9, 10, 11, 15, 16] (vwp_region hT ?_)
           simp
           refine hK35 _ ?_
           try clear hK35 K35
           have w1 : IntKind.i64.wrap ((j : Int) + 1) = j + 1 := w64 (by omega) (by omega)
           refine vwp_live [2, 4, 7, 9, 10, 11, 12, 15] (vwp_region hT ?_)
           simp [w1]
           exact hK32 (j + 1) _ (Gh.to_k [2, 4, 7, 9, 10, 11, 12, 15] [0, 1, 2, 3, 4] (he := by simp [hnw])) (by omega) (by omega)
          · simp -failIfUnchanged at h8; all_goals
           have q := h8
           have hnw := hst.trans (if_neg (fun k => by omega))
           refine vwp_skip ?_
           refine hK35 _ ?_
           try clear hK35 K35
           have w1 : IntKind.i64.wrap ((j : Int) + 1) = j + 1 := w64 (by omega) (by omega)
           refine vwp_live [2, 4, 7, 9, 10, 11, 12, 15] (vwp_region hT ?_)
           simp [w1]
           exact hK32 (j + 1) _ (Gh.to_k [2, 4, 7, 9, 10, 11, 12, 15] [0, 1, 2, 3, 4] (he := by simp [hnw])) (by omega) (by omega)
         · simp -failIfUnchanged at h7; all_goals
          refine vwp_exit ?_
          simp only [inBlk, thenQ, if_true]
          refine hK30 _ ?_
          try clear hK30 K30
          obtain rfl : j = L.length := by omega
          have hP : lea ((inJ L i L.length).map fun f => lg w.n w.D f o.nd) = inP w L i o := by rw [inJ_all]; rfl
          have hPb := inP_bounds (i := i) hA hLn hon
          rw [hP]
          have w5 : IntKind.i64.wrap ((inF w L i).sum + inP w L i o) = (inF w L (i + 1)).sum := by rw [inF_step ho3]; simp; exact w64 (by omega) (by omega)
          have hbt := lea_take (f := fun o => lg w.n w.D o.nd 0) ho3
          refine vwp_sq [2, 4, 7, 9, 10, 11, 12] fun K38 hK38 => vwp_region hT ?_
          simp [hfl]
          repeat refine ⟨by first | assumption | omega | (intros; omega), ?_⟩
          refine hK38 _ ?_
          try clear hK38 K38
          refine vwp_sq [2, 4, 7, 9, 10, 11, 12] fun K39 hK39 => vwp_region hT ?_
          simp [w5]
          refine hK39 _ ?_
          try clear hK39 K39
          refine vwp_sq [2, 4, 7, 9, 10, 11] fun K40 hK40 => vwp_region hT ?_
          simp
          refine vcall_z [] (rleg_spec hA o.nd 0 hon hn0) (by rintro r ob' ⟨rfl, rfl⟩; simp) ?_
          rintro r ob' ⟨rfl, rfl⟩
          simp
          refine hK40 _ ?_
          try clear hK40 K40
          refine vwp_sq [2, 4, 7, 9, 10, 19] fun K41 hK41 => vwp_region hT ?_
          simp
          refine hK41 _ ?_
          try clear hK41 K41
          refine vwp_cond (by first | rfl | (simp; rfl)) (fun h9 => ?_) fun h9 => ?_
          · simp -failIfUnchanged at h9; all_goals
           have q := h9
           have hba := hbt.trans (if_pos (by omega))
           refine vwp_live [2, 4, 7, 9, 10, 19] (vwp_region hT ?_)
           simp
           repeat refine ⟨by first | assumption | omega | (intros; omega), ?_⟩
           refine hK27 _ ?_
           try clear hK27 K27
           have w1 : IntKind.i64.wrap ((i : Int) + 1) = i + 1 := w64 (by omega) (by omega)
           refine vwp_live [2, 4, 7, 9, 10] (vwp_region hT ?_)
           simp [w1]
           exact hK24 (i + 1) _ (Gh.to_k [2, 4, 7, 9, 10] [0, 1, 2, 3, 4] (he := by simp [inF_step ho3]) (hh := by simp [inF_step ho3, hba, hfl])) (by omega) (by omega)
          · simp -failIfUnchanged at h9; all_goals
           have q := h9
           have hba := hbt.trans (if_neg (by omega))
           refine vwp_skip ?_
           refine hK27 _ ?_
           try clear hK27 K27
           have w1 : IntKind.i64.wrap ((i : Int) + 1) = i + 1 := w64 (by omega) (by omega)
           refine vwp_live [2, 4, 7, 9, 10] (vwp_region hT ?_)
           simp [w1]
           exact hK24 (i + 1) _ (Gh.to_k [2, 4, 7, 9, 10] [0, 1, 2, 3, 4] (he := by simp [inF_step ho3]) (hh := by simp [inF_step ho3, hba, hfl])) (by omega) (by omega)
        · simp -failIfUnchanged at h6; all_goals
         obtain rfl : i = L.length := by omega
         have hlt2 : (L.map fun o => lg w.n w.D o.nd 0).take L.length = L.map fun o => lg w.n w.D o.nd 0 := List.take_of_length_le (by simp)
         rw [hlt2]
         have hb2 := leaNd_bounds hA hLn
         have hb3 := ra_bounds hok
         have hb4 := fx_bounds hok
         obtain ⟨In, hIn⟩ : ∃ In, In = inF w L L.length := ⟨_, rfl⟩
         rw [← hIn] at hfl hfb hfs ⊢
         obtain ⟨ba, hbaE⟩ : ∃ ba, ba = leaNd w L := ⟨_, rfl⟩
         rw [← hbaE] at hb2
         rw [show lea (L.map fun o => lg w.n w.D o.nd 0) = ba from hbaE.symm]
         refine vwp_exit ?_
         simp only [inBlk, thenQ, if_true]
         refine hK22 _ ?_
         try clear hK22 K22
         refine vwp_seq_k fun K42 hK42 => ?_
         refine vwp_sq [2, 4, 7, 9] fun K43 hK43 => vwp_region hT ?_
         simp
         refine hK43 _ ?_
         try clear hK43 K43
         refine vwp_block ?_
         refine vwp_loop_s (fun v : Nat => ⟨[(2, .ptr 0 5 0), (4, .ptr 1 6 0), (7, .ptr 3 6 0), (9, .int .i64 In.sum), (22, .int .i64 (v : Int))], [.live w.c, .live [.nils, .nils, .int .i64 0, .int .i64 0, .int .i64 0, .int .i64 0], .live (ints S), .live [.sl 2 S.length 1 0 S.length, .sl 4 In.length 1 0 In.length, .int .i64 (ba), .int .i64 (lea ((w.ts.map fun s => s.ra).take v)), .int .i64 (lea ((w.ts.map fun s => s.fx).take v)), .int .i64 (0)], .live (ints In)]⟩) (fun v => v ≤ w.ts.length) (fun v => w.ts.length - v) (0) (Gh.to_k [2, 4, 7, 9, 22] [0, 1, 2, 3, 4] (hh := by simp [lea])) (by omega) ?_
         rintro v hv
         intro K44 hK44
         refine vwp_seq_k fun K45 hK45 => ?_
         refine vwp_sq [2, 4, 7, 9, 22] fun K46 hK46 => vwp_region hT ?_
         simp
         refine hK46 _ ?_
         try clear hK46 K46
         refine vwp_cond (by first | rfl | (simp; rfl)) (fun h10 => ?_) fun h10 => ?_
         · simp -failIfUnchanged at h10; all_goals
          obtain ⟨s, hs⟩ := getI (l := w.ts) (i := v) (by omega)
          obtain ⟨_, _, _, _, _, g5, g6⟩ := getTk hs
          have hlen := lenTk w.ts
          have hrt := lea_takeT (f := fun s => s.ra) hs
          have hft := lea_takeT (f := fun s => s.fx) hs
          have lv : v * 7 + 6 < w.ts.length * 7 := by omega
          have lv5 : v * 7 + 5 < w.ts.length * 7 := by omega
          refine vwp_skip ?_
          refine hK45 _ ?_
          try clear hK45 K45
          refine vwp_seq_k fun K47 hK47 => ?_
          refine vwp_block ?_
          refine vwp_cut_s (fun _ : Unit => ⟨[(2, .ptr 0 5 0), (4, .ptr 1 6 0), (7, .ptr 3 6 0), (9, .int .i64 In.sum), (22, .int .i64 (v : Int))], [.live w.c, .live [.nils, .nils, .int .i64 0, .int .i64 0, .int .i64 0, .int .i64 0], .live (ints S), .live [.sl 2 S.length 1 0 S.length, .sl 4 In.length 1 0 In.length, .int .i64 (ba), .int .i64 (lea ((w.ts.map fun s => s.ra).take (v + 1))), .int .i64 (lea ((w.ts.map fun s => s.fx).take v)), .int .i64 (0)], .live (ints In)]⟩) (fun _ => True) (fun K48 hK48 => ?_) ?_
          · refine vwp_sq [2, 4, 7, 9, 22] fun K49 hK49 => vwp_still hT hm (by kernel_rfl) ?_
            simp [g6, hlen]
            repeat refine ⟨by first | assumption | omega | (intros; omega), ?_⟩
            refine hK49 _ ?_
            try clear hK49 K49
            refine vwp_cond (by first | rfl | (simp; rfl)) (fun h11 => ?_) fun h11 => ?_
            · simp -failIfUnchanged at h11; all_goals
             have q := h11
             have hrn := hrt.trans (if_pos (by omega))
             refine vwp_live [2, 4, 7, 9, 22] (vwp_region hT ?_)
             simp [g6, hlen]
             repeat refine ⟨by first | assumption | omega | (intros; omega), ?_⟩
             exact hK48 (()) _ (Gh.to_k [2, 4, 7, 9, 22] [0, 1, 2, 3, 4] (hh := by simp [hrn])) (trivial)
            · simp -failIfUnchanged at h11; all_goals
             have q := h11
             have hrn := hrt.trans (if_neg (by omega))
             refine vwp_skip ?_
             exact hK48 (()) _ (Gh.to_k [2, 4, 7, 9, 22] [0, 1, 2, 3, 4] (hh := by simp [hrn])) (trivial)
          · rintro _ _
            refine vwp_sq [2, 4, 7, 9, 22] fun K50 hK50 => vwp_still hT hm (by kernel_rfl) ?_
            simp [g5, hlen]
            repeat refine ⟨by first | assumption | omega | (intros; omega), ?_⟩
            refine hK50 _ ?_
            try clear hK50 K50
            refine vwp_cond (by first | rfl | (simp; rfl)) (fun h12 => ?_) fun h12 => ?_
            · simp -failIfUnchanged at h12; all_goals
             have q := h12
             have hfn := hft.trans (if_pos (by omega))
             refine vwp_live [2, 4, 7, 9, 22] (vwp_region hT ?_)
             simp [g5, hlen]
             repeat refine ⟨by first | assumption | omega | (intros; omega), ?_⟩
             refine hK47 _ ?_
             try clear hK47 K47
             have w1 : IntKind.i64.wrap ((v : Int) + 1) = v + 1 := w64 (by omega) (by omega)
             refine vwp_live [2, 4, 7, 9, 22] (vwp_region hT ?_)
             simp [w1]
             exact hK44 (v + 1) _ (Gh.to_k [2, 4, 7, 9, 22] [0, 1, 2, 3, 4] (hh := by simp [hfn])) (by omega) (by omega)
            · simp -failIfUnchanged at h12; all_goals
             have q := h12
             have hfn := hft.trans (if_neg (by omega))
             refine vwp_skip ?_
             refine hK47 _ ?_
             try clear hK47 K47
             have w1 : IntKind.i64.wrap ((v : Int) + 1) = v + 1 := w64 (by omega) (by omega)
             refine vwp_live [2, 4, 7, 9, 22] (vwp_region hT ?_)
             simp [w1]
             exact hK44 (v + 1) _ (Gh.to_k [2, 4, 7, 9, 22] [0, 1, 2, 3, 4] (hh := by simp [hfn])) (by omega) (by omega)
         · simp -failIfUnchanged at h10; all_goals
          refine vwp_exit ?_
          simp only [inBlk, thenQ, if_true]
          refine hK42 _ ?_
          try clear hK42 K42
          obtain rfl : v = w.ts.length := by omega
          have hra2 : (w.ts.map fun s => s.ra).take w.ts.length = w.ts.map fun s => s.ra := List.take_of_length_le (by simp)
          have hfx2 : (w.ts.map fun s => s.fx).take w.ts.length = w.ts.map fun s => s.fx := List.take_of_length_le (by simp)
          rw [hra2, hfx2]
          obtain ⟨ra, hra⟩ : ∃ ra, ra = lea (w.ts.map fun s => s.ra) := ⟨_, rfl⟩
          obtain ⟨fx, hfx⟩ : ∃ fx, fx = lea (w.ts.map fun s => s.fx) := ⟨_, rfl⟩
          rw [← hra] at hb3
          rw [← hfx] at hb4
          rw [← hra, ← hfx]
          obtain ⟨su, hsu⟩ : ∃ su, su = In.sum := ⟨_, rfl⟩
          rw [← hsu] at hfs ⊢
          have w6 : IntKind.i64.wrap (su + ba) = su + ba := w64 (by omega) (by omega)
          have hmu := mul_small (a := ra) (b := su + ba) (by omega) (by omega) (by omega) (by omega)
          have w7 : IntKind.i64.wrap (ra * (su + ba)) = ra * (su + ba) := w64 (by omega) (by omega)
          have w8 : IntKind.i64.wrap (fx + ra * (su + ba)) = fx + ra * (su + ba) := w64 (by omega) (by omega)
          refine vwp_sq [4, 7, 9] fun K51 hK51 => vwp_region hT ?_
          simp [w6, w7, w8]
          repeat refine ⟨by first | assumption | omega | (intros; omega), ?_⟩
          refine hK51 _ ?_
          try clear hK51 K51
          refine vwp_sq [4, 7] fun K52 hK52 => vwp_region hT ?_
          simp
          repeat refine ⟨by first | assumption | omega | (intros; omega), ?_⟩
          refine hK52 _ ?_
          try clear hK52 K52
          refine vwp_ret (hR _ _ ?_)
          have hw : makeP w ids = (some ⟨S, In, ba, ra, fx, fx + ra * (su + ba)⟩, 0) := by
            rw [hmk]
            simp only [mkC]
            rw [if_neg hLne, ← hIn, ← hbaE, ← hra, ← hfx, ← hsu]
          rw [hw]
          exact retc_only [2, 4] [.live (ints S), .live (ints In)] (p := True) (xs := [.agg [.sl 2 S.length 1 0 S.length, .sl 4 In.length 1 0 In.length, .int .i64 ba, .int .i64 ra, .int .i64 fx, .int .i64 (fx + ra * (su + ba))], .int .i64 0]) (xs' := [.agg [.sl 0 S.length 1 0 S.length, .sl 1 In.length 1 0 In.length, .int .i64 ba, .int .i64 ra, .int .i64 fx, .int .i64 (fx + ra * (su + ba))], .int .i64 0]) (by simp) trivial (by simp) (by simp) rfl (by simp) (by simp) rfl (by simp) ⟨rfl, rfl⟩
end Go.Proofs.Ytinigjmfjabicaa
