/- What a shipper is shown, as the document says: the walk. -/
import Derived.Test.YtmpakfpmmkfgpaaLbI
namespace Go.Proofs.Ytmpakfpmmkfgpaa
open Go Go.VX Go.RowKit
set_option linter.unusedVariables false
set_option linter.unusedSimpArgs false
set_option maxHeartbeats 20000000
set_option maxRecDepth 100000

def rowD (x : Whl) (y : Stp) : Rwx := rowP (ownL x.ss y.ow) y
def hitD (x : Whl) (l : List Stp) (id : Int) : List Rwx := (l.filter fun y => y.oi == id).map (rowD x)
theorem hitD_take {x : Whl} {l : List Stp} {i : Nat} {y : Stp} (h : l[i]? = some y) (id : Int) : hitD x (l.take (i + 1)) id = hitD x (l.take i) id ++ (if y.oi = id then [rowD x y] else []) := by
  rw [take_snoc h]; simp only [hitD, List.filter_append, List.filter_cons, List.filter_nil, List.map_append]; by_cases q : y.oi = id <;> simp [q]
theorem hitD_le (x : Whl) (l : List Stp) (id : Int) : (hitD x l id).length ≤ l.length := by unfold hitD; rw [List.length_map]; exact List.length_filter_le _ _
theorem filter_one {l : List Stp} (hn : (l.map (·.oi)).Nodup) {s : Stp} (hs : s ∈ l) : l.filter (fun y => y.oi == s.oi) = [s] := by
  induction l with
  | nil => cases hs
  | cons a l ih =>
    rw [List.map_cons, List.nodup_cons] at hn
    rcases List.mem_cons.1 hs with rfl | h
    · rw [List.filter_cons_of_pos (by simp), List.filter_eq_nil_iff.2]
      intro y hy
      simp only [beq_iff_eq]
      intro e
      exact hn.1 (List.mem_map.2 ⟨y, hy, e⟩)
    · rw [List.filter_cons_of_neg, ih hn.2 h]
      simp only [beq_iff_eq]
      intro e
      exact hn.1 (List.mem_map.2 ⟨s, h, e.symm⟩)
theorem hitD_all {x : Whl} (hn : (idsP x).Nodup) {ow : Int} {s : Stp} (hs : s ∈ ownS x ow) : hitD x x.ss s.oi = [rowP (ownS x ow) s] := by
  have h1 := List.mem_filter.1 hs
  have h2 : s.ow = ow := by simpa using h1.2
  unfold hitD
  rw [filter_one (List.nodup_append.1 hn).1 h1.1]
  simp [rowD, h2, ownL, ownS]
theorem srt_own {x : Whl} (ow : Int) : srt ((ownS x ow).map (·.oi)) = (srtO (ownS x ow)).map (·.oi) :=
  srt_eq ((srtO_perm _).map _) (List.pairwise_map.2 (srtO_le _))
def linF (l : List Lin) (ow : Int) : Lin := (l.find? fun l => l.ow == ow).getD ⟨0, 0, 0, false⟩
theorem linF_drop {l : List Lin} {i : Nat} {a : Lin} (h : l[i]? = some a) (ow : Int) : linF (l.drop i) ow = if a.ow = ow then a else linF (l.drop (i + 1)) ow := by
  obtain ⟨h1, h2⟩ := List.getElem?_eq_some_iff.1 h
  rw [List.drop_eq_getElem_cons h1, h2, linF]
  by_cases q : a.ow = ow
  · rw [List.find?_cons_of_pos (by simpa using q), if_pos q]; rfl
  · rw [List.find?_cons_of_neg (by simpa using q), if_neg q]; rfl
theorem ite_len (c : Prop) [Decidable c] (v : Int) : (if c then [v] else []).length ≤ 1 := by split <;> simp
theorem rowsA_le {x : Whl} {R : List Rwx} {k : Nat} {l : List Stp} {id : Int} (h : k ≤ R.length) : (R.take k ++ hitD x l id).length ≤ k + l.length := by
  rw [List.length_append, List.length_take, Nat.min_eq_left h]
  have := hitD_le x l id
  omega
theorem dshow_spec (x : Whl) (ow po : Int) (hs : x.ss.length < 1099511627776) (hf : x.fs.length < 1099511627776) (hl : x.ls.length < 1099511627776) (hsf : x.ss.length + x.fs.length < 1099511627776) : VC P 10 [.agg x.c, .int .i64 ow, .int .i64 po] [] (fun r ob' => r = .tup [.agg (showP x ow po).1.cells, .int .i64 (showP x ow po).2] ∧ ob' = []) := by
  refine VC_of_vwp_c hT ent_10 Try.func10 rfl (by simp) fun R hR => ?_
  refine vwp_sq [0, 1, 2] fun K1 hK1 => vwp_region hT ?_
  simp
  refine hK1 _ ?_
  try clear hK1 K1
  refine vwp_seq_k fun K2 hK2 => ?_
  refine vwp_sq [1, 2, 3, 6] fun K3 hK3 => vwp_region hT ?_
  simp
  refine hK3 _ ?_
  try clear hK3 K3
  refine vwp_cond (by first | rfl | (simp; rfl)) (fun h1 => ?_) fun h1 => ?_
  · simp -failIfUnchanged at h1; all_goals
   have q := h1
   refine vwp_sq [6] fun K4 hK4 => vwp_region hT ?_
   simp
   repeat refine ⟨by first | assumption | omega | (intros; omega), ?_⟩
   refine hK4 _ ?_
   try clear hK4 K4
   refine vwp_ret (hR _ _ ?_)
   have hw : showP x ow po = (Vw.zero, 1) := by
     unfold showP; rw [if_pos (by simp -failIfUnchanged at q; omega)]
   rw [hw]
   refine ret_gh (((Gh.nilFs 1 0 rfl rfl).trans (Gh.nilFs 1 1 rfl rfl)).trans (Gh.nilFs 1 5 rfl rfl)) ?_
   simp
   exact retc_only [] ([]) (p := True) (xs := [.agg [.fs 0 [], .fs 0 [], .int .i64 0, .int .i64 0, .bool false, .fs 0 []], .int .i64 1]) (xs' := [.agg [.fs 0 [], .fs 0 [], .int .i64 0, .int .i64 0, .bool false, .fs 0 []], .int .i64 1]) (by simp) trivial (by simp) (by simp) rfl (by simp) (by simp) rfl (by simp) (⟨rfl, rfl⟩)
  · simp -failIfUnchanged at h1; all_goals
   have q := h1
   have hpo : 0 ≤ po ∧ po ≤ 15 := by simp -failIfUnchanged at q; omega
   obtain ⟨hp0, hp15⟩ := hpo
   have hm1 : po.tmod 2 = po % 2 := Int.tmod_eq_emod_of_nonneg hp0
   have hd2 : IntKind.i64.wrap (po.tdiv 2) = po / 2 := by rw [Int.tdiv_eq_ediv_of_nonneg hp0]; exact w64 (by omega) (by omega)
   have hd4 : IntKind.i64.wrap (po.tdiv 4) = po / 4 := by rw [Int.tdiv_eq_ediv_of_nonneg hp0]; exact w64 (by omega) (by omega)
   have hd8 : IntKind.i64.wrap (po.tdiv 8) = po / 8 := by rw [Int.tdiv_eq_ediv_of_nonneg hp0]; exact w64 (by omega) (by omega)
   have hm2 : (po / 2).tmod 2 = po / 2 % 2 := Int.tmod_eq_emod_of_nonneg (by omega)
   have hm4 : (po / 4).tmod 2 = po / 4 % 2 := Int.tmod_eq_emod_of_nonneg (by omega)
   refine vwp_skip ?_
   refine hK2 _ ?_
   try clear hK2 K2
   refine vwp_sq [1, 2, 3, 6] fun K5 hK5 => vwp_region hT ?_
   simp
   refine hK5 _ ?_
   try clear hK5 K5
   refine vwp_sq [1, 2, 3, 6, 8] fun K6 hK6 => vwp_region hT ?_
   simp
   refine hK6 _ ?_
   try clear hK6 K6
   refine vwp_sq [1, 2, 3, 6, 8, 9] fun K7 hK7 => vwp_region hT ?_
   simp
   repeat refine ⟨by first | assumption | omega | (intros; omega), ?_⟩
   refine hK7 _ ?_
   try clear hK7 K7
   refine vwp_seq_k fun K8 hK8 => ?_
   refine vwp_sq [1, 2, 3, 6, 8, 9, 10] fun K9 hK9 => vwp_region hT ?_
   simp
   refine hK9 _ ?_
   try clear hK9 K9
   refine vwp_block ?_
   refine vwp_loop_s (fun i : Nat => ⟨[(1, .int .i64 ow), (2, .int .i64 po), (3, .ptr 0 6 0), (6, .ptr 1 6 0), (8, .sl 2 ((x.ss.take i).map (·.oi)).length 1 0 ((x.ss.take i).map (·.oi)).length), (9, .sl 3 ((ownL (x.ss.take i) ow).map (·.oi)).length 1 0 ((ownL (x.ss.take i) ow).map (·.oi)).length), (10, .ptr 4 6 0), (11, .int .i64 (i : Int))], [.live x.c, .live [.nils, .nils, .int .i64 0, .int .i64 0, .bool false, .nils], .live (ints ((x.ss.take i).map (·.oi))), .live (ints ((ownL (x.ss.take i) ow).map (·.oi))), .live [.nils, .nils, .int .i64 0, .int .i64 0, .bool false, .nils]]⟩) (fun i => i ≤ x.ss.length) (fun i => x.ss.length - i) (0) (Gh.to_k [1, 2, 3, 6, 8, 9, 10, 11] [0, 1, 2, 3, 4] (he := by simp [ownL]) (hh := by simp [ownL])) (by omega) ?_
   rintro i hi
   obtain ⟨LA, hLA⟩ : ∃ L, L = ((x.ss.take i).map (·.oi)) := ⟨_, rfl⟩
   obtain ⟨LO, hLO⟩ : ∃ L, L = ((ownL (x.ss.take i) ow).map (·.oi)) := ⟨_, rfl⟩
   have hla : LA.length = i := by rw [hLA]; simp; omega
   have hlo : LO.length ≤ i := by rw [hLO, List.length_map]; exact Nat.le_trans (ownL_le _ _) (by simp; omega)
   rw [← hLA, ← hLO]
   intro K10 hK10
   refine vwp_seq_k fun K11 hK11 => ?_
   refine vwp_sq [1, 2, 3, 6, 8, 9, 10, 11] fun K12 hK12 => vwp_region hT ?_
   simp
   refine hK12 _ ?_
   try clear hK12 K12
   refine vwp_cond (by first | rfl | (simp; rfl)) (fun h2 => ?_) fun h2 => ?_
   · simp -failIfUnchanged at h2; all_goals
    refine vwp_skip ?_
    refine hK11 _ ?_
    try clear hK11 K11
    refine vwp_seq_k fun K13 hK13 => ?_
    refine vwp_block ?_
    obtain ⟨s, hs1⟩ := getI (l := x.ss) (i := i) (by omega)
    obtain ⟨hg0, hg1, hg2, hg3⟩ := getStp hs1
    have hlen := lenStp x.ss
    have li : i * 4 + 3 < x.ss.length * 4 := by omega
    have hA2 : (x.ss.take (i + 1)).map (·.oi) = LA ++ [s.oi] := by rw [take_snoc hs1, hLA]; simp
    have hok := ownL_take hs1 ow
    refine vwp_sq [1, 2, 3, 6, 8, 9, 10, 11] fun K14 hK14 => vwp_region hT ?_
    simp [hg0, hlen]
    repeat refine ⟨by first | assumption | omega | (intros; omega), ?_⟩
    refine hK14 _ ?_
    try clear hK14 K14
    refine vwp_sq [1, 2, 3, 6, 8, 9, 10, 11] fun K15 hK15 => vwp_region hT ?_
    simp [hg1, hlen]
    repeat refine ⟨by first | assumption | omega | (intros; omega), ?_⟩
    refine hK15 _ ?_
    try clear hK15 K15
    refine vwp_cond (by first | rfl | (simp; rfl)) (fun h3 => ?_) fun h3 => ?_
    · simp -failIfUnchanged at h3; all_goals
     have q := h3
     have hq2 : s.ow = ow := by simpa using q
     have hO2 : (ownL (x.ss.take (i + 1)) ow).map (·.oi) = LO ++ [s.oi] := by rw [hok, if_pos hq2, List.map_append, ← hLO]; rfl
     refine vwp_live [1, 2, 3, 6, 8, 9, 10, 11] (vwp_region hT ?_)
     simp [hg0, hlen]
     repeat refine ⟨by first | assumption | omega | (intros; omega), ?_⟩
     refine hK13 _ ?_
     try clear hK13 K13
     have w1 : IntKind.i64.wrap ((i : Int) + 1) = i + 1 := w64 (by omega) (by omega)
     refine vwp_live [1, 2, 3, 6, 8, 9, 10, 11] (vwp_region hT ?_)
     simp [w1]
     exact hK10 (i + 1) _ (Gh.to_k [1, 2, 3, 6, 8, 9, 10, 11] [0, 1, 2, 3, 4] (he := by rw [hA2, hO2]; simp) (hh := by rw [hA2, hO2]; simp)) (by omega) (by omega)
    · simp -failIfUnchanged at h3; all_goals
     have q := h3
     have hq2 : ¬ s.ow = ow := by simpa using q
     have hO2 : (ownL (x.ss.take (i + 1)) ow).map (·.oi) = LO := by rw [hok, if_neg hq2, List.append_nil, ← hLO]
     refine vwp_skip ?_
     refine hK13 _ ?_
     try clear hK13 K13
     have w1 : IntKind.i64.wrap ((i : Int) + 1) = i + 1 := w64 (by omega) (by omega)
     refine vwp_live [1, 2, 3, 6, 8, 9, 10, 11] (vwp_region hT ?_)
     simp [w1]
     exact hK10 (i + 1) _ (Gh.to_k [1, 2, 3, 6, 8, 9, 10, 11] [0, 1, 2, 3, 4] (he := by rw [hA2, hO2]; simp) (hh := by rw [hA2, hO2]; simp)) (by omega) (by omega)
   · simp -failIfUnchanged at h2; all_goals
    refine vwp_exit ?_
    simp only [inBlk, thenQ, if_true]
    refine hK8 _ ?_
    try clear hK8 K8
    refine vwp_seq_k fun K16 hK16 => ?_
    obtain rfl : i = x.ss.length := by omega
    rw [List.take_length] at hLA hLO
    rw [hLA, hLO, show ownL x.ss ow = ownS x ow from rfl]
    have hol := ownL_le x.ss ow
    rw [show ownL x.ss ow = ownS x ow from rfl] at hol
    refine vwp_sq [1, 2, 3, 6, 8, 9, 10] fun K17 hK17 => vwp_region hT ?_
    simp
    refine hK17 _ ?_
    try clear hK17 K17
    refine vwp_block ?_
    refine vwp_loop_s (fun i : Nat => ⟨[(1, .int .i64 ow), (2, .int .i64 po), (3, .ptr 0 6 0), (6, .ptr 1 6 0), (8, .sl 2 (x.ss.map (·.oi) ++ (x.fs.take i).map (·.oi)).length 1 0 (x.ss.map (·.oi) ++ (x.fs.take i).map (·.oi)).length), (9, .sl 3 ((ownS x ow).map (·.oi)).length 1 0 ((ownS x ow).map (·.oi)).length), (10, .ptr 4 6 0), (12, .int .i64 (i : Int))], [.live x.c, .live [.nils, .nils, .int .i64 0, .int .i64 0, .bool false, .nils], .live (ints (x.ss.map (·.oi) ++ (x.fs.take i).map (·.oi))), .live (ints ((ownS x ow).map (·.oi))), .live [.nils, .sl 5 (ownLF (x.fs.take i) ow).length 1 0 (ownLF (x.fs.take i) ow).length, .int .i64 0, .int .i64 0, .bool false, .nils], .live (ints (ownLF (x.fs.take i) ow))]⟩) (fun i => i ≤ x.fs.length) (fun i => x.fs.length - i) (0) ((Gh.virtC 4 1 1 rfl rfl).trans (Gh.to_k [1, 2, 3, 6, 8, 9, 10, 12] [0, 1, 2, 3, 4, 5] (he := by simp [ownLF]) (hh := by simp [ownLF]))) (by omega) ?_
    rintro i hi
    obtain ⟨LA2, hLA2⟩ : ∃ L, L = (x.ss.map (·.oi) ++ (x.fs.take i).map (·.oi)) := ⟨_, rfl⟩
    obtain ⟨LL, hLL⟩ : ∃ L, L = (ownLF (x.fs.take i) ow) := ⟨_, rfl⟩
    have hla2 : LA2.length = x.ss.length + i := by rw [hLA2]; simp; omega
    have hll : LL.length ≤ i := by rw [hLL]; exact Nat.le_trans (ownLF_le _ _) (by simp; omega)
    obtain ⟨LX, hLX⟩ : ∃ L, L = ((ownS x ow).map (·.oi)) := ⟨_, rfl⟩
    rw [← hLA2, ← hLL, ← hLX]
    intro K18 hK18
    refine vwp_seq_k fun K19 hK19 => ?_
    refine vwp_sq [1, 2, 3, 6, 8, 9, 10, 12] fun K20 hK20 => vwp_region hT ?_
    simp
    refine hK20 _ ?_
    try clear hK20 K20
    refine vwp_cond (by first | rfl | (simp; rfl)) (fun h4 => ?_) fun h4 => ?_
    · simp -failIfUnchanged at h4; all_goals
     refine vwp_skip ?_
     refine hK19 _ ?_
     try clear hK19 K19
     refine vwp_seq_k fun K21 hK21 => ?_
     refine vwp_block ?_
     obtain ⟨s, hs1⟩ := getI (l := x.fs) (i := i) (by omega)
     obtain ⟨hg0, hg1⟩ := getLft hs1
     have hlen := lenLft x.fs
     have li : i * 2 + 1 < x.fs.length * 2 := by omega
     have hA2 : x.ss.map (·.oi) ++ (x.fs.take (i + 1)).map (·.oi) = LA2 ++ [s.oi] := by rw [take_snoc hs1, hLA2]; simp
     have hok := ownLF_take hs1 ow
     refine vwp_sq [1, 2, 3, 6, 8, 9, 10, 12] fun K22 hK22 => vwp_region hT ?_
     simp [hg0, hlen]
     repeat refine ⟨by first | assumption | omega | (intros; omega), ?_⟩
     refine hK22 _ ?_
     try clear hK22 K22
     refine vwp_sq [1, 2, 3, 6, 8, 9, 10, 12] fun K23 hK23 => vwp_region hT ?_
     simp [hg1, hlen]
     repeat refine ⟨by first | assumption | omega | (intros; omega), ?_⟩
     refine hK23 _ ?_
     try clear hK23 K23
     refine vwp_cond (by first | rfl | (simp; rfl)) (fun h5 => ?_) fun h5 => ?_
     · simp -failIfUnchanged at h5; all_goals
      have q := h5
      have hq2 : s.ow = ow := by simpa using q
      have hO2 : ownLF (x.fs.take (i + 1)) ow = LL ++ [s.oi] := by rw [hok, if_pos hq2, ← hLL]
      refine vwp_live [1, 2, 3, 6, 8, 9, 10, 12] (vwp_storm hT hm [.win 0 0, .win 0 0, .win 0 0, .win 0 0, .pure, .win 0 0, .win 0 0, .win 0 0, .lit, .mv, .win 1 1, .mv] [[], [0], [], [2], [], [2, 3, 4], [2, 3, 4, 5], [2, 3, 4, 5, 6], [2, 3, 4, 5, 6, 7], [0, 1, 2, 3, 4, 5, 6, 7, 8], [0, 1, 2, 3, 4, 5, 6, 7, 8, 9], [0, 1, 2, 3, 4, 5, 6, 7, 8, 9, 10]] (by kernel_rfl) ?_)
      simp [hg0, hlen]
      repeat refine ⟨by first | assumption | omega | (intros; omega), ?_⟩
      refine hK21 _ ?_
      try clear hK21 K21
      have w1 : IntKind.i64.wrap ((i : Int) + 1) = i + 1 := w64 (by omega) (by omega)
      refine vwp_live [1, 2, 3, 6, 8, 9, 10, 12] (vwp_region hT ?_)
      simp [w1]
      exact hK18 (i + 1) _ (Gh.to_k [1, 2, 3, 6, 8, 9, 10, 12] [0, 1, 2, 3, 4, 5] (he := by rw [hA2]; simp) (hh := by rw [hA2, hO2]; simp)) (by omega) (by omega)
     · simp -failIfUnchanged at h5; all_goals
      have q := h5
      have hq2 : ¬ s.ow = ow := by simpa using q
      have hO2 : ownLF (x.fs.take (i + 1)) ow = LL := by rw [hok, if_neg hq2, List.append_nil, ← hLL]
      refine vwp_skip ?_
      refine hK21 _ ?_
      try clear hK21 K21
      have w1 : IntKind.i64.wrap ((i : Int) + 1) = i + 1 := w64 (by omega) (by omega)
      refine vwp_live [1, 2, 3, 6, 8, 9, 10, 12] (vwp_region hT ?_)
      simp [w1]
      exact hK18 (i + 1) _ (Gh.to_k [1, 2, 3, 6, 8, 9, 10, 12] [0, 1, 2, 3, 4, 5] (he := by rw [hA2]; simp) (hh := by rw [hA2, hO2]; simp)) (by omega) (by omega)
    · simp -failIfUnchanged at h4; all_goals
     refine vwp_exit ?_
     simp only [inBlk, thenQ, if_true]
     refine hK16 _ ?_
     try clear hK16 K16
     obtain rfl : i = x.fs.length := by omega
     rw [List.take_length] at hLA2 hLL
     rw [show ownLF x.fs ow = ownF x ow from rfl] at hLL
     subst hLL hLX
     rw [show x.ss.map (·.oi) ++ x.fs.map (·.oi) = idsP x from rfl] at hLA2
     subst hLA2
     have hil : (idsP x).length = x.ss.length + x.fs.length := by simp [idsP]
     refine vwp_sq [1, 2, 3, 6, 8, 9, 10] fun K24 hK24 => vwp_region hT ?_
     simp
     refine vcall_z [] (rsorted_spec (idsP x) (by omega)) (by rintro r ob' ⟨rfl, rfl⟩; simp) ?_
     rintro r ob' ⟨rfl, rfl⟩
     simp
     refine hK24 _ ?_
     try clear hK24 K24
     refine vwp_seq_k fun K25 hK25 => ?_
     refine vwp_sq [1, 2, 3, 6, 8, 9, 10] fun K26 hK26 => vwp_region hT ?_
     simp
     refine hK26 _ ?_
     try clear hK26 K26
     refine vwp_block ?_
     have hsl := srt_len (idsP x)
     have hz1 : adjB ((srt (idsP x)).take 1) = false := by
       rcases srt (idsP x) with _ | ⟨a, l⟩ <;> rfl
     refine vwp_loop_s (fun v : Nat => ⟨[(1, .int .i64 ow), (2, .int .i64 po), (3, .ptr 0 6 0), (6, .ptr 1 6 0), (8, .sl 5 (idsP x).length 1 0 (idsP x).length), (9, .sl 2 ((ownS x ow).map (·.oi)).length 1 0 ((ownS x ow).map (·.oi)).length), (10, .ptr 3 6 0), (13, .int .i64 (v + 1 : Nat))], [.live x.c, .live [.nils, .nils, .int .i64 0, .int .i64 0, .bool false, .nils], .live (ints ((ownS x ow).map (·.oi))), .live [.nils, .sl 4 (ownF x ow).length 1 0 (ownF x ow).length, .int .i64 0, .int .i64 0, .bool false, .nils], .live (ints (ownF x ow)), .live (ints (srt (idsP x)))]⟩) (fun v => v ≤ (idsP x).length ∧ adjB ((srt (idsP x)).take (v + 1)) = false) (fun v => (idsP x).length - v) (0) (Gh.to_k [1, 2, 3, 6, 8, 9, 10, 13] [0, 1, 3, 4, 5, 6]) (⟨by omega, hz1⟩) ?_
     rintro v ⟨hv, hadj⟩
     intro K27 hK27
     refine vwp_seq_k fun K28 hK28 => ?_
     refine vwp_sq [1, 2, 3, 6, 8, 9, 10, 13] fun K29 hK29 => vwp_region hT ?_
     simp
     refine hK29 _ ?_
     try clear hK29 K29
     refine vwp_cond (by first | rfl | (simp; rfl)) (fun h6 => ?_) fun h6 => ?_
     · simp -failIfUnchanged at h6; all_goals
      refine vwp_skip ?_
      refine hK28 _ ?_
      try clear hK28 K28
      refine vwp_seq_k fun K30 hK30 => ?_
      refine vwp_block ?_
      obtain ⟨a, ha1⟩ := getI (l := srt (idsP x)) (i := v + 1) (by omega)
      obtain ⟨b, hb1⟩ := getI (l := srt (idsP x)) (i := v) (by omega)
      have hat := adjB_take ha1 hb1
      have w3 : IntKind.i64.wrap (v : Int) = (v : Int) := w64 (by omega) (by omega)
      have hia : (srt (idsP x))[v + 1] = a := (List.getElem?_eq_some_iff.1 ha1).2
      have hib : (srt (idsP x))[v] = b := (List.getElem?_eq_some_iff.1 hb1).2
      refine vwp_sq [1, 2, 3, 6, 8, 9, 10, 13] fun K31 hK31 => vwp_still hT hm (by kernel_rfl) ?_
      simp [ha1, hb1, w3, hsl]
      repeat refine ⟨by first | assumption | omega | (intros; omega), ?_⟩
      refine hK31 _ ?_
      try clear hK31 K31
      refine vwp_cond (by first | rfl | (simp; rfl)) (fun h7 => ?_) fun h7 => ?_
      · simp -failIfUnchanged at h7; all_goals
       have q := h7
       have hab : a = b := by simpa using q
       refine vwp_sq [6] fun K32 hK32 => vwp_region hT ?_
       simp
       repeat refine ⟨by first | assumption | omega | (intros; omega), ?_⟩
       refine hK32 _ ?_
       try clear hK32 K32
       refine vwp_ret (hR _ _ ?_)
       have hw : showP x ow po = (Vw.zero, 6) := by
         unfold showP; rw [if_neg (by omega), if_pos]; intro hn; have h1 := adjB_srt (idsP x); have h2 : dupB (idsP x) = false := by simp [dupB, hn]
         rw [h2] at h1; have h3 : adjB (srt (idsP x)) = true := adjB_iff.2 ⟨v, b, hb1, by rw [ha1, hab]⟩; rw [h1] at h3; cases h3
       rw [hw]
       refine ret_gh (((Gh.nilFs 1 0 rfl rfl).trans (Gh.nilFs 1 1 rfl rfl)).trans (Gh.nilFs 1 5 rfl rfl)) ?_
       simp
       exact retc_only [] ([]) (p := True) (xs := [.agg [.fs 0 [], .fs 0 [], .int .i64 0, .int .i64 0, .bool false, .fs 0 []], .int .i64 6]) (xs' := [.agg [.fs 0 [], .fs 0 [], .int .i64 0, .int .i64 0, .bool false, .fs 0 []], .int .i64 6]) (by simp) trivial (by simp) (by simp) rfl (by simp) (by simp) rfl (by simp) (⟨rfl, rfl⟩)
      · simp -failIfUnchanged at h7; all_goals
       have q := h7
       have hab : ¬ a = b := by simpa using q
       have hst2 : adjB ((srt (idsP x)).take (v + 1 + 1)) = false := by rw [hat, hadj]; simpa using hab
       refine vwp_skip ?_
       refine hK30 _ ?_
       try clear hK30 K30
       have w1 : IntKind.i64.wrap ((v : Int) + 1 + 1) = (v : Int) + 1 + 1 := w64 (by omega) (by omega)
       refine vwp_live [1, 2, 3, 6, 8, 9, 10, 13] (vwp_region hT ?_)
       simp [w1]
       exact hK27 (v + 1) _ (Gh.to_k [1, 2, 3, 6, 8, 9, 10, 13] [0, 1, 2, 3, 4, 5]) (⟨by omega, hst2⟩) (by omega)
     · simp -failIfUnchanged at h6; all_goals
      refine vwp_exit ?_
      simp only [inBlk, thenQ, if_true]
      refine hK25 _ ?_
      try clear hK25 K25
      have hnd : (idsP x).Nodup := by
        rw [List.take_of_length_le (by omega)] at hadj
        rw [adjB_srt] at hadj
        simpa [dupB] using hadj
      have hown := ownS_ids hnd ow
      have hSl : (srtO (ownS x ow)).length = (ownS x ow).length := (srtO_perm _).length_eq
      have hSp := srtO_perm (ownS x ow)
      have hso := srt_own (x := x) ow
      obtain ⟨S, hS⟩ : ∃ S, S = srtO (ownS x ow) := ⟨_, rfl⟩
      rw [← hS] at hSl hSp hso
      obtain ⟨R0, hR0⟩ : ∃ R0, R0 = S.map (rowP (ownS x ow)) := ⟨_, rfl⟩
      have hRl : R0.length = S.length := by rw [hR0]; simp
      have hfl := ownLF_le x.fs ow
      rw [show ownLF x.fs ow = ownF x ow from rfl] at hfl
      refine vwp_sq [1, 2, 3, 6, 9, 10] fun K33 hK33 => vwp_region hT ?_
      simp
      refine vcall_z [] (rsorted_spec ((ownS x ow).map (·.oi)) (by simp; omega)) (by rintro r ob' ⟨rfl, rfl⟩; simp) ?_
      rintro r ob' ⟨rfl, rfl⟩
      rw [hso]
      simp
      refine hK33 _ ?_
      try clear hK33 K33
      refine vwp_seq_k fun K34 hK34 => ?_
      refine vwp_sq [1, 2, 3, 6, 9, 10] fun K35 hK35 => vwp_region hT ?_
      simp
      refine hK35 _ ?_
      try clear hK35 K35
      refine vwp_block ?_
      refine vwp_loop_s (fun i : Nat => ⟨[(1, .int .i64 ow), (2, .int .i64 po), (3, .ptr 0 6 0), (6, .ptr 1 6 0), (9, .sl 4 S.length 1 0 S.length), (10, .ptr 2 6 0), (14, .int .i64 (i : Int))], [.live x.c, .live [.nils, .nils, .int .i64 0, .int .i64 0, .bool false, .nils], .live [.sl 5 (i * 4) 4 0 i, .sl 3 (ownF x ow).length 1 0 (ownF x ow).length, .int .i64 0, .int .i64 0, .bool false, .nils], .live (ints (ownF x ow)), .live (ints (S.map (·.oi))), .live (rowsV (R0.take i))]⟩) (fun i => i ≤ S.length) (fun i => S.length - i) (0) ((Gh.virtC 3 0 4 rfl rfl).trans (Gh.to_k [1, 2, 3, 6, 9, 10, 14] [0, 1, 3, 4, 6, 7] (he := by simp [hSl]) (hh := by simp))) (by omega) ?_
      rintro i hi
      have hrl : (rowsV (R0.take i)).length = i * 4 := by rw [lenRwx, List.length_take, hRl, Nat.min_eq_left hi]
      intro K36 hK36
      refine vwp_seq_k fun K37 hK37 => ?_
      refine vwp_sq [1, 2, 3, 6, 9, 10, 14] fun K38 hK38 => vwp_region hT ?_
      simp
      refine hK38 _ ?_
      try clear hK38 K38
      refine vwp_cond (by first | rfl | (simp; rfl)) (fun h8 => ?_) fun h8 => ?_
      · simp -failIfUnchanged at h8; all_goals
       refine vwp_skip ?_
       refine hK37 _ ?_
       try clear hK37 K37
       refine vwp_seq_k fun K39 hK39 => ?_
       refine vwp_block ?_
       refine vwp_sq [1, 2, 3, 6, 9, 10, 14] fun K40 hK40 => vwp_region hT ?_
       simp
       refine hK40 _ ?_
       try clear hK40 K40
       refine vwp_block ?_
       obtain ⟨s, hs1⟩ := getI (l := S) (i := i) (by omega)
       have hsm : s ∈ ownS x ow := hSp.mem_iff.1 (List.mem_of_getElem? hs1)
       have hall := hitD_all hnd hsm
       have hso1 : (S.map (·.oi))[i]? = some s.oi := by rw [List.getElem?_map, hs1]; rfl
       refine vwp_loop_s (fun j : Nat => ⟨[(1, .int .i64 ow), (2, .int .i64 po), (3, .ptr 0 6 0), (6, .ptr 1 6 0), (9, .sl 4 S.length 1 0 S.length), (10, .ptr 2 6 0), (14, .int .i64 (i : Int)), (15, .int .i64 (j : Int))], [.live x.c, .live [.nils, .nils, .int .i64 0, .int .i64 0, .bool false, .nils], .live [.sl 5 ((R0.take i ++ hitD x (x.ss.take j) s.oi).length * 4) 4 0 (R0.take i ++ hitD x (x.ss.take j) s.oi).length, .sl 3 (ownF x ow).length 1 0 (ownF x ow).length, .int .i64 0, .int .i64 0, .bool false, .nils], .live (ints (ownF x ow)), .live (ints (S.map (·.oi))), .live (rowsV (R0.take i ++ hitD x (x.ss.take j) s.oi))]⟩) (fun j => j ≤ x.ss.length) (fun j => x.ss.length - j) (0) (Gh.to_k [1, 2, 3, 6, 9, 10, 14, 15] [0, 1, 2, 3, 4, 5] (he := by simp) (hh := by simp [hitD, hRl] <;> omega)) (by omega) ?_
       rintro j hj
       have hrA := rowsA_le (x := x) (R := R0) (k := i) (l := x.ss.take j) (id := s.oi) (by omega)
       rw [List.length_take, Nat.min_eq_left hj] at hrA
       obtain ⟨RR, hRR⟩ : ∃ RR, RR = R0.take i ++ hitD x (x.ss.take j) s.oi := ⟨_, rfl⟩
       rw [← hRR] at hrA ⊢
       have hrl2 := lenRwx RR
       intro K41 hK41
       refine vwp_seq_k fun K42 hK42 => ?_
       refine vwp_sq [1, 2, 3, 6, 9, 10, 14, 15] fun K43 hK43 => vwp_region hT ?_
       simp
       refine hK43 _ ?_
       try clear hK43 K43
       refine vwp_cond (by first | rfl | (simp; rfl)) (fun h9 => ?_) fun h9 => ?_
       · simp -failIfUnchanged at h9; all_goals
        refine vwp_skip ?_
        refine hK42 _ ?_
        try clear hK42 K42
        refine vwp_seq_k fun K44 hK44 => ?_
        refine vwp_block ?_
        obtain ⟨y, hy1⟩ := getI (l := x.ss) (i := j) (by omega)
        obtain ⟨hg0, hg1, hg2, hg3⟩ := getStp hy1
        have hrow := rowStp hy1
        have hlen := lenStp x.ss
        have li : j * 4 + 3 < x.ss.length * 4 := by omega
        have hit := hitD_take (x := x) hy1 s.oi
        have hsx : S[i] = s := (List.getElem?_eq_some_iff.1 hs1).2
        refine vwp_sq [1, 2, 3, 6, 9, 10, 14, 15] fun K45 hK45 => vwp_still hT hm (by kernel_rfl) ?_
        simp [hg0, hlen, hso1, hs1, hsx]
        repeat refine ⟨by first | assumption | omega | (intros; omega), ?_⟩
        refine hK45 _ ?_
        try clear hK45 K45
        refine vwp_cond (by first | rfl | (simp; rfl)) (fun h10 => ?_) fun h10 => ?_
        · simp -failIfUnchanged at h10; all_goals
         have q := h10
         have hq2 : y.oi = s.oi := by simpa using q
         have hR2 : R0.take i ++ hitD x (x.ss.take (j + 1)) s.oi = RR ++ [rowD x y] := by rw [hit, if_pos hq2, ← List.append_assoc, ← hRR]
         refine vwp_live [1, 2, 3, 6, 9, 10, 14, 15] (vwp_storm hT hm [.win 0 1, .win 0 1, .win 0 0, .win 0 0, .win 0 0, .pure, .win 0 0, .win 0 0, .mv, .lit, .mv, .win 2 2, .mv] [[], [0], [], [], [3], [], [3, 4, 5], [3, 4, 5, 6], [2, 3, 4, 5, 6, 7], [2, 3, 4, 5, 6, 7, 8], [0, 1, 2, 3, 4, 5, 6, 7, 8, 9], [0, 1, 2, 3, 4, 5, 6, 7, 8, 9, 10], [0, 1, 2, 3, 4, 5, 6, 7, 8, 9, 10, 11]] (by kernel_rfl) ?_)
         simp [hrow, hlen, hrl2, zerosV, spl]
         repeat refine ⟨by first | assumption | omega | (intros; omega), ?_⟩
         refine ⟨.agg (Rwx.cells (rowD x y)), [.live x.c, .live [.nils, .nils, .int .i64 0, .int .i64 0, .bool false, .nils], .live [.sl 5 (RR.length * 4) 4 0 RR.length, .sl 3 (ownF x ow).length 1 0 (ownF x ow).length, .int .i64 0, .int .i64 0, .bool false, .nils], .live (ints (ownF x ow)), .live (ints (S.map (·.oi))), .live (rowsV RR)], fun sl => ?_, ?_⟩
         · refine vcall_z [] (row_spec x hs y) (by rintro r ob' ⟨rfl, rfl⟩; simp) ?_
           rintro r ob' ⟨rfl, rfl⟩
           simp [rowD]
         simp [hrow, hlen, hrl2, zerosV, spl]
         repeat refine ⟨by first | assumption | omega | (intros; omega), ?_⟩
         refine hK44 _ ?_
         try clear hK44 K44
         have w1 : IntKind.i64.wrap ((j : Int) + 1) = j + 1 := w64 (by omega) (by omega)
         refine vwp_live [1, 2, 3, 6, 9, 10, 14, 15] (vwp_region hT ?_)
         simp [w1]
         exact hK41 (j + 1) _ (Gh.to_k [1, 2, 3, 6, 9, 10, 14, 15] [0, 1, 2, 3, 4, 5] (he := by simp) (hh := by rw [hR2]; simp [rowsV_snoc, Nat.add_mul])) (by omega) (by omega)
        · simp -failIfUnchanged at h10; all_goals
         have q := h10
         have hq2 : ¬ y.oi = s.oi := by simpa using q
         have hR2 : R0.take i ++ hitD x (x.ss.take (j + 1)) s.oi = RR := by rw [hit, if_neg hq2, List.append_nil, ← hRR]
         refine vwp_skip ?_
         refine hK44 _ ?_
         try clear hK44 K44
         have w1 : IntKind.i64.wrap ((j : Int) + 1) = j + 1 := w64 (by omega) (by omega)
         refine vwp_live [1, 2, 3, 6, 9, 10, 14, 15] (vwp_region hT ?_)
         simp [w1]
         exact hK41 (j + 1) _ (Gh.to_k [1, 2, 3, 6, 9, 10, 14, 15] [0, 1, 2, 3, 4, 5] (hh := by rw [hR2]; simp)) (by omega) (by omega)
       · simp -failIfUnchanged at h9; all_goals
        have hR3 : RR = R0.take (i + 1) := by
          obtain rfl : j = x.ss.length := by have q := h9; simp -failIfUnchanged at q; omega
          rw [List.take_length, hall] at hRR
          rw [hRR, take_snoc (x := rowP (ownS x ow) s) (by rw [hR0, List.getElem?_map, hs1]; rfl)]
        have hR4 : (R0.take (i + 1)).length = i + 1 := by rw [List.length_take]; omega
        refine vwp_exit ?_
        simp only [inBlk, thenQ, if_true]
        refine hK39 _ ?_
        try clear hK39 K39
        have w1 : IntKind.i64.wrap ((i : Int) + 1) = i + 1 := w64 (by omega) (by omega)
        refine vwp_live [1, 2, 3, 6, 9, 10, 14] (vwp_region hT ?_)
        simp [w1]
        exact hK36 (i + 1) _ (Gh.to_k [1, 2, 3, 6, 9, 10, 14] [0, 1, 2, 3, 4, 5] (he := by rw [hR3, hR4]; simp) (hh := by rw [hR3, hR4]; simp)) (by omega) (by omega)
      · simp -failIfUnchanged at h8; all_goals
       refine vwp_exit ?_
       simp only [inBlk, thenQ, if_true]
       refine hK34 _ ?_
       try clear hK34 K34
       obtain rfl : i = S.length := by omega
       rw [show List.take S.length R0 = R0 from List.take_of_length_le (by omega)]
       refine vwp_sq [1, 2, 3, 6, 10] fun K46 hK46 => vwp_region hT ?_
       simp
       repeat refine ⟨by first | assumption | omega | (intros; omega), ?_⟩
       refine vcall_z [] (rsorted_spec (ownF x ow) (by omega)) (by rintro r ob' ⟨rfl, rfl⟩; simp) ?_
       rintro r ob' ⟨rfl, rfl⟩
       simp
       repeat refine ⟨by first | assumption | omega | (intros; omega), ?_⟩
       refine hK46 _ ?_
       try clear hK46 K46
       refine vwp_seq_k fun K47 hK47 => ?_
       have w5 : IntKind.i64.wrap ((x.ls.length : Int) - 1) = (x.ls.length : Int) - 1 := w64 (by omega) (by omega)
       refine vwp_sq [1, 2, 3, 6, 10] fun K48 hK48 => vwp_region hT ?_
       simp [w5]
       refine hK48 _ ?_
       try clear hK48 K48
       refine vwp_block ?_
       refine vwp_loop_s (fun i : Nat => ⟨[(1, .int .i64 ow), (2, .int .i64 po), (3, .ptr 0 6 0), (6, .ptr 1 6 0), (10, .ptr 2 6 0), (16, .int .i64 ((i : Int) - 1))], [.live x.c, .live [.nils, .nils, .int .i64 0, .int .i64 0, .bool false, .nils], .live [.sl 3 (S.length * 4) 4 0 S.length, .sl 4 (ownF x ow).length 1 0 (ownF x ow).length, .int .i64 (linF (x.ls.drop i) ow).am, .int .i64 (linF (x.ls.drop i) ow).ru, .bool (linF (x.ls.drop i) ow).fe, .nils], .live (rowsV R0), .live (ints (srt (ownF x ow)))]⟩) (fun i => i ≤ x.ls.length) (fun i => i) (x.ls.length) (Gh.to_k [1, 2, 3, 6, 10, 16] [0, 1, 2, 5, 6] (he := by simp) (hh := by simp [linF])) (by omega) ?_
       rintro i hi
       obtain ⟨ln, hln⟩ : ∃ l, l = (linF (x.ls.drop i) ow) := ⟨_, rfl⟩
       rw [← hln]
       intro K49 hK49
       refine vwp_seq_k fun K50 hK50 => ?_
       refine vwp_sq [1, 2, 3, 6, 10, 16] fun K51 hK51 => vwp_region hT ?_
       simp
       refine hK51 _ ?_
       try clear hK51 K51
       refine vwp_cond (by first | rfl | (simp; rfl)) (fun h11 => ?_) fun h11 => ?_
       · simp -failIfUnchanged at h11; all_goals
        have q := h11
        obtain ⟨u, rfl⟩ : ∃ u, i = u + 1 := ⟨i - 1, by simp -failIfUnchanged at q; omega⟩
        obtain ⟨s, hs1⟩ := getI (l := x.ls) (i := u) (by omega)
        obtain ⟨hg0, hg1, hg2, hg3⟩ := getLin hs1
        have hlen := lenLin x.ls
        have li : u * 4 + 3 < x.ls.length * 4 := by omega
        have hu1 : ((u + 1 : Nat) : Int) - 1 = (u : Int) := by omega
        rw [hu1]
        have wu : IntKind.i64.wrap ((u : Int) - 1) = (u : Int) - 1 := w64 (by omega) (by omega)
        have hdr := linF_drop hs1 ow
        refine vwp_skip ?_
        refine hK50 _ ?_
        try clear hK50 K50
        refine vwp_seq_k fun K52 hK52 => ?_
        refine vwp_block ?_
        refine vwp_sq [1, 2, 3, 6, 10, 16] fun K53 hK53 => vwp_region hT ?_
        simp [hg0, hlen]
        repeat refine ⟨by first | assumption | omega | (intros; omega), ?_⟩
        refine hK53 _ ?_
        try clear hK53 K53
        refine vwp_cond (by first | rfl | (simp; rfl)) (fun h12 => ?_) fun h12 => ?_
        · simp -failIfUnchanged at h12; all_goals
         have q := h12
         have hl2 : linF (x.ls.drop u) ow = s := by rw [hdr, if_pos (by simpa using q)]
         refine vwp_sq [1, 2, 3, 6, 10, 16] fun K54 hK54 => vwp_region hT ?_
         simp [hg1, hlen]
         repeat refine ⟨by first | assumption | omega | (intros; omega), ?_⟩
         refine hK54 _ ?_
         try clear hK54 K54
         refine vwp_sq [1, 2, 3, 6, 10, 16] fun K55 hK55 => vwp_region hT ?_
         simp [hg2, hlen]
         repeat refine ⟨by first | assumption | omega | (intros; omega), ?_⟩
         refine hK55 _ ?_
         try clear hK55 K55
         refine vwp_live [1, 2, 3, 6, 10, 16] (vwp_region hT ?_)
         simp [hg3, hlen]
         repeat refine ⟨by first | assumption | omega | (intros; omega), ?_⟩
         refine hK52 _ ?_
         try clear hK52 K52
         refine vwp_live [1, 2, 3, 6, 10, 16] (vwp_region hT ?_)
         simp [wu]
         exact hK49 (u) _ (Gh.to_k [1, 2, 3, 6, 10, 16] [0, 1, 2, 3, 4] (he := by simp) (hh := by simp [hl2])) (by omega) (by omega)
        · simp -failIfUnchanged at h12; all_goals
         have q := h12
         have hl2 : linF (x.ls.drop u) ow = ln := by rw [hdr, if_neg (by simpa using q), hln]
         refine vwp_skip ?_
         refine hK52 _ ?_
         try clear hK52 K52
         refine vwp_live [1, 2, 3, 6, 10, 16] (vwp_region hT ?_)
         simp [wu]
         exact hK49 (u) _ (Gh.to_k [1, 2, 3, 6, 10, 16] [0, 1, 2, 3, 4] (he := by simp) (hh := by simp [hl2])) (by omega) (by omega)
       · simp -failIfUnchanged at h11; all_goals
        obtain rfl : i = 0 := by have q := h11; simp -failIfUnchanged at q; omega
        rw [List.drop_zero, show linF x.ls ow = lineP x ow from rfl] at hln
        refine vwp_exit ?_
        simp only [inBlk, thenQ, if_true]
        refine hK47 _ ?_
        try clear hK47 K47
        refine vwp_cut_s (fun G : List Int => ⟨[(2, .int .i64 po), (3, .ptr 0 6 0), (6, .ptr 1 6 0), (10, .ptr 2 6 0)], [.live x.c, .live [.nils, .nils, .int .i64 0, .int .i64 0, .bool false, .nils], .live [.sl 3 (S.length * 4) 4 0 S.length, .sl 4 (ownF x ow).length 1 0 (ownF x ow).length, .int .i64 ln.am, .int .i64 ln.ru, .bool ln.fe, .sl 5 G.length 1 0 G.length], .live (rowsV R0), .live (ints (srt (ownF x ow))), .live (ints G)]⟩) (fun G => G = (if po % 2 = 1 then [x.tk] else [])) (fun K56 hK56 => ?_) ?_
        · refine vwp_gh (Gh.virtC 2 5 1 rfl rfl) ?_
          simp
          refine vwp_sq [2, 3, 6, 10] fun K57 hK57 => vwp_region hT ?_
          simp [hm1]
          repeat refine ⟨by first | assumption | omega | (intros; omega), ?_⟩
          refine hK57 _ ?_
          try clear hK57 K57
          refine vwp_cond (by first | rfl | (simp; rfl)) (fun h13 => ?_) fun h13 => ?_
          · simp -failIfUnchanged at h13; all_goals
           have q := h13
           have hq2 : po % 2 = 1 := by simpa using q
           have hq3 := hq2
           refine vwp_live [2, 3, 6, 10] (vwp_region hT ?_)
           simp
           repeat refine ⟨by first | assumption | omega | (intros; omega), ?_⟩
           exact hK56 [x.tk] _ (Gh.to_k [2, 3, 6, 10] [0, 1, 2, 3, 4, 5]) (by rw [if_pos hq2])
          · simp -failIfUnchanged at h13; all_goals
           have q := h13
           have hq2 : ¬ (po % 2 = 1) := by simpa using q
           have hq3 := hq2
           refine vwp_skip ?_
           exact hK56 [] _ (Gh.to_k [2, 3, 6, 10] [0, 1, 2, 3, 4, 5]) (by rw [if_neg hq2])
        · rintro G hG
          have hGl : G.length ≤ 4 := by
            have e1 := ite_len (po % 2 = 1) x.tk
            have e2 := ite_len (po / 2 % 2 = 1) x.co
            have e3 := ite_len (po / 4 % 2 = 1) x.bo
            have e4 := ite_len (po / 8 % 2 = 1) (x.ss.length : Int)
            rw [hG]; repeat rw [List.length_append]
            omega
          refine vwp_cut_s (fun G : List Int => ⟨[(2, .int .i64 po), (3, .ptr 0 6 0), (6, .ptr 1 6 0), (10, .ptr 2 6 0)], [.live x.c, .live [.nils, .nils, .int .i64 0, .int .i64 0, .bool false, .nils], .live [.sl 3 (S.length * 4) 4 0 S.length, .sl 4 (ownF x ow).length 1 0 (ownF x ow).length, .int .i64 ln.am, .int .i64 ln.ru, .bool ln.fe, .sl 5 G.length 1 0 G.length], .live (rowsV R0), .live (ints (srt (ownF x ow))), .live (ints G)]⟩) (fun G => G = (if po % 2 = 1 then [x.tk] else []) ++ (if po / 2 % 2 = 1 then [x.co] else [])) (fun K58 hK58 => ?_) ?_
          · refine vwp_sq [2, 3, 6, 10] fun K59 hK59 => vwp_region hT ?_
            simp [hd2, hm2]
            repeat refine ⟨by first | assumption | omega | (intros; omega), ?_⟩
            refine hK59 _ ?_
            try clear hK59 K59
            refine vwp_cond (by first | rfl | (simp; rfl)) (fun h14 => ?_) fun h14 => ?_
            · simp -failIfUnchanged at h14; all_goals
             have q := h14
             have hq2 : po / 2 % 2 = 1 := by simpa using q
             have hq3 := hq2
             refine vwp_live [2, 3, 6, 10] (vwp_region hT ?_)
             simp
             repeat refine ⟨by first | assumption | omega | (intros; omega), ?_⟩
             exact hK58 (G ++ [x.co]) _ (Gh.to_k [2, 3, 6, 10] [0, 1, 2, 3, 4, 5]) (by rw [hG, if_pos hq3])
            · simp -failIfUnchanged at h14; all_goals
             have q := h14
             have hq2 : ¬ (po / 2 % 2 = 1) := by simpa using q
             have hq3 := hq2
             refine vwp_skip ?_
             exact hK58 G _ (Gh.to_k [2, 3, 6, 10] [0, 1, 2, 3, 4, 5]) (by rw [hG, if_neg hq3, List.append_nil])
          · rintro G hG
            have hGl : G.length ≤ 4 := by
              have e1 := ite_len (po % 2 = 1) x.tk
              have e2 := ite_len (po / 2 % 2 = 1) x.co
              have e3 := ite_len (po / 4 % 2 = 1) x.bo
              have e4 := ite_len (po / 8 % 2 = 1) (x.ss.length : Int)
              rw [hG]; repeat rw [List.length_append]
              omega
            refine vwp_cut_s (fun G : List Int => ⟨[(2, .int .i64 po), (3, .ptr 0 6 0), (6, .ptr 1 6 0), (10, .ptr 2 6 0)], [.live x.c, .live [.nils, .nils, .int .i64 0, .int .i64 0, .bool false, .nils], .live [.sl 3 (S.length * 4) 4 0 S.length, .sl 4 (ownF x ow).length 1 0 (ownF x ow).length, .int .i64 ln.am, .int .i64 ln.ru, .bool ln.fe, .sl 5 G.length 1 0 G.length], .live (rowsV R0), .live (ints (srt (ownF x ow))), .live (ints G)]⟩) (fun G => G = (if po % 2 = 1 then [x.tk] else []) ++ (if po / 2 % 2 = 1 then [x.co] else []) ++ (if po / 4 % 2 = 1 then [x.bo] else [])) (fun K60 hK60 => ?_) ?_
            · refine vwp_sq [2, 3, 6, 10] fun K61 hK61 => vwp_region hT ?_
              simp [hd4, hm4]
              repeat refine ⟨by first | assumption | omega | (intros; omega), ?_⟩
              refine hK61 _ ?_
              try clear hK61 K61
              refine vwp_cond (by first | rfl | (simp; rfl)) (fun h15 => ?_) fun h15 => ?_
              · simp -failIfUnchanged at h15; all_goals
               have q := h15
               have hq2 : po / 4 % 2 = 1 := by simpa using q
               have hq3 := hq2
               refine vwp_live [2, 3, 6, 10] (vwp_region hT ?_)
               simp
               repeat refine ⟨by first | assumption | omega | (intros; omega), ?_⟩
               exact hK60 (G ++ [x.bo]) _ (Gh.to_k [2, 3, 6, 10] [0, 1, 2, 3, 4, 5]) (by rw [hG, if_pos hq3])
              · simp -failIfUnchanged at h15; all_goals
               have q := h15
               have hq2 : ¬ (po / 4 % 2 = 1) := by simpa using q
               have hq3 := hq2
               refine vwp_skip ?_
               exact hK60 G _ (Gh.to_k [2, 3, 6, 10] [0, 1, 2, 3, 4, 5]) (by rw [hG, if_neg hq3, List.append_nil])
            · rintro G hG
              have hGl : G.length ≤ 4 := by
                have e1 := ite_len (po % 2 = 1) x.tk
                have e2 := ite_len (po / 2 % 2 = 1) x.co
                have e3 := ite_len (po / 4 % 2 = 1) x.bo
                have e4 := ite_len (po / 8 % 2 = 1) (x.ss.length : Int)
                rw [hG]; repeat rw [List.length_append]
                omega
              refine vwp_cut_s (fun G : List Int => ⟨[(6, .ptr 1 6 0), (10, .ptr 2 6 0)], [.live x.c, .live [.nils, .nils, .int .i64 0, .int .i64 0, .bool false, .nils], .live [.sl 3 (S.length * 4) 4 0 S.length, .sl 4 (ownF x ow).length 1 0 (ownF x ow).length, .int .i64 ln.am, .int .i64 ln.ru, .bool ln.fe, .sl 5 G.length 1 0 G.length], .live (rowsV R0), .live (ints (srt (ownF x ow))), .live (ints G)]⟩) (fun G => G = (if po % 2 = 1 then [x.tk] else []) ++ (if po / 2 % 2 = 1 then [x.co] else []) ++ (if po / 4 % 2 = 1 then [x.bo] else []) ++ (if po / 8 % 2 = 1 then [(x.ss.length : Int)] else [])) (fun K62 hK62 => ?_) ?_
              · refine vwp_sq [2, 3, 6, 10] fun K63 hK63 => vwp_region hT ?_
                simp [hd8]
                repeat refine ⟨by first | assumption | omega | (intros; omega), ?_⟩
                refine hK63 _ ?_
                try clear hK63 K63
                refine vwp_cond (by first | rfl | (simp; rfl)) (fun h16 => ?_) fun h16 => ?_
                · simp -failIfUnchanged at h16; all_goals
                 have q := h16
                 have hq2 : po / 8 = 1 := by simpa using q
                 have hq3 : po / 8 % 2 = 1 := by omega
                 refine vwp_live [3, 6, 10] (vwp_region hT ?_)
                 simp
                 repeat refine ⟨by first | assumption | omega | (intros; omega), ?_⟩
                 exact hK62 (G ++ [(x.ss.length : Int)]) _ (Gh.to_k [6, 10] [0, 1, 2, 3, 4, 5]) (by rw [hG, if_pos hq3])
                · simp -failIfUnchanged at h16; all_goals
                 have q := h16
                 have hq2 : ¬ (po / 8 = 1) := by simpa using q
                 have hq3 : ¬ po / 8 % 2 = 1 := by omega
                 refine vwp_skip ?_
                 exact hK62 G _ (Gh.to_k [6, 10] [0, 1, 2, 3, 4, 5]) (by rw [hG, if_neg hq3, List.append_nil])
              · rintro G hG
                have hGl : G.length ≤ 4 := by
                  have e1 := ite_len (po % 2 = 1) x.tk
                  have e2 := ite_len (po / 2 % 2 = 1) x.co
                  have e3 := ite_len (po / 4 % 2 = 1) x.bo
                  have e4 := ite_len (po / 8 % 2 = 1) (x.ss.length : Int)
                  rw [hG]; repeat rw [List.length_append]
                  omega
                have hGG : G = grantsP x po := hG
                subst hGG
                have hr1 := lenRwx R0
                rw [hRl] at hr1
                have htk : List.take (S.length * 4) (rowsV R0) = rowsV R0 := List.take_of_length_le (by omega)
                have htf : List.take (ownF x ow).length (ints (srt (ownF x ow))) = ints (srt (ownF x ow)) := List.take_of_length_le (by simp)
                have hw : showP x ow po = (⟨R0, srt (ownF x ow), ln.am, ln.ru, ln.fe, grantsP x po⟩, 0) := by
                  rw [hR0, hS, showP, if_neg (by omega), if_neg (by simpa using hnd), hln]
                refine vwp_sq [6, 10] fun K64 hK64 => vwp_region hT ?_
                simp
                repeat refine ⟨by first | assumption | omega | (intros; omega), ?_⟩
                refine hK64 _ ?_
                try clear hK64 K64
                refine vwp_ret (hR _ _ ?_)
                rw [hw]
                refine ret_gh ((((((Gh.freeze 3 rfl rw_noId).trans (Gh.cellFs 3 1 0 rfl rfl rfl hr1)).trans (Gh.freeze 4 rfl ints_noId)).trans (Gh.cellFs 4 1 1 rfl rfl rfl (by simp))).trans (Gh.freeze 5 rfl ints_noId)).trans (Gh.cellFs 5 1 5 rfl rfl rfl (by simp))) ?_
                simp
                exact retc_only [] ([]) (p := True) (xs := [.agg [.fs S.length (rowsV R0), .fs (ownF x ow).length (ints (srt (ownF x ow))), .int .i64 ln.am, .int .i64 ln.ru, .bool ln.fe, sI (grantsP x po)], .int .i64 0]) (xs' := [.agg [fsV R0, sI (srt (ownF x ow)), .int .i64 ln.am, .int .i64 ln.ru, .bool ln.fe, sI (grantsP x po)], .int .i64 0]) (by simp [htk, htf]) trivial (by simp) (by simp) rfl (by simp) (by simp [hRl]) rfl (by simp) (⟨rfl, rfl⟩)
end Go.Proofs.Ytmpakfpmmkfgpaa
