/- The law LabelTrucks: the walk. -/
import Derived.Test.YtmpakfpmmkfgpaaLbN
namespace Go.Proofs.Ytmpakfpmmkfgpaa
open Go Go.VX Go.RowKit
set_option linter.unusedVariables false
set_option linter.unusedSimpArgs false
set_option maxHeartbeats 20000000
set_option maxRecDepth 100000
theorem showP_small {x : Whl} {ow po : Int} (hx : lrgP x = false) : (showP x ow po).1.small := by
  have h1 : x.ss.length ≤ 60 ∧ x.fs.length ≤ 60 := by
    simp only [lrgP, Bool.or_eq_false_iff, decide_eq_false_iff_not] at hx; omega
  have hz : Vw.zero.small := ⟨by decide, by decide, by decide⟩
  unfold showP
  split
  · exact hz
  split
  · exact hz
  · refine ⟨?_, ?_, ?_⟩
    · show ((srtO (ownS x ow)).map _).length ≤ 60
      rw [List.length_map, (srtO_perm _).length_eq]
      exact Nat.le_trans (ownL_le x.ss ow) h1.1
    · show (srt (ownF x ow)).length ≤ 60
      rw [srt_len]
      exact Nat.le_trans (ownLF_le x.fs ow) h1.2
    · exact Nat.le_trans (grants_le x po) (by omega)

def flipS (b : Int) (s : Stp) : Stp := ⟨s.oi, s.ow, IntKind.i64.wrap (b - s.tr), s.et⟩
def hasW (U : List Lin) (o : Int) : Bool := U.any fun l => l.ow == o
def uqS (U : List Lin) (l : Lin) : List Lin := if hasW U l.ow then U else l :: U
def uq (L : List Lin) : List Lin := L.foldl uqS []
theorem uq_snoc (L : List Lin) (l : Lin) : uq (L ++ [l]) = uqS (uq L) l := by simp [uq]
theorem uq_has (L : List Lin) (o : Int) : hasW (uq L) o = true ↔ o ∈ L.map (·.ow) := by
  induction L using foldl_snoc_ind with
  | h0 => simp [uq, hasW]
  | h1 L l ih =>
    rw [uq_snoc, List.map_append, List.mem_append, ← ih]
    unfold uqS
    split
    · rename_i h
      constructor
      · exact .inl
      · rintro (q | q)
        · exact q
        · simp at q; rw [q]; exact h
    · simp only [hasW, List.any_cons, Bool.or_eq_true, beq_iff_eq, List.map_cons, List.map_nil, List.mem_singleton]
      constructor
      · rintro (q | q)
        · exact .inr q.symm
        · exact .inl q
      · rintro (q | q)
        · exact .inr q
        · exact .inl q.symm
theorem uq_le (L : List Lin) : (uq L).length ≤ L.length := by
  induction L using foldl_snoc_ind with
  | h0 => simp [uq]
  | h1 L l ih => rw [uq_snoc]; unfold uqS; split <;> simp <;> omega
theorem uq_find (L : List Lin) (o : Int) : (uq L).find? (fun l => l.ow == o) = L.find? (fun l => l.ow == o) := by
  induction L using foldl_snoc_ind with
  | h0 => rfl
  | h1 L l ih =>
    rw [uq_snoc, List.find?_append]
    unfold uqS
    split
    · rename_i h
      rw [ih]
      cases hf : L.find? (fun l => l.ow == o) with
      | some a => rfl
      | none =>
        have hno : l.ow ≠ o := by
          intro e
          obtain ⟨a, ha, hb⟩ := List.mem_map.1 ((uq_has L l.ow).1 h)
          have := (List.find?_eq_none.1 hf) a ha
          simp [hb, e] at this
        simp [hno]
    · rename_i h
      by_cases e : l.ow = o
      · rw [List.find?_cons_of_pos (by simpa using e)]
        have : L.find? (fun l => l.ow == o) = none := List.find?_eq_none.2 fun a ha => by
          intro q
          exact h ((uq_has L l.ow).2 (List.mem_map.2 ⟨a, ha, by rw [e]; simpa using q⟩))
        rw [this, List.find?_cons_of_pos (by simpa using e)]; rfl
      · rw [List.find?_cons_of_neg (by simpa using e), ih, List.find?_cons_of_neg (by simpa using e)]
        simp
def turnP (x : Whl) (b : Int) : Whl := ⟨(x.ss.map (flipS b)).reverse, x.fs.reverse, uq x.ls, x.co, x.bo, x.tk⟩
def inR (s : Stp) : Prop := -9223372036854775808 ≤ s.tr ∧ s.tr ≤ 9223372036854775807
theorem flip_inj {b : Int} {s t : Stp} (hs : inR s) (ht : inR t) : (flipS b s).tr = (flipS b t).tr ↔ s.tr = t.tr := by
  unfold inR at hs ht
  simp only [flipS, IntKind.wrap_i64]
  omega
theorem leastP_flip {b : Int} {L : List Stp} (hL : ∀ s ∈ L, inR s) {y : Stp} (hy : inR y) : leastP (L.map (flipS b)) (flipS b y).tr = leastP L y.tr := by
  unfold leastP
  rw [List.filter_map, List.map_map]
  have : L.filter ((fun z => z.tr == (flipS b y).tr) ∘ flipS b) = L.filter (fun z => z.tr == y.tr) := List.filter_congr fun z hz => by
    rw [Bool.eq_iff_iff]; simp only [Function.comp, beq_iff_eq]; exact flip_inj (hL z hz) hy
  rw [this]; rfl
theorem rowP_flip {b : Int} {L : List Stp} (hL : ∀ s ∈ L, inR s) {s : Stp} (hs : inR s) : rowP (L.map (flipS b)) (flipS b s) = rowP L s := by
  have h1 : (L.map (flipS b)).countP (aB (L.map (flipS b)) (flipS b s)) = L.countP (aB L s) := by
    rw [List.countP_map]
    refine List.countP_congr fun y hy => ?_
    have e1 := leastP_flip (b := b) hL (hL y hy)
    have e2 := leastP_flip (b := b) hL hs
    simp only [Function.comp, aB, e1, e2, flip_inj (hL y hy) hs]
    exact Iff.rfl
  have h2 : (L.map (flipS b)).countP (pB (flipS b s)) = L.countP (pB s) := by
    rw [List.countP_map]
    refine List.countP_congr fun y hy => ?_
    simp only [Function.comp, pB, flip_inj (hL y hy) hs]
    exact Iff.rfl
  rw [rowP_eq, rowP_eq, h1, h2]; rfl
theorem turn_show {x : Whl} {b ow po : Int} (hx : ∀ s ∈ x.ss, inR s) : showP (turnP x b) ow po = showP x ow po := by
  have hp : (idsP (turnP x b)).Perm (idsP x) := by
    unfold idsP turnP
    dsimp only
    refine List.Perm.append ?_ ((List.reverse_perm _).map _)
    refine ((List.reverse_perm _).map _).trans ?_
    rw [List.map_map]
    exact .refl _
  have hno : (idsP (turnP x b)).Nodup ↔ (idsP x).Nodup := hp.nodup_iff
  have hl : lineP (turnP x b) ow = lineP x ow := by unfold lineP turnP; dsimp only; rw [uq_find]
  have hg : grantsP (turnP x b) po = grantsP x po := by simp only [grantsP, turnP, List.length_reverse, List.length_map]
  have hf : srt (ownF (turnP x b) ow) = srt (ownF x ow) := by
    refine (srt_eq (((srt_perm _)).trans ?_) (srt_sorted _)).symm ▸ rfl
    exact (((List.reverse_perm x.fs).filter _).map _).symm
  have hos : ownS (turnP x b) ow = ((ownS x ow).map (flipS b)).reverse := by
    unfold ownS turnP
    dsimp only
    rw [List.filter_reverse, List.filter_map]; rfl
  unfold showP
  simp only [hno, hl, hg, hf, hos]
  split
  · rfl
  split
  · rfl
  rename_i hn
  have hn := Classical.not_not.1 hn
  have hown := ownS_ids hn ow
  have hL : ∀ s ∈ ownS x ow, inR s := fun s hs => hx s (List.mem_filter.1 hs).1
  have hso : srtO (((ownS x ow).map (flipS b)).reverse) = (srtO (ownS x ow)).map (flipS b) := by
    refine (srtO_unique ?_ ?_ ?_).symm
    · have : (((ownS x ow).map (flipS b)).reverse.map (·.oi)).Perm ((ownS x ow).map (·.oi)) := by
        refine ((List.reverse_perm _).map _).trans ?_
        rw [List.map_map]
        exact .refl _
      exact this.nodup_iff.2 hown
    · exact ((srtO_perm _).map _).trans (List.reverse_perm _).symm
    · rw [List.pairwise_map]
      exact (srtO_le (ownS x ow)).imp fun h => cmpN_le.2 h
  rw [hso, List.map_map]
  have : (srtO (ownS x ow)).map (rowP ((ownS x ow).map (flipS b)).reverse ∘ flipS b) = (srtO (ownS x ow)).map (rowP (ownS x ow)) := by
    refine List.map_congr_left fun s hs => ?_
    have hs2 := (srtO_perm _).mem_iff.1 hs
    show rowP _ (flipS b s) = _
    rw [rowP_perm (List.reverse_perm _), rowP_flip hL (hL s hs2)]
  rw [this]

structure KU where (i : Nat) (K : List Int) (bs : List Nat) (ck : Nat)
theorem law_ltrucks (x : Whl) (ow po b : Int) (hxr : ∀ s ∈ x.ss, inR s) : VC P 5 [.agg x.c, .int .i64 ow, .int .i64 po, .int .i64 b] [] (fun r ob' => r = .bool true ∧ ob' = []) := by
  refine VC_of_vwp_k ent_5 Try.func5 rfl (by simp) fun R hR => ?_
  refine vwp_sq [0, 1, 2, 3] fun K1 hK1 => vwp_region hT ?_
  simp
  refine hK1 _ ?_
  try clear hK1 K1
  refine vwp_seq_k fun K2 hK2 => ?_
  refine vwp_sq [1, 2, 3, 4] fun K3 hK3 => vwp_region hT ?_
  simp
  refine vcall_k [] (awake17) ?_
  rintro r ob' ⟨rfl, rfl⟩
  simp
  refine hK3 _ ?_
  try clear hK3 K3
  refine vwp_cond (by first | rfl | (simp; rfl)) (fun h1 => ?_) fun h1 => ?_
  · simp -failIfUnchanged at h1; all_goals
   refine vwp_seq_k fun K4 hK4 => ?_
   simp_all
  · simp -failIfUnchanged at h1; all_goals
   refine vwp_skip ?_
   refine hK2 _ ?_
   try clear hK2 K2
   refine vwp_seq_k fun K5 hK5 => ?_
   refine vwp_seq_k fun K6 hK6 => ?_
   rcases hx : lrgP x with _ | _
   · have hb : x.ss.length ≤ 60 ∧ x.fs.length ≤ 60 ∧ x.ls.length ≤ 60 := by
       simp only [lrgP, Bool.or_eq_false_iff, decide_eq_false_iff_not] at hx; omega
     refine vwp_live [1, 2, 3, 4] (vwp_region hT ?_)
     simp [hx]
     refine vcall_z [] (large_spec x) (by rw [hx]; rintro r ob' ⟨rfl, rfl⟩; simp) ?_
     rw [hx]
     rintro r ob' ⟨rfl, rfl⟩
     simp [hx]
     refine hK6 _ ?_
     try clear hK6 K6
     refine vwp_cond (by first | rfl | (simp; rfl)) (fun h2 => ?_) fun h2 => ?_
     · simp -failIfUnchanged at h2; all_goals
      refine vwp_seq_k fun K7 hK7 => ?_
      simp_all
     · simp -failIfUnchanged at h2; all_goals
      refine vwp_skip ?_
      refine hK5 _ ?_
      try clear hK5 K5
      refine vwp_sq [1, 2, 3, 4] fun K8 hK8 => vwp_region hT ?_
      simp
      repeat refine ⟨by first | assumption | omega | (intros; omega), ?_⟩
      refine hK8 _ ?_
      try clear hK8 K8
      refine vwp_seq_k fun K9 hK9 => ?_
      have w5 : IntKind.i64.wrap ((x.ss.length : Int) - 1) = (x.ss.length : Int) - 1 := w64 (by omega) (by omega)
      have w6 : IntKind.i64.wrap ((x.fs.length : Int) - 1) = (x.fs.length : Int) - 1 := w64 (by omega) (by omega)
      refine vwp_sq [1, 2, 3, 4, 9] fun K10 hK10 => vwp_region hT ?_
      simp [w5]
      refine hK10 _ ?_
      try clear hK10 K10
      refine vwp_block ?_
      obtain ⟨M, hM⟩ : ∃ M, M = x.ss.map (flipS b) := ⟨_, rfl⟩
      have hMl : M.length = x.ss.length := by rw [hM]; simp
      have hMd0 : M.drop x.ss.length = [] := List.drop_of_length_le (by omega)
      refine vwp_loop_s (fun i : Nat => ⟨[(1, .int .i64 ow), (2, .int .i64 po), (3, .int .i64 b), (4, .ptr 0 6 0), (9, .ptr 1 6 0), (10, .int .i64 ((i : Int) - 1))], [.live x.c, .live [.sl 2 ((x.ss.length - i) * 4) 4 0 (x.ss.length - i), .nils, .nils, .int .i64 x.co, .int .i64 x.bo, .int .i64 x.tk], .live (rowsV ((M.drop i).reverse))]⟩) (fun i => i ≤ x.ss.length) (fun i => i) (x.ss.length) ((Gh.virtC 1 0 4 rfl rfl).trans (Gh.to_k [1, 2, 3, 4, 9, 10] [0, 1, 2] (he := by simp) (hh := by simp [hMd0]))) (by omega) ?_
      rintro i hi
      have hol : ((M.drop i).reverse).length = x.ss.length - i := by simp [hMl]
      have hrl := lenStp ((M.drop i).reverse)
      rw [hol] at hrl
      intro K11 hK11
      refine vwp_seq_k fun K12 hK12 => ?_
      refine vwp_sq [1, 2, 3, 4, 9, 10] fun K13 hK13 => vwp_region hT ?_
      simp
      refine hK13 _ ?_
      try clear hK13 K13
      refine vwp_cond (by first | rfl | (simp; rfl)) (fun h3 => ?_) fun h3 => ?_
      · simp -failIfUnchanged at h3; all_goals
       have q := h3
       obtain ⟨u, rfl⟩ : ∃ u, i = u + 1 := ⟨i - 1, by simp -failIfUnchanged at q; omega⟩
       obtain ⟨s, hs1⟩ := getI (l := x.ss) (i := u) (by omega)
       have hrow := rowStp hs1
       have hlen := lenStp x.ss
       have hu1 : ((u + 1 : Nat) : Int) - 1 = (u : Int) := by omega
       rw [hu1]
       have wu : IntKind.i64.wrap ((u : Int) - 1) = (u : Int) - 1 := w64 (by omega) (by omega)
       have hnx : x.ss.length - (u + 1) + 1 = x.ss.length - u := by omega
       have hdp : x.ss.drop u = s :: x.ss.drop (u + 1) := by rw [List.drop_eq_getElem_cons (by omega : u < x.ss.length), (List.getElem?_eq_some_iff.1 hs1).2]
       have hM1 : M[u]? = some (flipS b s) := by rw [hM, List.getElem?_map, hs1]; rfl
       have hMd : M.drop u = flipS b s :: M.drop (u + 1) := by rw [List.drop_eq_getElem_cons (by omega : u < M.length), (List.getElem?_eq_some_iff.1 hM1).2]
       have hrw : rowsV ((M.drop (u + 1)).reverse) ++ [V.int .i64 s.oi, V.int .i64 s.ow, V.int .i64 (IntKind.i64.wrap (b - s.tr)), V.int .i64 s.et] = rowsV ((M.drop u).reverse) := by
         rw [hMd, List.reverse_cons, rowsV_snoc]; rfl
       refine vwp_skip ?_
       refine hK12 _ ?_
       try clear hK12 K12
       refine vwp_seq_k fun K14 hK14 => ?_
       refine vwp_block ?_
       refine vwp_sq [1, 2, 3, 4, 9, 10] fun K15 hK15 => vwp_region hT ?_
       simp [hrow, hlen]
       repeat refine ⟨by first | assumption | omega | (intros; omega), ?_⟩
       refine hK15 _ ?_
       try clear hK15 K15
       refine vwp_sq [1, 2, 3, 4, 9, 10, 11] fun K16 hK16 => vwp_region hT ?_
       simp
       repeat refine ⟨by first | assumption | omega | (intros; omega), ?_⟩
       refine hK16 _ ?_
       try clear hK16 K16
       refine vwp_live [1, 2, 3, 4, 9, 10, 11] (vwp_region hT ?_)
       simp [hrl, zerosV, spl]
       repeat refine ⟨by first | assumption | omega | (intros; omega), ?_⟩
       refine hK14 _ ?_
       try clear hK14 K14
       refine vwp_live [1, 2, 3, 4, 9, 10] (vwp_region hT ?_)
       simp [wu]
       exact hK11 (u) _ (Gh.to_k [1, 2, 3, 4, 9, 10] [0, 1, 2] (he := by simp) (hh := by simp [hnx, hrw])) (by omega) (by omega)
      · simp -failIfUnchanged at h3; all_goals
       obtain rfl : i = 0 := by have q := h3; simp -failIfUnchanged at q; omega
       refine vwp_exit ?_
       simp only [inBlk, thenQ, if_true]
       refine hK9 _ ?_
       try clear hK9 K9
       refine vwp_seq_k fun K17 hK17 => ?_
       have hss : (turnP x b).ss = M.reverse := by simp [turnP, hM]
       rw [List.drop_zero, ← hss, Nat.sub_zero] at hrl
       rw [List.drop_zero, ← hss, Nat.sub_zero]
       have hsl : (turnP x b).ss.length = x.ss.length := by simp [turnP]
       have htk : List.take (x.ss.length * 4) (rowsV (turnP x b).ss) = rowsV (turnP x b).ss := List.take_of_length_le (by omega)
       refine vwp_gh ((Gh.freeze 2 rfl stp_noId).trans (Gh.cellFs 2 1 0 rfl rfl rfl hrl)) ?_
       simp [htk]
       rw [← hsl]
       refine vwp_sq [1, 2, 4, 9] fun K18 hK18 => vwp_region hT ?_
       simp [w6]
       refine hK18 _ ?_
       try clear hK18 K18
       refine vwp_block ?_
       skip
       refine vwp_loop_s (fun i : Nat => ⟨[(1, .int .i64 ow), (2, .int .i64 po), (4, .ptr 0 6 0), (9, .ptr 1 6 0), (12, .int .i64 ((i : Int) - 1))], [.live x.c, .live [fsV (turnP x b).ss, .sl 2 ((x.fs.length - i) * 2) 2 0 (x.fs.length - i), .nils, .int .i64 x.co, .int .i64 x.bo, .int .i64 x.tk], .live (rowsV ((x.fs.drop i).reverse))]⟩) (fun i => i ≤ x.fs.length) (fun i => i) (x.fs.length) ((Gh.virtC 1 1 2 rfl rfl).trans (Gh.to_k [1, 2, 4, 9, 12] [0, 1, 3] (he := by simp) (hh := by simp))) (by omega) ?_
       rintro i hi
       have hol : ((x.fs.drop i).reverse).length = x.fs.length - i := by simp [hMl]
       have hrl := lenLft ((x.fs.drop i).reverse)
       rw [hol] at hrl
       intro K19 hK19
       refine vwp_seq_k fun K20 hK20 => ?_
       refine vwp_sq [1, 2, 4, 9, 12] fun K21 hK21 => vwp_region hT ?_
       simp
       refine hK21 _ ?_
       try clear hK21 K21
       refine vwp_cond (by first | rfl | (simp; rfl)) (fun h4 => ?_) fun h4 => ?_
       · simp -failIfUnchanged at h4; all_goals
        have q := h4
        obtain ⟨u, rfl⟩ : ∃ u, i = u + 1 := ⟨i - 1, by simp -failIfUnchanged at q; omega⟩
        obtain ⟨s, hs1⟩ := getI (l := x.fs) (i := u) (by omega)
        have hrow := rowLft hs1
        have hlen := lenLft x.fs
        have hu1 : ((u + 1 : Nat) : Int) - 1 = (u : Int) := by omega
        rw [hu1]
        have wu : IntKind.i64.wrap ((u : Int) - 1) = (u : Int) - 1 := w64 (by omega) (by omega)
        have hnx : x.fs.length - (u + 1) + 1 = x.fs.length - u := by omega
        have hdp : x.fs.drop u = s :: x.fs.drop (u + 1) := by rw [List.drop_eq_getElem_cons (by omega : u < x.fs.length), (List.getElem?_eq_some_iff.1 hs1).2]
        have hrw : rowsV ((x.fs.drop (u + 1)).reverse) ++ [V.int .i64 s.oi, V.int .i64 s.ow] = rowsV ((x.fs.drop u).reverse) := by
          rw [hdp, List.reverse_cons, rowsV_snoc]; rfl
        refine vwp_skip ?_
        refine hK20 _ ?_
        try clear hK20 K20
        refine vwp_seq_k fun K22 hK22 => ?_
        refine vwp_block ?_
        refine vwp_live [1, 2, 4, 9, 12] (vwp_storm hT hm [.win 0 0, .win 0 0, .win 0 0, .win 0 0, .pure, .win 0 0, .win 0 0, .lit, .mv, .win 1 1, .mv] [[], [0], [], [2], [], [2, 3, 4], [2, 3, 4, 5], [2, 3, 4, 5, 6], [0, 1, 2, 3, 4, 5, 6, 7], [0, 1, 2, 3, 4, 5, 6, 7, 8], [0, 1, 2, 3, 4, 5, 6, 7, 8, 9]] (by kernel_rfl) ?_)
        simp [hrow, hlen, hrl, zerosV, spl]
        repeat refine ⟨by first | assumption | omega | (intros; omega), ?_⟩
        refine hK22 _ ?_
        try clear hK22 K22
        refine vwp_live [1, 2, 4, 9, 12] (vwp_region hT ?_)
        simp [wu]
        exact hK19 (u) _ (Gh.to_k [1, 2, 4, 9, 12] [0, 1, 2] (he := by simp) (hh := by simp [hnx, hrw])) (by omega) (by omega)
       · simp -failIfUnchanged at h4; all_goals
        obtain rfl : i = 0 := by have q := h4; simp -failIfUnchanged at q; omega
        refine vwp_exit ?_
        simp only [inBlk, thenQ, if_true]
        refine hK17 _ ?_
        try clear hK17 K17
        rw [List.drop_zero, Nat.sub_zero] at hrl
        rw [List.drop_zero, Nat.sub_zero]
        have hfl : x.fs.reverse.length = x.fs.length := by simp
        have htk : List.take (x.fs.length * 2) (rowsV x.fs.reverse) = rowsV x.fs.reverse := List.take_of_length_le (by omega)
        refine vwp_gh ((Gh.freeze 2 rfl lft_noId).trans (Gh.cellFs 2 1 1 rfl rfl rfl hrl)) ?_
        simp [htk]
        rw [← hfl]
        refine vwp_sq [1, 2, 4, 9] fun K23 hK23 => vwp_region hT ?_
        simp
        refine hK23 _ ?_
        try clear hK23 K23
        refine vwp_seq_k fun K24 hK24 => ?_
        refine vwp_sq [1, 2, 4, 9, 13] fun K25 hK25 => vwp_region hT ?_
        simp
        refine hK25 _ ?_
        try clear hK25 K25
        refine vwp_block ?_
        refine vwp_loop_s (fun u : KU => ⟨[(1, .int .i64 ow), (2, .int .i64 po), (4, .ptr 0 6 0), (9, .ptr 1 6 0), (13, .mp 2), (75, fsV x.ls), (76, .int .i64 x.ls.length), (77, .int .i64 (u.i : Int))], [.live x.c, .live [fsV (turnP x b).ss, fsV x.fs.reverse, .sl 3 ((uq (x.ls.take u.i)).length * 4) 4 0 (uq (x.ls.take u.i)).length, .int .i64 x.co, .int .i64 x.bo, .int .i64 x.tk], .map (setE u.K) u.bs u.ck, .live (rowsV (uq (x.ls.take u.i)))]⟩) (fun u => u.i ≤ x.ls.length ∧ SetOf ((x.ls.take u.i).map (·.ow)) u.K) (fun u => x.ls.length - u.i) (⟨0, [], [], 0⟩) ((Gh.virtC 1 2 4 rfl rfl).trans (Gh.to_k [1, 2, 4, 9, 13, 75, 76, 77] [0, 1, 3, 4] (he := by simp) (hh := by simp [uq]))) (⟨by simp, SetOf.nil⟩) ?_
        rintro ⟨i, K, bs, ck⟩ ⟨hi, hK⟩
        dsimp only at hi hK ⊢
        have hul := uq_le (x.ls.take i)
        rw [List.length_take, Nat.min_eq_left hi] at hul
        obtain ⟨U, hU⟩ : ∃ U, U = uq (x.ls.take i) := ⟨_, rfl⟩
        rw [← hU] at hul ⊢
        have hrl := lenLin U
        intro K26 hK26
        refine vwp_sq [1, 2, 4, 9, 13, 75, 76, 77] fun K27 hK27 => vwp_region hT ?_
        simp
        refine hK27 _ ?_
        try clear hK27 K27
        refine vwp_seq_k fun K28 hK28 => ?_
        refine vwp_cond (by first | rfl | (simp; rfl)) (fun h5 => ?_) fun h5 => ?_
        · simp -failIfUnchanged at h5; all_goals
         refine vwp_skip ?_
         refine hK28 _ ?_
         try clear hK28 K28
         refine vwp_seq_k fun K29 hK29 => ?_
         refine vwp_block ?_
         obtain ⟨s, hs1⟩ := getI (l := x.ls) (i := i) (by omega)
         have hrow := rowLin hs1
         have hlen := lenLin x.ls
         have htk : (x.ls.take (i + 1)).map (·.ow) = (x.ls.take i).map (·.ow) ++ [s.ow] := by rw [take_snoc hs1]; simp
         have hu2 : uq (x.ls.take (i + 1)) = uqS U s := by rw [take_snoc hs1, uq_snoc, ← hU]
         have hhas := uq_has (x.ls.take i) s.ow
         rw [← hU, ← hK.mem] at hhas
         have htU : List.take (U.length * 4) (rowsV U) = rowsV U := List.take_of_length_le (by omega)
         refine vwp_sq [1, 2, 4, 9, 13, 75, 76, 77] fun K30 hK30 => vwp_region hT ?_
         simp [hrow, hlen]
         repeat refine ⟨by first | assumption | omega | (intros; omega), ?_⟩
         refine hK30 _ ?_
         try clear hK30 K30
         refine vwp_seq_k fun K31 hK31 => ?_
         refine vwp_seq_k fun K32 hK32 => ?_
         rcases vfind_set s.ow K 0 with ⟨hnin, hv⟩ | ⟨p, hp, hv⟩
         · have hu3 : uqS U s = s :: U := if_neg (fun h => hnin (hhas.1 h))
           refine vwp_live [1, 2, 4, 9, 13, 15, 75, 76, 77] (vwp_region hT ?_)
           simp [hv]
           repeat refine ⟨by first | assumption | omega | (intros; omega), ?_⟩
           refine hK32 _ ?_
           try clear hK32 K32
           refine vwp_cond (by first | rfl | (simp; rfl)) (fun h6 => ?_) fun h6 => ?_
           · simp -failIfUnchanged at h6; all_goals
            refine vwp_live [1, 2, 4, 9, 13, 15, 75, 76, 77] (vwp_region hT ?_)
            simp [hrl, zerosV, spl, htU]
            repeat refine ⟨by first | assumption | omega | (intros; omega), ?_⟩
            refine hK31 _ ?_
            try clear hK31 K31
            refine vwp_live [1, 2, 4, 9, 13, 15, 75, 76, 77] (vwp_region hT ?_)
            simp [hv]
            repeat refine ⟨by first | assumption | omega | (intros; omega), ?_⟩
            refine hK29 _ ?_
            try clear hK29 K29
            have w1 : IntKind.i64.wrap ((i : Int) + 1) = i + 1 := w64 (by omega) (by omega)
            refine vwp_live [1, 2, 4, 9, 13, 75, 76, 77] (vwp_region hT ?_)
            simp [w1]
            exact hK26 ⟨i + 1, K ++ [s.ow], bs ++ [ck], ck + 1⟩ _ (Gh.to_k [1, 2, 4, 9, 13, 75, 76, 77] [0, 1, 2, 5] (he := by simp) (hh := by simp [rnO_set1, hu2, hu3, rowsV_cons, Nat.add_comm])) ⟨by dsimp only; omega, by dsimp only; rw [htk]; exact hK.more hnin⟩ (by dsimp only; omega)
           · simp -failIfUnchanged at h6; all_goals
            refine vwp_skip ?_
            refine hK31 _ ?_
            try clear hK31 K31
            simp_all
         · have hmo := set_modify K p
           have hin := List.mem_of_getElem? hp
           have hu3 : uqS U s = U := if_pos (hhas.2 hin)
           refine vwp_live [1, 2, 4, 9, 13, 15, 75, 76, 77] (vwp_region hT ?_)
           simp [hv]
           repeat refine ⟨by first | assumption | omega | (intros; omega), ?_⟩
           refine hK32 _ ?_
           try clear hK32 K32
           refine vwp_cond (by first | rfl | (simp; rfl)) (fun h7 => ?_) fun h7 => ?_
           · simp -failIfUnchanged at h7; all_goals
            simp_all
           · simp -failIfUnchanged at h7; all_goals
            refine vwp_skip ?_
            refine hK31 _ ?_
            try clear hK31 K31
            refine vwp_live [1, 2, 4, 9, 13, 15, 75, 76, 77] (vwp_region hT ?_)
            simp [hv, hmo, Nat.zero_add]
            repeat refine ⟨by first | assumption | omega | (intros; omega), ?_⟩
            refine hK29 _ ?_
            try clear hK29 K29
            have w1 : IntKind.i64.wrap ((i : Int) + 1) = i + 1 := w64 (by omega) (by omega)
            refine vwp_live [1, 2, 4, 9, 13, 75, 76, 77] (vwp_region hT ?_)
            simp [w1]
            exact hK26 ⟨i + 1, K, bs, ck⟩ _ (Gh.to_k [1, 2, 4, 9, 13, 75, 76, 77] [0, 1, 2, 3] (he := by simp) (hh := by simp [hu2, hu3])) ⟨by dsimp only; omega, by dsimp only; rw [htk]; exact hK.have hin⟩ (by dsimp only; omega)
        · simp -failIfUnchanged at h5; all_goals
         refine vwp_exit ?_
         simp only [inBlk, thenQ, if_true]
         refine hK24 _ ?_
         try clear hK24 K24
         obtain rfl : i = x.ls.length := by omega
         rw [List.take_length] at hU
         subst hU
         have htU : List.take ((uq x.ls).length * 4) (rowsV (uq x.ls)) = rowsV (uq x.ls) := List.take_of_length_le (by omega)
         refine vwp_gh ((Gh.freeze 3 rfl lin_noId).trans (Gh.cellFs 3 1 2 rfl rfl rfl hrl)) ?_
         simp [htU]
         obtain ⟨V0, e, hV⟩ : ∃ V0 e, showP x ow po = (V0, e) := ⟨_, _, rfl⟩
         have hVs : V0.small := by have := showP_small (ow := ow) (po := po) hx; rwa [hV] at this
         refine vwp_sq [1, 2, 4, 9] fun K33 hK33 => vwp_region hT ?_
         simp
         repeat refine ⟨by first | assumption | omega | (intros; omega), ?_⟩
         refine vcall_k [] (show_spec x ow po (by omega) (by omega) (by omega)) ?_
         rw [hV]
         rintro r ob' ⟨rfl, rfl⟩
         simp
         repeat refine ⟨by first | assumption | omega | (intros; omega), ?_⟩
         refine hK33 _ ?_
         try clear hK33 K33
         refine vwp_sq [1, 2, 9, 16, 17] fun K34 hK34 => vwp_region hT ?_
         simp
         repeat refine ⟨by first | assumption | omega | (intros; omega), ?_⟩
         refine vcall_k [] (show_spec (turnP x b) ow po (by omega) (by simp [turnP]; omega) (by simp [turnP]; omega)) ?_ (ha := by simp [turnP])
         rw [turn_show hxr, hV]
         rintro r ob' ⟨rfl, rfl⟩
         simp
         repeat refine ⟨by first | assumption | omega | (intros; omega), ?_⟩
         refine hK34 _ ?_
         try clear hK34 K34
         refine vwp_sq [16, 17, 18, 19] fun K35 hK35 => vwp_region hT ?_
         simp
         refine vcall_z [] (lsame_spec V0 V0 ⟨by have := hVs.1; omega, by have := hVs.2.1; omega, by have := hVs.2.2; omega⟩ ⟨by have := hVs.1; omega, by have := hVs.2.1; omega, by have := hVs.2.2; omega⟩) (by rintro r ob' ⟨rfl, rfl⟩; simp) ?_
         rintro r ob' ⟨rfl, rfl⟩
         simp
         refine hK35 _ ?_
         try clear hK35 K35
         refine vwp_ret (hR _ _ ?_)
         exact ret_k [8] [] ([]) (.bool true) (⟨rfl, rfl⟩)
   · refine vwp_live [1, 2, 3, 4] (vwp_region hT ?_)
     simp [hx]
     refine vcall_z [] (large_spec x) (by rw [hx]; rintro r ob' ⟨rfl, rfl⟩; simp) ?_
     rw [hx]
     rintro r ob' ⟨rfl, rfl⟩
     simp [hx]
     refine hK6 _ ?_
     try clear hK6 K6
     refine vwp_cond (by first | rfl | (simp; rfl)) (fun h8 => ?_) fun h8 => ?_
     · simp -failIfUnchanged at h8; all_goals
      refine vwp_sq [] fun K36 hK36 => vwp_region hT ?_
      simp
      refine hK36 _ ?_
      try clear hK36 K36
      refine vwp_ret (hR _ _ ?_)
      exact ret_k [8] [] ([]) (.bool true) (⟨rfl, rfl⟩)
     · simp -failIfUnchanged at h8; all_goals
      refine vwp_skip ?_
      refine hK5 _ ?_
      try clear hK5 K5
      refine vwp_seq_k fun K37 hK37 => ?_
      simp_all
end Go.Proofs.Ytmpakfpmmkfgpaa
