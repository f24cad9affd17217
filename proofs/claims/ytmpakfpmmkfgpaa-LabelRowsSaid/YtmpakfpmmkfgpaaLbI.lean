/- A row as the document says: the walk. -/
import Derived.Test.YtmpakfpmmkfgpaaLbH
namespace Go.Proofs.Ytmpakfpmmkfgpaa
open Go Go.VX Go.RowKit
set_option linter.unusedVariables false
set_option linter.unusedSimpArgs false
set_option maxHeartbeats 20000000
set_option maxRecDepth 100000
def dupB (l : List Int) : Bool := !decide l.Nodup
/-- Does a number come again at once? -/
def adjB : List Int → Bool
  | a :: b :: r => decide (a = b) || adjB (b :: r)
  | _ => false
theorem adjB_iff : ∀ {l : List Int}, adjB l = true ↔ ∃ (i : Nat) (x : Int), l[i]? = some x ∧ l[i + 1]? = some x
  | [] => by simp [adjB]
  | [a] => by
    simp only [adjB, Bool.false_eq_true, false_iff, not_exists]
    rintro i x ⟨_, h⟩
    simp at h
  | a :: b :: r => by
    simp only [adjB, Bool.or_eq_true, decide_eq_true_eq, adjB_iff (l := b :: r)]
    constructor
    · rintro (rfl | ⟨i, x, h1, h2⟩)
      · exact ⟨0, a, rfl, rfl⟩
      · exact ⟨i + 1, x, by simpa using h1, by simpa using h2⟩
    · rintro ⟨i, x, h1, h2⟩
      cases i with
      | zero => left; simp at h1 h2; rw [h1, h2]
      | succ i => right; exact ⟨i, x, by simpa using h1, by simpa using h2⟩
theorem adjB_sorted : ∀ {l : List Int}, l.Pairwise (· ≤ ·) → adjB l = false → l.Pairwise (· < ·)
  | [], _, _ => by simp
  | [a], _, _ => by simp
  | a :: b :: r, h, h2 => by
    simp only [adjB, Bool.or_eq_false_iff, decide_eq_false_iff_not] at h2
    rw [List.pairwise_cons] at h ⊢
    have ih := adjB_sorted h.2 h2.2
    have hab : a < b := by have := h.1 b (by simp); omega
    refine ⟨fun x hx => ?_, ih⟩
    rcases List.mem_cons.1 hx with rfl | hx
    · exact hab
    · have := (List.pairwise_cons.1 ih).1 x hx; omega
theorem adjB_srt (l : List Int) : adjB (srt l) = dupB l := by
  rw [Bool.eq_iff_iff]
  unfold dupB
  rw [Bool.not_eq_true', decide_eq_false_iff_not]
  constructor
  · intro h hn
    have hn2 : (srt l).Nodup := (srt_perm l).nodup_iff.2 hn
    obtain ⟨i, x, h1, h2⟩ := adjB_iff.1 h
    have := (List.getElem?_inj (l := srt l) (i := i) (j := i + 1) (by exact (List.getElem?_eq_some_iff.1 h1).1) hn2).1 (by rw [h1, h2])
    omega
  · intro hn
    rw [← Bool.not_eq_false]
    intro h
    have := adjB_sorted (srt_sorted l) h
    exact hn ((srt_perm l).nodup_iff.1 (this.imp fun h e => by omega))
theorem adjB_take : ∀ {S : List Int} {i : Nat} {x y : Int}, S[i + 1]? = some x → S[i]? = some y → adjB (S.take (i + 2)) = (adjB (S.take (i + 1)) || (x == y))
  | [], i, x, y, h, _ => by simp at h
  | a :: S, 0, x, y, h1, h2 => by
    simp at h2; subst h2
    cases S with
    | nil => simp at h1
    | cons b S =>
      simp at h1; subst h1
      simp [adjB]
      exact decide_eq_decide.2 ⟨fun e => e.symm, fun e => e.symm⟩
  | a :: S, i + 1, x, y, h1, h2 => by
    have ih := adjB_take (S := S) (i := i) (by simpa using h1) (by simpa using h2)
    cases S with
    | nil => simp at h1
    | cons b S =>
      simp only [List.take_succ_cons, adjB] at ih ⊢
      rw [ih, Bool.or_assoc]

def aB (O : List Stp) (s y : Stp) : Bool := !decide (y.tr = s.tr) && (decide (y.oi = leastP O y.tr) && decide (y.oi < leastP O s.tr))
def pB (s y : Stp) : Bool := decide (y.tr = s.tr) && lexB y s
theorem rowP_eq (O : List Stp) (s : Stp) : rowP O s = ⟨s.oi, 1 + (O.countP (aB O s) : Nat), 1 + (O.countP (pB s) : Nat), s.et⟩ := rfl
theorem countP_one {α : Type} (p : α → Bool) (l : List α) (a : α) : (l ++ [a]).countP p = l.countP p + if p a then 1 else 0 := by rw [List.countP_append, List.countP_singleton]
theorem row_spec (x : Whl) (hs : x.ss.length < 1099511627776) (s : Stp) : VC P 28 [.agg x.c, .agg (Stp.cells s)] [] (fun r ob' => r = .agg (Rwx.cells (rowP (ownL x.ss s.ow) s)) ∧ ob' = []) := by
  refine VC_of_vwp_c hT ent_28 Try.func28 rfl (by simp) fun R hR => ?_
  refine vwp_sq [0, 1] fun K1 hK1 => vwp_region hT ?_
  simp
  refine hK1 _ ?_
  try clear hK1 K1
  refine vwp_sq [2, 3, 4] fun K2 hK2 => vwp_region hT ?_
  simp
  repeat refine ⟨by first | assumption | omega | (intros; omega), ?_⟩
  refine hK2 _ ?_
  try clear hK2 K2
  refine vwp_sq [2, 3, 4, 5] fun K3 hK3 => vwp_region hT ?_
  simp
  refine vcall_z [] (least_spec x hs s.ow s.tr) (by rintro r ob' ⟨rfl, rfl⟩; simp) ?_
  rintro r ob' ⟨rfl, rfl⟩
  simp
  refine hK3 _ ?_
  try clear hK3 K3
  refine vwp_seq_k fun K4 hK4 => ?_
  obtain ⟨O, hO⟩ : ∃ O, O = (ownL x.ss s.ow) := ⟨_, rfl⟩
  rw [← hO]
  refine vwp_sq [2, 3, 4, 5, 6] fun K5 hK5 => vwp_region hT ?_
  simp
  refine hK5 _ ?_
  try clear hK5 K5
  refine vwp_block ?_
  refine vwp_loop_s (fun i : Nat => ⟨[(2, .ptr 0 6 0), (3, .ptr 1 4 0), (4, .ptr 2 4 0), (5, .ptr 3 4 0), (6, .int .i64 (leastP O s.tr)), (7, .int .i64 (i : Int))], [.live x.c, .live (Stp.cells s), .live [.int .i64 0, .int .i64 0, .int .i64 0, .int .i64 0], .live [.int .i64 s.oi, .int .i64 (1 + (((List.countP (aB O s) (ownL (x.ss.take i) s.ow)) : Nat) : Int)), .int .i64 (1 + (((List.countP (pB s) (ownL (x.ss.take i) s.ow)) : Nat) : Int)), .int .i64 s.et]]⟩) (fun i => i ≤ x.ss.length) (fun i => x.ss.length - i) (0) (Gh.to_k [2, 3, 4, 5, 6, 7] [0, 1, 2, 3] (hh := by simp [ownL])) (by omega) ?_
  rintro i hi
  obtain ⟨ca, hca⟩ : ∃ ca, ca = (List.countP (aB O s) (ownL (x.ss.take i) s.ow)) := ⟨_, rfl⟩
  obtain ⟨cp, hcp⟩ : ∃ cp, cp = (List.countP (pB s) (ownL (x.ss.take i) s.ow)) := ⟨_, rfl⟩
  have hol := ownL_le (x.ss.take i) s.ow
  rw [List.length_take, Nat.min_eq_left hi] at hol
  have hcal : ca ≤ i := by rw [hca]; exact Nat.le_trans List.countP_le_length hol
  have hcpl : cp ≤ i := by rw [hcp]; exact Nat.le_trans List.countP_le_length hol
  rw [← hca, ← hcp]
  intro K6 hK6
  refine vwp_seq_k fun K7 hK7 => ?_
  refine vwp_sq [2, 3, 4, 5, 6, 7] fun K8 hK8 => vwp_region hT ?_
  simp
  refine hK8 _ ?_
  try clear hK8 K8
  refine vwp_cond (by first | rfl | (simp; rfl)) (fun h1 => ?_) fun h1 => ?_
  · simp -failIfUnchanged at h1; all_goals
   refine vwp_skip ?_
   refine hK7 _ ?_
   try clear hK7 K7
   refine vwp_seq_k fun K9 hK9 => ?_
   refine vwp_block ?_
   obtain ⟨y, hs1⟩ := getI (l := x.ss) (i := i) (by omega)
   have hrow := rowStp hs1
   have hlen := lenStp x.ss
   have htk := ownL_take hs1 s.ow
   refine vwp_sq [2, 3, 4, 5, 6, 7] fun K10 hK10 => vwp_region hT ?_
   simp [hrow, hlen]
   repeat refine ⟨by first | assumption | omega | (intros; omega), ?_⟩
   refine hK10 _ ?_
   try clear hK10 K10
   refine vwp_seq_k fun K11 hK11 => ?_
   refine vwp_sq [2, 3, 4, 5, 6, 7, 8] fun K12 hK12 => vwp_region hT ?_
   simp
   refine hK12 _ ?_
   try clear hK12 K12
   refine vwp_cond (by first | rfl | (simp; rfl)) (fun h2 => ?_) fun h2 => ?_
   · simp -failIfUnchanged at h2; all_goals
    have q := h2
    have hyo : ¬ y.ow = s.ow := by simpa using q
    rw [if_neg hyo, List.append_nil] at htk
    have hca2 : (List.countP (aB O s) (ownL (x.ss.take (i + 1)) s.ow)) = ca := by rw [htk, hca]
    have hcp2 : (List.countP (pB s) (ownL (x.ss.take (i + 1)) s.ow)) = cp := by rw [htk, hcp]
    refine vwp_exit ?_
    simp only [inBlk, thenQ, if_true]
    refine hK9 _ ?_
    try clear hK9 K9
    have w1 : IntKind.i64.wrap ((i : Int) + 1) = i + 1 := w64 (by omega) (by omega)
    refine vwp_live [2, 3, 4, 5, 6, 7] (vwp_region hT ?_)
    simp [w1]
    exact hK6 (i + 1) _ (Gh.to_k [2, 3, 4, 5, 6, 7] [0, 1, 2, 3] (hh := by simp [hca2, hcp2])) (by omega) (by omega)
   · simp -failIfUnchanged at h2; all_goals
    have q := h2
    have hyo : y.ow = s.ow := by simpa using q
    rw [if_pos hyo] at htk
    have htk2 := htk
    refine vwp_skip ?_
    refine hK11 _ ?_
    try clear hK11 K11
    refine vwp_cut_s (fun c : Nat => ⟨[(2, .ptr 0 6 0), (3, .ptr 1 4 0), (4, .ptr 2 4 0), (5, .ptr 3 4 0), (6, .int .i64 (leastP O s.tr)), (7, .int .i64 (i : Int)), (8, .ptr 4 4 0)], [.live x.c, .live (Stp.cells s), .live [.int .i64 0, .int .i64 0, .int .i64 0, .int .i64 0], .live [.int .i64 s.oi, .int .i64 (1 + ((c : Nat) : Int)), .int .i64 (1 + ((cp : Nat) : Int)), .int .i64 s.et], .live (Stp.cells y)]⟩) (fun c => c = (List.countP (aB O s) (ownL (x.ss.take (i + 1)) s.ow))) (fun K13 hK13 => ?_) ?_
    · refine vwp_seq_k fun K14 hK14 => ?_
      by_cases hc1 : y.tr = s.tr
      · have hA : aB O s y = false := by simp [aB, hc1]
        have hca2 : (List.countP (aB O s) (ownL (x.ss.take (i + 1)) s.ow)) = ca := by rw [htk, countP_one, ← hca, hA]; rfl
        refine vwp_live [2, 3, 4, 5, 6, 7, 8] (vwp_calm hT hm (by kernel_rfl) ?_)
        simp [hc1]
        refine ⟨.int .i64 0, ?_⟩
        simp [hc1]
        refine hK14 _ ?_
        try clear hK14 K14
        refine vwp_cond (by first | rfl | (simp; rfl)) (fun h3 => ?_) fun h3 => ?_
        · simp -failIfUnchanged at h3; all_goals
         simp_all
        · simp -failIfUnchanged at h3; all_goals
         refine vwp_skip ?_
         exact hK13 ca _ (Gh.to_k [2, 3, 4, 5, 6, 7, 8] [0, 1, 2, 3, 4] (hh := by simp [hc1])) hca2.symm
      · by_cases hc2 : y.oi = leastP O y.tr
        · by_cases hc3 : y.oi < leastP O s.tr
          · have hA : aB O s y = true := by simp [aB, hc1, hc2.symm, hc3]
            have hca2 : (List.countP (aB O s) (ownL (x.ss.take (i + 1)) s.ow)) = ca + 1 := by rw [htk, countP_one, ← hca, if_pos hA]
            have w2 : IntKind.i64.wrap (1 + (ca : Int) + 1) = 1 + ((ca + 1 : Nat) : Int) := (w64 (by omega) (by omega)).trans (by omega)
            have hc2s := hc2.symm
            refine vwp_live [2, 3, 4, 5, 6, 7, 8] (vwp_calm hT hm (by kernel_rfl) ?_)
            simp [hc1, hc2s, hc3]
            refine ⟨.int .i64 (leastP O y.tr), fun sl => ?_, ?_⟩
            · refine vcall_z [] (least_spec x hs y.ow y.tr) (by rintro r ob' ⟨rfl, rfl⟩; simp) ?_
              rintro r ob' ⟨rfl, rfl⟩
              rw [hyo, ← hO]
              simp
            simp [hc1, hc2s, hc3]
            refine hK14 _ ?_
            try clear hK14 K14
            refine vwp_cond (by first | rfl | (simp; rfl)) (fun h4 => ?_) fun h4 => ?_
            · simp -failIfUnchanged at h4; all_goals
             refine vwp_live [2, 3, 4, 5, 6, 7, 8] (vwp_region hT ?_)
             simp [w2]
             repeat refine ⟨by first | assumption | omega | (intros; omega), ?_⟩
             exact hK13 (ca + 1) _ (Gh.to_k [2, 3, 4, 5, 6, 7, 8] [0, 1, 2, 3, 4]) hca2.symm
            · simp -failIfUnchanged at h4; all_goals
             refine vwp_skip ?_
             exact hK13 (ca + 1) _ (Gh.to_k [2, 3, 4, 5, 6, 7, 8] [0, 1, 2, 3, 4]) hca2.symm
          · have hA : aB O s y = false := by simp [aB, hc3]
            have hca2 : (List.countP (aB O s) (ownL (x.ss.take (i + 1)) s.ow)) = ca := by rw [htk, countP_one, ← hca, hA]; rfl
            have hc2s := hc2.symm
            refine vwp_live [2, 3, 4, 5, 6, 7, 8] (vwp_calm hT hm (by kernel_rfl) ?_)
            simp [hc1, hc2s, hc3]
            refine ⟨.int .i64 (leastP O y.tr), fun sl => ?_, ?_⟩
            · refine vcall_z [] (least_spec x hs y.ow y.tr) (by rintro r ob' ⟨rfl, rfl⟩; simp) ?_
              rintro r ob' ⟨rfl, rfl⟩
              rw [hyo, ← hO]
              simp
            simp [hc1, hc2s, hc3]
            refine hK14 _ ?_
            try clear hK14 K14
            refine vwp_cond (by first | rfl | (simp; rfl)) (fun h5 => ?_) fun h5 => ?_
            · simp -failIfUnchanged at h5; all_goals
             simp_all
            · simp -failIfUnchanged at h5; all_goals
             refine vwp_skip ?_
             exact hK13 (ca) _ (Gh.to_k [2, 3, 4, 5, 6, 7, 8] [0, 1, 2, 3, 4]) (hca2.symm)
        · have hA : aB O s y = false := by simp [aB, hc2]
          have hca2 : (List.countP (aB O s) (ownL (x.ss.take (i + 1)) s.ow)) = ca := by rw [htk, countP_one, ← hca, hA]; rfl
          refine vwp_live [2, 3, 4, 5, 6, 7, 8] (vwp_calm hT hm (by kernel_rfl) ?_)
          simp [hc1, hc2]
          refine ⟨.int .i64 (leastP O y.tr), fun sl => ?_, ?_⟩
          · refine vcall_z [] (least_spec x hs y.ow y.tr) (by rintro r ob' ⟨rfl, rfl⟩; simp) ?_
            rintro r ob' ⟨rfl, rfl⟩
            rw [hyo, ← hO]
            simp
          simp [hc1, hc2]
          refine hK14 _ ?_
          try clear hK14 K14
          refine vwp_cond (by first | rfl | (simp; rfl)) (fun h6 => ?_) fun h6 => ?_
          · simp -failIfUnchanged at h6; all_goals
           simp_all
          · simp -failIfUnchanged at h6; all_goals
           refine vwp_skip ?_
           exact hK13 (ca) _ (Gh.to_k [2, 3, 4, 5, 6, 7, 8] [0, 1, 2, 3, 4]) (hca2.symm)
    · rintro c hc
      have w3 : IntKind.i64.wrap (1 + (cp : Int) + 1) = 1 + ((cp + 1 : Nat) : Int) := (w64 (by omega) (by omega)).trans (by omega)
      refine vwp_seq_k fun K15 hK15 => ?_
      by_cases hc1 : y.tr = s.tr
      · by_cases hc2 : y.et < s.et
        · have hB : pB s y = true := by simp [pB, lexB, hc1, hc2]
          have hcp2 : (List.countP (pB s) (ownL (x.ss.take (i + 1)) s.ow)) = cp + 1 := by rw [htk2, countP_one, ← hcp, if_pos hB]
          refine vwp_live [2, 3, 4, 5, 6, 7, 8] (vwp_region hT ?_)
          simp [hc1, hc2]
          refine hK15 _ ?_
          try clear hK15 K15
          refine vwp_cond (by first | rfl | (simp; rfl)) (fun h7 => ?_) fun h7 => ?_
          · simp -failIfUnchanged at h7; all_goals
           refine vwp_live [2, 3, 4, 5, 6, 7] (vwp_region hT ?_)
           simp [w3]
           repeat refine ⟨by first | assumption | omega | (intros; omega), ?_⟩
           refine hK9 _ ?_
           try clear hK9 K9
           have w1 : IntKind.i64.wrap ((i : Int) + 1) = i + 1 := w64 (by omega) (by omega)
           refine vwp_live [2, 3, 4, 5, 6, 7] (vwp_region hT ?_)
           simp [w1]
           exact hK6 (i + 1) _ (Gh.to_k [2, 3, 4, 5, 6, 7] [0, 1, 2, 3] (hh := by simp [hcp2, ← hc])) (by omega) (by omega)
          · simp -failIfUnchanged at h7; all_goals
           refine vwp_skip ?_
           refine hK9 _ ?_
           try clear hK9 K9
           simp_all
        · by_cases hc3 : y.et = s.et
          · by_cases hc4 : y.oi < s.oi
            · have hB : pB s y = true := by simp [pB, lexB, hc1, hc2, hc3, hc4]
              have hcp2 : (List.countP (pB s) (ownL (x.ss.take (i + 1)) s.ow)) = cp + 1 := by rw [htk2, countP_one, ← hcp, if_pos hB]
              refine vwp_live [2, 3, 4, 5, 6, 7, 8] (vwp_region hT ?_)
              simp [hc1, hc2, hc3, hc4]
              refine hK15 _ ?_
              try clear hK15 K15
              refine vwp_cond (by first | rfl | (simp; rfl)) (fun h8 => ?_) fun h8 => ?_
              · simp -failIfUnchanged at h8; all_goals
               refine vwp_live [2, 3, 4, 5, 6, 7] (vwp_region hT ?_)
               simp [w3]
               repeat refine ⟨by first | assumption | omega | (intros; omega), ?_⟩
               refine hK9 _ ?_
               try clear hK9 K9
               have w1 : IntKind.i64.wrap ((i : Int) + 1) = i + 1 := w64 (by omega) (by omega)
               refine vwp_live [2, 3, 4, 5, 6, 7] (vwp_region hT ?_)
               simp [w1]
               exact hK6 (i + 1) _ (Gh.to_k [2, 3, 4, 5, 6, 7] [0, 1, 2, 3] (hh := by simp [hcp2, ← hc])) (by omega) (by omega)
              · simp -failIfUnchanged at h8; all_goals
               refine vwp_skip ?_
               refine hK9 _ ?_
               try clear hK9 K9
               simp_all
            · have hB : pB s y = false := by simp [pB, lexB, hc1, hc2, hc3, hc4]
              have hcp2 : (List.countP (pB s) (ownL (x.ss.take (i + 1)) s.ow)) = cp := by rw [htk2, countP_one, ← hcp, hB]; rfl
              refine vwp_live [2, 3, 4, 5, 6, 7, 8] (vwp_region hT ?_)
              simp [hc1, hc2, hc3, hc4]
              refine hK15 _ ?_
              try clear hK15 K15
              refine vwp_cond (by first | rfl | (simp; rfl)) (fun h9 => ?_) fun h9 => ?_
              · simp -failIfUnchanged at h9; all_goals
               simp_all
              · simp -failIfUnchanged at h9; all_goals
               refine vwp_skip ?_
               refine hK9 _ ?_
               try clear hK9 K9
               have w1 : IntKind.i64.wrap ((i : Int) + 1) = i + 1 := w64 (by omega) (by omega)
               refine vwp_live [2, 3, 4, 5, 6, 7] (vwp_region hT ?_)
               simp [w1]
               exact hK6 (i + 1) _ (Gh.to_k [2, 3, 4, 5, 6, 7] [0, 1, 2, 3] (hh := by simp [hcp2, ← hc])) (by omega) (by omega)
          · have hB : pB s y = false := by simp [pB, lexB, hc1, hc2, hc3]
            have hcp2 : (List.countP (pB s) (ownL (x.ss.take (i + 1)) s.ow)) = cp := by rw [htk2, countP_one, ← hcp, hB]; rfl
            refine vwp_live [2, 3, 4, 5, 6, 7, 8] (vwp_region hT ?_)
            simp [hc1, hc2, hc3]
            refine hK15 _ ?_
            try clear hK15 K15
            refine vwp_cond (by first | rfl | (simp; rfl)) (fun h10 => ?_) fun h10 => ?_
            · simp -failIfUnchanged at h10; all_goals
             simp_all
            · simp -failIfUnchanged at h10; all_goals
             refine vwp_skip ?_
             refine hK9 _ ?_
             try clear hK9 K9
             have w1 : IntKind.i64.wrap ((i : Int) + 1) = i + 1 := w64 (by omega) (by omega)
             refine vwp_live [2, 3, 4, 5, 6, 7] (vwp_region hT ?_)
             simp [w1]
             exact hK6 (i + 1) _ (Gh.to_k [2, 3, 4, 5, 6, 7] [0, 1, 2, 3] (hh := by simp [hcp2, ← hc])) (by omega) (by omega)
      · have hB : pB s y = false := by simp [pB, lexB, hc1]
        have hcp2 : (List.countP (pB s) (ownL (x.ss.take (i + 1)) s.ow)) = cp := by rw [htk2, countP_one, ← hcp, hB]; rfl
        refine vwp_live [2, 3, 4, 5, 6, 7, 8] (vwp_region hT ?_)
        simp [hc1]
        refine hK15 _ ?_
        try clear hK15 K15
        refine vwp_cond (by first | rfl | (simp; rfl)) (fun h11 => ?_) fun h11 => ?_
        · simp -failIfUnchanged at h11; all_goals
         simp_all
        · simp -failIfUnchanged at h11; all_goals
         refine vwp_skip ?_
         refine hK9 _ ?_
         try clear hK9 K9
         have w1 : IntKind.i64.wrap ((i : Int) + 1) = i + 1 := w64 (by omega) (by omega)
         refine vwp_live [2, 3, 4, 5, 6, 7] (vwp_region hT ?_)
         simp [w1]
         exact hK6 (i + 1) _ (Gh.to_k [2, 3, 4, 5, 6, 7] [0, 1, 2, 3] (hh := by simp [hcp2, ← hc])) (by omega) (by omega)
  · simp -failIfUnchanged at h1; all_goals
   refine vwp_exit ?_
   simp only [inBlk, thenQ, if_true]
   refine hK4 _ ?_
   try clear hK4 K4
   obtain rfl : i = x.ss.length := by omega
   rw [List.take_length, ← hO] at hca hcp
   refine vwp_sq [4, 5] fun K16 hK16 => vwp_region hT ?_
   simp
   repeat refine ⟨by first | assumption | omega | (intros; omega), ?_⟩
   refine hK16 _ ?_
   try clear hK16 K16
   refine vwp_ret (hR _ _ ?_)
   rw [rowP_eq, ← hO, ← hca, ← hcp]
   exact retc_only [] ([]) (p := True) (xs := [.agg [.int .i64 s.oi, .int .i64 (1 + (ca : Int)), .int .i64 (1 + (cp : Int)), .int .i64 s.et]]) (xs' := [.agg [.int .i64 s.oi, .int .i64 (1 + (ca : Int)), .int .i64 (1 + (cp : Int)), .int .i64 s.et]]) (by simp) trivial (by simp) (by simp) rfl (by simp) (by simp) rfl (by simp) (⟨rfl, rfl⟩)
end Go.Proofs.Ytmpakfpmmkfgpaa
