/- A form's letters, by the program and by the document. -/
import Derived.Test.YtgmcflbbdpbkeaaDoorPkD
namespace Go.Proofs.YtgmcflbbdpbkeaaDoor
open Go Go.VX Go.RowKit
set_option linter.unusedVariables false
set_option linter.unusedSimpArgs false
set_option maxHeartbeats 20000000
set_option maxRecDepth 100000

def formS (f : ByteArray) : ByteArray := cutS f plusT
def formA (f : ByteArray) : Bool := sufB f plusT
def formF (f : ByteArray) : Bool := decide (f.size ≤ 20) && (!decide ((formS f).size = 0) && onlyB (formS f) (sL ntT))
theorem formS_size (f : ByteArray) : (formS f).size ≤ f.size := by
  unfold formS cutS
  split
  · rw [ext_size]; omega
  · exact Nat.le_refl _
theorem parted_spec (f : ByteArray) (hf : f.size < 1099511627776) : VC P 18 [.str f] [] (fun r ob' => r = .tup [.str (formS f), .bool (formA f), .bool (formF f)] ∧ ob' = []) := by
  refine VC_of_vwp_k ent_18 Tryd.func18 rfl (by simp) fun R hR => ?_
  refine vwp_sq [0] fun K1 hK1 => vwp_region hT ?_
  simp
  refine hK1 _ ?_
  try clear hK1 K1
  have hle := formS_size f
  have hcu := cutSuffix_spec f plusT hf (by decide)
  rw [show cutS f plusT = formS f from rfl, show sufB f plusT = formA f from rfl] at hcu
  obtain ⟨s, hs⟩ : ∃ s, s = formS f := ⟨_, rfl⟩
  rw [← hs] at hcu hle
  refine vwp_sq [0] fun K2 hK2 => vwp_region hT ?_
  simp
  refine vcall_k [] (hcu) ?_
  rintro r ob' ⟨rfl, rfl⟩
  simp
  refine hK2 _ ?_
  try clear hK2 K2
  refine vwp_seq_k fun K3 hK3 => ?_
  have hff : formF f = (decide (f.size ≤ 20) && (!decide (s.size = 0) && onlyB s (sL ntT))) := by rw [formF, hs]
  by_cases h0 : s.size = 0
  · have e : formF f = false := by rw [hff, decide_eq_true h0]; simp
    refine vwp_live [0, 5, 6] (vwp_region hT ?_)
    simp [h0]
    refine hK3 _ ?_
    try clear hK3 K3
    refine vwp_ret (hR _ _ ?_)
    rw [e, ← hs]
    exact ret_k [2, 3, 4] [] ([]) (.tup [.str s, .bool (formA f), .bool false]) (⟨rfl, rfl⟩)
  · by_cases h20 : f.size ≤ 20
    · have h20i : (f.size : Int) ≤ 20 := by omega
      have e : formF f = onlyB s (sL ntT) := by rw [hff, decide_eq_true h20, decide_eq_false h0]; simp
      refine vwp_live [0, 5, 6] (vwp_region hT ?_)
      simp [h0, h20, h20i]
      refine vcall_k [] (trim_spec s (by omega)) ?_
      rintro r ob' ⟨⟨t, rfl, ht⟩, rfl⟩
      simp [h0, h20, h20i]
      refine hK3 _ ?_
      try clear hK3 K3
      refine vwp_ret (hR _ _ ?_)
      rw [e, ← ht, ← hs]
      exact ret_k [2, 3, 4] [] ([]) (.tup [.str s, .bool (formA f), .bool (decide (t.size = 0))]) (⟨rfl, rfl⟩)
    · have h20i : ¬ (f.size : Int) ≤ 20 := by omega
      have e : formF f = false := by rw [hff, decide_eq_false h20]; simp
      refine vwp_live [0, 5, 6] (vwp_region hT ?_)
      simp [h0, h20, h20i]
      refine hK3 _ ?_
      try clear hK3 K3
      refine vwp_ret (hR _ _ ?_)
      rw [e, ← hs]
      exact ret_k [2, 3, 4] [] ([]) (.tup [.str s, .bool (formA f), .bool false]) (⟨rfl, rfl⟩)

theorem suf_last {f : ByteArray} {c : Int} (h : f.size ≠ 0) (hc : (sL f)[f.size - 1]? = some c) : formA f = decide (c = 43) := by
  have hl := sL_len f
  have e : sL (f.extract (f.size - 1) f.size) = [c] := by
    rw [sL_extract, ← hl, List.take_length, hl]
    apply List.ext_getElem?
    intro i
    rw [List.getElem?_drop]
    cases i with
    | zero => rw [Nat.add_zero, hc]; rfl
    | succ i => rw [List.getElem?_eq_none (by omega)]; simp
  have h1 : plusT.size = 1 := rfl
  unfold formA sufB
  rw [h1, decide_eq_true (show 1 ≤ f.size by omega), Bool.true_and, Bool.eq_iff_iff, decide_eq_true_eq, decide_eq_true_eq]
  constructor
  · intro q
    rw [q] at e
    have e2 : sL plusT = [43] := rfl
    rw [e2] at e
    simpa using e.symm
  · intro q
    exact sL_inj (by rw [e, q]; rfl)
theorem formA_0 {f : ByteArray} (h : f.size = 0) : formA f = false := by
  have h1 : plusT.size = 1 := rfl
  unfold formA sufB
  rw [h1, decide_eq_false (by omega)]; rfl
theorem formS_no {f : ByteArray} (h : formA f = false) : formS f = f := by
  unfold formS cutS
  rw [if_neg (by rw [show sufB f plusT = formA f from rfl, h]; simp)]
theorem formS_yes {f : ByteArray} (h : formA f = true) : formS f = f.extract 0 (f.size - 1) := by
  unfold formS cutS
  rw [if_pos (show sufB f plusT = true from h)]; rfl
theorem letters_ref (f : ByteArray) (hf : f.size < 1099511627776) : VC P 21 [.str f] [] (fun r ob' => r = .tup [.str (formS f), .bool (formA f), .bool (formF f)] ∧ ob' = []) := by
  refine VC_of_vwp_k ent_21 Tryd.func21 rfl (by simp) fun R hR => ?_
  refine vwp_sq [0] fun K1 hK1 => vwp_region hT ?_
  simp
  refine hK1 _ ?_
  try clear hK1 K1
  refine vwp_sq [0] fun K2 hK2 => vwp_region hT ?_
  simp
  refine hK2 _ ?_
  try clear hK2 K2
  refine vwp_sq [0, 5] fun K3 hK3 => vwp_region hT ?_
  simp
  refine hK3 _ ?_
  try clear hK3 K3
  refine vwp_cut_s (fun z : ByteArray => ⟨[(0, .str f), (5, .str z), (6, .bool (formA f))], []⟩) (fun z => z = formS f) (fun K4 hK4 => ?_) ?_
  · refine vwp_seq_k fun K5 hK5 => ?_
    have hlf := sL_len f
    by_cases h0 : f.size = 0
    · have hA := formA_0 h0
      refine vwp_live [0, 5, 6] (vwp_region hT ?_)
      simp [h0]
      repeat refine ⟨by first | assumption | omega | (intros; omega), ?_⟩
      refine hK5 _ ?_
      try clear hK5 K5
      refine vwp_cond (by first | rfl | (simp; rfl)) (fun h1 => ?_) fun h1 => ?_
      · simp -failIfUnchanged at h1; all_goals
       refine vwp_seq_k fun K6 hK6 => ?_
       simp at *
      · simp -failIfUnchanged at h1; all_goals
       refine vwp_skip ?_
       exact hK4 f _ (Gh.to_k [0, 5, 6] [] (he := by simp [hA])) (formS_no hA).symm
    · obtain ⟨c, hc⟩ := getI (l := sL f) (i := f.size - 1) (by omega)
      have hA := suf_last h0 hc
      obtain ⟨m1, hm1⟩ : ∃ m1, m1 = f.size - 1 := ⟨_, rfl⟩
      rw [← hm1] at hc
      have w1 : IntKind.i64.wrap ((f.size : Int) - 1) = (m1 : Int) := (w64 (by omega) (by omega)).trans (by omega)
      have hg := sL_get hc
      refine vwp_live [0, 5, 6] (vwp_region hT ?_)
      simp [h0, w1, hg]
      repeat refine ⟨by first | assumption | omega | (intros; omega), ?_⟩
      refine hK5 _ ?_
      try clear hK5 K5
      refine vwp_cond (by first | rfl | (simp; rfl)) (fun h2 => ?_) fun h2 => ?_
      · simp -failIfUnchanged at h2; all_goals
       have q := h2
       have hA1 : formA f = true := by rw [hA]; simpa using q
       refine vwp_sq [0, 5] fun K7 hK7 => vwp_region hT ?_
       simp
       refine hK7 _ ?_
       try clear hK7 K7
       refine vwp_live [0, 5, 6] (vwp_region hT ?_)
       simp [w1]
       repeat refine ⟨by first | assumption | omega | (intros; omega), ?_⟩
       exact hK4 (f.extract 0 m1) _ (Gh.to_k [0, 5, 6] [] (he := by simp [hA1])) (by rw [formS_yes hA1, hm1])
      · simp -failIfUnchanged at h2; all_goals
       have q := h2
       have hA1 : formA f = false := by rw [hA]; simpa using q
       refine vwp_skip ?_
       exact hK4 f _ (Gh.to_k [0, 5, 6] [] (he := by simp [hA1])) (formS_no hA1).symm
  · rintro s hs
    have hle := formS_size f
    rw [← hs] at hle
    have hls := sL_len s
    obtain ⟨f0, hf0⟩ : ∃ f0, f0 = (decide (f.size ≤ 20) && !decide (s.size = 0)) := ⟨_, rfl⟩
    refine vwp_seq_k fun K8 hK8 => ?_
    by_cases h20 : f.size ≤ 20
    · have h20i : (f.size : Int) ≤ 20 := by omega
      have hf1 : f0 = !decide (s.size = 0) := by rw [hf0, decide_eq_true h20, Bool.true_and]
      refine vwp_live [0, 5, 6] (vwp_region hT ?_)
      simp [h20, h20i]
      refine hK8 _ ?_
      try clear hK8 K8
      refine vwp_seq_k fun K9 hK9 => ?_
      refine vwp_sq [5, 6, 7] fun K10 hK10 => vwp_region hT ?_
      simp
      refine hK10 _ ?_
      try clear hK10 K10
      refine vwp_block ?_
      refine vwp_loop_s (fun u : Nat × Bool => ⟨[(5, .str s), (6, .bool (formA f)), (7, .bool u.2), (8, .int .i64 (u.1 : Int))], []⟩) (fun u => u.1 ≤ s.size ∧ u.2 = (f0 && ((sL s).take u.1).all fun c => (sL ntT).contains c)) (fun u => s.size - u.1) ((0, f0)) (Gh.to_k [5, 6, 7, 8] [] (he := by simp [hf1])) (⟨Nat.zero_le _, by simp⟩) ?_
      rintro ⟨i, b⟩ ⟨hi, hb⟩
      dsimp only at hi hb ⊢
      intro K11 hK11
      refine vwp_seq_k fun K12 hK12 => ?_
      refine vwp_sq [5, 6, 7, 8] fun K13 hK13 => vwp_region hT ?_
      simp
      refine hK13 _ ?_
      try clear hK13 K13
      refine vwp_cond (by first | rfl | (simp; rfl)) (fun h3 => ?_) fun h3 => ?_
      · simp -failIfUnchanged at h3; all_goals
       refine vwp_skip ?_
       refine hK12 _ ?_
       try clear hK12 K12
       refine vwp_seq_k fun K14 hK14 => ?_
       refine vwp_block ?_
       obtain ⟨c, hc⟩ := getI (l := sL s) (i := i) (by omega)
       have hg := sL_get hc
       have hnt : sL ntT = [110, 116] := rfl
       obtain ⟨b2, hb2e⟩ : ∃ b2, b2 = (b && (sL ntT).contains c) := ⟨_, rfl⟩
       have hb2 : b2 = (f0 && ((sL s).take (i + 1)).all fun c => (sL ntT).contains c) := by
         rw [List.take_add_one, hc, List.all_append, ← Bool.and_assoc, ← hb, hb2e]
         simp
       rw [hnt] at hb2e
       have hcs : b = false ∨ (b = true ∧ c = 110) ∨ (b = true ∧ c ≠ 110 ∧ c = 116) ∨ (b = true ∧ c ≠ 110 ∧ c ≠ 116) := by
         cases b
         · exact .inl rfl
         · right
           by_cases h1 : c = 110
           · exact .inl ⟨rfl, h1⟩
           · by_cases h2 : c = 116
             · exact .inr (.inl ⟨rfl, h1, h2⟩)
             · exact .inr (.inr ⟨rfl, h1, h2⟩)
       rcases hcs with hbf | ⟨hbf, h1⟩ | ⟨hbf, h1, h2⟩ | ⟨hbf, h1, h2⟩
       all_goals rw [hbf] at hb2e
       · have hbb : b2 = false := hb2e
         refine vwp_live [5, 6, 7, 8] (vwp_region hT ?_)
         simp [hg, hbf]
         repeat refine ⟨by first | assumption | omega | (intros; omega), ?_⟩
         refine hK14 _ ?_
         try clear hK14 K14
         have w1 : IntKind.i64.wrap ((i : Int) + 1) = i + 1 := w64 (by omega) (by omega)
         refine vwp_live [5, 6, 7, 8] (vwp_region hT ?_)
         simp [w1]
         exact hK11 ((i + 1, b2)) _ (Gh.to_k [5, 6, 7, 8] [] (he := by first | (simp [hbb]; done) | (simp [hbb]; assumption))) (⟨by dsimp only; omega, hb2⟩) (by dsimp only; omega)
       · have hbb : b2 = true := by rw [hb2e, h1]; rfl
         refine vwp_live [5, 6, 7, 8] (vwp_region hT ?_)
         simp [hg, hbf, h1]
         repeat refine ⟨by first | assumption | omega | (intros; omega), ?_⟩
         refine hK14 _ ?_
         try clear hK14 K14
         have w1 : IntKind.i64.wrap ((i : Int) + 1) = i + 1 := w64 (by omega) (by omega)
         refine vwp_live [5, 6, 7, 8] (vwp_region hT ?_)
         simp [w1]
         exact hK11 ((i + 1, b2)) _ (Gh.to_k [5, 6, 7, 8] [] (he := by first | (simp [hbb]; done) | (simp [hbb]; assumption))) (⟨by dsimp only; omega, hb2⟩) (by dsimp only; omega)
       · have hbb : b2 = true := by rw [hb2e, h2]; rfl
         refine vwp_live [5, 6, 7, 8] (vwp_region hT ?_)
         simp [hg, hbf, h1, h2]
         repeat refine ⟨by first | assumption | omega | (intros; omega), ?_⟩
         refine hK14 _ ?_
         try clear hK14 K14
         have w1 : IntKind.i64.wrap ((i : Int) + 1) = i + 1 := w64 (by omega) (by omega)
         refine vwp_live [5, 6, 7, 8] (vwp_region hT ?_)
         simp [w1]
         exact hK11 ((i + 1, b2)) _ (Gh.to_k [5, 6, 7, 8] [] (he := by first | (simp [hbb]; done) | (simp [hbb]; assumption))) (⟨by dsimp only; omega, hb2⟩) (by dsimp only; omega)
       · have hbb : b2 = false := by rw [hb2e]; simp [h1, h2]
         refine vwp_live [5, 6, 7, 8] (vwp_region hT ?_)
         simp [hg, hbf, h1, h2]
         repeat refine ⟨by first | assumption | omega | (intros; omega), ?_⟩
         refine hK14 _ ?_
         try clear hK14 K14
         have w1 : IntKind.i64.wrap ((i : Int) + 1) = i + 1 := w64 (by omega) (by omega)
         refine vwp_live [5, 6, 7, 8] (vwp_region hT ?_)
         simp [w1]
         exact hK11 ((i + 1, b2)) _ (Gh.to_k [5, 6, 7, 8] [] (he := by first | (simp [hbb]; done) | (simp [hbb]; assumption))) (⟨by dsimp only; omega, hb2⟩) (by dsimp only; omega)
      · simp -failIfUnchanged at h3; all_goals
       refine vwp_exit ?_
       simp only [inBlk, thenQ, if_true]
       refine hK9 _ ?_
       try clear hK9 K9
       refine vwp_sq [5, 6, 7] fun K15 hK15 => vwp_region hT ?_
       simp
       refine hK15 _ ?_
       try clear hK15 K15
       refine vwp_ret (hR _ _ ?_)
       have e : i = (sL s).length := by omega
       rw [e, List.take_length] at hb
       have hF : formF f = b := by rw [formF, ← hs, hb, hf0, Bool.and_assoc]; rfl
       rw [hF, ← hs]
       exact ret_k [2, 3, 4] [] ([]) (.tup [.str s, .bool (formA f), .bool b]) (⟨rfl, rfl⟩)
    · have h20i : ¬ (f.size : Int) ≤ 20 := by omega
      have hf1 : f0 = false := by rw [hf0, decide_eq_false h20, Bool.false_and]
      refine vwp_live [0, 5, 6] (vwp_region hT ?_)
      simp [h20, h20i]
      refine hK8 _ ?_
      try clear hK8 K8
      refine vwp_seq_k fun K16 hK16 => ?_
      refine vwp_sq [5, 6, 7] fun K17 hK17 => vwp_region hT ?_
      simp
      refine hK17 _ ?_
      try clear hK17 K17
      refine vwp_block ?_
      refine vwp_loop_s (fun u : Nat × Bool => ⟨[(5, .str s), (6, .bool (formA f)), (7, .bool u.2), (8, .int .i64 (u.1 : Int))], []⟩) (fun u => u.1 ≤ s.size ∧ u.2 = (f0 && ((sL s).take u.1).all fun c => (sL ntT).contains c)) (fun u => s.size - u.1) ((0, f0)) (Gh.to_k [5, 6, 7, 8] [] (he := by simp [hf1])) (⟨Nat.zero_le _, by simp⟩) ?_
      rintro ⟨i, b⟩ ⟨hi, hb⟩
      dsimp only at hi hb ⊢
      intro K18 hK18
      refine vwp_seq_k fun K19 hK19 => ?_
      refine vwp_sq [5, 6, 7, 8] fun K20 hK20 => vwp_region hT ?_
      simp
      refine hK20 _ ?_
      try clear hK20 K20
      refine vwp_cond (by first | rfl | (simp; rfl)) (fun h4 => ?_) fun h4 => ?_
      · simp -failIfUnchanged at h4; all_goals
       refine vwp_skip ?_
       refine hK19 _ ?_
       try clear hK19 K19
       refine vwp_seq_k fun K21 hK21 => ?_
       refine vwp_block ?_
       obtain ⟨c, hc⟩ := getI (l := sL s) (i := i) (by omega)
       have hg := sL_get hc
       have hnt : sL ntT = [110, 116] := rfl
       obtain ⟨b2, hb2e⟩ : ∃ b2, b2 = (b && (sL ntT).contains c) := ⟨_, rfl⟩
       have hb2 : b2 = (f0 && ((sL s).take (i + 1)).all fun c => (sL ntT).contains c) := by
         rw [List.take_add_one, hc, List.all_append, ← Bool.and_assoc, ← hb, hb2e]
         simp
       rw [hnt] at hb2e
       have hcs : b = false ∨ (b = true ∧ c = 110) ∨ (b = true ∧ c ≠ 110 ∧ c = 116) ∨ (b = true ∧ c ≠ 110 ∧ c ≠ 116) := by
         cases b
         · exact .inl rfl
         · right
           by_cases h1 : c = 110
           · exact .inl ⟨rfl, h1⟩
           · by_cases h2 : c = 116
             · exact .inr (.inl ⟨rfl, h1, h2⟩)
             · exact .inr (.inr ⟨rfl, h1, h2⟩)
       rcases hcs with hbf | ⟨hbf, h1⟩ | ⟨hbf, h1, h2⟩ | ⟨hbf, h1, h2⟩
       all_goals rw [hbf] at hb2e
       · have hbb : b2 = false := hb2e
         refine vwp_live [5, 6, 7, 8] (vwp_region hT ?_)
         simp [hg, hbf]
         repeat refine ⟨by first | assumption | omega | (intros; omega), ?_⟩
         refine hK21 _ ?_
         try clear hK21 K21
         have w1 : IntKind.i64.wrap ((i : Int) + 1) = i + 1 := w64 (by omega) (by omega)
         refine vwp_live [5, 6, 7, 8] (vwp_region hT ?_)
         simp [w1]
         exact hK18 ((i + 1, b2)) _ (Gh.to_k [5, 6, 7, 8] [] (he := by first | (simp [hbb]; done) | (simp [hbb]; assumption))) (⟨by dsimp only; omega, hb2⟩) (by dsimp only; omega)
       · have hbb : b2 = true := by rw [hb2e, h1]; rfl
         refine vwp_live [5, 6, 7, 8] (vwp_region hT ?_)
         simp [hg, hbf, h1]
         repeat refine ⟨by first | assumption | omega | (intros; omega), ?_⟩
         refine hK21 _ ?_
         try clear hK21 K21
         have w1 : IntKind.i64.wrap ((i : Int) + 1) = i + 1 := w64 (by omega) (by omega)
         refine vwp_live [5, 6, 7, 8] (vwp_region hT ?_)
         simp [w1]
         exact hK18 ((i + 1, b2)) _ (Gh.to_k [5, 6, 7, 8] [] (he := by first | (simp [hbb]; done) | (simp [hbb]; assumption))) (⟨by dsimp only; omega, hb2⟩) (by dsimp only; omega)
       · have hbb : b2 = true := by rw [hb2e, h2]; rfl
         refine vwp_live [5, 6, 7, 8] (vwp_region hT ?_)
         simp [hg, hbf, h1, h2]
         repeat refine ⟨by first | assumption | omega | (intros; omega), ?_⟩
         refine hK21 _ ?_
         try clear hK21 K21
         have w1 : IntKind.i64.wrap ((i : Int) + 1) = i + 1 := w64 (by omega) (by omega)
         refine vwp_live [5, 6, 7, 8] (vwp_region hT ?_)
         simp [w1]
         exact hK18 ((i + 1, b2)) _ (Gh.to_k [5, 6, 7, 8] [] (he := by first | (simp [hbb]; done) | (simp [hbb]; assumption))) (⟨by dsimp only; omega, hb2⟩) (by dsimp only; omega)
       · have hbb : b2 = false := by rw [hb2e]; simp [h1, h2]
         refine vwp_live [5, 6, 7, 8] (vwp_region hT ?_)
         simp [hg, hbf, h1, h2]
         repeat refine ⟨by first | assumption | omega | (intros; omega), ?_⟩
         refine hK21 _ ?_
         try clear hK21 K21
         have w1 : IntKind.i64.wrap ((i : Int) + 1) = i + 1 := w64 (by omega) (by omega)
         refine vwp_live [5, 6, 7, 8] (vwp_region hT ?_)
         simp [w1]
         exact hK18 ((i + 1, b2)) _ (Gh.to_k [5, 6, 7, 8] [] (he := by first | (simp [hbb]; done) | (simp [hbb]; assumption))) (⟨by dsimp only; omega, hb2⟩) (by dsimp only; omega)
      · simp -failIfUnchanged at h4; all_goals
       refine vwp_exit ?_
       simp only [inBlk, thenQ, if_true]
       refine hK16 _ ?_
       try clear hK16 K16
       refine vwp_sq [5, 6, 7] fun K22 hK22 => vwp_region hT ?_
       simp
       refine hK22 _ ?_
       try clear hK22 K22
       refine vwp_ret (hR _ _ ?_)
       have e : i = (sL s).length := by omega
       rw [e, List.take_length] at hb
       have hF : formF f = b := by rw [formF, ← hs, hb, hf0, Bool.and_assoc]; rfl
       rw [hF, ← hs]
       exact ret_k [2, 3, 4] [] ([]) (.tup [.str s, .bool (formA f), .bool b]) (⟨rfl, rfl⟩)
end Go.Proofs.YtgmcflbbdpbkeaaDoor
