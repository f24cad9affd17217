/- A form's letters. -/
import Derived.Test.YtgmcflbbdpbkeaaDoorPkC
namespace Go.Proofs.YtgmcflbbdpbkeaaDoor
open Go Go.VX Go.RowKit
set_option linter.unusedVariables false
set_option linter.unusedSimpArgs false
set_option maxHeartbeats 20000000
set_option maxRecDepth 100000

abbrev plusT : ByteArray := ⟨#[43]⟩
abbrev ntT : ByteArray := ⟨#[110, 116]⟩
/-- Is a text of these letters alone? -/
def onlyB (s : ByteArray) (cs : List Int) : Bool := (sL s).all fun c => cs.contains c
theorem only_yes {s : ByteArray} {cs : List Int} (h : ∀ (j : Nat) c, (sL s)[j]? = some c → cs.contains c = true) : onlyB s cs = true := by
  unfold onlyB
  rw [List.all_eq_true]
  intro c hc
  obtain ⟨j, hj⟩ := List.getElem?_of_mem hc
  exact h j c hj
theorem only_no {s : ByteArray} {cs : List Int} {j : Nat} {c : Int} (h : (sL s)[j]? = some c) (hc : cs.contains c = false) : onlyB s cs = false := by
  unfold onlyB
  rw [List.all_eq_false]
  exact ⟨c, List.mem_of_getElem? h, by simpa using hc⟩
theorem size_0 {s : ByteArray} (h : s.size = 0) : s = ⟨#[]⟩ := (sL_nil s).1 (List.length_eq_zero_iff.1 (by rw [sL_len]; exact h))
theorem empty_iff (s : ByteArray) : decide (s = ⟨#[]⟩) = decide (s.size = 0) := by
  by_cases h : s.size = 0
  · rw [decide_eq_true h, decide_eq_true (size_0 h)]
  · rw [decide_eq_false h, decide_eq_false fun e => h (by rw [e]; rfl)]
theorem trim_spec (s : ByteArray) (hs : s.size < 1099511627776) : VC P 29 [.str s, .str ntT] [] (fun r ob' => (∃ t, r = .str t ∧ decide (t.size = 0) = onlyB s (sL ntT)) ∧ ob' = []) := by
  refine VC_of_vwp_k ent_29 Tryd.func29 rfl (by simp) fun R hR => ?_
  refine vwp_sq [0, 1] fun K1 hK1 => vwp_region hT ?_
  simp [-List.reduceReplicate]
  refine hK1 _ ?_
  try clear hK1 K1
  refine vwp_seq_k fun K2 hK2 => ?_
  refine vwp_seq_k fun K3 hK3 => ?_
  have hl2 : (sL ntT) = [110, 116] := rfl
  have hnt : ntT.size = 2 := rfl
  have hmk := makeSet_spec ntT (by decide) (by rw [hl2]; intro c hc; simp at hc; omega)
  by_cases hs0 : s.size = 0
  · have hon : onlyB s (sL ntT) = true := only_yes fun j c h => by have := (List.getElem?_eq_some_iff.1 h).1; rw [sL_len] at this; omega
    refine vwp_live [0, 1] (vwp_region hT ?_)
    simp [-List.reduceReplicate, hs0, hnt]
    refine hK3 _ ?_
    try clear hK3 K3
    refine vwp_cond (by first | rfl | (simp; rfl)) (fun h1 => ?_) fun h1 => ?_
    · simp -failIfUnchanged at h1; all_goals
     refine vwp_sq [0] fun K4 hK4 => vwp_region hT ?_
     simp [-List.reduceReplicate]
     refine hK4 _ ?_
     try clear hK4 K4
     refine vwp_ret (hR _ _ ?_)
     exact ret_k [4] [] [] (.str s) ⟨⟨_, rfl, by rw [hon]; simp [hs0]⟩, rfl⟩
    · simp -failIfUnchanged at h1; all_goals
     refine vwp_skip ?_
     refine hK2 _ ?_
     try clear hK2 K2
     refine vwp_seq_k fun K5 hK5 => ?_
     refine vwp_seq_k fun K6 hK6 => ?_
     simp at *
  · refine vwp_live [0, 1] (vwp_region hT ?_)
    simp [-List.reduceReplicate, hs0, hnt]
    refine hK3 _ ?_
    try clear hK3 K3
    refine vwp_cond (by first | rfl | (simp; rfl)) (fun h2 => ?_) fun h2 => ?_
    · simp -failIfUnchanged at h2; all_goals
     refine vwp_seq_k fun K7 hK7 => ?_
     simp at *
    · simp -failIfUnchanged at h2; all_goals
     refine vwp_skip ?_
     refine hK2 _ ?_
     try clear hK2 K2
     refine vwp_seq_k fun K8 hK8 => ?_
     refine vwp_sq [0, 1] fun K9 hK9 => vwp_region hT ?_
     simp [-List.reduceReplicate, hnt]
     repeat refine ⟨by first | assumption | omega | (intros; omega), ?_⟩
     refine hK9 _ ?_
     try clear hK9 K9
     refine vwp_cond (by first | rfl | (simp; rfl)) (fun h3 => ?_) fun h3 => ?_
     · simp -failIfUnchanged at h3; all_goals
      refine vwp_seq_k fun K10 hK10 => ?_
      simp at *
     · simp -failIfUnchanged at h3; all_goals
      refine vwp_skip ?_
      refine hK8 _ ?_
      try clear hK8 K8
      refine vwp_seq_k fun K11 hK11 => ?_
      have hsl := setV_len (sL ntT)
      have hsp : spl (List.replicate 256 (V.bool false)) 0 (setV (sL ntT)) = setV (sL ntT) := by
        rw [spl_eq (by simp [-List.reduceReplicate, setV_len]), List.drop_of_length_le (by simp [-List.reduceReplicate, setV_len])]; simp
      refine vwp_sq [0, 1] fun K12 hK12 => vwp_region hT ?_
      simp [-List.reduceReplicate, hsl, hsp]
      repeat refine ⟨by first | assumption | omega | (intros; omega), ?_⟩
      refine vcall_k [] (hmk) ?_
      rintro r ob' ⟨rfl, rfl⟩
      simp [-List.reduceReplicate, hsl, hsp]
      repeat refine ⟨by first | assumption | omega | (intros; omega), ?_⟩
      refine hK12 _ ?_
      try clear hK12 K12
      refine vwp_sq [0, 1, 5, 6] fun K13 hK13 => vwp_region hT ?_
      simp [-List.reduceReplicate]
      refine hK13 _ ?_
      try clear hK13 K13
      refine vwp_cond (by first | rfl | (simp; rfl)) (fun h4 => ?_) fun h4 => ?_
      · simp -failIfUnchanged at h4; all_goals
       refine vwp_sq [0, 5] fun K14 hK14 => vwp_region hT ?_
       simp [-List.reduceReplicate]
       refine vcall_k [0] (trimRight_spec s (sL ntT) hs) ?_
       rintro r ob' ⟨⟨m, hm2, rfl, hright, hmid⟩, rfl⟩
       have hsz : (s.extract 0 m).size = m := by rw [ext_size]; omega
       simp [-List.reduceReplicate]
       refine vcall_k [0] (trimLeft_spec (s.extract 0 m) (sL ntT) (by omega)) ?_
       rintro r ob' ⟨⟨i, hi2, rfl, hleft, hend⟩, rfl⟩
       simp [-List.reduceReplicate]
       refine hK14 _ ?_
       try clear hK14 K14
       refine vwp_ret (hR _ _ ?_)
       have hmin : min m s.size = m := by omega
       obtain ⟨t, ht⟩ : ∃ t, t = (s.extract 0 m).extract i (min m s.size) := ⟨_, rfl⟩
       have hts : t.size = m - i := by rw [ht, ext_size, hsz]; omega
       have hon : decide (t.size = 0) = onlyB s (sL ntT) := by
         rw [hsz] at hi2 hend
         rcases hmid with h0 | ⟨c, hc, hcn⟩
         · rw [only_yes fun j c h => hright j c (by omega) h, decide_eq_true (by omega)]
         · rw [only_no hc hcn, decide_eq_false fun e => ?_]
           have him : i = m := by omega
           have hm0 : 0 < m := by
             rcases Nat.eq_zero_or_pos m with e0 | e0
             · subst e0
               have hh := hright (0 - 1) c (by omega) hc
               rw [hcn] at hh
               cases hh
             · exact e0
           have := hleft (m - 1) c (by omega) (by rw [ext_get (by omega), Nat.zero_add]; exact hc)
           rw [hcn] at this
           cases this
       rw [← ht]
       exact ret_k [4] [] [] (.str t) ⟨⟨t, rfl, hon⟩, rfl⟩
      · simp -failIfUnchanged at h4; all_goals
       refine vwp_skip ?_
       refine hK11 _ ?_
       try clear hK11 K11
       refine vwp_seq_k fun K15 hK15 => ?_
       simp at *
end Go.Proofs.YtgmcflbbdpbkeaaDoor
