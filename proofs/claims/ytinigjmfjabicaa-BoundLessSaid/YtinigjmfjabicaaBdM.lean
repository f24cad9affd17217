/- The law BoundLess: the walk. -/
import Derived.Test.YtinigjmfjabicaaBdL
import Derived.Test.YtinigjmfjabicaaBdH
import Derived.Test.YtinigjmfjabicaaLrgP
namespace Go.Proofs.Ytinigjmfjabicaa
open Go Go.VX Go.RowKit
set_option linter.unusedVariables false
set_option linter.unusedSimpArgs false
set_option maxHeartbeats 20000000
set_option maxRecDepth 100000

theorem cost_nonneg (w : Wd) (p : Pn) : 0 ≤ (checkP w p).1 := by
  by_cases h : (checkP w p).2 = 0
  · obtain ⟨_, _, cs, hrs, _, _, _, hck⟩ := checkP_ok h
    rw [hck]
    exact sum_nonneg (D := cs) fun n hn => ((runsP_co hrs).2 n hn).1
  · rw [checkP_bad h]; exact Int.le_refl _
theorem law_bless (w : Wd) (c : Ct) (p : Pn) (up : p.un.length ≤ 140737488355328) (rp : p.rs.length ≤ 140737488355328) (sp : ∀ r ∈ p.rs, r.st.length ≤ 140737488355328) : VC P 9 [.agg w.c, .agg c.c, .agg p.c] [] (fun r ob' => r = .bool true ∧ ob' = []) := by
  refine VC_of_vwp_k ent_9 Try.func9 rfl (by simp) fun R hR => ?_
  refine vwp_sq [0, 1, 2] fun K1 hK1 => vwp_region hT ?_
  simp
  refine hK1 _ ?_
  try clear hK1 K1
  refine vwp_seq_k fun K2 hK2 => ?_
  refine vwp_sq [3, 4, 5] fun K3 hK3 => vwp_region hT ?_
  simp
  refine vcall_k [] (awake12) ?_
  rintro r ob' ⟨rfl, rfl⟩
  simp
  refine hK3 _ ?_
  try clear hK3 K3
  refine vwp_cond (by first | rfl | (simp; rfl)) (fun h1 => ?_) fun h1 => ?_
  · simp -failIfUnchanged at h1; all_goals
   refine vwp_seq_k fun K4 hK4 => ?_
   simp_all
  · simp -failIfUnchanged at h1; all_goals
   refine vwp_skip ?_
   refine hK2 _ ?_
   try clear hK2 K2
   refine vwp_seq_k fun K5 hK5 => ?_
   refine vwp_seq_k fun K6 hK6 => ?_
   rcases hlg : lrgC w c with _ | _
   · obtain ⟨l1, l2, l3, l4, l5, l6⟩ := lrgC_no hlg
     refine vwp_live [3, 4, 5] (vwp_region hT ?_)
     simp [hlg]
     refine vcall_z [] (lrgC_spec w c) (by rintro r ob' ⟨rfl, rfl⟩; simp) ?_
     rintro r ob' ⟨rfl, rfl⟩
     simp [hlg]
     refine vcall_z [] (lrgP_spec p up rp sp) (by rintro r ob' ⟨rfl, rfl⟩; simp) ?_
     rintro r ob' ⟨rfl, rfl⟩
     simp [hlg]
     refine hK6 _ ?_
     try clear hK6 K6
     refine vwp_cond (by first | rfl | (simp; rfl)) (fun h2 => ?_) fun h2 => ?_
     · simp -failIfUnchanged at h2; all_goals
      refine vwp_sq [] fun K7 hK7 => vwp_region hT ?_
      simp
      refine hK7 _ ?_
      try clear hK7 K7
      refine vwp_ret (hR _ _ ?_)
      exact ret_k [6] [] ([]) (.bool true) (⟨rfl, rfl⟩)
     · simp -failIfUnchanged at h2; all_goals
      have q := h2
      obtain ⟨fp, l7, l8, l9⟩ := lrgP_no (p := p) (by simpa using q)
      obtain ⟨⟨co, er⟩, hck⟩ : ∃ x, x = checkP w p := ⟨_, rfl⟩
      have hc0 : 0 ≤ co := by have := cost_nonneg w p; rw [← hck] at this; exact this
      have hsn : (servP p).length ≤ 200 := by unfold servP; rw [srt_len]; omega
      have hsl2 : (servP p).length = (catR p.rs).length := by unfold servP; rw [srt_len]
      have hsl : List.take (catR p.rs).length (ints (servP p)) = ints (servP p) := List.take_of_length_le (by simp; omega)
      refine vwp_skip ?_
      refine hK5 _ ?_
      try clear hK5 K5
      refine vwp_sq [3, 4, 5] fun K8 hK8 => vwp_region hT ?_
      simp
      refine vcall_z [] (check_spec w (by omega) (by omega) p fp.rs fp.cat fp.un) (by rw [← hck]; rintro r ob' ⟨rfl, rfl⟩; simp) ?_
      rw [← hck]
      rintro r ob' ⟨rfl, rfl⟩
      simp
      refine hK8 _ ?_
      try clear hK8 K8
      refine vwp_seq_k fun K9 hK9 => ?_
      refine vwp_seq_k fun K10 hK10 => ?_
      by_cases he : er = 0
      · subst he
        by_cases hs : servP p = c.ids
        · have hds := decide_eq_true hs
          rcases hh : holdsP w c with _ | _
          skip
          · refine vwp_live [3, 4, 5, 7, 8] (vwp_storm hT hm [.pure, .win 0 0, .pure, .win 0 0, .mv, .win 0 1, .win 0 1, .mv, .pure, .pure, .pure, .win 2 2, .win 2 2, .mv, .pure, .pure] [[], [0], [0, 1], [0, 1, 2], [0, 1, 2, 3], [0, 1, 2], [0, 1, 2, 5], [0, 1, 2, 3, 4, 5, 6], [0, 1, 2, 3, 4, 5, 6, 7], [0, 1, 2, 3, 4, 5, 6, 7, 8], [0, 1, 2, 3, 4, 5, 6, 7, 8, 9], [0, 1, 2, 3, 4, 5, 6, 7, 8, 9, 10], [0, 1, 2, 3, 4, 5, 6, 7, 8, 9, 10], [0, 1, 2, 3, 4, 5, 6, 7, 8, 9, 10, 11, 12], [0, 1, 2, 3, 4, 5, 6, 7, 8, 9, 10, 11, 12, 13], [0, 1, 2, 3, 4, 5, 6, 7, 8, 9, 10, 11, 12, 13, 14]] (by kernel_rfl) ?_)
            simp [hds, hh]
            refine ⟨.sl 3 (catR p.rs).length 1 0 (catR p.rs).length, [.live w.c, .live c.c, .live p.c, .live (ints (servP p))], fun sl => ?_, ?_⟩
            · refine vcall_k [] (served_spec p fp.rs fp.cat) ?_
              rintro r ob' ⟨rfl, rfl⟩
              simp
            simp [hds, hh]
            refine ⟨.bool (decide (servP p = c.ids)), [.live w.c, .live c.c, .live p.c, .live (ints (servP p))], fun sl => ?_, ?_⟩
            · refine vcall_z [] (same_spec (servP p) c.ids (by omega) (by omega)) (by rintro r ob' ⟨rfl, rfl⟩; simp) ?_ (ha := by simp [hsl, hsl2]) (hok := by simp [hsl2])
              rintro r ob' ⟨rfl, rfl⟩
              simp
            simp [hds, hh]
            refine ⟨.bool (holdsP w c), [.live w.c, .live c.c, .live p.c, .live (ints (servP p))], fun sl => ?_, ?_⟩
            · refine vcall_z [] (holds_spec w (by omega) (by omega) c (by omega) (by omega)) (by rintro r ob' ⟨rfl, rfl⟩; simp) ?_
              rintro r ob' ⟨rfl, rfl⟩
              simp
            simp [hds, hh]
            refine hK10 _ ?_
            try clear hK10 K10
            refine vwp_cond (by first | rfl | (simp; rfl)) (fun h3 => ?_) fun h3 => ?_
            · simp -failIfUnchanged at h3; all_goals
             refine vwp_sq [7] fun K11 hK11 => vwp_region hT ?_
             simp [hc0]
             refine hK11 _ ?_
             try clear hK11 K11
             refine vwp_ret (hR _ _ ?_)
             exact ret_k [6] [] ([]) (.bool true) (⟨rfl, rfl⟩)
            · simp -failIfUnchanged at h3; all_goals
             refine vwp_skip ?_
             refine hK9 _ ?_
             try clear hK9 K9
             refine vwp_seq_k fun K12 hK12 => ?_
             simp_all
          · have hb : c.bo ≤ co ∧ 0 ≤ c.bo := by
              rcases hmk : makeP w c.ids with ⟨_ | t, e⟩
              · unfold holdsP at hh; rw [hmk] at hh; cases hh
              · obtain ⟨_, h1, h2⟩ := holds_less hh hmk
                have h3 := made_less (w := w) (p := p) (by rw [← hck]) (by rw [hs]; exact hmk)
                rw [← hck] at h3
                exact ⟨Int.le_trans h2 h3.2, h1⟩
            obtain ⟨hb1, hb2⟩ := hb
            refine vwp_live [3, 4, 5, 7, 8] (vwp_storm hT hm [.pure, .win 0 0, .pure, .win 0 0, .mv, .win 0 1, .win 0 1, .mv, .pure, .pure, .pure, .win 2 2, .win 2 2, .mv, .pure, .pure] [[], [0], [0, 1], [0, 1, 2], [0, 1, 2, 3], [0, 1, 2], [0, 1, 2, 5], [0, 1, 2, 3, 4, 5, 6], [0, 1, 2, 3, 4, 5, 6, 7], [0, 1, 2, 3, 4, 5, 6, 7, 8], [0, 1, 2, 3, 4, 5, 6, 7, 8, 9], [0, 1, 2, 3, 4, 5, 6, 7, 8, 9, 10], [0, 1, 2, 3, 4, 5, 6, 7, 8, 9, 10], [0, 1, 2, 3, 4, 5, 6, 7, 8, 9, 10, 11, 12], [0, 1, 2, 3, 4, 5, 6, 7, 8, 9, 10, 11, 12, 13], [0, 1, 2, 3, 4, 5, 6, 7, 8, 9, 10, 11, 12, 13, 14]] (by kernel_rfl) ?_)
            simp [hds, hh]
            refine ⟨.sl 3 (catR p.rs).length 1 0 (catR p.rs).length, [.live w.c, .live c.c, .live p.c, .live (ints (servP p))], fun sl => ?_, ?_⟩
            · refine vcall_k [] (served_spec p fp.rs fp.cat) ?_
              rintro r ob' ⟨rfl, rfl⟩
              simp
            simp [hds, hh]
            refine ⟨.bool (decide (servP p = c.ids)), [.live w.c, .live c.c, .live p.c, .live (ints (servP p))], fun sl => ?_, ?_⟩
            · refine vcall_z [] (same_spec (servP p) c.ids (by omega) (by omega)) (by rintro r ob' ⟨rfl, rfl⟩; simp) ?_ (ha := by simp [hsl, hsl2]) (hok := by simp [hsl2])
              rintro r ob' ⟨rfl, rfl⟩
              simp
            simp [hds, hh]
            refine ⟨.bool (holdsP w c), [.live w.c, .live c.c, .live p.c, .live (ints (servP p))], fun sl => ?_, ?_⟩
            · refine vcall_z [] (holds_spec w (by omega) (by omega) c (by omega) (by omega)) (by rintro r ob' ⟨rfl, rfl⟩; simp) ?_
              rintro r ob' ⟨rfl, rfl⟩
              simp
            simp [hds, hh]
            refine hK10 _ ?_
            try clear hK10 K10
            refine vwp_cond (by first | rfl | (simp; rfl)) (fun h4 => ?_) fun h4 => ?_
            · simp -failIfUnchanged at h4; all_goals
             refine vwp_seq_k fun K13 hK13 => ?_
             simp_all
            · simp -failIfUnchanged at h4; all_goals
             refine vwp_skip ?_
             refine hK9 _ ?_
             try clear hK9 K9
             refine vwp_sq [4, 7] fun K14 hK14 => vwp_region hT ?_
             simp [hb1, hb2]
             refine hK14 _ ?_
             try clear hK14 K14
             refine vwp_ret (hR _ _ ?_)
             exact ret_k [6] [] ([]) (.bool true) (⟨rfl, rfl⟩)
        · have hds := decide_eq_false hs
          refine vwp_live [3, 4, 5, 7, 8] (vwp_storm hT hm [.pure, .win 0 0, .pure, .win 0 0, .mv, .win 0 1, .win 0 1, .mv, .pure, .pure, .pure, .off, .off, .off, .off, .pure] [[], [0], [0, 1], [0, 1, 2], [0, 1, 2, 3], [0, 1, 2], [0, 1, 2, 5], [0, 1, 2, 3, 4, 5, 6], [0, 1, 2, 3, 4, 5, 6, 7], [0, 1, 2, 3, 4, 5, 6, 7, 8], [0, 1, 2, 3, 4, 5, 6, 7, 8, 9], [0, 1, 2, 3, 4, 5, 6, 7, 8, 9, 10], [0, 1, 2, 3, 4, 5, 6, 7, 8, 9, 10], [0, 1, 2, 3, 4, 5, 6, 7, 8, 9, 10, 11, 12], [0, 1, 2, 3, 4, 5, 6, 7, 8, 9, 10, 11, 12, 13], [0, 1, 2, 3, 4, 5, 6, 7, 8, 9, 10, 11, 12, 13, 14]] (by kernel_rfl) ?_)
          simp [hds]
          refine ⟨.sl 3 (catR p.rs).length 1 0 (catR p.rs).length, [.live w.c, .live c.c, .live p.c, .live (ints (servP p))], fun sl => ?_, ?_⟩
          · refine vcall_k [] (served_spec p fp.rs fp.cat) ?_
            rintro r ob' ⟨rfl, rfl⟩
            simp
          simp [hds]
          refine ⟨.bool (decide (servP p = c.ids)), [.live w.c, .live c.c, .live p.c, .live (ints (servP p))], fun sl => ?_, ?_⟩
          · refine vcall_z [] (same_spec (servP p) c.ids (by omega) (by omega)) (by rintro r ob' ⟨rfl, rfl⟩; simp) ?_ (ha := by simp [hsl, hsl2]) (hok := by simp [hsl2])
            rintro r ob' ⟨rfl, rfl⟩
            simp
          simp [hds]
          refine hK10 _ ?_
          try clear hK10 K10
          refine vwp_cond (by first | rfl | (simp; rfl)) (fun h5 => ?_) fun h5 => ?_
          · simp -failIfUnchanged at h5; all_goals
           refine vwp_sq [7] fun K15 hK15 => vwp_region hT ?_
           simp [hc0]
           refine hK15 _ ?_
           try clear hK15 K15
           refine vwp_ret (hR _ _ ?_)
           exact ret_k [6] [] ([]) (.bool true) (⟨rfl, rfl⟩)
          · simp -failIfUnchanged at h5; all_goals
           refine vwp_skip ?_
           refine hK9 _ ?_
           try clear hK9 K9
           refine vwp_seq_k fun K16 hK16 => ?_
           simp_all
      · have hbe : (er != 0) = true := by simpa using he
        refine vwp_live [3, 4, 5, 7, 8] (vwp_storm hT hm [.pure, .win 0 0, .pure, .off, .off, .off, .off, .off, .off, .pure, .pure, .off, .off, .off, .off, .pure] [[], [0], [0, 1], [0, 1, 2], [0, 1, 2, 3], [0, 1, 2], [0, 1, 2, 5], [0, 1, 2, 3, 4, 5, 6], [0, 1, 2, 3, 4, 5, 6, 7], [0, 1, 2, 3, 4, 5, 6, 7, 8], [0, 1, 2, 3, 4, 5, 6, 7, 8, 9], [0, 1, 2, 3, 4, 5, 6, 7, 8, 9, 10], [0, 1, 2, 3, 4, 5, 6, 7, 8, 9, 10], [0, 1, 2, 3, 4, 5, 6, 7, 8, 9, 10, 11, 12], [0, 1, 2, 3, 4, 5, 6, 7, 8, 9, 10, 11, 12, 13], [0, 1, 2, 3, 4, 5, 6, 7, 8, 9, 10, 11, 12, 13, 14]] (by kernel_rfl) ?_)
        simp [hbe]
        refine hK10 _ ?_
        try clear hK10 K10
        refine vwp_cond (by first | rfl | (simp; rfl)) (fun h6 => ?_) fun h6 => ?_
        · simp -failIfUnchanged at h6; all_goals
         refine vwp_sq [7] fun K17 hK17 => vwp_region hT ?_
         simp [hc0]
         refine hK17 _ ?_
         try clear hK17 K17
         refine vwp_ret (hR _ _ ?_)
         exact ret_k [6] [] ([]) (.bool true) (⟨rfl, rfl⟩)
        · simp -failIfUnchanged at h6; all_goals
         refine vwp_skip ?_
         refine hK9 _ ?_
         try clear hK9 K9
         refine vwp_seq_k fun K18 hK18 => ?_
         simp_all
   · refine vwp_live [3, 4, 5] (vwp_region hT ?_)
     simp [hlg]
     refine vcall_z [] (lrgC_spec w c) (by rintro r ob' ⟨rfl, rfl⟩; simp) ?_
     rintro r ob' ⟨rfl, rfl⟩
     simp [hlg]
     refine hK6 _ ?_
     try clear hK6 K6
     refine vwp_cond (by first | rfl | (simp; rfl)) (fun h7 => ?_) fun h7 => ?_
     · simp -failIfUnchanged at h7; all_goals
      refine vwp_sq [] fun K19 hK19 => vwp_region hT ?_
      simp
      refine hK19 _ ?_
      try clear hK19 K19
      refine vwp_ret (hR _ _ ?_)
      exact ret_k [6] [] ([]) (.bool true) (⟨rfl, rfl⟩)
     · simp -failIfUnchanged at h7; all_goals
      refine vwp_skip ?_
      refine hK5 _ ?_
      try clear hK5 K5
      refine vwp_seq_k fun K20 hK20 => ?_
      simp_all
end Go.Proofs.Ytinigjmfjabicaa
