/- The law BoundPlan: the walk. -/
import Derived.Test.YtinigjmfjabicaaBdL
import Derived.Test.YtinigjmfjabicaaBdH
import Derived.Test.YtinigjmfjabicaaLrgP
namespace Go.Proofs.Ytinigjmfjabicaa
open Go Go.VX Go.RowKit
set_option linter.unusedVariables false
set_option linter.unusedSimpArgs false
set_option maxHeartbeats 20000000
set_option maxRecDepth 100000

theorem pick_total {os : List Od} : ∀ {l : List Int}, (∀ id ∈ l, id ∈ os.map (·.id)) → ∃ L, pick os l = some L
  | [], _ => ⟨[], rfl⟩
  | x :: l, h => by
    obtain ⟨L, hL⟩ := pick_total (os := os) (l := l) fun id hid => h id (by simp [hid])
    rcases hf : fndO os x with _ | q
    · obtain ⟨o, ho, he⟩ := List.mem_map.1 (h x (by simp))
      exact absurd he (fndO_none hf o ho)
    · obtain ⟨o, ho, _⟩ := fndO_some hf
      exact ⟨o :: L, by simp [pick, hf, ho, hL]⟩
theorem made_holds {w : Wd} {ids : List Int} {t : Ct} {e : Int} (h : makeP w ids = (some t, e)) : holdsP w t = true := by
  obtain ⟨he, hok, hnd, L, hpk, htc, hLl, hL12, hLo, hLn⟩ := makeP_some h
  have hss : srt (srt ids) = srt ids := srt_eq (List.Perm.refl _) (srt_sorted ids)
  have hti : t.ids = srt ids := by rw [htc]; exact (mkC_len (by rw [srt_len]; omega)).2
  have hm : makeP w t.ids = (some t, 0) := by
    rw [hti]
    unfold makeP
    rw [if_neg (by rw [Wd.e_zero.2 hok]; simp), if_neg (by simp [dupB]; exact (srt_perm ids).nodup_iff.2 hnd), hss, hpk]
    dsimp only
    rw [htc]
  have htf : t.fine := by rw [htc]; exact mkC_fine hok hL12 hLn
  have h1 : inOK t.inn t.inn = true := inOK_iff.2 fun i x y hx hy => by rw [hx] at hy; cases hy; exact ⟨(htf.inn x (List.mem_of_getElem? hx)).1, Int.le_refl _⟩
  have hw : (t.bo == t.worth) = true := by
    rw [beq_iff_eq, htc]; unfold mkC Ct.worth
    split
    · simp
    · rfl
  unfold holdsP
  rw [hm]
  simp [h1, wiB, htf.ba.1, htf.ra.1, htf.fx.1]
  simpa using hw
theorem made_some {w : Wd} {p : Pn} (h : (checkP w p).2 = 0) : ∃ t, makeP w (servP p) = (some t, 0) := by
  obtain ⟨hok, _, cs, hrs, _, hcn, _, _⟩ := checkP_ok h
  have hpc : (srt (servP p)).Perm (catR p.rs) := (srt_perm _).trans (srt_perm _)
  obtain ⟨L, hL⟩ := pick_total (os := w.os) (l := srt (servP p)) fun id hid => cat_sub hrs id (hpc.mem_iff.1 hid)
  refine ⟨mkC w (srt (servP p)) L, ?_⟩
  unfold makeP
  rw [if_neg (by rw [Wd.e_zero.2 hok]; simp), if_neg (by simp [dupB]; exact (srt_perm _).nodup_iff.2 hcn), hL]
theorem law_bplan (w : Wd) (p : Pn) (c : Ct) (up : p.un.length ≤ 140737488355328) (rp : p.rs.length ≤ 140737488355328) (sp : ∀ r ∈ p.rs, r.st.length ≤ 140737488355328) : VC P 10 [.agg w.c, .agg p.c, .agg c.c] [] (fun r ob' => r = .bool true ∧ ob' = []) := by
  refine VC_of_vwp_k ent_10 Try.func10 rfl (by simp) fun R hR => ?_
  refine vwp_sq [0, 1, 2] fun K1 hK1 => vwp_region hT ?_
  simp
  refine hK1 _ ?_
  try clear hK1 K1
  refine vwp_seq_k fun K2 hK2 => ?_
  refine vwp_sq [3, 4, 5] fun K3 hK3 => vwp_region hT ?_
  simp
  refine vcall_k [] (awake12) ?_
  rintro r ob' ⟨rfl, rfl⟩
  simp
  refine hK3 _ ?_
  try clear hK3 K3
  refine vwp_cond (by first | rfl | (simp; rfl)) (fun h1 => ?_) fun h1 => ?_
  · simp -failIfUnchanged at h1; all_goals
   refine vwp_seq_k fun K4 hK4 => ?_
   simp_all
  · simp -failIfUnchanged at h1; all_goals
   refine vwp_skip ?_
   refine hK2 _ ?_
   try clear hK2 K2
   refine vwp_seq_k fun K5 hK5 => ?_
   refine vwp_seq_k fun K6 hK6 => ?_
   rcases hlg : lrgC w c with _ | _
   · obtain ⟨l1, l2, l3, l4, l5, l6⟩ := lrgC_no hlg
     refine vwp_live [3, 4, 5] (vwp_region hT ?_)
     simp [hlg]
     refine vcall_z [] (lrgC_spec w c) (by rintro r ob' ⟨rfl, rfl⟩; simp) ?_
     rintro r ob' ⟨rfl, rfl⟩
     simp [hlg]
     refine vcall_z [] (lrgP_spec p up rp sp) (by rintro r ob' ⟨rfl, rfl⟩; simp) ?_
     rintro r ob' ⟨rfl, rfl⟩
     simp [hlg]
     refine hK6 _ ?_
     try clear hK6 K6
     refine vwp_cond (by first | rfl | (simp; rfl)) (fun h2 => ?_) fun h2 => ?_
     · simp -failIfUnchanged at h2; all_goals
      refine vwp_sq [] fun K7 hK7 => vwp_region hT ?_
      simp
      refine hK7 _ ?_
      try clear hK7 K7
      refine vwp_ret (hR _ _ ?_)
      exact ret_k [6] [] ([]) (.bool true) (⟨rfl, rfl⟩)
     · simp -failIfUnchanged at h2; all_goals
      have q := h2
      obtain ⟨fp, l7, l8, l9⟩ := lrgP_no (p := p) (by simpa using q)
      obtain ⟨⟨co, er⟩, hck⟩ : ∃ x, x = checkP w p := ⟨_, rfl⟩
      have hsn : (servP p).length ≤ 200 := by unfold servP; rw [srt_len]; omega
      have hsl2 : (catR p.rs).length = (servP p).length := by unfold servP; rw [srt_len]
      have hsl : List.take (servP p).length (ints (servP p)) = ints (servP p) := List.take_of_length_le (by simp)
      refine vwp_skip ?_
      refine hK5 _ ?_
      try clear hK5 K5
      refine vwp_sq [3, 4, 5] fun K8 hK8 => vwp_region hT ?_
      simp
      refine vcall_k [] (served_spec p fp.rs fp.cat) ?_
      rintro r ob' ⟨rfl, rfl⟩
      simp
      refine hK8 _ ?_
      try clear hK8 K8
      refine vwp_seq_k fun K9 hK9 => ?_
      rcases hmk : makeP w (servP p) with ⟨_ | t, e⟩
      · have hne := makeP_none hmk
        have her : er ≠ 0 := by
          rintro rfl
          obtain ⟨t, ht⟩ := made_some (w := w) (p := p) (by rw [← hck])
          rw [hmk] at ht
          cases ht
        refine vwp_live [3, 4, 5, 7] (vwp_region hT ?_)
        simp
        repeat refine ⟨by first | assumption | omega | (intros; omega), ?_⟩
        refine vcall_z [] (make_spec w (by omega) (by omega) (servP p) (by omega)) (by rw [hmk]; rintro r ob' ⟨rfl, rfl⟩; simp) ?_ (ha := by simp [hsl, hsl2]) (hok := by simp [hsl2])
        rw [hmk]
        rintro r ob' ⟨rfl, rfl⟩
        simp
        repeat refine ⟨by first | assumption | omega | (intros; omega), ?_⟩
        refine hK9 _ ?_
        try clear hK9 K9
        refine vwp_sq [3, 4, 5, 7, 8, 9] fun K10 hK10 => vwp_region hT ?_
        simp
        refine vcall_z [] (check_spec w (by omega) (by omega) p fp.rs fp.cat fp.un) (by rw [← hck]; rintro r ob' ⟨rfl, rfl⟩; simp) ?_
        rw [← hck]
        rintro r ob' ⟨rfl, rfl⟩
        simp
        refine hK10 _ ?_
        try clear hK10 K10
        refine vwp_seq_k fun K11 hK11 => ?_
        refine vwp_sq [3, 5, 7, 8, 9, 10, 11] fun K12 hK12 => vwp_region hT ?_
        simp [her]
        refine hK12 _ ?_
        try clear hK12 K12
        refine vwp_cond (by first | rfl | (simp; rfl)) (fun h3 => ?_) fun h3 => ?_
        · simp -failIfUnchanged at h3; all_goals
         refine vwp_sq [3, 8, 9] fun K13 hK13 => vwp_region hT ?_
         simp [hne]
         refine hK13 _ ?_
         try clear hK13 K13
         refine vwp_ret (hR _ _ ?_)
         exact ret_k [6] [] ([]) (.bool true) (⟨rfl, rfl⟩)
        · simp -failIfUnchanged at h3; all_goals
         refine vwp_skip ?_
         refine hK11 _ ?_
         try clear hK11 K11
         refine vwp_seq_k fun K14 hK14 => ?_
         refine vwp_seq_k fun K15 hK15 => ?_
         simp_all
      · obtain ⟨hee, hok, hnd, L, hpk, htc, hLl, hL12, hLo, hLn⟩ := makeP_some hmk
        subst hee
        have htt := made_holds hmk
        obtain ⟨hti, htd⟩ : t.inn.length = (srt (servP p)).length ∧ t.ids = srt (servP p) := by rw [htc]; exact mkC_len (by rw [srt_len]; omega)
        rw [srt_len] at hti
        have htdl : t.ids.length = (servP p).length := by rw [htd, srt_len]
        have htk1 : List.take t.ids.length (ints t.ids) = ints t.ids := List.take_of_length_le (by simp)
        have htk2 : List.take t.inn.length (ints t.inn) = ints t.inn := List.take_of_length_le (by simp)
        refine vwp_live [3, 4, 5, 7] (vwp_region hT ?_)
        simp
        repeat refine ⟨by first | assumption | omega | (intros; omega), ?_⟩
        refine vcall_z [] (make_spec w (by omega) (by omega) (servP p) (by omega)) (by rw [hmk]; rintro r ob' ⟨rfl, rfl⟩; simp) ?_ (ha := by simp [hsl, hsl2]) (hok := by simp [hsl2])
        rw [hmk]
        rintro r ob' ⟨rfl, rfl⟩
        simp
        repeat refine ⟨by first | assumption | omega | (intros; omega), ?_⟩
        refine hK9 _ ?_
        try clear hK9 K9
        refine vwp_sq [3, 4, 5, 7, 8, 9] fun K16 hK16 => vwp_region hT ?_
        simp
        refine vcall_z [] (check_spec w (by omega) (by omega) p fp.rs fp.cat fp.un) (by rw [← hck]; rintro r ob' ⟨rfl, rfl⟩; simp) ?_
        rw [← hck]
        rintro r ob' ⟨rfl, rfl⟩
        simp
        refine hK16 _ ?_
        try clear hK16 K16
        refine vwp_seq_k fun K17 hK17 => ?_
        refine vwp_seq_k fun K18 hK18 => ?_
        by_cases he : er = 0
        · subst he
          obtain ⟨hb1, hb2⟩ := made_less (w := w) (p := p) (by rw [← hck]) hmk
          rw [← hck] at hb2
          dsimp only at hb2
          have hb3 : ¬ co < t.bo := Int.not_lt.2 hb2
          have hb4 : ¬ t.bo < 0 := Int.not_lt.2 hb1
          refine vwp_live [3, 5, 7, 8, 9, 10, 11] (vwp_region hT ?_)
          simp
          refine hK18 _ ?_
          try clear hK18 K18
          refine vwp_cond (by first | rfl | (simp; rfl)) (fun h4 => ?_) fun h4 => ?_
          · simp -failIfUnchanged at h4; all_goals
           refine vwp_seq_k fun K19 hK19 => ?_
           simp_all
          · simp -failIfUnchanged at h4; all_goals
           refine vwp_skip ?_
           refine hK17 _ ?_
           try clear hK17 K17
           refine vwp_seq_k fun K20 hK20 => ?_
           refine vwp_sq [3, 5, 7, 8, 9, 10] fun K21 hK21 => vwp_region hT ?_
           simp [hb3, hb4]
           refine vcall_z [] (holds_spec w (by omega) (by omega) t (by omega) (by omega)) (by rw [htt]; rintro r ob' ⟨rfl, rfl⟩; simp) ?_ (ha := by simp [htk1, htk2]) (hok := by simp)
           rw [htt]
           rintro r ob' ⟨rfl, rfl⟩
           simp [hb3, hb4]
           refine hK21 _ ?_
           try clear hK21 K21
           refine vwp_cond (by first | rfl | (simp; rfl)) (fun h5 => ?_) fun h5 => ?_
           · simp -failIfUnchanged at h5; all_goals
            refine vwp_seq_k fun K22 hK22 => ?_
            simp_all
           · simp -failIfUnchanged at h5; all_goals
            refine vwp_skip ?_
            refine hK20 _ ?_
            try clear hK20 K20
            refine vwp_sq [3, 5, 7, 8] fun K23 hK23 => vwp_region hT ?_
            simp
            repeat refine ⟨by first | assumption | omega | (intros; omega), ?_⟩
            refine hK23 _ ?_
            try clear hK23 K23
            refine vwp_seq_k fun K24 hK24 => ?_
            rcases hh : holdsP w (⟨servP p, c.inn, c.ba, c.ra, c.fx, c.bo⟩ : Ct) with _ | _
            · refine vwp_live [3, 5, 8] (vwp_region hT ?_)
              simp
              refine vcall_z [] (holds_spec w (by omega) (by omega) (⟨servP p, c.inn, c.ba, c.ra, c.fx, c.bo⟩ : Ct) (by dsimp only; omega) (by dsimp only; omega)) (by rw [hh]; rintro r ob' ⟨rfl, rfl⟩; simp) ?_ (ha := by simp [hsl, hsl2]) (hok := by simp [hsl2])
              rw [hh]
              rintro r ob' ⟨rfl, rfl⟩
              simp
              refine hK24 _ ?_
              try clear hK24 K24
              refine vwp_ret (hR _ _ ?_)
              exact ret_k [6] [] ([]) (.bool true) (⟨rfl, rfl⟩)
            · have hc3 : c.bo ≤ t.bo := (holds_less (c := (⟨servP p, c.inn, c.ba, c.ra, c.fx, c.bo⟩ : Ct)) hh hmk).2.2
              refine vwp_live [3, 5, 8] (vwp_region hT ?_)
              simp [hc3]
              refine vcall_z [] (holds_spec w (by omega) (by omega) (⟨servP p, c.inn, c.ba, c.ra, c.fx, c.bo⟩ : Ct) (by dsimp only; omega) (by dsimp only; omega)) (by rw [hh]; rintro r ob' ⟨rfl, rfl⟩; simp) ?_ (ha := by simp [hsl, hsl2]) (hok := by simp [hsl2])
              rw [hh]
              rintro r ob' ⟨rfl, rfl⟩
              simp [hc3]
              refine hK24 _ ?_
              try clear hK24 K24
              refine vwp_ret (hR _ _ ?_)
              exact ret_k [6] [] ([]) (.bool true) (⟨rfl, rfl⟩)
        · refine vwp_live [3, 5, 7, 8, 9, 10, 11] (vwp_region hT ?_)
          simp [he]
          refine hK18 _ ?_
          try clear hK18 K18
          refine vwp_cond (by first | rfl | (simp; rfl)) (fun h6 => ?_) fun h6 => ?_
          · simp -failIfUnchanged at h6; all_goals
           refine vwp_sq [3, 8, 9] fun K25 hK25 => vwp_region hT ?_
           simp
           refine vcall_z [] (holds_spec w (by omega) (by omega) t (by omega) (by omega)) (by rw [htt]; rintro r ob' ⟨rfl, rfl⟩; simp) ?_ (ha := by simp [htk1, htk2]) (hok := by simp)
           rw [htt]
           rintro r ob' ⟨rfl, rfl⟩
           simp
           refine hK25 _ ?_
           try clear hK25 K25
           refine vwp_ret (hR _ _ ?_)
           exact ret_k [6] [] ([]) (.bool true) (⟨rfl, rfl⟩)
          · simp -failIfUnchanged at h6; all_goals
           refine vwp_skip ?_
           refine hK17 _ ?_
           try clear hK17 K17
           refine vwp_seq_k fun K26 hK26 => ?_
           refine vwp_seq_k fun K27 hK27 => ?_
           simp_all
   · refine vwp_live [3, 4, 5] (vwp_region hT ?_)
     simp [hlg]
     refine vcall_z [] (lrgC_spec w c) (by rintro r ob' ⟨rfl, rfl⟩; simp) ?_
     rintro r ob' ⟨rfl, rfl⟩
     simp [hlg]
     refine hK6 _ ?_
     try clear hK6 K6
     refine vwp_cond (by first | rfl | (simp; rfl)) (fun h7 => ?_) fun h7 => ?_
     · simp -failIfUnchanged at h7; all_goals
      refine vwp_sq [] fun K28 hK28 => vwp_region hT ?_
      simp
      refine hK28 _ ?_
      try clear hK28 K28
      refine vwp_ret (hR _ _ ?_)
      exact ret_k [6] [] ([]) (.bool true) (⟨rfl, rfl⟩)
     · simp -failIfUnchanged at h7; all_goals
      refine vwp_skip ?_
      refine hK5 _ ?_
      try clear hK5 K5
      refine vwp_seq_k fun K29 hK29 => ?_
      simp_all
end Go.Proofs.Ytinigjmfjabicaa
