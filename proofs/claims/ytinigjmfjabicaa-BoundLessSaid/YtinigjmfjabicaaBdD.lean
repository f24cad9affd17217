/- Whether a certificate holds: the walk. -/
import Derived.Test.YtinigjmfjabicaaBdC
namespace Go.Proofs.Ytinigjmfjabicaa
open Go Go.VX Go.RowKit
set_option linter.unusedVariables false
set_option linter.unusedSimpArgs false
set_option maxHeartbeats 20000000
set_option maxRecDepth 100000

theorem makeP_none {w : Wd} {ids : List Int} {e : Int} (h : makeP w ids = (none, e)) : e ≠ 0 := by
  unfold makeP at h
  split at h
  · cases h; assumption
  split at h
  · cases h; decide
  split at h
  · cases h; decide
  · cases h
theorem makeP_some {w : Wd} {ids : List Int} {t : Ct} {e : Int} (h : makeP w ids = (some t, e)) : e = 0 ∧ w.ok ∧ ids.Nodup ∧ ∃ L, pick w.os (srt ids) = some L ∧ t = mkC w (srt ids) L ∧ L.length = ids.length ∧ L.length ≤ 12 ∧ (∀ o ∈ L, ordB w.n o = true) ∧ ∀ o ∈ L, 0 ≤ o.nd ∧ o.nd < w.n := by
  unfold makeP at h
  split at h
  · cases h
  rename_i he
  have hok : w.ok := Wd.e_zero.1 (Classical.byContradiction he)
  split at h
  · cases h
  rename_i hd
  split at h
  · cases h
  rename_i L hL
  cases h
  have hn : ids.Nodup := by simpa [dupB] using hd
  have hl := pick_nodup hL ((srt_perm ids).nodup_iff.2 hn)
  have h12 := hok.o12
  have hLl := (pick_len _ hL).1
  have hsl := srt_len ids
  have hLo : ∀ o ∈ L, ordB w.n o = true := fun o ho => hok.os o ((pick_len _ hL).2 o ho)
  exact ⟨rfl, hok, hn, L, hL, rfl, by omega, by omega, hLo, fun o ho => by have := ordB_iff.1 (hLo o ho); omega⟩
theorem mkC_fine {w : Wd} (hok : w.ok) {S : List Int} {L : List Od} (h12 : L.length ≤ 12) (hLn : ∀ o ∈ L, 0 ≤ o.nd ∧ o.nd < w.n) : (mkC w S L).fine := by
  unfold mkC
  split
  · exact ⟨by simp, by simp, by simp, by simp, by simp⟩
  · exact ⟨by dsimp only; rw [inF_len w L _ (Nat.le_refl _)]; omega, inF_bounds hok.A hLn _, leaNd_bounds hok.A hLn, ra_bounds hok, fx_bounds hok⟩
theorem mkC_len {w : Wd} {S : List Int} {L : List Od} (h : S.length = L.length) : (mkC w S L).inn.length = S.length ∧ (mkC w S L).ids = S := by
  unfold mkC
  split
  · rename_i h2; subst h2; simpa using h.symm
  · exact ⟨by dsimp only; rw [inF_len w L _ (Nat.le_refl _), h], rfl⟩
def wiB (a b : Int) : Bool := decide (0 ≤ a ∧ a ≤ b)
def inOK (a b : List Int) : Bool := (a.zip b).all fun q => wiB q.1 q.2
theorem inOK_iff {a b : List Int} : inOK a b = true ↔ ∀ (i : Nat) x y, a[i]? = some x → b[i]? = some y → 0 ≤ x ∧ x ≤ y := by
  unfold inOK
  rw [List.all_eq_true]
  constructor
  · intro h i x y hx hy
    have := h (x, y) (List.mem_iff_getElem?.2 ⟨i, by rw [List.getElem?_zip_eq_some]; exact ⟨hx, hy⟩⟩)
    simpa [wiB] using this
  · rintro h ⟨x, y⟩ hq
    obtain ⟨i, hi⟩ := List.mem_iff_getElem?.1 hq
    rw [List.getElem?_zip_eq_some] at hi
    have := h i x y hi.1 hi.2
    simpa [wiB] using this
def holdsP (w : Wd) (c : Ct) : Bool := match makeP w c.ids with
  | (none, _) => false
  | (some t, _) => decide (t.ids = c.ids) && (decide (c.inn.length = t.inn.length) && (inOK c.inn t.inn && ((wiB c.ba t.ba && (wiB c.ra t.ra && wiB c.fx t.fx)) && (c.bo == c.worth))))
theorem fine_le {c t : Ct} (ht : t.fine) (hl : c.inn.length = t.inn.length) (hi : inOK c.inn t.inn = true) (h1 : wiB c.ba t.ba = true) (h2 : wiB c.ra t.ra = true) (h3 : wiB c.fx t.fx = true) : c.fine := by
  simp only [wiB, decide_eq_true_eq] at h1 h2 h3
  refine ⟨by rw [hl]; exact ht.len, fun n hn => ?_, ?_, ?_, ?_⟩
  · obtain ⟨i, hx⟩ := List.mem_iff_getElem?.1 hn
    have hlt := (List.getElem?_eq_some_iff.1 hx).1
    obtain ⟨y, hy⟩ := getI (l := t.inn) (i := i) (by omega)
    have := inOK_iff.1 hi i n y hx hy
    have := ht.inn y (List.mem_of_getElem? hy)
    omega
  · have := ht.ba; omega
  · have := ht.ra; omega
  · have := ht.fx; omega
theorem holds_spec (w : Wd) (ho : w.os.length < 1099511627776) (ht : w.ts.length < 1099511627776) (c : Ct) (hi : c.ids.length < 1099511627776) (hn : c.inn.length < 1099511627776) : VC P 16 [.agg w.c, .agg c.c] [] (fun r ob' => r = .bool (holdsP w c) ∧ ob' = []) := by
  refine VC_of_vwp_k ent_16 Try.func16 rfl (by simp) fun R hR => ?_
  refine vwp_sq [0, 1] fun K1 hK1 => vwp_region hT ?_
  simp
  refine hK1 _ ?_
  try clear hK1 K1
  refine vwp_seq_k fun K2 hK2 => ?_
  rcases hmk : makeP w c.ids with ⟨_ | t, e⟩
  · have he := makeP_none hmk
    refine vwp_live [2, 3] (vwp_region hT ?_)
    simp
    repeat refine ⟨by first | assumption | omega | (intros; omega), ?_⟩
    refine vcall_z [] (make_spec w ho ht c.ids hi) (by rw [hmk]; rintro r ob' ⟨rfl, rfl⟩; simp) ?_
    rw [hmk]
    rintro r ob' ⟨rfl, rfl⟩
    simp
    repeat refine ⟨by first | assumption | omega | (intros; omega), ?_⟩
    refine hK2 _ ?_
    try clear hK2 K2
    refine vwp_seq_k fun K3 hK3 => ?_
    refine vwp_sq [3, 5, 6] fun K4 hK4 => vwp_region hT ?_
    simp [he]
    refine hK4 _ ?_
    try clear hK4 K4
    refine vwp_cond (by first | rfl | (simp; rfl)) (fun h1 => ?_) fun h1 => ?_
    · simp -failIfUnchanged at h1; all_goals
     refine vwp_sq [] fun K5 hK5 => vwp_region hT ?_
     simp
     refine hK5 _ ?_
     try clear hK5 K5
     refine vwp_ret (hR _ _ ?_)
     have hw : holdsP w c = false := by
       unfold holdsP; rw [hmk]
     rw [hw]
     exact ret_k [4] [] ([]) (.bool false) (⟨rfl, rfl⟩)
    · simp -failIfUnchanged at h1; all_goals
     refine vwp_skip ?_
     refine hK3 _ ?_
     try clear hK3 K3
     refine vwp_seq_k fun K6 hK6 => ?_
     refine vwp_seq_k fun K7 hK7 => ?_
     simp_all
  · obtain ⟨he, hok, hnd, L, hpk, htc, hLl, hL12, hLo, hLn⟩ := makeP_some hmk
    subst he
    have htf : t.fine := by rw [htc]; exact mkC_fine hok hL12 hLn
    obtain ⟨hti, htd⟩ : t.inn.length = (srt c.ids).length ∧ t.ids = srt c.ids := by rw [htc]; exact mkC_len (by rw [srt_len]; omega)
    rw [srt_len] at hti
    have htdl : t.ids.length = c.ids.length := by rw [htd, srt_len]
    have hhp : holdsP w c = (decide (t.ids = c.ids) && (decide (c.inn.length = t.inn.length) && (inOK c.inn t.inn && ((wiB c.ba t.ba && (wiB c.ra t.ra && wiB c.fx t.fx)) && (c.bo == c.worth))))) := by unfold holdsP; rw [hmk]
    have htk1 : List.take t.ids.length (ints t.ids) = ints t.ids := List.take_of_length_le (by simp)
    have htk2 : List.take t.inn.length (ints t.inn) = ints t.inn := List.take_of_length_le (by simp)
    refine vwp_live [2, 3] (vwp_region hT ?_)
    simp
    repeat refine ⟨by first | assumption | omega | (intros; omega), ?_⟩
    refine vcall_z [] (make_spec w ho ht c.ids hi) (by rw [hmk]; rintro r ob' ⟨rfl, rfl⟩; simp) ?_
    rw [hmk]
    rintro r ob' ⟨rfl, rfl⟩
    simp
    repeat refine ⟨by first | assumption | omega | (intros; omega), ?_⟩
    refine hK2 _ ?_
    try clear hK2 K2
    refine vwp_seq_k fun K8 hK8 => ?_
    refine vwp_seq_k fun K9 hK9 => ?_
    by_cases hie : t.ids = c.ids
    · have hdie := decide_eq_true hie
      refine vwp_live [3, 5, 6] (vwp_region hT ?_)
      simp [hdie]
      refine vcall_z [] (equal_spec t.ids c.ids (by omega) (by omega)) (by rintro r ob' ⟨rfl, rfl⟩; simp) ?_ (ha := by simp [htk1]) (hok := by simp)
      rintro r ob' ⟨rfl, rfl⟩
      simp [hdie]
      refine hK9 _ ?_
      try clear hK9 K9
      refine vwp_cond (by first | rfl | (simp; rfl)) (fun h2 => ?_) fun h2 => ?_
      · simp -failIfUnchanged at h2; all_goals
       have q := h2
       refine vwp_sq [] fun K10 hK10 => vwp_region hT ?_
       simp
       refine hK10 _ ?_
       try clear hK10 K10
       refine vwp_ret (hR _ _ ?_)
       have hw : holdsP w c = false := by
         rw [hhp, decide_eq_false (show ¬ c.inn.length = t.inn.length by omega)]; simp
       rw [hw]
       exact ret_k [4] [] ([]) (.bool false) (⟨rfl, rfl⟩)
      · simp -failIfUnchanged at h2; all_goals
       have q := h2
       have hil : c.inn.length = t.inn.length := by omega
       refine vwp_skip ?_
       refine hK8 _ ?_
       try clear hK8 K8
       refine vwp_seq_k fun K11 hK11 => ?_
       refine vwp_sq [3, 5] fun K12 hK12 => vwp_region hT ?_
       simp
       refine hK12 _ ?_
       try clear hK12 K12
       refine vwp_block ?_
       refine vwp_loop_s (fun i : Nat => ⟨[(3, .ptr 1 6 0), (5, .ptr 4 6 0), (36, sI c.inn), (37, .int .i64 c.inn.length), (38, .int .i64 (i : Int))], [.live w.c, .live c.c, .live (ints t.ids), .live (ints t.inn), .live [.sl 2 t.ids.length 1 0 t.ids.length, .sl 3 t.inn.length 1 0 t.inn.length, .int .i64 t.ba, .int .i64 t.ra, .int .i64 t.fx, .int .i64 t.bo]]⟩) (fun i => i ≤ c.inn.length ∧ ∀ (j : Nat) x y, j < i → c.inn[j]? = some x → t.inn[j]? = some y → 0 ≤ x ∧ x ≤ y) (fun i => c.inn.length - i) (0) (Gh.to_k [3, 5, 36, 37, 38] [0, 1, 2, 3, 4]) (⟨by omega, fun j x y hj _ _ => by omega⟩) ?_
       rintro i ⟨hi2, hno⟩
       intro K13 hK13
       refine vwp_sq [3, 5, 36, 37, 38] fun K14 hK14 => vwp_region hT ?_
       simp
       refine hK14 _ ?_
       try clear hK14 K14
       refine vwp_seq_k fun K15 hK15 => ?_
       refine vwp_cond (by first | rfl | (simp; rfl)) (fun h3 => ?_) fun h3 => ?_
       · simp -failIfUnchanged at h3; all_goals
        refine vwp_skip ?_
        refine hK15 _ ?_
        try clear hK15 K15
        refine vwp_seq_k fun K16 hK16 => ?_
        refine vwp_block ?_
        obtain ⟨x, hx⟩ := getI (l := c.inn) (i := i) (by omega)
        obtain ⟨y, hy⟩ := getI (l := t.inn) (i := i) (by omega)
        refine vwp_sq [3, 5, 36, 37, 38] fun K17 hK17 => vwp_region hT ?_
        simp [hx]
        repeat refine ⟨by first | assumption | omega | (intros; omega), ?_⟩
        refine hK17 _ ?_
        try clear hK17 K17
        refine vwp_sq [3, 5, 7, 8, 36, 37, 38] fun K18 hK18 => vwp_region hT ?_
        simp [hy]
        repeat refine ⟨by first | assumption | omega | (intros; omega), ?_⟩
        refine vcall_k [] (bwithin_spec x y) ?_
        rintro r ob' ⟨rfl, rfl⟩
        simp [hy]
        repeat refine ⟨by first | assumption | omega | (intros; omega), ?_⟩
        refine hK18 _ ?_
        try clear hK18 K18
        refine vwp_cond (by first | rfl | (simp; rfl)) (fun h4 => ?_) fun h4 => ?_
        · simp -failIfUnchanged at h4; all_goals
         have q := h4
         have hxy : ¬ (0 ≤ x ∧ x ≤ y) := by omega
         refine vwp_sq [] fun K19 hK19 => vwp_region hT ?_
         simp
         refine hK19 _ ?_
         try clear hK19 K19
         refine vwp_ret (hR _ _ ?_)
         have hw : holdsP w c = false := by
           rw [hhp, show inOK c.inn t.inn = false from by rw [← Bool.not_eq_true, inOK_iff]; intro k; exact hxy (k i x y hx hy)]; simp
         rw [hw]
         exact ret_k [4] [] ([]) (.bool false) (⟨rfl, rfl⟩)
        · simp -failIfUnchanged at h4; all_goals
         have q := h4
         have hxy : 0 ≤ x ∧ x ≤ y := by omega
         refine vwp_skip ?_
         refine hK16 _ ?_
         try clear hK16 K16
         have w1 : IntKind.i64.wrap ((i : Int) + 1) = i + 1 := w64 (by omega) (by omega)
         refine vwp_live [3, 5, 36, 37, 38] (vwp_region hT ?_)
         simp [w1]
         exact hK13 (i + 1) _ (Gh.to_k [3, 5, 36, 37, 38] [0, 1, 2, 3, 4]) (⟨by omega, fun j x2 y2 hj hx2 hy2 => by
             rcases Nat.lt_or_ge j i with q | q
             · exact hno j x2 y2 q hx2 hy2
             · obtain rfl : j = i := by omega
               rw [hx] at hx2; rw [hy] at hy2; cases hx2; cases hy2; exact hxy⟩) (by omega)
       · simp -failIfUnchanged at h3; all_goals
        refine vwp_exit ?_
        simp only [inBlk, thenQ, if_true]
        refine hK11 _ ?_
        try clear hK11 K11
        refine vwp_seq_k fun K20 hK20 => ?_
        refine vwp_seq_k fun K21 hK21 => ?_
        have hin : inOK c.inn t.inn = true := inOK_iff.2 fun i x y hx hy => hno i x y (by have := (List.getElem?_eq_some_iff.1 hx).1; omega) hx hy
        have hhp2 : holdsP w c = ((wiB c.ba t.ba && (wiB c.ra t.ra && wiB c.fx t.fx)) && (c.bo == c.worth)) := by rw [hhp, hin, decide_eq_true hie, decide_eq_true hil]; simp
        by_cases w1 : 0 ≤ c.ba ∧ c.ba ≤ t.ba
        · have e1 : wiB c.ba t.ba = true := decide_eq_true w1
          have d1 := decide_eq_true w1
          by_cases w2 : 0 ≤ c.ra ∧ c.ra ≤ t.ra
          skip
          · have e2 : wiB c.ra t.ra = true := decide_eq_true w2
            have d2 := decide_eq_true w2
            refine vwp_live [3, 5] (vwp_region hT ?_)
            simp [d1, d2]
            refine vcall_k [] (bwithin_spec c.ba t.ba) ?_
            rintro r ob' ⟨rfl, rfl⟩
            simp [d1, d2]
            refine vcall_k [] (bwithin_spec c.ra t.ra) ?_
            rintro r ob' ⟨rfl, rfl⟩
            simp [d1, d2]
            refine vcall_k [] (bwithin_spec c.fx t.fx) ?_
            rintro r ob' ⟨rfl, rfl⟩
            simp [d1, d2]
            refine hK21 _ ?_
            try clear hK21 K21
            refine vwp_cond (by first | rfl | (simp; rfl)) (fun h5 => ?_) fun h5 => ?_
            · simp -failIfUnchanged at h5; all_goals
             have q := h5
             have w3 : ¬ (0 ≤ c.fx ∧ c.fx ≤ t.fx) := by omega
             refine vwp_sq [] fun K22 hK22 => vwp_region hT ?_
             simp
             refine hK22 _ ?_
             try clear hK22 K22
             refine vwp_ret (hR _ _ ?_)
             have hw : holdsP w c = false := by
               rw [hhp2, e1, e2, show wiB c.fx t.fx = false from decide_eq_false w3]; simp
             rw [hw]
             exact ret_k [4] [] ([]) (.bool false) (⟨rfl, rfl⟩)
            · simp -failIfUnchanged at h5; all_goals
             have q := h5
             have w3 : 0 ≤ c.fx ∧ c.fx ≤ t.fx := by omega
             have e3 : wiB c.fx t.fx = true := decide_eq_true w3
             have hcf := fine_le htf hil hin e1 e2 e3
             refine vwp_skip ?_
             refine hK20 _ ?_
             try clear hK20 K20
             refine vwp_sq [3] fun K23 hK23 => vwp_calm hT hm (by kernel_rfl) ?_
             simp
             refine ⟨.int .i64 c.worth, fun sl => ?_, ?_⟩
             · refine vcall_z [] (worth_spec c hcf) (by rintro r ob' ⟨rfl, rfl⟩; simp) ?_
               rintro r ob' ⟨rfl, rfl⟩
               simp
             simp
             refine hK23 _ ?_
             try clear hK23 K23
             refine vwp_ret (hR _ _ ?_)
             exact ret_k [4] [] ([]) (.bool (c.bo == c.worth)) (⟨by rw [hhp2, e1, e2, e3]; simp, rfl⟩)
          · refine vwp_live [3, 5] (vwp_region hT ?_)
            simp [d1, decide_eq_false w2]
            refine vcall_k [] (bwithin_spec c.ba t.ba) ?_
            rintro r ob' ⟨rfl, rfl⟩
            simp [d1, decide_eq_false w2]
            refine vcall_k [] (bwithin_spec c.ra t.ra) ?_
            rintro r ob' ⟨rfl, rfl⟩
            simp [d1, decide_eq_false w2]
            refine hK21 _ ?_
            try clear hK21 K21
            refine vwp_cond (by first | rfl | (simp; rfl)) (fun h6 => ?_) fun h6 => ?_
            · simp -failIfUnchanged at h6; all_goals
             refine vwp_sq [] fun K24 hK24 => vwp_region hT ?_
             simp
             refine hK24 _ ?_
             try clear hK24 K24
             refine vwp_ret (hR _ _ ?_)
             have hw : holdsP w c = false := by
               rw [hhp2, show wiB c.ra t.ra = false from decide_eq_false w2]; simp
             rw [hw]
             exact ret_k [4] [] ([]) (.bool false) (⟨rfl, rfl⟩)
            · simp -failIfUnchanged at h6; all_goals
             refine vwp_skip ?_
             refine hK20 _ ?_
             try clear hK20 K20
             refine vwp_seq_k fun K25 hK25 => ?_
             simp_all
        · refine vwp_live [3, 5] (vwp_region hT ?_)
          simp [decide_eq_false w1]
          refine vcall_k [] (bwithin_spec c.ba t.ba) ?_
          rintro r ob' ⟨rfl, rfl⟩
          simp [decide_eq_false w1]
          refine hK21 _ ?_
          try clear hK21 K21
          refine vwp_cond (by first | rfl | (simp; rfl)) (fun h7 => ?_) fun h7 => ?_
          · simp -failIfUnchanged at h7; all_goals
           refine vwp_sq [] fun K26 hK26 => vwp_region hT ?_
           simp
           refine hK26 _ ?_
           try clear hK26 K26
           refine vwp_ret (hR _ _ ?_)
           have hw : holdsP w c = false := by
             rw [hhp2, show wiB c.ba t.ba = false from decide_eq_false w1]; simp
           rw [hw]
           exact ret_k [4] [] ([]) (.bool false) (⟨rfl, rfl⟩)
          · simp -failIfUnchanged at h7; all_goals
           refine vwp_skip ?_
           refine hK20 _ ?_
           try clear hK20 K20
           refine vwp_seq_k fun K27 hK27 => ?_
           simp_all
    · have hdie := decide_eq_false hie
      refine vwp_live [3, 5, 6] (vwp_region hT ?_)
      simp [hdie]
      refine vcall_z [] (equal_spec t.ids c.ids (by omega) (by omega)) (by rintro r ob' ⟨rfl, rfl⟩; simp) ?_ (ha := by simp [htk1]) (hok := by simp)
      rintro r ob' ⟨rfl, rfl⟩
      simp [hdie]
      refine hK9 _ ?_
      try clear hK9 K9
      refine vwp_cond (by first | rfl | (simp; rfl)) (fun h8 => ?_) fun h8 => ?_
      · simp -failIfUnchanged at h8; all_goals
       refine vwp_sq [] fun K28 hK28 => vwp_region hT ?_
       simp
       refine hK28 _ ?_
       try clear hK28 K28
       refine vwp_ret (hR _ _ ?_)
       have hw : holdsP w c = false := by
         rw [hhp, decide_eq_false hie]; simp
       rw [hw]
       exact ret_k [4] [] ([]) (.bool false) (⟨rfl, rfl⟩)
      · simp -failIfUnchanged at h8; all_goals
       refine vwp_skip ?_
       refine hK8 _ ?_
       try clear hK8 K8
       refine vwp_seq_k fun K29 hK29 => ?_
       refine vwp_seq_k fun K30 hK30 => ?_
       simp_all
end Go.Proofs.Ytinigjmfjabicaa
