/- Whether a certificate holds, by the document: the walk. -/
import Derived.Test.YtinigjmfjabicaaBdF
namespace Go.Proofs.Ytinigjmfjabicaa
open Go Go.VX Go.RowKit
set_option linter.unusedVariables false
set_option linter.unusedSimpArgs false
set_option maxHeartbeats 20000000
set_option maxRecDepth 100000

theorem le_inP {w : Wd} {L : List Od} {i : Nat} {o : Od} {x : Int} : x ≤ inP w L i o ↔ x ≤ lg w.n w.D 0 o.nd ∧ ∀ (k : Nat) s, L[k]? = some s → k ≠ i → x ≤ lg w.n w.D s.nd o.nd := by
  unfold inP
  rw [le_lea (by simp [inL])]
  constructor
  · intro h
    refine ⟨h _ (List.mem_map.2 ⟨0, by simp [inL], rfl⟩), fun k s hs hk => h _ (List.mem_map.2 ⟨s.nd, ?_, rfl⟩)⟩
    exact List.mem_cons_of_mem _ (List.mem_map.2 ⟨s, List.mem_eraseIdx_iff_getElem?.2 ⟨k, hk, hs⟩, rfl⟩)
  · rintro ⟨h1, h2⟩ y hy
    obtain ⟨f, hf, rfl⟩ := List.mem_map.1 hy
    rcases List.mem_cons.1 hf with rfl | hf
    · exact h1
    · obtain ⟨s, hs, rfl⟩ := List.mem_map.1 hf
      obtain ⟨k, hk, hs2⟩ := List.mem_eraseIdx_iff_getElem?.1 hs
      exact h2 k s hs2 hk
theorem le_leaNd {w : Wd} {L : List Od} (h : L ≠ []) {x : Int} : x ≤ leaNd w L ↔ ∀ (k : Nat) s, L[k]? = some s → x ≤ lg w.n w.D s.nd 0 := by
  unfold leaNd
  rw [le_lea (by simpa using h)]
  constructor
  · intro q k s hs; exact q _ (List.mem_map.2 ⟨s, List.mem_of_getElem? hs, rfl⟩)
  · intro q y hy
    obtain ⟨s, hs, rfl⟩ := List.mem_map.1 hy
    obtain ⟨k, hk⟩ := List.mem_iff_getElem?.1 hs
    exact q k s hk
theorem le_leaT {f : Tk → Int} {l : List Tk} {x : Int} (h0 : 0 ≤ x) : x ≤ lea (l.map f) ↔ (l = [] → x = 0) ∧ ∀ (k : Nat) s, l[k]? = some s → x ≤ f s := by
  by_cases e : l = []
  · subst e; simp [lea]; omega
  · rw [le_lea (by simpa using e)]
    constructor
    · intro q; exact ⟨fun k => absurd k e, fun k s hs => q _ (List.mem_map.2 ⟨s, List.mem_of_getElem? hs, rfl⟩)⟩
    · rintro ⟨_, q⟩ y hy
      obtain ⟨s, hs, rfl⟩ := List.mem_map.1 hy
      obtain ⟨k, hk⟩ := List.mem_iff_getElem?.1 hs
      exact q k s hk
theorem holds_ids {w : Wd} {c : Ct} (h : holdsP w c = true) : w.e = 0 ∧ idsB w.os c.ids = true ∧ c.inn.length = c.ids.length := by
  unfold holdsP at h
  split at h
  · cases h
  rename_i t e hmk
  obtain ⟨_, hok, hn, L, hpk, htc, hLl, _, _, _⟩ := makeP_some hmk
  obtain ⟨h1, h2⟩ := mkC_len (w := w) (S := srt c.ids) (L := L) (by rw [srt_len]; omega)
  rw [← htc] at h1 h2
  simp only [Bool.and_eq_true, decide_eq_true_eq] at h
  have hs : srt c.ids = c.ids := by rw [← h2]; exact h.1
  refine ⟨Wd.e_zero.2 hok, ?_, by rw [h.2.1, h1, srt_len]⟩
  rw [idsB, ← pick_fnd, ← hs, hpk, Bool.and_eq_true]
  refine ⟨rfl, incB_iff.2 ?_⟩
  refine adjB_sorted (srt_sorted _) ?_
  rw [adjB_srt]
  simpa [dupB] using hn
/-- What it comes to. -/
theorem holds_eq {w : Wd} {c : Ct} (he : w.e = 0) (hi : idsB w.os c.ids = true) (hl : c.inn.length = c.ids.length) : ∃ L, pick w.os c.ids = some L ∧ L.length = c.ids.length ∧ L.length ≤ 12 ∧ (∀ o ∈ L, 0 ≤ o.nd ∧ o.nd < w.n) ∧
    (holdsP w c = true ↔ (∀ (i : Nat) x y, c.inn[i]? = some x → (mkC w c.ids L).inn[i]? = some y → 0 ≤ x ∧ x ≤ y) ∧ (0 ≤ c.ba ∧ c.ba ≤ (mkC w c.ids L).ba) ∧ (0 ≤ c.ra ∧ c.ra ≤ (mkC w c.ids L).ra) ∧ (0 ≤ c.fx ∧ c.fx ≤ (mkC w c.ids L).fx) ∧ c.bo = c.worth) := by
  rw [idsB, ← pick_fnd, Bool.and_eq_true] at hi
  obtain ⟨L, hL⟩ := Option.isSome_iff_exists.1 hi.1
  have hp := incB_iff.1 hi.2
  have hs : srt c.ids = c.ids := srt_eq (List.Perm.refl _) (hp.imp fun h => by omega)
  have hn : c.ids.Nodup := hp.imp fun h e => by omega
  have hmk : makeP w c.ids = (some (mkC w c.ids L), 0) := by
    unfold makeP
    rw [if_neg (by simp [he]), if_neg (by simpa [dupB] using hn), hs, hL]
  obtain ⟨_, hok, _, L2, hpk, _, hLl, h12, _, hLn⟩ := makeP_some hmk
  rw [hs, hL] at hpk
  cases hpk
  obtain ⟨h1, h2⟩ := mkC_len (w := w) (S := c.ids) (L := L) (by omega)
  refine ⟨L, hL, hLl, h12, hLn, ?_⟩
  unfold holdsP
  rw [hmk]
  simp only [Bool.and_eq_true, decide_eq_true_eq, inOK_iff, wiB, beq_iff_eq, h2, h1, hl, true_and]
  constructor
  · rintro ⟨a, ⟨b1, b2, b3⟩, d⟩; exact ⟨a, b1, b2, b3, d⟩
  · rintro ⟨a, b1, b2, b3, d⟩; exact ⟨a, ⟨b1, b2, b3⟩, d⟩
theorem dholds_spec (w : Wd) (ho : w.os.length < 1099511627776) (ht : w.ts.length < 1099511627776) (c : Ct) (hi : c.ids.length < 1099511627776) (hn : c.inn.length < 1099511627776) : VC P 17 [.agg w.c, .agg c.c] [] (fun r ob' => r = .bool (holdsP w c) ∧ ob' = []) := by
  refine VC_of_vwp_k ent_17 Try.func17 rfl (by simp) fun R hR => ?_
  refine vwp_sq [0, 1] fun K1 hK1 => vwp_region hT ?_
  simp
  refine hK1 _ ?_
  try clear hK1 K1
  refine vwp_seq_k fun K2 hK2 => ?_
  refine vwp_seq_k fun K3 hK3 => ?_
  by_cases he : w.e = 0
  · refine vwp_live [2, 3] (vwp_region hT ?_)
    simp [he]
    refine vcall_z [] (dworld_spec w ho ht) (by rintro r ob' ⟨rfl, rfl⟩; simp) ?_
    rintro r ob' ⟨rfl, rfl⟩
    simp [he]
    refine vcall_z [] (ids_spec w ho c.ids hi) (by rintro r ob' ⟨rfl, rfl⟩; simp) ?_
    rintro r ob' ⟨rfl, rfl⟩
    simp [he]
    refine hK3 _ ?_
    try clear hK3 K3
    refine vwp_cond (by first | rfl | (simp; rfl)) (fun h1 => ?_) fun h1 => ?_
    · simp -failIfUnchanged at h1; all_goals
     have q := h1
     refine vwp_sq [] fun K4 hK4 => vwp_region hT ?_
     simp
     refine hK4 _ ?_
     try clear hK4 K4
     refine vwp_ret (hR _ _ ?_)
     have hw : holdsP w c = false := by
       rw [← Bool.not_eq_true]
       intro hq
       obtain ⟨_, k1, k2⟩ := holds_ids hq
       rw [k1] at q
       simp at q
       omega
     rw [hw]
     exact ret_k [4] [] ([]) (.bool false) (⟨rfl, rfl⟩)
    · simp -failIfUnchanged at h1; all_goals
     have q := h1
     have hib : idsB w.os c.ids = true := q.1
     have hil : c.inn.length = c.ids.length := by omega
     obtain ⟨L, hL, hLl, hL12, hLn, hiff⟩ := holds_eq he hib hil
     have hok := Wd.e_zero.1 he
     have hA := hok.A
     have hn0 : (0 : Int) ≤ 0 ∧ (0 : Int) < w.n := ⟨by omega, by have := areaB_n hA; omega⟩
     refine vwp_skip ?_
     refine hK2 _ ?_
     try clear hK2 K2
     refine vwp_seq_k fun K5 hK5 => ?_
     refine vwp_sq [2, 3] fun K6 hK6 => vwp_region hT ?_
     simp
     refine hK6 _ ?_
     try clear hK6 K6
     refine vwp_cond (by first | rfl | (simp; rfl)) (fun h2 => ?_) fun h2 => ?_
     · simp -failIfUnchanged at h2; all_goals
      have q := h2
      obtain rfl : L = [] := List.length_eq_zero_iff.1 (by rw [hLl]; simpa using q)
      have hin0 : c.inn = [] := List.length_eq_zero_iff.1 (by rw [hil, ← hLl]; rfl)
      have hfin : holdsP w c = (decide (c.ba = 0) && (decide (c.ra = 0) && (decide (c.fx = 0) && decide (c.bo = 0)))) := by
        rw [Bool.eq_iff_iff, hiff]
        simp only [mkC, if_true, Bool.and_eq_true, decide_eq_true_eq, hin0, Ct.worth]
        constructor
        · rintro ⟨_, k1, k2, k3, k4⟩
          have z1 : c.ba = 0 := by omega
          have z2 : c.ra = 0 := by omega
          have z3 : c.fx = 0 := by omega
          rw [z1, z2, z3] at k4
          simp at k4
          exact ⟨z1, z2, z3, k4⟩
        · rintro ⟨z1, z2, z3, z4⟩
          rw [z1, z2, z3, z4]
          simp
      refine vwp_sq [3] fun K7 hK7 => vwp_region hT ?_
      simp
      refine hK7 _ ?_
      try clear hK7 K7
      refine vwp_ret (hR _ _ ?_)
      rw [hfin]
      exact ret_k [4] [] ([]) (.bool (decide (c.ba = 0) && (decide (c.ra = 0) && (decide (c.fx = 0) && decide (c.bo = 0))))) (⟨rfl, rfl⟩) (hr := by simp; rw [Bool.eq_iff_iff]; simp [and_assoc])
     · simp -failIfUnchanged at h2; all_goals
      have q := h2
      have hL1 : 1 ≤ L.length := by
        rcases Nat.eq_zero_or_pos c.ids.length with e | e
        · exfalso; apply q; exact List.length_eq_zero_iff.1 e
        · omega
      have hLne : L ≠ [] := fun e => by rw [e] at hL1; simp at hL1
      have hmc : mkC w c.ids L = ⟨c.ids, inF w L L.length, leaNd w L, lea (w.ts.map (·.ra)), lea (w.ts.map (·.fx)), lea (w.ts.map (·.fx)) + lea (w.ts.map (·.ra)) * ((inF w L L.length).sum + leaNd w L)⟩ := if_neg hLne
      rw [hmc] at hiff
      dsimp only at hiff
      refine vwp_skip ?_
      refine hK5 _ ?_
      try clear hK5 K5
      refine vwp_sq [2, 3] fun K8 hK8 => vwp_region hT ?_
      simp
      refine hK8 _ ?_
      try clear hK8 K8
      refine vwp_seq_k fun K9 hK9 => ?_
      refine vwp_sq [2, 3, 5] fun K10 hK10 => vwp_region hT ?_
      simp
      refine hK10 _ ?_
      try clear hK10 K10
      refine vwp_block ?_
      refine vwp_loop_s (fun i : Nat => ⟨[(2, .ptr 0 5 0), (3, .ptr 1 6 0), (5, .int .i64 (c.ba + (c.inn.take i).sum)), (6, .int .i64 (i : Int))], [.live w.c, .live c.c]⟩) (fun i => i ≤ L.length ∧ ∀ (j : Nat) x s, j < i → c.inn[j]? = some x → L[j]? = some s → (0 ≤ x ∧ x ≤ inP w L j s) ∧ 0 ≤ c.ba ∧ c.ba ≤ lg w.n w.D s.nd 0) (fun i => L.length - i) (0) (Gh.to_k [2, 3, 5, 6] [0, 1] (he := by simp)) (⟨by omega, fun j x s hj _ _ => by omega⟩) ?_
      rintro i ⟨hi2, hno⟩
      intro K11 hK11
      refine vwp_seq_k fun K12 hK12 => ?_
      refine vwp_sq [2, 3, 5, 6] fun K13 hK13 => vwp_region hT ?_
      simp
      refine hK13 _ ?_
      try clear hK13 K13
      refine vwp_cond (by first | rfl | (simp; rfl)) (fun h3 => ?_) fun h3 => ?_
      · simp -failIfUnchanged at h3; all_goals
       obtain ⟨id, hid⟩ := getI (l := c.ids) (i := i) (by omega)
       obtain ⟨o, qi, ho3, hfq, hoq⟩ := pick_get hL i id hid
       have hon := hLn o (List.mem_of_getElem? ho3)
       obtain ⟨x, hx⟩ := getI (l := c.inn) (i := i) (by omega)
       have hIi := inF_get (w := w) ho3
       have htk := take_snoc hx
       refine vwp_skip ?_
       refine hK12 _ ?_
       try clear hK12 K12
       refine vwp_seq_k fun K14 hK14 => ?_
       refine vwp_block ?_
       refine vwp_sq [2, 3, 5, 6] fun K15 hK15 => vwp_calm hT hm (by kernel_rfl) ?_
       simp [hid]
       repeat refine ⟨by first | assumption | omega | (intros; omega), ?_⟩
       refine ⟨.int .i64 o.nd, fun sl => ?_, ?_⟩
       · refine vcall_z [] (node_spec w ho id hfq hoq) (by rintro r ob' ⟨rfl, rfl⟩; simp) ?_
         rintro r ob' ⟨rfl, rfl⟩
         simp
       simp [hid]
       repeat refine ⟨by first | assumption | omega | (intros; omega), ?_⟩
       refine hK15 _ ?_
       try clear hK15 K15
       refine vwp_sq [2, 3, 5, 6, 7] fun K16 hK16 => vwp_region hT ?_
       simp
       refine vcall_z [] (rleg_spec hA 0 o.nd hn0 hon) (by rintro r ob' ⟨rfl, rfl⟩; simp) ?_
       rintro r ob' ⟨rfl, rfl⟩
       simp
       refine hK16 _ ?_
       try clear hK16 K16
       refine vwp_sq [2, 3, 5, 6, 7, 8] fun K17 hK17 => vwp_region hT ?_
       simp
       refine vcall_z [] (rleg_spec hA o.nd 0 hon hn0) (by rintro r ob' ⟨rfl, rfl⟩; simp) ?_
       rintro r ob' ⟨rfl, rfl⟩
       simp
       refine hK17 _ ?_
       try clear hK17 K17
       refine vwp_seq_k fun K18 hK18 => ?_
       refine vwp_sq [2, 3, 5, 6, 7, 8, 11] fun K19 hK19 => vwp_region hT ?_
       simp [hx]
       repeat refine ⟨by first | assumption | omega | (intros; omega), ?_⟩
       refine hK19 _ ?_
       try clear hK19 K19
       refine vwp_cond (by first | rfl | (simp; rfl)) (fun h4 => ?_) fun h4 => ?_
       · simp -failIfUnchanged at h4; all_goals
        have q := h4
        refine vwp_sq [] fun K20 hK20 => vwp_region hT ?_
        simp
        refine hK20 _ ?_
        try clear hK20 K20
        refine vwp_ret (hR _ _ ?_)
        have hw : holdsP w c = false := by
          rw [← Bool.not_eq_true]
          intro hq
          obtain ⟨k1, ⟨k2, k3⟩, _⟩ := hiff.1 hq
          have k4 := k1 i x _ hx hIi
          have k5 := (le_inP.1 k4.2).1
          have k6 := (le_leaNd hLne).1 k3 i o ho3
          omega
        rw [hw]
        exact ret_k [4] [] ([]) (.bool false) (⟨rfl, rfl⟩)
       · simp -failIfUnchanged at h4; all_goals
        have q := h4
        have hxb : 0 ≤ x ∧ x ≤ lg w.n w.D 0 o.nd ∧ 0 ≤ c.ba ∧ c.ba ≤ lg w.n w.D o.nd 0 := by omega
        obtain ⟨_, _, _, _, _, _, _, _, _, _, _, _, _, _, bl1, _⟩ := lg_get hA hn0 hon
        obtain ⟨_, _, _, _, _, _, _, _, _, _, _, _, _, _, bl2, _⟩ := lg_get hA hon hn0
        refine vwp_skip ?_
        refine hK18 _ ?_
        try clear hK18 K18
        refine vwp_seq_k fun K21 hK21 => ?_
        refine vwp_sq [2, 3, 5, 6, 7] fun K22 hK22 => vwp_region hT ?_
        simp
        refine hK22 _ ?_
        try clear hK22 K22
        refine vwp_block ?_
        refine vwp_loop_s (fun j : Nat => ⟨[(2, .ptr 0 5 0), (3, .ptr 1 6 0), (5, .int .i64 (c.ba + (c.inn.take i).sum)), (6, .int .i64 (i : Int)), (7, .int .i64 o.nd), (14, .int .i64 (j : Int))], [.live w.c, .live c.c]⟩) (fun j => j ≤ L.length ∧ ∀ (k : Nat) s, k < j → L[k]? = some s → k ≠ i → x ≤ lg w.n w.D s.nd o.nd) (fun j => L.length - j) (0) (Gh.to_k [2, 3, 5, 6, 7, 14] [0, 1]) (⟨by omega, fun k s hk _ _ => by omega⟩) ?_
        rintro j ⟨hj, hnk⟩
        intro K23 hK23
        refine vwp_seq_k fun K24 hK24 => ?_
        refine vwp_sq [2, 3, 5, 6, 7, 14] fun K25 hK25 => vwp_region hT ?_
        simp
        refine hK25 _ ?_
        try clear hK25 K25
        refine vwp_cond (by first | rfl | (simp; rfl)) (fun h5 => ?_) fun h5 => ?_
        · simp -failIfUnchanged at h5; all_goals
         obtain ⟨id2, hid2⟩ := getI (l := c.ids) (i := j) (by omega)
         obtain ⟨s, qj, hs3, hfq2, hoq2⟩ := pick_get hL j id2 hid2
         have hsn := hLn s (List.mem_of_getElem? hs3)
         refine vwp_skip ?_
         refine hK24 _ ?_
         try clear hK24 K24
         refine vwp_seq_k fun K26 hK26 => ?_
         refine vwp_block ?_
         refine vwp_sq [2, 3, 5, 6, 7, 14] fun K27 hK27 => vwp_calm hT hm (by kernel_rfl) ?_
         simp [hid2]
         repeat refine ⟨by first | assumption | omega | (intros; omega), ?_⟩
         refine ⟨.int .i64 s.nd, fun sl => ?_, ?_⟩
         · refine vcall_z [] (node_spec w ho id2 hfq2 hoq2) (by rintro r ob' ⟨rfl, rfl⟩; simp) ?_
           rintro r ob' ⟨rfl, rfl⟩
           simp
         simp [hid2]
         repeat refine ⟨by first | assumption | omega | (intros; omega), ?_⟩
         refine ⟨.tup [.int .i64 (lg w.n w.D s.nd o.nd), .int .i64 (lg w.n w.T s.nd o.nd), .int .i64 0], fun sl => ?_, ?_⟩
         · refine vcall_z [] (rleg_spec hA s.nd o.nd hsn hon) (by rintro r ob' ⟨rfl, rfl⟩; simp) ?_
           rintro r ob' ⟨rfl, rfl⟩
           simp
         simp [hid2]
         repeat refine ⟨by first | assumption | omega | (intros; omega), ?_⟩
         refine hK27 _ ?_
         try clear hK27 K27
         refine vwp_sq [2, 3, 5, 6, 7, 14, 15] fun K28 hK28 => vwp_region hT ?_
         simp [hx]
         repeat refine ⟨by first | assumption | omega | (intros; omega), ?_⟩
         refine hK28 _ ?_
         try clear hK28 K28
         refine vwp_cond (by first | rfl | (simp; rfl)) (fun h6 => ?_) fun h6 => ?_
         · simp -failIfUnchanged at h6; all_goals
          have q := h6
          refine vwp_sq [] fun K29 hK29 => vwp_region hT ?_
          simp
          refine hK29 _ ?_
          try clear hK29 K29
          refine vwp_ret (hR _ _ ?_)
          have hw : holdsP w c = false := by
            rw [← Bool.not_eq_true]
            intro hq
            obtain ⟨k1, _⟩ := hiff.1 hq
            have k4 := k1 i x _ hx hIi
            have k5 := (le_inP.1 k4.2).2 j s hs3 (by omega)
            omega
          rw [hw]
          exact ret_k [4] [] ([]) (.bool false) (⟨rfl, rfl⟩)
         · simp -failIfUnchanged at h6; all_goals
          have q := h6
          have hok3 : j ≠ i → x ≤ lg w.n w.D s.nd o.nd := fun k => by omega
          refine vwp_skip ?_
          refine hK26 _ ?_
          try clear hK26 K26
          have w1 : IntKind.i64.wrap ((j : Int) + 1) = j + 1 := w64 (by omega) (by omega)
          refine vwp_live [2, 3, 5, 6, 7, 14] (vwp_region hT ?_)
          simp [w1]
          exact hK23 (j + 1) _ (Gh.to_k [2, 3, 5, 6, 7, 14] [0, 1]) (⟨by omega, fun k s2 hk hs2 hki => by
              rcases Nat.lt_or_ge k j with q | q
              · exact hnk k s2 q hs2 hki
              · obtain rfl : k = j := by omega
                rw [hs3] at hs2; cases hs2; exact hok3 hki⟩) (by omega)
        · simp -failIfUnchanged at h5; all_goals
         have hfin2 : x ≤ inP w L i o := le_inP.2 ⟨hxb.2.1, fun k s hs hk => hnk k s (by have := (List.getElem?_eq_some_iff.1 hs).1; omega) hs hk⟩
         have hsm : (c.inn.take (i + 1)).sum = (c.inn.take i).sum + x := by rw [htk]; simp
         have hsb : 0 ≤ (c.inn.take i).sum ∧ (c.inn.take i).sum ≤ i * 1000000 := by
           have h1 := sum_bounds2 (D := c.inn.take i) (m := 1000000) fun n hn => by
             obtain ⟨j2, hj2⟩ := List.mem_iff_getElem?.1 hn
             rw [List.getElem?_take] at hj2
             split at hj2
             · rename_i hlt
               obtain ⟨s2, hs2⟩ := getI (l := L) (i := j2) (by omega)
               have k1 := (hno j2 n s2 hlt hj2 hs2).1
               have k2 := inP_bounds (i := j2) hA hLn (hLn s2 (List.mem_of_getElem? hs2))
               omega
             · cases hj2
           rw [List.length_take] at h1
           omega
         refine vwp_exit ?_
         simp only [inBlk, thenQ, if_true]
         refine hK21 _ ?_
         try clear hK21 K21
         have w5 : IntKind.i64.wrap (c.ba + (c.inn.take i).sum + x) = c.ba + ((c.inn.take i).sum + x) := by rw [w64 (by omega) (by omega)]; omega
         refine vwp_live [2, 3, 5, 6] (vwp_region hT ?_)
         simp [hx, w5]
         repeat refine ⟨by first | assumption | omega | (intros; omega), ?_⟩
         refine hK14 _ ?_
         try clear hK14 K14
         have w1 : IntKind.i64.wrap ((i : Int) + 1) = i + 1 := w64 (by omega) (by omega)
         refine vwp_live [2, 3, 5, 6] (vwp_region hT ?_)
         simp [w1]
         exact hK11 (i + 1) _ (Gh.to_k [2, 3, 5, 6] [0, 1] (he := by simp [hsm])) (⟨by omega, fun j x2 s2 hj hx2 hs2 => by
             rcases Nat.lt_or_ge j i with q | q
             · exact hno j x2 s2 q hx2 hs2
             · obtain rfl : j = i := by omega
               rw [hx] at hx2; rw [ho3] at hs2; cases hx2; cases hs2; exact ⟨⟨by omega, hfin2⟩, by omega, by omega⟩⟩) (by omega)
      · simp -failIfUnchanged at h3; all_goals
       obtain rfl : i = L.length := by omega
       refine vwp_exit ?_
       simp only [inBlk, thenQ, if_true]
       refine hK9 _ ?_
       try clear hK9 K9
       refine vwp_seq_k fun K30 hK30 => ?_
       rw [List.take_of_length_le (show c.inn.length ≤ L.length by omega)]
       have hA1 : ∀ (j : Nat) x y, c.inn[j]? = some x → (inF w L L.length)[j]? = some y → 0 ≤ x ∧ x ≤ y := fun j x y hx hy => by
         have hlt := (List.getElem?_eq_some_iff.1 hx).1
         obtain ⟨s, hs⟩ := getI (l := L) (i := j) (by omega)
         have k1 := inF_get (w := w) hs
         rw [hy] at k1; cases k1
         exact (hno j x s (by omega) hx hs).1
       have hB1 : 0 ≤ c.ba ∧ c.ba ≤ leaNd w L := by
         obtain ⟨s0, hs0⟩ := getI (l := L) (i := 0) (by omega)
         obtain ⟨x0, hx0⟩ := getI (l := c.inn) (i := 0) (by omega)
         refine ⟨(hno 0 x0 s0 (by omega) hx0 hs0).2.1, (le_leaNd hLne).2 fun k s hs => ?_⟩
         have hlt := (List.getElem?_eq_some_iff.1 hs).1
         obtain ⟨x1, hx1⟩ := getI (l := c.inn) (i := k) (by omega)
         exact (hno k x1 s (by omega) hx1 hs).2.2
       have hnt : w.ts.length = 0 ↔ w.ts = [] := List.length_eq_zero_iff
       refine vwp_sq [2, 3, 5] fun K31 hK31 => vwp_region hT ?_
       simp
       refine hK31 _ ?_
       try clear hK31 K31
       refine vwp_cond (by first | rfl | (simp; rfl)) (fun h7 => ?_) fun h7 => ?_
       · simp -failIfUnchanged at h7; all_goals
        have q := h7
        refine vwp_sq [] fun K32 hK32 => vwp_region hT ?_
        simp
        refine hK32 _ ?_
        try clear hK32 K32
        refine vwp_ret (hR _ _ ?_)
        have hw : holdsP w c = false := by
          rw [← Bool.not_eq_true]
          intro hq
          obtain ⟨_, _, k3, k4, _⟩ := hiff.1 hq
          have k5 := (le_leaT k3.1).1 k3.2
          have k6 := (le_leaT k4.1).1 k4.2
          rcases q with (q | q) | ⟨q1, q2⟩
          · omega
          · omega
          · have z1 := k5.1 q1
            have z2 := k6.1 q1
            omega
        rw [hw]
        exact ret_k [4] [] ([]) (.bool false) (⟨rfl, rfl⟩)
       · simp -failIfUnchanged at h7; all_goals
        have q := h7
        have hq0 : 0 ≤ c.ra ∧ 0 ≤ c.fx ∧ (w.ts = [] → c.ra = 0 ∧ c.fx = 0) := by
          obtain ⟨⟨q1, q2⟩, q3⟩ := q
          exact ⟨q1, q2, fun e => by have := q3 e; omega⟩
        refine vwp_skip ?_
        refine hK30 _ ?_
        try clear hK30 K30
        refine vwp_seq_k fun K33 hK33 => ?_
        refine vwp_sq [2, 3, 5] fun K34 hK34 => vwp_region hT ?_
        simp
        refine hK34 _ ?_
        try clear hK34 K34
        refine vwp_block ?_
        refine vwp_loop_s (fun v : Nat => ⟨[(2, .ptr 0 5 0), (3, .ptr 1 6 0), (5, .int .i64 (c.ba + c.inn.sum)), (18, .int .i64 (v : Int))], [.live w.c, .live c.c]⟩) (fun v => v ≤ w.ts.length ∧ ∀ (k : Nat) s, k < v → w.ts[k]? = some s → c.ra ≤ s.ra ∧ c.fx ≤ s.fx) (fun v => w.ts.length - v) (0) (Gh.to_k [2, 3, 5, 18] [0, 1]) (⟨by omega, fun k s hk _ => by omega⟩) ?_
        rintro v ⟨hv, hnv⟩
        intro K35 hK35
        refine vwp_seq_k fun K36 hK36 => ?_
        refine vwp_sq [2, 3, 5, 18] fun K37 hK37 => vwp_region hT ?_
        simp
        refine hK37 _ ?_
        try clear hK37 K37
        refine vwp_cond (by first | rfl | (simp; rfl)) (fun h8 => ?_) fun h8 => ?_
        · simp -failIfUnchanged at h8; all_goals
         refine vwp_skip ?_
         refine hK36 _ ?_
         try clear hK36 K36
         refine vwp_seq_k fun K38 hK38 => ?_
         refine vwp_block ?_
         obtain ⟨s, hs⟩ := getI (l := w.ts) (i := v) (by omega)
         obtain ⟨_, _, _, _, _, g5, g6⟩ := getTk hs
         have hlen := lenTk w.ts
         have lv : v * 7 + 6 < w.ts.length * 7 := by omega
         refine vwp_sq [2, 3, 5, 18] fun K39 hK39 => vwp_still hT hm (by kernel_rfl) ?_
         simp [g5, g6, hlen]
         repeat refine ⟨by first | assumption | omega | (intros; omega), ?_⟩
         refine hK39 _ ?_
         try clear hK39 K39
         refine vwp_cond (by first | rfl | (simp; rfl)) (fun h9 => ?_) fun h9 => ?_
         · simp -failIfUnchanged at h9; all_goals
          have q := h9
          refine vwp_sq [] fun K40 hK40 => vwp_region hT ?_
          simp
          refine hK40 _ ?_
          try clear hK40 K40
          refine vwp_ret (hR _ _ ?_)
          have hw : holdsP w c = false := by
            rw [← Bool.not_eq_true]
            intro hq
            obtain ⟨_, _, k3, k4, _⟩ := hiff.1 hq
            have k5 := ((le_leaT k3.1).1 k3.2).2 v s hs
            have k6 := ((le_leaT k4.1).1 k4.2).2 v s hs
            omega
          rw [hw]
          exact ret_k [4] [] ([]) (.bool false) (⟨rfl, rfl⟩)
         · simp -failIfUnchanged at h9; all_goals
          have q := h9
          refine vwp_skip ?_
          refine hK38 _ ?_
          try clear hK38 K38
          have w1 : IntKind.i64.wrap ((v : Int) + 1) = v + 1 := w64 (by omega) (by omega)
          refine vwp_live [2, 3, 5, 18] (vwp_region hT ?_)
          simp [w1]
          exact hK35 (v + 1) _ (Gh.to_k [2, 3, 5, 18] [0, 1]) (⟨by omega, fun k s2 hk hs2 => by
              rcases Nat.lt_or_ge k v with q | q
              · exact hnv k s2 q hs2
              · obtain rfl : k = v := by omega
                rw [hs] at hs2; cases hs2; omega⟩) (by omega)
        · simp -failIfUnchanged at h8; all_goals
         refine vwp_exit ?_
         simp only [inBlk, thenQ, if_true]
         refine hK33 _ ?_
         try clear hK33 K33
         obtain rfl : v = w.ts.length := by omega
         have hC1 : c.ra ≤ lea (w.ts.map (·.ra)) := (le_leaT hq0.1).2 ⟨fun e => (hq0.2.2 e).1, fun k s hs => (hnv k s (List.getElem?_eq_some_iff.1 hs).1 hs).1⟩
         have hD1 : c.fx ≤ lea (w.ts.map (·.fx)) := (le_leaT hq0.2.1).2 ⟨fun e => (hq0.2.2 e).2, fun k s hs => (hnv k s (List.getElem?_eq_some_iff.1 hs).1 hs).2⟩
         have b1 := ra_bounds hok
         have b2 := fx_bounds hok
         have b3 := leaNd_bounds hA hLn
         have b4 := inF_bounds hA hLn L.length
         have hsb := sum_bounds2 (D := c.inn) (m := 1000000) fun n hn => by
           obtain ⟨j2, hj2⟩ := List.mem_iff_getElem?.1 hn
           have hlt := (List.getElem?_eq_some_iff.1 hj2).1
           obtain ⟨y, hy⟩ := getI (l := inF w L L.length) (i := j2) (by rw [inF_len w L _ (Nat.le_refl _)]; omega)
           have k1 := hA1 j2 n y hj2 hy
           have k2 := b4 y (List.mem_of_getElem? hy)
           omega
         have hfin : holdsP w c = (c.bo == c.fx + c.ra * (c.ba + c.inn.sum)) := by
           rw [Bool.eq_iff_iff, hiff, beq_iff_eq, Ct.worth, Int.add_comm c.inn.sum]
           constructor
           · rintro ⟨_, _, _, _, k⟩; exact k
           · intro k; exact ⟨hA1, hB1, ⟨hq0.1, hC1⟩, ⟨hq0.2.1, hD1⟩, k⟩
         obtain ⟨su, hsu⟩ : ∃ su, su = c.ba + c.inn.sum := ⟨_, rfl⟩
         have hsub : 0 ≤ su ∧ su ≤ 1000000000 := by omega
         rw [← hsu] at hfin ⊢
         have hmu := mul_small (a := c.ra) (b := su) (by omega) (by omega) hsub.1 hsub.2
         have w7 : IntKind.i64.wrap (c.ra * su) = c.ra * su := w64 (by omega) (by omega)
         have w8 : IntKind.i64.wrap (c.fx + c.ra * su) = c.fx + c.ra * su := w64 (by omega) (by omega)
         refine vwp_sq [3, 5] fun K41 hK41 => vwp_region hT ?_
         simp [w7, w8]
         refine hK41 _ ?_
         try clear hK41 K41
         refine vwp_ret (hR _ _ ?_)
         rw [hfin]
         exact ret_k [4] [] ([]) (.bool (c.bo == c.fx + c.ra * su)) (⟨rfl, rfl⟩)
  · refine vwp_live [2, 3] (vwp_region hT ?_)
    simp [he]
    refine vcall_z [] (dworld_spec w ho ht) (by rintro r ob' ⟨rfl, rfl⟩; simp) ?_
    rintro r ob' ⟨rfl, rfl⟩
    simp [he]
    refine hK3 _ ?_
    try clear hK3 K3
    refine vwp_cond (by first | rfl | (simp; rfl)) (fun h10 => ?_) fun h10 => ?_
    · simp -failIfUnchanged at h10; all_goals
     refine vwp_sq [] fun K42 hK42 => vwp_region hT ?_
     simp
     refine hK42 _ ?_
     try clear hK42 K42
     refine vwp_ret (hR _ _ ?_)
     have hw : holdsP w c = false := by
       rw [← Bool.not_eq_true]
       intro hq
       exact he (holds_ids hq).1
     rw [hw]
     exact ret_k [4] [] ([]) (.bool false) (⟨rfl, rfl⟩)
    · simp -failIfUnchanged at h10; all_goals
     refine vwp_skip ?_
     refine hK2 _ ?_
     try clear hK2 K2
     refine vwp_seq_k fun K43 hK43 => ?_
     refine vwp_seq_k fun K44 hK44 => ?_
     simp_all
end Go.Proofs.Ytinigjmfjabicaa
