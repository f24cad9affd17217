/- All orders: so many, each of all, rising; what is drawn is one of them. -/
import Derived.Test.YthjpaongoflgiaaShap17
namespace Go.Proofs.Ythjpaongoflgiaa
open Go Go.VX Go.RowKit
set_option linter.unusedVariables false
set_option linter.unusedSimpArgs false
set_option maxHeartbeats 20000000
set_option maxRecDepth 100000

theorem osU_in {m : Nat} (h : m ≤ 6) : osU (m : Int) = ordersL m := by simp [osU, h]; omega
theorem osU_out {n : Int} (h : ¬ (0 ≤ n ∧ n ≤ 6)) : osU n = [] := by simp only [osU, if_neg h]
theorem orE_out {n : Int} {ds : List Int} (h : ¬ (0 ≤ n ∧ n ≤ 6)) : orE n ds = 1 := by
  unfold orE
  rw [if_neg]
  intro hh
  obtain ⟨m, rfl, h6, _⟩ := ordIn_yes hh
  omega
theorem orE_in {m : Nat} {ds : List Int} (h : m ≤ 6) : (orE (m : Int) ds = 0 ↔ ds.length = m) ∧ (orE (m : Int) ds = 0 → orU m ds ∈ ordersL m) := by
  unfold orE orU
  cases hh : ordIn (m : Int) ds with
  | true =>
    obtain ⟨m', e, _, h2⟩ := ordIn_yes hh
    obtain rfl : m = m' := by omega
    simp [h2]
    exact ordL_mem h2
  | false =>
    have := ordIn_no hh
    simp
    omega
theorem lexB_irr : ∀ l, lexB l l = false
  | [] => rfl
  | x :: l => by simp [lexB, lexB_irr l]
theorem lexB_at : ∀ {a b : List Int} (k : Nat) {u v : Int}, lexB a b = true → a.take k = b.take k → a[k]? = some u → b[k]? = some v → u ≠ v → u < v
  | [], b, k, u, v, _, _, h, _, _ => by simp at h
  | x :: a, [], k, u, v, _, _, _, h, _ => by simp at h
  | x :: a, y :: b, 0, u, v, h, _, hu, hv, hne => by
    simp at hu hv
    subst hu hv
    simpa [lexB, hne] using h
  | x :: a, y :: b, k + 1, u, v, h, ht, hu, hv, hne => by
    simp only [List.take_succ_cons, List.cons.injEq] at ht
    obtain ⟨rfl, ht⟩ := ht
    simp only [lexB, if_true] at h
    exact lexB_at k h ht (by simpa using hu) (by simpa using hv) hne
theorem upL_at : ∀ {L : List (List Int)} (i : Nat) {a b : List Int}, upL L = true → L[i]? = some a → L[i + 1]? = some b → lexB a b = true
  | [], i, a, b, _, h, _ => by simp at h
  | [x], i, a, b, _, _, h => by simp at h
  | x :: y :: L, 0, a, b, h, ha, hb => by
    simp at ha hb
    subst ha hb
    simp only [upL, Bool.and_eq_true] at h
    exact h.1
  | x :: y :: L, i + 1, a, b, h, ha, hb => by
    simp only [upL, Bool.and_eq_true] at h
    exact upL_at i h.2 (by simpa using ha) (by simpa using hb)
def pe (p : Int) : V × V := (.int .i64 p, .bool true)
theorem find_new {p : Int} : ∀ (l : List Int) (i : Nat), p ∉ l → vfindK (.int .i64 p) (l.map pe) i = some none
  | [], _, _ => rfl
  | q :: l, i, h => by
    have h1 : ¬ p = q := fun e => h (by simp [e])
    have h2 : p ∉ l := fun e => h (by simp [e])
    have hb : (p == q) = false := by simp [h1]
    simp only [List.map_cons, vfindK, pe, sameK, if_true, hb]
    exact find_new l (i + 1) h2
@[simp] theorem rnO_pe (f : Nat → Nat) (l : List Int) (bs : List Nat) (ck : Nat) : rnO f (.map (l.map pe) bs ck) = .map (l.map pe) bs ck := rnO_map f pe (fun _ => rfl) l bs ck
@[simp] theorem rnO_pe1 (f : Nat → Nat) (l : List Int) (p : Int) (bs : List Nat) (ck : Nat) : rnO f (.map (l.map pe ++ [(.int .i64 p, .bool true)]) bs ck) = .map (l.map pe ++ [(.int .i64 p, .bool true)]) bs ck := by
  have := rnO_pe f (l ++ [p]) bs ck
  simpa [pe] using this
theorem nodup_take {l : List Int} {j : Nat} {p : Int} (hn : l.Nodup) (h : l[j]? = some p) : p ∉ l.take j := by
  intro hm
  obtain ⟨i, hi⟩ := List.getElem?_of_mem hm
  rw [List.getElem?_take] at hi
  split at hi
  · rename_i hij
    have hj := (List.getElem?_eq_some_iff.1 h)
    have hi' := (List.getElem?_eq_some_iff.1 hi)
    have := (List.getElem_inj (h₀ := hi'.1) (h₁ := hj.1) hn).1 (by rw [hi'.2, hj.2])
    omega
  · cases hi
theorem shapleyOrders_spec (n : Int) (ds : List Int) (hd : ds.length ≤ 140737488355328) : VC P 10 [.int .i64 n, sI ds] [] (fun r ob' => r = .bool true) := by
  refine VC_of_vwp_k ent_10 Try.func10 rfl (by simp) fun R hR => ?_
  refine vwp_sq [0, 1] fun K1 hK1 => vwp_region hT ?_
  simp
  refine hK1 _ ?_
  try clear hK1 K1
  refine vwp_seq_k fun K2 hK2 => ?_
  refine vwp_sq [0, 1] fun K3 hK3 => vwp_region hT ?_
  simp
  refine vcall_k [] (awake_spec) ?_
  rintro r ob' ⟨rfl, rfl⟩
  simp
  refine hK3 _ ?_
  try clear hK3 K3
  refine vwp_cond (by first | rfl | (simp; rfl)) (fun h1 => ?_) fun h1 => ?_
  · simp -failIfUnchanged at h1; all_goals
   refine vwp_seq_k fun K4 hK4 => ?_
   simp at *
  · simp -failIfUnchanged at h1; all_goals
   refine vwp_skip ?_
   refine hK2 _ ?_
   try clear hK2 K2
   refine vwp_sq [0, 1] fun K5 hK5 => vwp_region hT ?_
   simp
   refine vcall_k [] (orders_u n) ?_
   rintro r ob' ⟨rfl, rfl⟩
   simp
   refine hK5 _ ?_
   try clear hK5 K5
   refine vwp_sq [0, 1, 5] fun K6 hK6 => vwp_region hT ?_
   simp
   refine vcall_k [] (order_u n ds (by omega)) ?_
   rintro r ob' ⟨rfl, rfl⟩
   simp
   refine hK6 _ ?_
   try clear hK6 K6
   refine vwp_seq_k fun K7 hK7 => ?_
   refine vwp_seq_k fun K8 hK8 => ?_
   by_cases hn : 0 ≤ n ∧ n ≤ 6
   · obtain ⟨m, rfl⟩ := Int.eq_ofNat_of_zero_le hn.1
     have h6 : m ≤ 6 := by omega
     have k1 : ¬ ((m : Int) < 0) := by omega
     have k2 : ¬ ((6 : Int) < m) := by omega
     have hos := osU_in h6
     obtain ⟨O, hO⟩ : ∃ O, O = ordersL m := ⟨_, rfl⟩
     have hOl : O.length = fct m := by rw [hO, ordersL_len]
     have hup := upL_orders m (by omega)
     have hOm : O.length ≤ 720 := by rw [hOl]; exact fct_le m h6
     obtain ⟨he1, he2⟩ := orE_in (ds := ds) h6
     obtain ⟨o, ho⟩ : ∃ o, o = orU m ds := ⟨_, rfl⟩
     obtain ⟨oe, hoe⟩ : ∃ oe, oe = orE m ds := ⟨_, rfl⟩
     have hol : o.length ≤ 6 := by rw [ho]; exact orU_len m ds
     rw [← hO] at hos hup he2
     rw [← ho] at he2
     rw [← hoe] at he1 he2
     rw [← ho, ← hoe]
     refine vwp_live [0, 1, 5, 6, 7] (vwp_region hT ?_)
     simp [k1, k2, hos]
     refine hK8 _ ?_
     try clear hK8 K8
     refine vwp_cond (by first | rfl | (simp; rfl)) (fun h2 => ?_) fun h2 => ?_
     · simp -failIfUnchanged at h2; all_goals
      refine vwp_seq_k fun K9 hK9 => ?_
      simp at *
     · simp -failIfUnchanged at h2; all_goals
      refine vwp_skip ?_
      refine hK7 _ ?_
      try clear hK7 K7
      refine vwp_sq [0, 1, 5, 6, 7] fun K10 hK10 => vwp_region hT ?_
      simp
      refine hK10 _ ?_
      try clear hK10 K10
      refine vwp_seq_k fun K11 hK11 => ?_
      refine vwp_sq [0, 1, 5, 6, 7, 8] fun K12 hK12 => vwp_region hT ?_
      simp
      refine hK12 _ ?_
      try clear hK12 K12
      refine vwp_block ?_
      refine vwp_loop_s (fun i : Nat => ⟨[(0, .int .i64 m), (1, sI ds), (5, .sl 0 O.length 1 0 O.length), (6, .sl 1 o.length 1 0 o.length), (7, .int .i64 oe), (8, .int .i64 (fct i : Int)), (9, .int .i64 ((i : Int) + 1))], [.live (O.map sI), .live (o.map (.int .i64))]⟩) (fun i => 1 ≤ i ∧ (i ≤ m ∨ i = 1)) (fun i => m - i) (1) (Gh.to_k [0, 1, 5, 6, 7, 8, 9] [0, 1] (he := by simp [fct])) (⟨by omega, by omega⟩) ?_
      rintro i ⟨hi, hi2⟩
      intro K13 hK13
      refine vwp_seq_k fun K14 hK14 => ?_
      refine vwp_sq [0, 1, 5, 6, 7, 8, 9] fun K15 hK15 => vwp_region hT ?_
      simp
      refine hK15 _ ?_
      try clear hK15 K15
      refine vwp_cond (by first | rfl | (simp; rfl)) (fun h3 => ?_) fun h3 => ?_
      · simp -failIfUnchanged at h3; all_goals
       refine vwp_skip ?_
       refine hK14 _ ?_
       try clear hK14 K14
       refine vwp_seq_k fun K16 hK16 => ?_
       refine vwp_block ?_
       have hp := fct_le i (by omega)
       have hp2 := fct_le (i + 1) (by omega)
       have w2 : IntKind.i64.wrap ((fct i : Int) * ((i : Int) + 1)) = (fct (i + 1) : Int) := by
         have e : (fct i : Int) * ((i : Int) + 1) = ((fct (i + 1) : Nat) : Int) := by rw [fct_succ, Nat.mul_comm]; push_cast; rfl
         rw [e]; exact w64 (by omega) (by omega)
       refine vwp_live [0, 1, 5, 6, 7, 8, 9] (vwp_region hT ?_)
       simp [w2]
       refine hK16 _ ?_
       try clear hK16 K16
       have w1 : IntKind.i64.wrap ((i : Int) + 1 + 1) = ((i + 1 : Nat) : Int) + 1 := (w64 (by omega) (by omega)).trans (by omega)
       refine vwp_live [0, 1, 5, 6, 7, 8, 9] (vwp_region hT ?_)
       simp [w1]
       exact hK13 (i + 1) _ (Gh.to_k [0, 1, 5, 6, 7, 8, 9] [0, 1]) (⟨by omega, by omega⟩) (by omega)
      · simp -failIfUnchanged at h3; all_goals
       refine vwp_exit ?_
       simp only [inBlk, thenQ, if_true]
       refine hK11 _ ?_
       try clear hK11 K11
       have hfm : fct i = fct m := by
         rcases hi2 with h | h
         · have : i = m := by omega
           rw [this]
         · subst h
           have : m = 0 ∨ m = 1 := by omega
           rcases this with rfl | rfl <;> rfl
       rw [hfm]
       refine vwp_sq [0, 1, 5, 6, 7, 8] fun K17 hK17 => vwp_region hT ?_
       simp
       refine hK17 _ ?_
       try clear hK17 K17
       refine vwp_seq_k fun K18 hK18 => ?_
       refine vwp_sq [0, 1, 5, 6, 7, 8, 10] fun K19 hK19 => vwp_region hT ?_
       simp
       refine hK19 _ ?_
       try clear hK19 K19
       refine vwp_block ?_
       refine vwp_loop_s (fun z : Nat × Bool => ⟨[(0, .int .i64 m), (1, sI ds), (5, .sl 0 O.length 1 0 O.length), (6, .sl 1 o.length 1 0 o.length), (7, .int .i64 oe), (8, .int .i64 (fct m : Int)), (10, .bool z.2), (48, .sl 0 O.length 1 0 O.length), (49, .int .i64 O.length), (50, .int .i64 (z.1 : Int))], [.live (O.map sI), .live (o.map (.int .i64))]⟩) (fun z => z.1 ≤ O.length ∧ z.2 = (O.take z.1).any (fun x => decide (x = o))) (fun z => O.length - z.1) ((0, false)) (Gh.to_k [0, 1, 5, 6, 7, 8, 10, 48, 49, 50] [0, 1]) (⟨by simp, by simp⟩) ?_
       rintro ⟨i, f⟩ ⟨hi, hf⟩
       dsimp only at hi hf ⊢
       intro K20 hK20
       refine vwp_sq [0, 1, 5, 6, 7, 8, 10, 48, 49, 50] fun K21 hK21 => vwp_region hT ?_
       simp
       refine hK21 _ ?_
       try clear hK21 K21
       refine vwp_seq_k fun K22 hK22 => ?_
       refine vwp_cond (by first | rfl | (simp; rfl)) (fun h4 => ?_) fun h4 => ?_
       · simp -failIfUnchanged at h4; all_goals
        refine vwp_skip ?_
        refine hK22 _ ?_
        try clear hK22 K22
        refine vwp_seq_k fun K23 hK23 => ?_
        refine vwp_block ?_
        obtain ⟨x, hx⟩ := getI (l := O) (i := i) (by omega)
        have hxm : x ∈ ordersL m := by rw [← hO]; exact List.mem_of_getElem? hx
        have hxp := orders_perm hxm
        obtain ⟨x1, x2, x3⟩ := perm_facts hxp
        have hxl : x.length = m := by rw [hxp.length_eq, rangeI_len]
        refine vwp_sq [0, 1, 5, 6, 7, 8, 10, 48, 49, 50] fun K24 hK24 => vwp_region hT ?_
        simp [hx]
        repeat refine ⟨by first | assumption | omega | (intros; omega), ?_⟩
        refine hK24 _ ?_
        try clear hK24 K24
        refine vwp_sq [0, 1, 5, 6, 7, 8, 10, 11, 12, 48, 49, 50] fun K25 hK25 => vwp_region hT ?_
        simp
        refine hK25 _ ?_
        try clear hK25 K25
        refine vwp_seq_k fun K26 hK26 => ?_
        refine vwp_sq [0, 1, 5, 6, 7, 8, 10, 11, 12, 13, 48, 49, 50] fun K27 hK27 => vwp_region hT ?_
        simp
        refine hK27 _ ?_
        try clear hK27 K27
        refine vwp_block ?_
        refine vwp_loop_s (fun u : Nat × List Int => ⟨[(0, .int .i64 m), (1, sI ds), (5, .sl 0 O.length 1 0 O.length), (6, .sl 1 o.length 1 0 o.length), (7, .int .i64 oe), (8, .int .i64 (fct m : Int)), (10, .bool f), (11, .int .i64 (i : Int)), (12, sI x), (13, .mp 2), (48, .sl 0 O.length 1 0 O.length), (49, .int .i64 O.length), (50, .int .i64 (i : Int)), (56, sI x), (57, .int .i64 x.length), (58, .int .i64 (u.1 : Int))], [.live (O.map sI), .live (o.map (.int .i64)), .map (u.2.map pe) (List.range u.1) u.1]⟩) (fun u => u.1 ≤ x.length ∧ u.2 = x.take u.1) (fun u => x.length - u.1) ((0, [])) (Gh.to_k [0, 1, 5, 6, 7, 8, 10, 11, 12, 13, 48, 49, 50, 56, 57, 58] [0, 1, 2]) (⟨by simp, by simp⟩) ?_
        rintro ⟨j, q⟩ ⟨hj, hq⟩
        dsimp only at hj hq ⊢
        intro K28 hK28
        refine vwp_sq [0, 1, 5, 6, 7, 8, 10, 11, 12, 13, 48, 49, 50, 56, 57, 58] fun K29 hK29 => vwp_region hT ?_
        simp
        refine hK29 _ ?_
        try clear hK29 K29
        refine vwp_seq_k fun K30 hK30 => ?_
        refine vwp_cond (by first | rfl | (simp; rfl)) (fun h5 => ?_) fun h5 => ?_
        · simp -failIfUnchanged at h5; all_goals
         refine vwp_skip ?_
         refine hK30 _ ?_
         try clear hK30 K30
         refine vwp_seq_k fun K31 hK31 => ?_
         refine vwp_block ?_
         obtain ⟨p, hp⟩ := getI (l := x) (i := j) (by omega)
         refine vwp_sq [0, 1, 5, 6, 7, 8, 10, 11, 12, 13, 48, 49, 50, 56, 57, 58] fun K32 hK32 => vwp_region hT ?_
         simp [hp]
         repeat refine ⟨by first | assumption | omega | (intros; omega), ?_⟩
         refine hK32 _ ?_
         try clear hK32 K32
         obtain ⟨hp0, hp1⟩ := x1 p (List.mem_of_getElem? hp)
         have hfn := find_new q 0 (by rw [hq]; exact nodup_take x2 hp)
         refine vwp_live [0, 1, 5, 6, 7, 8, 10, 11, 12, 13, 15, 48, 49, 50, 56, 57, 58] (vwp_region hT ?_)
         simp [hfn, hp0, hp1]
         repeat refine ⟨by first | assumption | omega | (intros; omega), ?_⟩
         refine hK31 _ ?_
         try clear hK31 K31
         have w1 : IntKind.i64.wrap (((j : Int) : Int) + 1) = j + 1 := w64 (by omega) (by omega)
         refine vwp_live [0, 1, 5, 6, 7, 8, 10, 11, 12, 13, 48, 49, 50, 56, 57, 58] (vwp_region hT ?_)
         simp [w1]
         exact hK28 ((j + 1, q ++ [p])) _ (Gh.to_k [0, 1, 5, 6, 7, 8, 10, 11, 12, 13, 48, 49, 50, 56, 57, 58] [0, 1, 2] (hh := by simp [List.range_succ, pe])) (⟨by dsimp only; omega, by dsimp only; rw [List.take_add_one, hp, hq]; rfl⟩) (by dsimp only; omega)
        · simp -failIfUnchanged at h5; all_goals
         refine vwp_exit ?_
         simp only [inBlk, thenQ, if_true]
         refine hK26 _ ?_
         try clear hK26 K26
         refine vwp_seq_k fun K33 hK33 => ?_
         have hjm : j = m := by omega
         have hql : q.length = m := by rw [hq, List.length_take]; omega
         refine vwp_sq [0, 1, 5, 6, 7, 8, 10, 11, 12, 13, 48, 49, 50] fun K34 hK34 => vwp_region hT ?_
         simp [hxl, hql]
         refine hK34 _ ?_
         try clear hK34 K34
         refine vwp_cond (by first | rfl | (simp; rfl)) (fun h6 => ?_) fun h6 => ?_
         · simp -failIfUnchanged at h6; all_goals
          refine vwp_seq_k fun K35 hK35 => ?_
          simp at *
         · simp -failIfUnchanged at h6; all_goals
          refine vwp_skip ?_
          refine hK33 _ ?_
          try clear hK33 K33
          refine vwp_sq [0, 1, 5, 6, 7, 8, 10, 11, 12, 48, 49, 50] fun K36 hK36 => vwp_region hT ?_
          simp
          refine hK36 _ ?_
          try clear hK36 K36
          refine vwp_seq_k fun K37 hK37 => ?_
          refine vwp_block ?_
          refine vwp_loop_s (fun k : Nat => ⟨[(0, .int .i64 m), (1, sI ds), (5, .sl 0 O.length 1 0 O.length), (6, .sl 1 o.length 1 0 o.length), (7, .int .i64 oe), (8, .int .i64 (fct m : Int)), (10, .bool f), (11, .int .i64 (i : Int)), (12, sI x), (16, .int .i64 (k : Int)), (48, .sl 0 O.length 1 0 O.length), (49, .int .i64 O.length), (50, .int .i64 (i : Int))], [.live (O.map sI), .live (o.map (.int .i64))]⟩) (fun k => k ≤ m ∧ (0 < i → ∀ y, O[i - 1]? = some y → y.take k = x.take k)) (fun k => m - k) (0) (Gh.to_k [0, 1, 5, 6, 7, 8, 10, 11, 12, 16, 48, 49, 50] [0, 1]) (⟨by omega, fun _ y _ => by simp⟩) ?_
          rintro k ⟨hk, hky⟩
          intro K38 hK38
          refine vwp_seq_k fun K39 hK39 => ?_
          refine vwp_seq_k fun K40 hK40 => ?_
          have hc : i = 0 ∨ ∃ y u v, 0 < i ∧ k < m ∧ O[i - 1]? = some y ∧ y[k]? = some u ∧ x[k]? = some v ∧ y.take k = x.take k ∧ lexB y x = true ∧ y.length = m := by
            rcases Nat.eq_zero_or_pos i with h | h
            · exact .inl h
            · obtain ⟨y, hy⟩ := getI (l := O) (i := i - 1) (by omega)
              have hyp := orders_perm (m := m) (x := y) (by rw [← hO]; exact List.mem_of_getElem? hy)
              have hyl : y.length = m := by rw [hyp.length_eq, rangeI_len]
              have hlx := upL_at (i - 1) hup hy (by rw [show i - 1 + 1 = i by omega]; exact hx)
              have hyk := hky h y hy
              rcases Nat.lt_or_ge k m with hkm | hkm
              · obtain ⟨u, hu⟩ := getI (l := y) (i := k) (by omega)
                obtain ⟨v, hv⟩ := getI (l := x) (i := k) (by omega)
                exact .inr ⟨y, u, v, h, hkm, hy, hu, hv, hyk, hlx, hyl⟩
              · rw [List.take_of_length_le (by omega), List.take_of_length_le (by omega)] at hyk
                rw [hyk, lexB_irr] at hlx
                cases hlx
          rcases hc with hi0 | ⟨y, u, v, hi0, hkm, hy, hu, hv, hyk, hlx, hyl⟩
          · have hni : ¬ 0 < i := by omega
            refine vwp_live [0, 1, 5, 6, 7, 8, 10, 11, 12, 16, 48, 49, 50] (vwp_storm hT hm [.pure, .win 0 0, .pure, .pure, .pure, .win 0 0, .pure, .pure, .off, .off, .off, .off, .off, .off, .off, .off, .off, .off, .off, .off, .off, .pure] [[], [0], [0, 1], [0, 1, 2], [0, 1, 2], [0, 1, 2, 3, 4], [0, 1, 2, 3, 4, 5], [0, 1, 2, 3, 4, 5, 6], [0, 1, 2, 3, 4, 5, 6, 7], [0, 1, 2, 3, 4, 5, 6, 7], [0, 1, 2, 3, 4, 5, 6, 7, 8, 9], [0, 1, 2, 3, 4, 5, 6, 7, 8, 9, 10], [0, 1, 2, 3, 4, 5, 6, 7], [0, 1, 2, 3, 4, 5, 6, 7], [0, 1, 2, 3, 4, 5, 6, 7, 13], [0, 1, 2, 3, 4, 5, 6, 7, 12, 13, 14], [0, 1, 2, 3, 4, 5, 6, 7, 12, 13, 14, 15], [0, 1, 2, 3, 4, 5, 6, 7], [0, 1, 2, 3, 4, 5, 6, 7, 12, 13, 14, 15, 16, 17], [0, 1, 2, 3, 4, 5, 6, 7, 12, 13, 14, 15, 16, 17, 18], [0, 1, 2, 3, 4, 5, 6, 7, 8, 9, 10, 11, 12, 13, 14, 15, 16, 17, 18, 19], [0, 1, 2, 3, 4, 5, 6, 7, 8, 9, 10, 11, 12, 13, 14, 15, 16, 17, 18, 19, 20]] (by kernel_rfl) ?_)
            simp [hni]
            repeat refine ⟨by first | assumption | omega | (intros; omega), ?_⟩
            refine hK40 _ ?_
            try clear hK40 K40
            refine vwp_cond (by first | rfl | (simp; rfl)) (fun h7 => ?_) fun h7 => ?_
            · simp -failIfUnchanged at h7; all_goals
             refine vwp_skip ?_
             refine hK39 _ ?_
             try clear hK39 K39
             refine vwp_block ?_
             skip
            · simp -failIfUnchanged at h7; all_goals
             refine vwp_exit ?_
             simp only [inBlk, thenQ, if_true]
             refine hK37 _ ?_
             try clear hK37 K37
             refine vwp_seq_k fun K41 hK41 => ?_
             refine vwp_sq [0, 1, 5, 6, 7, 8, 10, 11, 12, 16, 48, 49, 50] fun K42 hK42 => vwp_storm hT hm [.pure, .win 0 0, .pure, .pure, .pure, .win 0 0, .pure, .off, .off, .off, .off, .off, .off, .off, .off, .off, .off, .off, .off, .off, .off, .pure] [[], [0], [0, 1], [0, 1, 2], [0, 1, 2], [0, 1, 2, 3, 4], [0, 1, 2, 3, 4, 5], [0, 1, 2, 3, 4, 5, 6], [0, 1, 2, 3, 4, 5, 6], [0, 1, 2, 3, 4, 5, 6, 7, 8], [0, 1, 2, 3, 4, 5, 6, 7, 8, 9], [0, 1, 2, 3, 4, 5, 6], [0, 1, 2, 3, 4, 5, 6], [0, 1, 2, 3, 4, 5, 6, 12], [0, 1, 2, 3, 4, 5, 6, 11, 12, 13], [0, 1, 2, 3, 4, 5, 6, 11, 12, 13, 14], [0, 1, 2, 3, 4, 5, 6], [0, 1, 2, 3, 4, 5, 6, 11, 12, 13, 14, 15, 16], [0, 1, 2, 3, 4, 5, 6, 11, 12, 13, 14, 15, 16, 17], [0, 1, 2, 3, 4, 5, 6, 7, 8, 9, 10, 11, 12, 13, 14, 15, 16, 17, 18], [0, 1, 2, 3, 4, 5, 6, 7, 8, 9, 10, 11, 12, 13, 14, 15, 16, 17, 18, 19], [0, 1, 2, 3, 4, 5, 6, 7, 8, 9, 10, 11, 12, 13, 14, 15, 16, 17, 18, 19, 20]] (by kernel_rfl) ?_
             simp [hni]
             repeat refine ⟨by first | assumption | omega | (intros; omega), ?_⟩
             refine hK42 _ ?_
             try clear hK42 K42
             refine vwp_cond (by first | rfl | (simp; rfl)) (fun h8 => ?_) fun h8 => ?_
             · simp -failIfUnchanged at h8; all_goals
              refine vwp_seq_k fun K43 hK43 => ?_
              simp at *
             · simp -failIfUnchanged at h8; all_goals
              refine vwp_skip ?_
              refine hK41 _ ?_
              try clear hK41 K41
              rcases f with _ | _
              · refine vwp_live [0, 1, 5, 6, 7, 8, 10, 12, 48, 49, 50] (vwp_region hT ?_)
                simp
                refine vcall_z [] (same1_spec x o (by omega) (by omega)) (by rintro r ob' ⟨rfl, rfl⟩; simp) ?_ (ha := by simp [hxl])
                rintro r ob' ⟨rfl, rfl⟩
                simp
                refine hK23 _ ?_
                try clear hK23 K23
                have w1 : IntKind.i64.wrap (((i : Int) : Int) + 1) = i + 1 := w64 (by omega) (by omega)
                refine vwp_live [0, 1, 5, 6, 7, 8, 10, 48, 49, 50] (vwp_region hT ?_)
                simp [w1]
                exact hK20 (i + 1, decide (x = o)) _ (Gh.to_k [0, 1, 5, 6, 7, 8, 10, 48, 49, 50] [0, 1]) (⟨by dsimp only; omega, by dsimp only; rw [List.take_add_one, hx, List.any_append, ← hf]; simp⟩) (by dsimp only; omega)
              · refine vwp_live [0, 1, 5, 6, 7, 8, 10, 12, 48, 49, 50] (vwp_region hT ?_)
                simp
                refine hK23 _ ?_
                try clear hK23 K23
                have w1 : IntKind.i64.wrap (((i : Int) : Int) + 1) = i + 1 := w64 (by omega) (by omega)
                refine vwp_live [0, 1, 5, 6, 7, 8, 10, 48, 49, 50] (vwp_region hT ?_)
                simp [w1]
                exact hK20 (i + 1, true) _ (Gh.to_k [0, 1, 5, 6, 7, 8, 10, 48, 49, 50] [0, 1]) (⟨by dsimp only; omega, by dsimp only; rw [List.take_add_one, hx, List.any_append, ← hf]; simp⟩) (by dsimp only; omega)
          · have w1 : IntKind.i64.wrap ((i : Int) - 1) = ((i - 1 : Nat) : Int) := (w64 (by omega) (by omega)).trans (by omega)
            have hil : i - 1 < O.length := by omega
            have hnk : ¬ k = m := by omega
            refine vwp_live [0, 1, 5, 6, 7, 8, 10, 11, 12, 16, 48, 49, 50] (vwp_still hT hm (by kernel_rfl) ?_)
            simp [hi0, hkm, w1, hy, hu, hv]
            repeat refine ⟨by first | assumption | omega | (intros; omega), ?_⟩
            refine hK40 _ ?_
            try clear hK40 K40
            refine vwp_cond (by first | rfl | (simp; rfl)) (fun h9 => ?_) fun h9 => ?_
            · simp -failIfUnchanged at h9; all_goals
             have huv : v = u := by simpa using h9
             refine vwp_skip ?_
             refine hK39 _ ?_
             try clear hK39 K39
             refine vwp_block ?_
             have w1 : IntKind.i64.wrap (((k : Int) : Int) + 1) = k + 1 := w64 (by omega) (by omega)
             refine vwp_live [0, 1, 5, 6, 7, 8, 10, 11, 12, 16, 48, 49, 50] (vwp_region hT ?_)
             simp [w1]
             exact hK38 (k + 1) _ (Gh.to_k [0, 1, 5, 6, 7, 8, 10, 11, 12, 16, 48, 49, 50] [0, 1]) (⟨by omega, fun _ z hz => by
               rw [hy] at hz
               cases hz
               rw [List.take_add_one, List.take_add_one, hyk, hu, hv, huv]⟩) (by omega)
            · simp -failIfUnchanged at h9; all_goals
             have huv : ¬ v = u := by simpa using h9
             have hlt := lexB_at k hlx hyk hu hv (fun e => huv e.symm)
             have hnlt : ¬ v < u := by omega
             refine vwp_exit ?_
             simp only [inBlk, thenQ, if_true]
             refine hK37 _ ?_
             try clear hK37 K37
             refine vwp_seq_k fun K44 hK44 => ?_
             refine vwp_sq [0, 1, 5, 6, 7, 8, 10, 11, 12, 16, 48, 49, 50] fun K45 hK45 => vwp_still hT hm (by kernel_rfl) ?_
             simp [hi0, hkm, w1, hy, hu, hv, hnk, hnlt]
             repeat refine ⟨by first | assumption | omega | (intros; omega), ?_⟩
             refine hK45 _ ?_
             try clear hK45 K45
             refine vwp_cond (by first | rfl | (simp; rfl)) (fun h10 => ?_) fun h10 => ?_
             · simp -failIfUnchanged at h10; all_goals
              refine vwp_seq_k fun K46 hK46 => ?_
              exfalso
              omega
             · simp -failIfUnchanged at h10; all_goals
              refine vwp_skip ?_
              refine hK44 _ ?_
              try clear hK44 K44
              rcases f with _ | _
              · refine vwp_live [0, 1, 5, 6, 7, 8, 10, 12, 48, 49, 50] (vwp_region hT ?_)
                simp
                refine vcall_z [] (same1_spec x o (by omega) (by omega)) (by rintro r ob' ⟨rfl, rfl⟩; simp) ?_ (ha := by simp [hxl])
                rintro r ob' ⟨rfl, rfl⟩
                simp
                refine hK23 _ ?_
                try clear hK23 K23
                have w1 : IntKind.i64.wrap (((i : Int) : Int) + 1) = i + 1 := w64 (by omega) (by omega)
                refine vwp_live [0, 1, 5, 6, 7, 8, 10, 48, 49, 50] (vwp_region hT ?_)
                simp [w1]
                exact hK20 (i + 1, decide (x = o)) _ (Gh.to_k [0, 1, 5, 6, 7, 8, 10, 48, 49, 50] [0, 1]) (⟨by dsimp only; omega, by dsimp only; rw [List.take_add_one, hx, List.any_append, ← hf]; simp⟩) (by dsimp only; omega)
              · refine vwp_live [0, 1, 5, 6, 7, 8, 10, 12, 48, 49, 50] (vwp_region hT ?_)
                simp
                refine hK23 _ ?_
                try clear hK23 K23
                have w1 : IntKind.i64.wrap (((i : Int) : Int) + 1) = i + 1 := w64 (by omega) (by omega)
                refine vwp_live [0, 1, 5, 6, 7, 8, 10, 48, 49, 50] (vwp_region hT ?_)
                simp [w1]
                exact hK20 (i + 1, true) _ (Gh.to_k [0, 1, 5, 6, 7, 8, 10, 48, 49, 50] [0, 1]) (⟨by dsimp only; omega, by dsimp only; rw [List.take_add_one, hx, List.any_append, ← hf]; simp⟩) (by dsimp only; omega)
       · simp -failIfUnchanged at h4; all_goals
        refine vwp_exit ?_
        simp only [inBlk, thenQ, if_true]
        refine hK18 _ ?_
        try clear hK18 K18
        refine vwp_seq_k fun K47 hK47 => ?_
        have e : i = O.length := by omega
        rw [e, List.take_length] at hf
        by_cases hoe0 : oe = 0
        · have hds := he1.1 hoe0
          have hft : f = true := by
            rw [hf, List.any_eq_true]
            exact ⟨o, he2 hoe0, by simp⟩
          refine vwp_live [0, 1, 5, 7, 8, 10] (vwp_region hT ?_)
          simp [hoe0, hds, hft, hOl]
          refine hK47 _ ?_
          try clear hK47 K47
          refine vwp_ret (hR _ _ ?_)
          exact ret_k [4] [] ([]) (.bool true) (rfl)
        · have hds : ¬ ds.length = m := fun h => hoe0 (he1.2 h)
          have hoe1 : (oe == 0) = false := by simp [hoe0]
          have hoe2 : (oe != 0) = true := by simp [hoe0]
          have hds1 : ((ds.length : Int) == (m : Int)) = false := by simp; omega
          refine vwp_live [0, 1, 5, 7, 8, 10] (vwp_region hT ?_)
          simp [hoe1, hoe2, hds1, hOl]
          refine hK47 _ ?_
          try clear hK47 K47
          refine vwp_ret (hR _ _ ?_)
          exact ret_k [4] [] ([]) (.bool true) (rfl)
   · have e1 := osU_out hn
     have e2 := orE_out (ds := ds) hn
     rcases Int.lt_or_le n 0 with hn0 | hn0
     · refine vwp_live [0, 1, 5, 6, 7] (vwp_region hT ?_)
       simp [hn0, e1, e2]
       refine hK8 _ ?_
       try clear hK8 K8
       refine vwp_cond (by first | rfl | (simp; rfl)) (fun h11 => ?_) fun h11 => ?_
       · simp -failIfUnchanged at h11; all_goals
        refine vwp_sq [5, 7] fun K48 hK48 => vwp_region hT ?_
        simp
        refine hK48 _ ?_
        try clear hK48 K48
        refine vwp_ret (hR _ _ ?_)
        exact ret_k [4] [] ([]) (.bool true) (rfl)
       · simp -failIfUnchanged at h11; all_goals
        refine vwp_skip ?_
        refine hK7 _ ?_
        try clear hK7 K7
        refine vwp_seq_k fun K49 hK49 => ?_
        skip
     · have k1 : ¬ n < 0 := by omega
       have k2 : 6 < n := by omega
       refine vwp_live [0, 1, 5, 6, 7] (vwp_region hT ?_)
       simp [k1, k2, e1, e2]
       refine hK8 _ ?_
       try clear hK8 K8
       refine vwp_cond (by first | rfl | (simp; rfl)) (fun h12 => ?_) fun h12 => ?_
       · simp -failIfUnchanged at h12; all_goals
        refine vwp_sq [5, 7] fun K50 hK50 => vwp_region hT ?_
        simp
        refine hK50 _ ?_
        try clear hK50 K50
        refine vwp_ret (hR _ _ ?_)
        exact ret_k [4] [] ([]) (.bool true) (rfl)
       · simp -failIfUnchanged at h12; all_goals
        refine vwp_skip ?_
        refine hK7 _ ?_
        try clear hK7 K7
        refine vwp_seq_k fun K51 hK51 => ?_
        skip
end Go.Proofs.Ythjpaongoflgiaa
