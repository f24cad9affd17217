/- Behind a crash, what opens has what was sure. -/
import Derived.Test.YtifhbgppjblobaaL2B
namespace Go.Proofs.Ytifhbgppjblobaa
open Go Go.VX Go.RowKit
set_option linter.unusedVariables false
set_option linter.unusedSimpArgs false
set_option maxHeartbeats 20000000
set_option maxRecDepth 100000

/-- Rows that are not large. -/
def rowsOk (S : List (List Int)) : Prop := S.length < 1048576 ∧ ∀ b ∈ S, b.length < 1048576
theorem Good.rowsOk {g : Lg} {d : Dk} {n : Nat} (k : Good g d n) : rowsOk g.rows := by
  obtain ⟨_, _, _, _, _, _, h1, h2, h3⟩ := k.facts
  exact ⟨by omega, fun b hb => by have := h3 b hb; omega⟩
theorem Kept.rowsOk {d : Dk} {n : Nat} {R : List (List Int)} (k : Kept d n R) : rowsOk R := by
  obtain ⟨h, gen, fin, k⟩ := k
  have := k.fins
  have := k.ok.n4
  exact ⟨by omega, fun b hb => by have := chain_rows _ k.chain b hb; omega⟩
theorem Kept.ok {d : Dk} {n : Nat} {R : List (List Int)} (k : Kept d n R) : d.ok n := by
  obtain ⟨h, gen, fin, k⟩ := k
  exact k.ok
theorem rowsOk_snoc {S : List (List Int)} {b : List Int} (h : S.length ≤ 1000000) (h2 : rowsOk S) (hb : b.length < 1048576) : rowsOk (S ++ [b]) :=
  ⟨by simp; omega, fun c hc => by
    rcases List.mem_append.1 hc with q | q
    · exact h2.2 c q
    · rw [List.mem_singleton.1 q]; exact hb⟩
theorem sumB_mem : ∀ {l : List DOp} {x : DOp}, x ∈ l → x.b.length ≤ sumB l
  | y :: l, x, h => by
    simp only [sumB, List.map_cons, List.sum_cons]
    rcases List.mem_cons.1 h with e | h
    · rw [e]; omega
    · have := sumB_mem h
      simp only [sumB] at this
      omega
theorem smallOps.mem {l : List DOp} (h : smallOps l) {x : DOp} (hx : x ∈ l) : x.b.length ≤ 1000 := by
  have := sumB_mem hx
  have := h.2
  omega
theorem manyL_mem {x : DOp} {b : List Int} (h : b ∈ manyL x) : b = x.b := by
  simp only [manyL, List.mem_replicate] at h
  exact h.2
theorem manyL_le (x : DOp) : (manyL x).length ≤ 4 := by rw [manyL_len]; omega
theorem manyL_ok {x : DOp} (h : x.b.length ≤ 1000) : rowsOk (manyL x) :=
  ⟨by have := manyL_le x; omega, fun b hb => by rw [manyL_mem hb]; omega⟩
theorem Good.same {g : Lg} {d d' : Dk} {n : Nat} (k : Good g d n) (hd : d'.ok n) (hB : d'.B = d.B) : Good g d' n :=
  ⟨k.keeps.same hd hB, k.whole, fun i h1 h2 => by
    have := k.blank i h1 h2
    unfold Dk.at Dk.sector at *
    rw [hB]; exact this⟩
def agV (l : List (Int × Int)) : List V := l.flatMap fun x => [.int .i64 x.1, .int .i64 x.2]
theorem agV_length (l : List (Int × Int)) : (agV l).length = l.length * 2 := by
  induction l with
  | nil => rfl
  | cons x l ih => simp only [agV, List.flatMap_cons, List.length_append] at ih ⊢; rw [ih]; simp; omega
theorem agV_drop : ∀ {l : List (Int × Int)} {i : Nat} {x : Int × Int}, l[i]? = some x → List.drop (i * 2) (agV l) = [.int .i64 x.1, .int .i64 x.2] ++ agV (l.drop (i + 1))
  | [], i, x, h => by simp at h
  | y :: l, 0, x, h => by simp at h; subst h; simp [agV]
  | y :: l, i + 1, x, h => by
    have e : (i + 1) * 2 = 2 + i * 2 := by omega
    have e2 : agV (y :: l) = [.int .i64 y.1, .int .i64 y.2] ++ agV l := rfl
    rw [e, e2, ← List.drop_drop]
    have e3 : List.drop 2 ([V.int .i64 y.1, .int .i64 y.2] ++ agV l) = agV l := rfl
    rw [e3, agV_drop (by simpa using h)]
    rfl
theorem logSure_spec (s : Int) (l : List DOp) (hl : l.length ≤ 140737488355328) (hb : ∀ x ∈ l, x.b.length ≤ 140737488355328 ∧ byteL x.b ∧ x.a ≤ 9223372036854775807) (ag : List (Int × Int)) (hal : ag.length ≤ 140737488355328) (hag : ∀ x ∈ ag, x.1 ≤ 9223372036854775807) : VC P 3 [.int .i64 s, .fs l.length (opsV l), .fs ag.length (agV ag)] [] (fun r ob' => r = .bool true) := by
  refine VC_of_vwp_k ent_3 Try.func3 rfl (by simp) fun R hR => ?_
  refine vwp_sq [0, 1, 2] fun K1 hK1 => vwp_region hT ?_
  simp [Dk.obs]
  refine hK1 _ ?_
  try clear hK1 K1
  refine vwp_seq_k fun K2 hK2 => ?_
  refine vwp_sq [0, 1, 2] fun K3 hK3 => vwp_region hT ?_
  simp [Dk.obs]
  refine vcall_k [] (awake_spec) ?_
  rintro r ob' ⟨rfl, rfl⟩
  simp [Dk.obs]
  refine hK3 _ ?_
  try clear hK3 K3
  refine vwp_cond (by first | rfl | (simp; rfl)) (fun h1 => ?_) fun h1 => ?_
  · simp -failIfUnchanged at h1; all_goals
   refine vwp_seq_k fun K4 hK4 => ?_
   simp at *
  · simp -failIfUnchanged at h1; all_goals
   refine vwp_skip ?_
   refine hK2 _ ?_
   try clear hK2 K2
   refine vwp_seq_k fun K5 hK5 => ?_
   refine vwp_sq [0, 1, 2] fun K6 hK6 => vwp_region hT ?_
   simp [Dk.obs]
   refine vcall_k [] (large_spec l hl (fun x hx => (hb x hx).1)) ?_
   rintro r ob' ⟨⟨v, rfl, hv⟩, rfl⟩
   simp [Dk.obs]
   refine hK6 _ ?_
   try clear hK6 K6
   refine vwp_cond (by first | rfl | (simp; rfl)) (fun h2 => ?_) fun h2 => ?_
   · simp -failIfUnchanged at h2; all_goals
    refine vwp_sq [] fun K7 hK7 => vwp_region hT ?_
    simp [Dk.obs]
    refine hK7 _ ?_
    try clear hK7 K7
    refine vwp_ret (hR _ _ ?_)
    exact ret_k [6] [] [] (.bool true) rfl
   · simp -failIfUnchanged at h2; all_goals
    have q := h2
    have hsm := hv q.1.1
    refine vwp_skip ?_
    refine hK5 _ ?_
    try clear hK5 K5
    refine vwp_seq_k fun K8 hK8 => ?_
    by_cases hs : 4 ≤ s ∧ s ≤ 4096
    · obtain ⟨n, rfl⟩ : ∃ n : Nat, s = n := ⟨s.toNat, by omega⟩
      obtain ⟨D0, hD0⟩ : ∃ D0, D0 = Dk.new n := ⟨_, rfl⟩
      refine vwp_live [0, 1, 2] (vwp_region hT ?_)
      simp [Dk.obs, ← hD0]
      refine vcall_k [] (new_spec (n : Int)) ?_
      rintro r ob' q2
      rw [if_pos (by omega)] at q2
      obtain ⟨rfl, rfl⟩ := q2
      simp [Dk.obs, ← hD0]
      refine hK8 _ ?_
      try clear hK8 K8
      refine vwp_seq_k fun K9 hK9 => ?_
      refine vwp_sq [0, 1, 2, 7] fun K10 hK10 => vwp_region hT ?_
      simp [Dk.obs]
      refine hK10 _ ?_
      try clear hK10 K10
      refine vwp_cond (by first | rfl | (simp; rfl)) (fun h3 => ?_) fun h3 => ?_
      · simp -failIfUnchanged at h3; all_goals
       refine vwp_seq_k fun K11 hK11 => ?_
       exfalso
       simp at * <;> omega
      · simp -failIfUnchanged at h3; all_goals
       refine vwp_skip ?_
       refine hK9 _ ?_
       try clear hK9 K9
       obtain ⟨g0, d0, hop, hg0, hr0, hcalm⟩ := new_law (n := n) (by omega) (by omega)
       rw [← hD0] at hop
       have hon := open_some (hD0 ▸ Dk.new_ok (n := n) (by omega) (by omega)) (by rw [hD0]; exact byteL_zeros _) hop
       refine vwp_sq [1, 2, 7] fun K12 hK12 => vwp_region hT ?_
       simp [Dk.obs]
       refine vcall_k [0, 1] (hon) ?_ (hh := by simp [Dk.obs])
       rintro r ob' ⟨rfl, rfl⟩
       simp [Dk.obs]
       refine hK12 _ ?_
       try clear hK12 K12
       refine vwp_seq_k fun K13 hK13 => ?_
       refine vwp_sq [1, 2, 7, 9, 10] fun K14 hK14 => vwp_region hT ?_
       simp [Dk.obs]
       refine hK14 _ ?_
       try clear hK14 K14
       refine vwp_cond (by first | rfl | (simp; rfl)) (fun h4 => ?_) fun h4 => ?_
       · simp -failIfUnchanged at h4; all_goals
        refine vwp_seq_k fun K15 hK15 => ?_
        simp at *
       · simp -failIfUnchanged at h4; all_goals
        refine vwp_skip ?_
        refine hK13 _ ?_
        try clear hK13 K13
        refine vwp_sq [1, 2, 7, 9] fun K16 hK16 => vwp_region hT ?_
        simp [Dk.obs]
        refine hK16 _ ?_
        try clear hK16 K16
        refine vwp_cut_s (fun z : Dk × List (List Int) × List (List Int) × List (List Int) => ⟨[(2, .fs ag.length (agV ag)), (7, .ptr 0 5 0), (11, sBB z.2.1), (12, sBB z.2.2.1)], [.live [.sl 1 z.1.B.length 32 0 n, .bool z.1.down, .int .i64 z.1.fuse, .int .i64 z.1.torn, .int .i64 z.1.writes], .live (bts z.1.B)]⟩) (fun z => z.1.ok n ∧ rowsOk z.2.1 ∧ rowsOk z.2.2.1 ∧ Kept z.1 n z.2.2.2 ∧ (z.2.2.2 = z.2.1 ∨ z.2.2.2 = z.2.2.1)) (fun K17 hK17 => ?_) ?_
        · refine vwp_gh (Gh.virt 11 1 (by rfl)) ?_
          simp
          refine vwp_gh (Gh.virt 12 1 (by rfl)) ?_
          simp
          refine vwp_gh ((Gh.freeze 4 (by rfl) (by simp)).trans (Gh.freeze 5 (by rfl) (by simp))) ?_
          refine vwp_gh (st' := ⟨[(1, .fs l.length (opsV l)), (2, .fs ag.length (agV ag)), (7, .ptr 0 5 0), (9, .ptr 2 6 0), (11, .fs 0 []), (12, .fs 0 [])], [.live [.sl 1 d0.B.length 32 0 n, .bool d0.down, .int .i64 d0.fuse, .int .i64 d0.torn, .int .i64 d0.writes], .live (bts d0.B), logO 3 g0, .live ((g0 : Lg).rows.map sB)]⟩) (Gh.to_k [1, 2, 7, 9, 11, 12] [0, 1, 2, 3] (hh := by simp [Dk.obs])) ?_
          refine vwp_sq [1, 2, 7, 9, 11, 12] fun K18 hK18 => vwp_region hT ?_
          simp [Dk.obs]
          refine hK18 _ ?_
          try clear hK18 K18
          refine vwp_block ?_
          refine vwp_loop_s (fun u : Nat × Lg × Dk => ⟨[(2, .fs ag.length (agV ag)), (7, .ptr 0 5 0), (9, .ptr 2 6 0), (11, sBB u.2.1.rows), (12, sBB u.2.1.rows), (59, .fs l.length (opsV l)), (60, .int .i64 l.length), (61, .int .i64 (u.1 : Int))], [.live [.sl 1 u.2.2.B.length 32 0 n, .bool u.2.2.down, .int .i64 u.2.2.fuse, .int .i64 u.2.2.torn, .int .i64 u.2.2.writes], .live (bts u.2.2.B), logO 3 u.2.1, .live ((u.2.1 : Lg).rows.map sB)]⟩) (fun u => u.1 ≤ l.length ∧ Good u.2.1 u.2.2 n) (fun u => l.length - u.1) ((0, g0, d0)) (Gh.to_k [2, 7, 9, 11, 12, 59, 60, 61] [0, 1, 2, 3] (he := by simp [hr0])) (⟨Nat.zero_le _, hg0⟩) ?_
          rintro ⟨i, g, d⟩ ⟨hi, hg⟩
          dsimp only at hi hg ⊢
          obtain ⟨hdo, hdb, hh1, hg1, hgm, hfn, hrn, hn4, hr200⟩ := hg.facts
          intro K19 hK19
          refine vwp_sq [2, 7, 9, 11, 12, 59, 60, 61] fun K20 hK20 => vwp_region hT ?_
          simp [Dk.obs]
          refine hK20 _ ?_
          try clear hK20 K20
          refine vwp_seq_k fun K21 hK21 => ?_
          refine vwp_cond (by first | rfl | (simp; rfl)) (fun h5 => ?_) fun h5 => ?_
          · simp -failIfUnchanged at h5; all_goals
           refine vwp_skip ?_
           refine hK21 _ ?_
           try clear hK21 K21
           refine vwp_seq_k fun K22 hK22 => ?_
           refine vwp_block ?_
           obtain ⟨x, hx⟩ := getI (l := l) (i := i) (by omega)
           have hxm := List.mem_of_getElem? hx
           obtain ⟨hx1, hx2, hx3⟩ := hb x hxm
           have hx4 := hsm.mem hxm
           have hdr := opsV_drop hx
           refine vwp_sq [2, 7, 9, 11, 12, 59, 60, 61] fun K23 hK23 => vwp_region hT ?_
           simp [Dk.obs, hdr, opsV_length]
           repeat refine ⟨by first | assumption | omega | (intros; omega), ?_⟩
           refine hK23 _ ?_
           try clear hK23 K23
           refine vwp_sq [2, 7, 9, 11, 12, 14, 59, 60, 61] fun K24 hK24 => vwp_region hT ?_
           simp [Dk.obs]
           refine hK24 _ ?_
           try clear hK24 K24
           refine vwp_cut_s (fun u : Int × Lg × Dk × List (List Int) => ⟨[(2, .fs ag.length (agV ag)), (7, .ptr 0 5 0), (9, .ptr 2 6 0), (11, sBB g.rows), (12, sBB u.2.2.2), (15, .int .i64 u.1), (59, .fs l.length (opsV l)), (60, .int .i64 l.length), (61, .int .i64 (i : Int))], [.live [.sl 1 u.2.2.1.B.length 32 0 n, .bool u.2.2.1.down, .int .i64 u.2.2.1.fuse, .int .i64 u.2.2.1.torn, .int .i64 u.2.2.1.writes], .live (bts u.2.2.1.B), logO 3 u.2.1, .live ((u.2.1 : Lg).rows.map sB)]⟩) (fun u => (u.1 = 0 ∧ Good u.2.1 u.2.2.1 n ∧ u.2.1.rows = u.2.2.2 ∨ u.1 = 7 ∧ (Kept u.2.2.1 n g.rows ∨ Kept u.2.2.1 n u.2.2.2) ∨ u.1 ≠ 0 ∧ u.1 ≠ 7 ∧ Good u.2.1 u.2.2.1 n ∧ u.2.1.rows = g.rows) ∧ rowsOk u.2.2.2) (fun K25 hK25 => ?_) ?_
           · refine vwp_sq [2, 7, 9, 11, 12, 14, 59, 60, 61] fun K26 hK26 => vwp_region hT ?_
             simp [Dk.obs]
             refine hK26 _ ?_
             try clear hK26 K26
             refine vwp_block ?_
             refine vwp_sq [2, 7, 9, 11, 12, 14, 59, 60, 61, 66] fun K27 hK27 => vwp_region hT ?_
             simp [Dk.obs]
             refine hK27 _ ?_
             try clear hK27 K27
             refine vwp_cond (by first | rfl | (simp; rfl)) (fun h6 => ?_) fun h6 => ?_
             · simp -failIfUnchanged at h6; all_goals
              refine vwp_sq [2, 7, 9, 11, 14, 59, 60, 61] fun K28 hK28 => vwp_storm hT hm [.mv, .pure, .mv, .win 0 2, .win 0 2, .lit, .mv, .pure] [[], [], [0, 1], [], [3], [3, 4], [0, 1, 2, 3, 4, 5], [0, 1, 2, 3, 4, 5, 6]] (by kernel_rfl) ?_
              simp [Dk.obs]
              repeat refine ⟨by first | assumption | omega | (intros; omega), ?_⟩
              refine hK28 _ ?_
              try clear hK28 K28
              refine vwp_gh (Gh.freeze 5 (by rfl) (by intro c hc; simp at hc; first | (rcases hc with ⟨z, _, rfl⟩ | rfl <;> rfl) | (obtain ⟨z, _, rfl⟩ := hc; rfl))) ?_
              refine vwp_gh (st' := ⟨[(2, .fs ag.length (agV ag)), (7, .ptr 0 5 0), (9, .ptr 2 6 0), (11, sBB g.rows), (12, sBB (g.rows ++ [x.b])), (14, .ptr 4 4 0), (59, .fs l.length (opsV l)), (60, .int .i64 l.length), (61, .int .i64 (i : Int))], [.live [.sl 1 d.B.length 32 0 n, .bool d.down, .int .i64 d.fuse, .int .i64 d.torn, .int .i64 d.writes], .live (bts d.B), logO 3 g, .live ((g : Lg).rows.map sB), .live x.cells]⟩) (Gh.to_k [2, 7, 9, 11, 12, 14, 59, 60, 61] [0, 1, 2, 3, 4] (hh := by simp [Dk.obs]) (he := by simp [List.take_of_length_le])) ?_
              have hal2 := (append_law hg hx2).1
              have hsp := append_spec g d n hdo hh1 (by omega) (by omega) hfn x.b hx2 (by omega)
              obtain ⟨q, hq⟩ : ∃ q, q = appendL g d n x.b := ⟨_, rfl⟩
              rw [← hq] at hal2 hsp
              obtain ⟨e, g2, d2⟩ := q
              dsimp only at hal2 hsp
              refine vwp_live [2, 7, 9, 11, 12, 14, 59, 60, 61] (vwp_region hT ?_)
              simp [Dk.obs]
              refine vcall_k [2, 0, 1, 3] (hsp) ?_ (hh := by simp [Dk.obs]) (ha := by simp)
              rintro r ob' ⟨rfl, rfl⟩
              simp [Dk.obs]
              exact hK25 (e, g2, d2, g.rows ++ [x.b]) _ (Gh.to_k [2, 7, 9, 11, 12, 15, 59, 60, 61] [0, 1, 2, 3] (hh := by simp [Dk.obs])) (by
                refine ⟨?_, rowsOk_snoc (by omega) hg.rowsOk (by omega)⟩
                dsimp only
                rcases hal2 with ⟨q1, q2, q3, _⟩ | ⟨q1, q2⟩ | ⟨q1, _, q2⟩ | ⟨_, _, q2⟩
                · exact .inl ⟨q1, q2, q3⟩
                · exact .inr (.inl ⟨q1, q2⟩)
                · cases q2; exact .inr (.inr ⟨by omega, by omega, hg, rfl⟩)
                · cases q2; exact .inr (.inr ⟨by omega, by omega, hg, rfl⟩))
             · simp -failIfUnchanged at h6; all_goals
              refine vwp_sq [2, 7, 9, 11, 12, 14, 59, 60, 61, 66] fun K29 hK29 => vwp_region hT ?_
              simp [Dk.obs]
              refine hK29 _ ?_
              try clear hK29 K29
              refine vwp_cond (by first | rfl | (simp; rfl)) (fun h7 => ?_) fun h7 => ?_
              · simp -failIfUnchanged at h7; all_goals
               refine vwp_sq [2, 7, 9, 11, 14, 59, 60, 61] fun K30 hK30 => vwp_region hT ?_
               simp [Dk.obs]
               refine vcall_k [] (many_spec x) ?_
               rintro r ob' ⟨rfl, rfl⟩
               simp [Dk.obs]
               refine hK30 _ ?_
               try clear hK30 K30
               refine vwp_gh (Gh.freeze 5 (by rfl) (by intro c hc; simp at hc; first | (rcases hc with ⟨z, _, rfl⟩ | rfl <;> rfl) | (obtain ⟨z, _, rfl⟩ := hc; rfl))) ?_
               refine vwp_gh (st' := ⟨[(2, .fs ag.length (agV ag)), (7, .ptr 0 5 0), (9, .ptr 2 6 0), (11, sBB g.rows), (12, sBB (manyL x)), (14, .ptr 4 4 0), (59, .fs l.length (opsV l)), (60, .int .i64 l.length), (61, .int .i64 (i : Int))], [.live [.sl 1 d.B.length 32 0 n, .bool d.down, .int .i64 d.fuse, .int .i64 d.torn, .int .i64 d.writes], .live (bts d.B), logO 3 g, .live ((g : Lg).rows.map sB), .live x.cells]⟩) (Gh.to_k [2, 7, 9, 11, 12, 14, 59, 60, 61] [0, 1, 2, 3, 4] (hh := by simp [Dk.obs]) (he := by simp [List.take_of_length_le])) ?_
               have hmb : ∀ b ∈ manyL x, byteL b := fun b hb => by rw [manyL_mem hb]; exact hx2
               have hmk := manyL_ok hx4
               have hal2 := (only_law hg hmb).1
               obtain ⟨q, hq⟩ : ∃ q, q = onlyL g d n (manyL x) := ⟨_, rfl⟩
               rw [← hq] at hal2
               obtain ⟨e, g2, d2⟩ := q
               dsimp only at hal2
               by_cases he0 : e = 0
               · subst he0
                 have hsp := only_ok hdo hh1 hgm (by have := hmk.1; omega) hmb (fun b hb => by have := hmk.2 b hb; omega) hq.symm
                 refine vwp_live [2, 7, 9, 11, 12, 59, 60, 61] (vwp_region hT ?_)
                 simp [Dk.obs]
                 refine vcall_k [2, 0, 1, 3] (hsp) ?_ (hh := by simp [Dk.obs]) (ha := by simp)
                 rintro r ob' ⟨rfl, old, rfl⟩
                 simp [Dk.obs]
                 exact hK25 (0, g2, d2, manyL x) _ (Gh.to_k [2, 7, 9, 11, 12, 15, 59, 60, 61] [0, 1, 2, 5] (hh := by simp [Dk.obs])) (by
                   refine ⟨?_, hmk⟩
                   dsimp only
                   rcases hal2 with ⟨q1, q2, q3, _⟩ | ⟨q1, q2⟩ | ⟨q1, _, q2⟩ | q2
                   · exact .inl ⟨q1, q2, q3⟩
                   · omega
                   · omega
                   · cases q2)
               · have hsp := only_bad hdo hh1 hgm (by have := hmk.1; omega) hmb (fun b hb => by have := hmk.2 b hb; omega) hq.symm he0
                 refine vwp_live [2, 7, 9, 11, 12, 59, 60, 61] (vwp_region hT ?_)
                 simp [Dk.obs]
                 refine vcall_k [2, 0, 1, 3] (hsp) ?_ (hh := by simp [Dk.obs]) (ha := by simp)
                 rintro r ob' ⟨rfl, rfl⟩
                 simp [Dk.obs]
                 exact hK25 (e, g2, d2, manyL x) _ (Gh.to_k [2, 7, 9, 11, 12, 15, 59, 60, 61] [0, 1, 2, 3] (hh := by simp [Dk.obs])) (by
                   refine ⟨?_, hmk⟩
                   dsimp only
                   rcases hal2 with ⟨q1, q2, q3, _⟩ | ⟨q1, q2⟩ | ⟨q1, _, q2⟩ | q2
                   · omega
                   · exact .inr (.inl ⟨q1, q2⟩)
                   · cases q2; exact .inr (.inr ⟨by omega, by omega, hg, rfl⟩)
                   · cases q2; exact .inr (.inr ⟨by omega, by omega, hg, rfl⟩))
              · simp -failIfUnchanged at h7; all_goals
               refine vwp_sq [2, 7, 9, 11, 12, 14, 59, 60, 61, 66] fun K31 hK31 => vwp_region hT ?_
               simp [Dk.obs]
               refine hK31 _ ?_
               try clear hK31 K31
               refine vwp_cond (by first | rfl | (simp; rfl)) (fun h8 => ?_) fun h8 => ?_
               · simp -failIfUnchanged at h8; all_goals
                refine vwp_sq [2, 7, 9, 11, 12, 14, 59, 60, 61] fun K32 hK32 => vwp_region hT ?_
                simp [Dk.obs]
                refine vcall_k [0, 1] (fuse_spec d n x.a x.c) ?_ (hh := by simp [Dk.obs])
                rintro r ob' ⟨rfl, rfl⟩
                simp [Dk.obs]
                refine hK32 _ ?_
                try clear hK32 K32
                refine vwp_exit ?_
                simp only [inBlk, thenQ, if_true]
                refine hK22 _ ?_
                try clear hK22 K22
                have w1 : IntKind.i64.wrap ((i : Int) + 1) = i + 1 := w64 (by omega) (by omega)
                refine vwp_live [2, 7, 9, 11, 12, 59, 60, 61] (vwp_region hT ?_)
                simp [Dk.obs, w1]
                exact hK19 (i + 1, g, d.fused x.a x.c) _ (Gh.to_k [2, 7, 9, 11, 12, 59, 60, 61] [0, 1, 2, 3]) (⟨by dsimp only; omega, hg.same (Dk.fused_ok hdo x.a x.c hx3) rfl⟩) (by dsimp only; omega)
               · simp -failIfUnchanged at h8; all_goals
                refine vwp_exit ?_
                simp only [inBlk, thenQ, if_true]
                refine hK22 _ ?_
                try clear hK22 K22
                have w1 : IntKind.i64.wrap ((i : Int) + 1) = i + 1 := w64 (by omega) (by omega)
                refine vwp_live [2, 7, 9, 11, 12, 59, 60, 61] (vwp_region hT ?_)
                simp [Dk.obs, w1]
                exact hK19 (i + 1, g, d) _ (Gh.to_k [2, 7, 9, 11, 12, 59, 60, 61] [0, 1, 2, 3]) (⟨by dsimp only; omega, hg⟩) (by dsimp only; omega)
           · rintro ⟨e, g2, d2, w⟩ ⟨hc, hwk⟩
             dsimp only at hc hwk ⊢
             refine vwp_seq_k fun K33 hK33 => ?_
             refine vwp_seq_k fun K34 hK34 => ?_
             rcases hc with ⟨rfl, hg2, hr2⟩ | ⟨rfl, hk2⟩ | ⟨h0, h7, hg2, hr2⟩
             · refine vwp_live [2, 7, 9, 11, 12, 15, 59, 60, 61] (vwp_region hT ?_)
               simp [Dk.obs]
               refine hK34 _ ?_
               try clear hK34 K34
               refine vwp_cond (by first | rfl | (simp; rfl)) (fun h9 => ?_) fun h9 => ?_
               · simp -failIfUnchanged at h9; all_goals
                refine vwp_live [2, 7, 9, 12, 15, 59, 60, 61] (vwp_region hT ?_)
                simp [Dk.obs]
                refine hK33 _ ?_
                try clear hK33 K33
                refine vwp_seq_k fun K35 hK35 => ?_
                refine vwp_sq [2, 7, 9, 11, 12, 15, 59, 60, 61] fun K36 hK36 => vwp_region hT ?_
                simp [Dk.obs]
                refine hK36 _ ?_
                try clear hK36 K36
                refine vwp_cond (by first | rfl | (simp; rfl)) (fun h10 => ?_) fun h10 => ?_
                · simp -failIfUnchanged at h10; all_goals
                 refine vwp_exit ?_
                 simp only [inBlk, thenQ, if_true]
                 exact hK17 (d, g.rows, g.rows, g.rows) _ (Gh.to_k [2, 7, 11, 12] [0, 1] (hh := by simp [Dk.obs])) (⟨hdo, hg.rowsOk, hg.rowsOk, ⟨_, _, _, hg.keeps⟩, .inl rfl⟩)
                · simp -failIfUnchanged at h10; all_goals
                 refine vwp_skip ?_
                 refine hK35 _ ?_
                 try clear hK35 K35
                 refine vwp_live [2, 7, 9, 11, 59, 60, 61] (vwp_region hT ?_)
                 simp [Dk.obs]
                 refine hK22 _ ?_
                 try clear hK22 K22
                 have w1 : IntKind.i64.wrap ((i : Int) + 1) = i + 1 := w64 (by omega) (by omega)
                 refine vwp_live [2, 7, 9, 11, 12, 59, 60, 61] (vwp_region hT ?_)
                 simp [Dk.obs, w1]
                 exact hK19 (i + 1, g2, d2) _ (Gh.to_k [2, 7, 9, 11, 12, 59, 60, 61] [0, 1, 2, 3] (he := by simp [hr2])) (⟨by dsimp only; omega, hg2⟩) (by dsimp only; omega)
               · simp -failIfUnchanged at h9; all_goals
                refine vwp_skip ?_
                refine hK33 _ ?_
                try clear hK33 K33
                refine vwp_seq_k fun K37 hK37 => ?_
                refine vwp_seq_k fun K38 hK38 => ?_
                simp at *
             · refine vwp_live [2, 7, 9, 11, 12, 15, 59, 60, 61] (vwp_region hT ?_)
               simp [Dk.obs]
               refine hK34 _ ?_
               try clear hK34 K34
               refine vwp_cond (by first | rfl | (simp; rfl)) (fun h11 => ?_) fun h11 => ?_
               · simp -failIfUnchanged at h11; all_goals
                simp at *
               · simp -failIfUnchanged at h11; all_goals
                refine vwp_skip ?_
                refine hK33 _ ?_
                try clear hK33 K33
                refine vwp_seq_k fun K39 hK39 => ?_
                refine vwp_sq [2, 7, 9, 11, 12, 15, 59, 60, 61] fun K40 hK40 => vwp_region hT ?_
                simp [Dk.obs]
                refine hK40 _ ?_
                try clear hK40 K40
                refine vwp_cond (by first | rfl | (simp; rfl)) (fun h12 => ?_) fun h12 => ?_
                · simp -failIfUnchanged at h12; all_goals
                 refine vwp_exit ?_
                 simp only [inBlk, thenQ, if_true]
                 rcases hk2 with hk2 | hk2
                 · exact hK17 (d2, g.rows, w, g.rows) _ (Gh.to_k [2, 7, 11, 12] [0, 1] (hh := by simp [Dk.obs])) (⟨hk2.ok, hg.rowsOk, hwk, hk2, .inl rfl⟩)
                 · exact hK17 (d2, g.rows, w, w) _ (Gh.to_k [2, 7, 11, 12] [0, 1] (hh := by simp [Dk.obs])) (⟨hk2.ok, hg.rowsOk, hwk, hk2, .inr rfl⟩)
                · simp -failIfUnchanged at h12; all_goals
                 refine vwp_skip ?_
                 refine hK39 _ ?_
                 try clear hK39 K39
                 simp at *
             · refine vwp_live [2, 7, 9, 11, 12, 15, 59, 60, 61] (vwp_region hT ?_)
               simp [Dk.obs]
               refine hK34 _ ?_
               try clear hK34 K34
               refine vwp_cond (by first | rfl | (simp; rfl)) (fun h13 => ?_) fun h13 => ?_
               · simp -failIfUnchanged at h13; all_goals
                omega
               · simp -failIfUnchanged at h13; all_goals
                refine vwp_skip ?_
                refine hK33 _ ?_
                try clear hK33 K33
                refine vwp_seq_k fun K41 hK41 => ?_
                refine vwp_sq [2, 7, 9, 11, 12, 15, 59, 60, 61] fun K42 hK42 => vwp_region hT ?_
                simp [Dk.obs]
                refine hK42 _ ?_
                try clear hK42 K42
                refine vwp_cond (by first | rfl | (simp; rfl)) (fun h14 => ?_) fun h14 => ?_
                · simp -failIfUnchanged at h14; all_goals
                 refine vwp_exit ?_
                 simp only [inBlk, thenQ, if_true]
                 omega
                · simp -failIfUnchanged at h14; all_goals
                 refine vwp_skip ?_
                 refine hK41 _ ?_
                 try clear hK41 K41
                 refine vwp_live [2, 7, 9, 11, 59, 60, 61] (vwp_region hT ?_)
                 simp [Dk.obs]
                 refine hK22 _ ?_
                 try clear hK22 K22
                 have w1 : IntKind.i64.wrap ((i : Int) + 1) = i + 1 := w64 (by omega) (by omega)
                 refine vwp_live [2, 7, 9, 11, 12, 59, 60, 61] (vwp_region hT ?_)
                 simp [Dk.obs, w1]
                 exact hK19 (i + 1, g2, d2) _ (Gh.to_k [2, 7, 9, 11, 12, 59, 60, 61] [0, 1, 2, 3] (he := by simp [hr2])) (⟨by dsimp only; omega, hg2⟩) (by dsimp only; omega)
          · simp -failIfUnchanged at h5; all_goals
           refine vwp_exit ?_
           simp only [inBlk, thenQ, if_true]
           exact hK17 (d, g.rows, g.rows, g.rows) _ (Gh.to_k [2, 7, 11, 12] [0, 1] (hh := by simp [Dk.obs])) (⟨hdo, hg.rowsOk, hg.rowsOk, ⟨_, _, _, hg.keeps⟩, .inl rfl⟩)
        · rintro ⟨d, S, W, R⟩ ⟨hdo, hS, hW, hk, hRo⟩
          dsimp only at hdo hS hW hk hRo ⊢
          refine vwp_seq_k fun K43 hK43 => ?_
          refine vwp_sq [2, 7, 11, 12] fun K44 hK44 => vwp_region hT ?_
          simp [Dk.obs]
          refine hK44 _ ?_
          try clear hK44 K44
          refine vwp_block ?_
          refine vwp_loop_s (fun u : Nat × Dk => ⟨[(7, .ptr 0 5 0), (11, sBB S), (12, sBB W), (102, .fs ag.length (agV ag)), (103, .int .i64 ag.length), (104, .int .i64 (u.1 : Int))], [.live [.sl 1 u.2.B.length 32 0 n, .bool u.2.down, .int .i64 u.2.fuse, .int .i64 u.2.torn, .int .i64 u.2.writes], .live (bts u.2.B)]⟩) (fun u => u.1 ≤ ag.length ∧ Kept u.2 n R) (fun u => ag.length - u.1) ((0, d)) (Gh.to_k [7, 11, 12, 102, 103, 104] [0, 1]) (⟨Nat.zero_le _, hk⟩) ?_
          clear hk hdo
          rintro ⟨i, d⟩ ⟨hi, hk⟩
          dsimp only at hi hk ⊢
          have hdo := hk.ok
          intro K45 hK45
          refine vwp_sq [7, 11, 12, 102, 103, 104] fun K46 hK46 => vwp_region hT ?_
          simp [Dk.obs]
          refine hK46 _ ?_
          try clear hK46 K46
          refine vwp_seq_k fun K47 hK47 => ?_
          refine vwp_cond (by first | rfl | (simp; rfl)) (fun h15 => ?_) fun h15 => ?_
          · simp -failIfUnchanged at h15; all_goals
           refine vwp_skip ?_
           refine hK47 _ ?_
           try clear hK47 K47
           refine vwp_seq_k fun K48 hK48 => ?_
           refine vwp_block ?_
           obtain ⟨x, hx⟩ := getI (l := ag) (i := i) (by omega)
           have hdr := agV_drop hx
           have hx3 := hag x (List.mem_of_getElem? hx)
           refine vwp_sq [7, 11, 12, 102, 103, 104] fun K49 hK49 => vwp_region hT ?_
           simp [Dk.obs, hdr, agV_length]
           repeat refine ⟨by first | assumption | omega | (intros; omega), ?_⟩
           refine hK49 _ ?_
           try clear hK49 K49
           refine vwp_sq [7, 11, 12, 17, 102, 103, 104] fun K50 hK50 => vwp_region hT ?_
           simp [Dk.obs]
           refine vcall_k [0, 1] (crash_spec d n) ?_ (hh := by simp [Dk.obs])
           rintro r ob' ⟨rfl, rfl⟩
           simp [Dk.obs]
           refine hK50 _ ?_
           try clear hK50 K50
           refine vwp_sq [7, 11, 12, 17, 102, 103, 104] fun K51 hK51 => vwp_region hT ?_
           simp [Dk.obs]
           repeat refine ⟨by first | assumption | omega | (intros; omega), ?_⟩
           refine vcall_k [0, 1] (fuse_spec d.crashed n x.1 x.2) ?_ (hh := by simp [Dk.obs])
           rintro r ob' ⟨rfl, rfl⟩
           simp [Dk.obs]
           repeat refine ⟨by first | assumption | omega | (intros; omega), ?_⟩
           refine hK51 _ ?_
           try clear hK51 K51
           refine vwp_seq_k fun K52 hK52 => ?_
           obtain ⟨d3, hd3⟩ : ∃ d3, d3 = d.crashed.fused x.1 x.2 := ⟨_, rfl⟩
           have hk3 : Kept d3 n R := hk.same (fun h => by rw [hd3]; exact Dk.fused_ok (Dk.crashed_ok h) x.1 x.2 hx3) (by rw [hd3]; rfl)
           refine vwp_gh (st' := ⟨[(7, .ptr 0 5 0), (11, sBB S), (12, sBB W), (102, .fs ag.length (agV ag)), (103, .int .i64 ag.length), (104, .int .i64 (i : Int))], [.live [.sl 1 d3.B.length 32 0 n, .bool d3.down, .int .i64 d3.fuse, .int .i64 d3.torn, .int .i64 d3.writes], .live (bts d3.B)]⟩) (Gh.to_k [7, 11, 12, 102, 103, 104] [0, 1] (hh := by simp [Dk.obs, hd3])) ?_
           have hRk := hk3.rowsOk
           obtain ⟨h, gen, fin, k3⟩ := hk3
           rcases open_good k3 with ⟨d4, hop, hg4, _⟩ | ⟨_, d4, hop, hk4⟩
           · have hon := open_some k3.ok k3.byte hop
             obtain ⟨G, hG⟩ : ∃ G, G = (⟨h, gen, R, fin, false⟩ : Lg) := ⟨_, rfl⟩
             rw [← hG] at hon hg4
             have hGr : G.rows = R := by rw [hG]
             have hk4 : Kept d4 n R := ⟨_, _, _, hGr ▸ hg4.keeps⟩
             have hrs := records_spec G d4 n (by rw [hGr]; have := hRk.1; omega) (by rw [hGr]; intro b hb; have := hRk.2 b hb; omega)
             rw [hGr] at hrs
             have hs1 := rsame_spec R S (by have := hRk.1; omega) (by have := hS.1; omega) (fun b hb => by have := hRk.2 b hb; omega) (fun b hb => by have := hS.2 b hb; omega)
             have hs2 := rsame_spec R W (by have := hRk.1; omega) (by have := hW.1; omega) (fun b hb => by have := hRk.2 b hb; omega) (fun b hb => by have := hW.2 b hb; omega)
             refine vwp_live [7, 11, 12, 102, 103, 104] (vwp_region hT ?_)
             simp [Dk.obs]
             refine vcall_k [0, 1] (hon) ?_ (hh := by simp [Dk.obs])
             rintro r ob' ⟨rfl, rfl⟩
             simp [Dk.obs]
             refine hK52 _ ?_
             try clear hK52 K52
             refine vwp_seq_k fun K53 hK53 => ?_
             by_cases hRS : R = S
             · rw [decide_eq_true hRS] at hs1
               refine vwp_live [7, 11, 12, 18, 19, 102, 103, 104] (vwp_region hT ?_)
               simp [Dk.obs]
               refine vcall_k [2, 0, 1, 3] (hrs) ?_ (hh := by simp [Dk.obs, hGr])
               rintro r ob' ⟨rfl, rfl⟩
               simp [Dk.obs]
               refine vcall_freeze 4 (by rfl) (by intro c hc; obtain ⟨z, _, rfl⟩ := List.mem_map.1 hc; rfl) ?_
               refine vcall_k [] (hs1) ?_ (ha := by simp [List.take_of_length_le]) (hok := by simp)
               rintro r ob' ⟨rfl, rfl⟩
               simp [Dk.obs]
               refine hK53 _ ?_
               try clear hK53 K53
               refine vwp_cond (by first | rfl | (simp; rfl)) (fun h16 => ?_) fun h16 => ?_
               · simp -failIfUnchanged at h16; all_goals
                refine vwp_seq_k fun K54 hK54 => ?_
                simp at *
               · simp -failIfUnchanged at h16; all_goals
                refine vwp_skip ?_
                refine hK48 _ ?_
                try clear hK48 K48
                have w1 : IntKind.i64.wrap ((i : Int) + 1) = i + 1 := w64 (by omega) (by omega)
                refine vwp_live [7, 11, 12, 102, 103, 104] (vwp_region hT ?_)
                simp [Dk.obs, w1]
                exact hK45 ((i + 1, d4)) _ (Gh.to_k [7, 11, 12, 102, 103, 104] [0, 1]) (⟨by dsimp only; omega, hk4⟩) (by dsimp only; omega)
             · have hRW : R = W := hRo.resolve_left hRS
               rw [decide_eq_false hRS] at hs1
               rw [decide_eq_true hRW] at hs2
               refine vwp_live [7, 11, 12, 18, 19, 102, 103, 104] (vwp_region hT ?_)
               simp [Dk.obs]
               refine vcall_k [2, 0, 1, 3] (hrs) ?_ (hh := by simp [Dk.obs, hGr])
               rintro r ob' ⟨rfl, rfl⟩
               simp [Dk.obs]
               refine vcall_freeze 4 (by rfl) (by intro c hc; obtain ⟨z, _, rfl⟩ := List.mem_map.1 hc; rfl) ?_
               refine vcall_k [] (hs1) ?_ (ha := by simp [List.take_of_length_le]) (hok := by simp)
               rintro r ob' ⟨rfl, rfl⟩
               simp [Dk.obs]
               refine vcall_k [2, 0, 1, 3] (hrs) ?_ (hh := by simp [Dk.obs, hGr])
               rintro r ob' ⟨rfl, rfl⟩
               simp [Dk.obs]
               refine vcall_freeze 5 (by rfl) (by intro c hc; obtain ⟨z, _, rfl⟩ := List.mem_map.1 hc; rfl) ?_
               refine vcall_k [] (hs2) ?_ (ha := by simp [List.take_of_length_le]) (hok := by simp)
               rintro r ob' ⟨rfl, rfl⟩
               simp [Dk.obs]
               refine hK53 _ ?_
               try clear hK53 K53
               refine vwp_cond (by first | rfl | (simp; rfl)) (fun h17 => ?_) fun h17 => ?_
               · simp -failIfUnchanged at h17; all_goals
                refine vwp_seq_k fun K55 hK55 => ?_
                simp at *
               · simp -failIfUnchanged at h17; all_goals
                refine vwp_skip ?_
                refine hK48 _ ?_
                try clear hK48 K48
                have w1 : IntKind.i64.wrap ((i : Int) + 1) = i + 1 := w64 (by omega) (by omega)
                refine vwp_live [7, 11, 12, 102, 103, 104] (vwp_region hT ?_)
                simp [Dk.obs, w1]
                exact hK45 ((i + 1, d4)) _ (Gh.to_k [7, 11, 12, 102, 103, 104] [0, 1]) (⟨by dsimp only; omega, hk4⟩) (by dsimp only; omega)
           · have hon := open_none k3.ok k3.byte hop
             have hk4 : Kept d4 n R := ⟨_, _, _, hk4⟩
             refine vwp_live [7, 11, 12, 102, 103, 104] (vwp_region hT ?_)
             simp [Dk.obs]
             refine vcall_k [0, 1] (hon) ?_ (hh := by simp [Dk.obs])
             rintro r ob' ⟨rfl, rfl⟩
             simp [Dk.obs]
             refine hK52 _ ?_
             try clear hK52 K52
             refine vwp_sq [7, 11, 12, 18, 19, 102, 103, 104] fun K56 hK56 => vwp_region hT ?_
             simp [Dk.obs]
             refine hK56 _ ?_
             try clear hK56 K56
             refine vwp_cond (by first | rfl | (simp; rfl)) (fun h18 => ?_) fun h18 => ?_
             · simp -failIfUnchanged at h18; all_goals
              refine vwp_seq_k fun K57 hK57 => ?_
              simp at *
             · simp -failIfUnchanged at h18; all_goals
              refine vwp_skip ?_
              refine hK48 _ ?_
              try clear hK48 K48
              have w1 : IntKind.i64.wrap ((i : Int) + 1) = i + 1 := w64 (by omega) (by omega)
              refine vwp_live [7, 11, 12, 102, 103, 104] (vwp_region hT ?_)
              simp [Dk.obs, w1]
              exact hK45 ((i + 1, d4)) _ (Gh.to_k [7, 11, 12, 102, 103, 104] [0, 1]) (⟨by dsimp only; omega, hk4⟩) (by dsimp only; omega)
          · simp -failIfUnchanged at h15; all_goals
           refine vwp_exit ?_
           simp only [inBlk, thenQ, if_true]
           refine hK43 _ ?_
           try clear hK43 K43
           refine vwp_sq [7, 11, 12] fun K58 hK58 => vwp_region hT ?_
           simp [Dk.obs]
           refine vcall_k [0, 1] (crash_spec d n) ?_ (hh := by simp [Dk.obs])
           rintro r ob' ⟨rfl, rfl⟩
           simp [Dk.obs]
           refine hK58 _ ?_
           try clear hK58 K58
           obtain ⟨d3, hd3⟩ : ∃ d3, d3 = d.crashed := ⟨_, rfl⟩
           have hc3 : d3.calm := by rw [hd3]; exact ⟨rfl, rfl⟩
           have hk3 : Kept d3 n R := hk.same (fun h => by rw [hd3]; exact Dk.crashed_ok h) (by rw [hd3]; rfl)
           refine vwp_gh (st' := ⟨[(7, .ptr 0 5 0), (11, sBB S), (12, sBB W)], [.live [.sl 1 d3.B.length 32 0 n, .bool d3.down, .int .i64 d3.fuse, .int .i64 d3.torn, .int .i64 d3.writes], .live (bts d3.B)]⟩) (Gh.to_k [7, 11, 12] [0, 1] (hh := by simp [Dk.obs, hd3])) ?_
           have hRk := hk3.rowsOk
           obtain ⟨h, gen, fin, k3⟩ := hk3
           obtain ⟨d4, hop, hg4, hc4⟩ := (open_good k3).resolve_right fun q => q.1 hc3
           replace hc4 := hc4 hc3
           have hon := open_some k3.ok k3.byte hop
           obtain ⟨G, hG⟩ : ∃ G, G = (⟨h, gen, R, fin, false⟩ : Lg) := ⟨_, rfl⟩
           rw [← hG] at hon hg4
           have hGr : G.rows = R := by rw [hG]
           obtain ⟨d5, hop2, hg5, hc5⟩ := (open_good hg4.keeps).resolve_right fun q => q.1 hc4
           rw [lg_eta hg4.whole] at hop2 hg5
           have hon2 := open_some hg4.keeps.ok hg4.keeps.byte hop2
           have hGf := hg4.facts
           have hrs := records_spec G d5 n (by rw [hGr]; have := hRk.1; omega) (by rw [hGr]; intro b hb; have := hRk.2 b hb; omega)
           rw [hGr] at hrs
           have hlf := left_spec G d5 n (by omega) (by omega)
           have hsR := rsame_spec R R (by have := hRk.1; omega) (by have := hRk.1; omega) (fun b hb => by have := hRk.2 b hb; omega) (fun b hb => by have := hRk.2 b hb; omega)
           rw [decide_eq_true rfl] at hsR
           have hs1 := rsame_spec R S (by have := hRk.1; omega) (by have := hS.1; omega) (fun b hb => by have := hRk.2 b hb; omega) (fun b hb => by have := hS.2 b hb; omega)
           have hs2 := rsame_spec R W (by have := hRk.1; omega) (by have := hW.1; omega) (fun b hb => by have := hRk.2 b hb; omega) (fun b hb => by have := hW.2 b hb; omega)
           refine vwp_sq [7, 11, 12] fun K59 hK59 => vwp_region hT ?_
           simp [Dk.obs]
           refine vcall_k [0, 1] (hon) ?_ (hh := by simp [Dk.obs])
           rintro r ob' ⟨rfl, rfl⟩
           simp [Dk.obs]
           refine hK59 _ ?_
           try clear hK59 K59
           refine vwp_seq_k fun K60 hK60 => ?_
           refine vwp_sq [7, 11, 12, 20, 21] fun K61 hK61 => vwp_region hT ?_
           simp [Dk.obs]
           refine hK61 _ ?_
           try clear hK61 K61
           refine vwp_cond (by first | rfl | (simp; rfl)) (fun h19 => ?_) fun h19 => ?_
           · simp -failIfUnchanged at h19; all_goals
            refine vwp_seq_k fun K62 hK62 => ?_
            simp at *
           · simp -failIfUnchanged at h19; all_goals
            refine vwp_skip ?_
            refine hK60 _ ?_
            try clear hK60 K60
            refine vwp_sq [7, 11, 12, 20] fun K63 hK63 => vwp_region hT ?_
            simp [Dk.obs]
            refine vcall_k [0, 1] (hon2) ?_ (hh := by simp [Dk.obs])
            rintro r ob' ⟨rfl, rfl⟩
            simp [Dk.obs]
            refine hK63 _ ?_
            try clear hK63 K63
            refine vwp_seq_k fun K64 hK64 => ?_
            refine vwp_sq [11, 12, 20, 22, 23] fun K65 hK65 => vwp_region hT ?_
            simp [Dk.obs]
            refine vcall_k [4, 0, 1, 5] (hrs) ?_ (hh := by simp [Dk.obs, hGr])
            rintro r ob' ⟨rfl, rfl⟩
            simp [Dk.obs]
            refine vcall_k [2, 0, 1, 3] (hrs) ?_ (hh := by simp [Dk.obs, hGr])
            rintro r ob' ⟨rfl, rfl⟩
            simp [Dk.obs]
            refine vcall_freeze 6 (by rfl) (by intro c hc; obtain ⟨z, _, rfl⟩ := List.mem_map.1 hc; rfl) ?_
            refine vcall_freeze 7 (by rfl) (by intro c hc; obtain ⟨z, _, rfl⟩ := List.mem_map.1 hc; rfl) ?_
            refine vcall_k [] (hsR) ?_ (ha := by simp [List.take_of_length_le]) (hok := by simp)
            rintro r ob' ⟨rfl, rfl⟩
            simp [Dk.obs]
            refine vcall_k [4, 0, 1, 5] (hlf) ?_ (hh := by simp [Dk.obs, hGr])
            rintro r ob' ⟨rfl, rfl⟩
            simp [Dk.obs]
            refine vcall_k [2, 0, 1, 3] (hlf) ?_ (hh := by simp [Dk.obs, hGr])
            rintro r ob' ⟨rfl, rfl⟩
            simp [Dk.obs]
            refine hK65 _ ?_
            try clear hK65 K65
            refine vwp_cond (by first | rfl | (simp; rfl)) (fun h20 => ?_) fun h20 => ?_
            · simp -failIfUnchanged at h20; all_goals
             refine vwp_seq_k fun K66 hK66 => ?_
             simp at *
            · simp -failIfUnchanged at h20; all_goals
             refine vwp_skip ?_
             refine hK64 _ ?_
             try clear hK64 K64
             refine vwp_seq_k fun K67 hK67 => ?_
             refine vwp_gh (st' := ⟨[(11, sBB S), (12, sBB W), (20, .ptr 2 6 0)], [.live [.sl 1 d5.B.length 32 0 n, .bool d5.down, .int .i64 d5.fuse, .int .i64 d5.torn, .int .i64 d5.writes], .live (bts d5.B), logO 3 G, .live ((G : Lg).rows.map sB)]⟩) (Gh.to_k [11, 12, 20] [0, 1, 2, 3] (hh := by simp [Dk.obs, hGr])) ?_
             by_cases hRS : R = S
             · rw [decide_eq_true hRS] at hs1
               refine vwp_live [11, 12, 20] (vwp_region hT ?_)
               simp [Dk.obs]
               refine vcall_k [2, 0, 1, 3] (hrs) ?_ (hh := by simp [Dk.obs, hGr])
               rintro r ob' ⟨rfl, rfl⟩
               simp [Dk.obs]
               refine vcall_freeze 4 (by rfl) (by intro c hc; obtain ⟨z, _, rfl⟩ := List.mem_map.1 hc; rfl) ?_
               refine vcall_k [] (hs1) ?_ (ha := by simp [List.take_of_length_le]) (hok := by simp)
               rintro r ob' ⟨rfl, rfl⟩
               simp [Dk.obs]
               refine hK67 _ ?_
               try clear hK67 K67
               refine vwp_ret (hR _ _ ?_)
               exact ret_k [6] [] [] (.bool true) rfl
             · have hRW : R = W := hRo.resolve_left hRS
               rw [decide_eq_false hRS] at hs1
               rw [decide_eq_true hRW] at hs2
               refine vwp_live [11, 12, 20] (vwp_region hT ?_)
               simp [Dk.obs]
               refine vcall_k [2, 0, 1, 3] (hrs) ?_ (hh := by simp [Dk.obs, hGr])
               rintro r ob' ⟨rfl, rfl⟩
               simp [Dk.obs]
               refine vcall_freeze 4 (by rfl) (by intro c hc; obtain ⟨z, _, rfl⟩ := List.mem_map.1 hc; rfl) ?_
               refine vcall_k [] (hs1) ?_ (ha := by simp [List.take_of_length_le]) (hok := by simp)
               rintro r ob' ⟨rfl, rfl⟩
               simp [Dk.obs]
               refine vcall_k [2, 0, 1, 3] (hrs) ?_ (hh := by simp [Dk.obs, hGr])
               rintro r ob' ⟨rfl, rfl⟩
               simp [Dk.obs]
               refine vcall_freeze 5 (by rfl) (by intro c hc; obtain ⟨z, _, rfl⟩ := List.mem_map.1 hc; rfl) ?_
               refine vcall_k [] (hs2) ?_ (ha := by simp [List.take_of_length_le]) (hok := by simp)
               rintro r ob' ⟨rfl, rfl⟩
               simp [Dk.obs]
               refine hK67 _ ?_
               try clear hK67 K67
               refine vwp_ret (hR _ _ ?_)
               exact ret_k [6] [] [] (.bool true) rfl
    · skip
      by_cases hs2 : 2 ≤ s ∧ s ≤ 4096
      · refine vwp_live [0, 1, 2] (vwp_region hT ?_)
        simp [Dk.obs]
        refine vcall_k [] (new_spec s) ?_
        rintro r ob' q2
        rw [if_pos hs2] at q2
        obtain ⟨rfl, rfl⟩ := q2
        simp [Dk.obs]
        refine hK8 _ ?_
        try clear hK8 K8
        refine vwp_seq_k fun K68 hK68 => ?_
        refine vwp_sq [0, 1, 2, 7] fun K69 hK69 => vwp_region hT ?_
        simp [Dk.obs]
        refine hK69 _ ?_
        try clear hK69 K69
        refine vwp_cond (by first | rfl | (simp; rfl)) (fun h21 => ?_) fun h21 => ?_
        · simp -failIfUnchanged at h21; all_goals
         refine vwp_sq [] fun K70 hK70 => vwp_region hT ?_
         simp [Dk.obs]
         refine hK70 _ ?_
         try clear hK70 K70
         refine vwp_ret (hR _ _ ?_)
         exact ret_k [6] [] [] (.bool true) rfl
        · simp -failIfUnchanged at h21; all_goals
         refine vwp_skip ?_
         refine hK68 _ ?_
         try clear hK68 K68
         refine vwp_seq_k fun K71 hK71 => ?_
         exfalso
         simp at * <;> omega
      · refine vwp_live [0, 1, 2] (vwp_region hT ?_)
        simp [Dk.obs]
        refine vcall_k [] (new_spec s) ?_
        rintro r ob' q2
        rw [if_neg hs2] at q2
        obtain ⟨rfl, rfl⟩ := q2
        simp [Dk.obs]
        refine hK8 _ ?_
        try clear hK8 K8
        refine vwp_seq_k fun K72 hK72 => ?_
        refine vwp_sq [0, 1, 2, 7] fun K73 hK73 => vwp_region hT ?_
        simp [Dk.obs]
        refine hK73 _ ?_
        try clear hK73 K73
        refine vwp_cond (by first | rfl | (simp; rfl)) (fun h22 => ?_) fun h22 => ?_
        · simp -failIfUnchanged at h22; all_goals
         refine vwp_sq [] fun K74 hK74 => vwp_region hT ?_
         simp [Dk.obs]
         refine hK74 _ ?_
         try clear hK74 K74
         refine vwp_ret (hR _ _ ?_)
         exact ret_k [6] [] [] (.bool true) rfl
        · simp -failIfUnchanged at h22; all_goals
         refine vwp_skip ?_
         refine hK72 _ ?_
         try clear hK72 K72
         refine vwp_seq_k fun K75 hK75 => ?_
         exfalso
         simp at *
end Go.Proofs.Ytifhbgppjblobaa
