/- What opens goes on as what was closed. -/
import Derived.Test.YtifhbgppjblobaaL2C
namespace Go.Proofs.Ytifhbgppjblobaa
open Go Go.VX Go.RowKit
set_option linter.unusedVariables false
set_option linter.unusedSimpArgs false
set_option maxHeartbeats 20000000
set_option maxRecDepth 100000
theorem logGoes_spec (s : Int) (l : List DOp) (hl : l.length ≤ 140737488355328) (hb : ∀ x ∈ l, x.b.length ≤ 140737488355328 ∧ byteL x.b ∧ x.a ≤ 9223372036854775807) (b : List Int) (hbl : b.length ≤ 140737488355328) (hbb : byteL b) : VC P 4 [.int .i64 s, .fs l.length (opsV l), sB b] [] (fun r ob' => r = .bool true) := by
  refine VC_of_vwp_k ent_4 Try.func4 rfl (by simp) fun R hR => ?_
  refine vwp_sq [0, 1, 2] fun K1 hK1 => vwp_region hT ?_
  simp [Dk.obs]
  refine hK1 _ ?_
  try clear hK1 K1
  refine vwp_seq_k fun K2 hK2 => ?_
  refine vwp_sq [0, 1, 2] fun K3 hK3 => vwp_region hT ?_
  simp [Dk.obs]
  refine vcall_k [] (awake_spec) ?_
  rintro r ob' ⟨rfl, rfl⟩
  simp [Dk.obs]
  refine hK3 _ ?_
  try clear hK3 K3
  refine vwp_cond (by first | rfl | (simp; rfl)) (fun h1 => ?_) fun h1 => ?_
  · simp -failIfUnchanged at h1; all_goals
   refine vwp_seq_k fun K4 hK4 => ?_
   simp at *
  · simp -failIfUnchanged at h1; all_goals
   refine vwp_skip ?_
   refine hK2 _ ?_
   try clear hK2 K2
   refine vwp_seq_k fun K5 hK5 => ?_
   refine vwp_sq [0, 1, 2] fun K6 hK6 => vwp_region hT ?_
   simp [Dk.obs]
   refine vcall_k [] (large_spec l hl (fun x hx => (hb x hx).1)) ?_
   rintro r ob' ⟨⟨v, rfl, hv⟩, rfl⟩
   simp [Dk.obs]
   refine hK6 _ ?_
   try clear hK6 K6
   refine vwp_cond (by first | rfl | (simp; rfl)) (fun h2 => ?_) fun h2 => ?_
   · simp -failIfUnchanged at h2; all_goals
    refine vwp_sq [] fun K7 hK7 => vwp_region hT ?_
    simp [Dk.obs]
    refine hK7 _ ?_
    try clear hK7 K7
    refine vwp_ret (hR _ _ ?_)
    exact ret_k [6] [] [] (.bool true) rfl
   · simp -failIfUnchanged at h2; all_goals
    have q := h2
    have hsm := hv q.1.1
    have hb300 := q.2
    refine vwp_skip ?_
    refine hK5 _ ?_
    try clear hK5 K5
    refine vwp_seq_k fun K8 hK8 => ?_
    by_cases hs : 4 ≤ s ∧ s ≤ 4096
    · obtain ⟨n, rfl⟩ : ∃ n : Nat, s = n := ⟨s.toNat, by omega⟩
      obtain ⟨D0, hD0⟩ : ∃ D0, D0 = Dk.new n := ⟨_, rfl⟩
      refine vwp_live [0, 1, 2] (vwp_region hT ?_)
      simp [Dk.obs, ← hD0]
      refine vcall_k [] (new_spec (n : Int)) ?_
      rintro r ob' q2
      rw [if_pos (by omega)] at q2
      obtain ⟨rfl, rfl⟩ := q2
      simp [Dk.obs, ← hD0]
      refine hK8 _ ?_
      try clear hK8 K8
      refine vwp_seq_k fun K9 hK9 => ?_
      refine vwp_sq [0, 1, 2, 7] fun K10 hK10 => vwp_region hT ?_
      simp [Dk.obs]
      refine hK10 _ ?_
      try clear hK10 K10
      refine vwp_cond (by first | rfl | (simp; rfl)) (fun h3 => ?_) fun h3 => ?_
      · simp -failIfUnchanged at h3; all_goals
       refine vwp_seq_k fun K11 hK11 => ?_
       exfalso
       simp at * <;> omega
      · simp -failIfUnchanged at h3; all_goals
       refine vwp_skip ?_
       refine hK9 _ ?_
       try clear hK9 K9
       obtain ⟨g0, d0, hop, hg0, hr0, hcalm⟩ := new_law (n := n) (by omega) (by omega)
       rw [← hD0] at hop
       have hon := open_some (hD0 ▸ Dk.new_ok (n := n) (by omega) (by omega)) (by rw [hD0]; exact byteL_zeros _) hop
       refine vwp_sq [1, 2, 7] fun K12 hK12 => vwp_region hT ?_
       simp [Dk.obs]
       refine vcall_k [0, 1] (hon) ?_ (hh := by simp [Dk.obs])
       rintro r ob' ⟨rfl, rfl⟩
       simp [Dk.obs]
       refine hK12 _ ?_
       try clear hK12 K12
       refine vwp_seq_k fun K13 hK13 => ?_
       refine vwp_sq [1, 2, 7, 9] fun K14 hK14 => vwp_region hT ?_
       simp [Dk.obs]
       refine hK14 _ ?_
       try clear hK14 K14
       refine vwp_cond (by first | rfl | (simp; rfl)) (fun h4 => ?_) fun h4 => ?_
       · simp -failIfUnchanged at h4; all_goals
        refine vwp_seq_k fun K15 hK15 => ?_
        simp at *
       · simp -failIfUnchanged at h4; all_goals
        refine vwp_skip ?_
        refine hK13 _ ?_
        try clear hK13 K13
        refine vwp_seq_k fun K16 hK16 => ?_
        refine vwp_sq [1, 2, 7, 9] fun K17 hK17 => vwp_region hT ?_
        simp [Dk.obs]
        refine hK17 _ ?_
        try clear hK17 K17
        refine vwp_block ?_
        refine vwp_loop_s (fun u : Nat × Lg × Dk => ⟨[(2, sB b), (7, .ptr 0 5 0), (9, .ptr 2 6 0), (50, .fs l.length (opsV l)), (51, .int .i64 l.length), (52, .int .i64 (u.1 : Int))], [.live [.sl 1 u.2.2.B.length 32 0 n, .bool u.2.2.down, .int .i64 u.2.2.fuse, .int .i64 u.2.2.torn, .int .i64 u.2.2.writes], .live (bts u.2.2.B), logO 3 u.2.1, .live ((u.2.1 : Lg).rows.map sB)]⟩) (fun u => u.1 ≤ l.length ∧ Good u.2.1 u.2.2 n ∧ u.2.2.calm) (fun u => l.length - u.1) ((0, g0, d0)) (Gh.to_k [2, 7, 9, 50, 51, 52] [0, 1, 2, 3] (hh := by simp [Dk.obs])) (⟨Nat.zero_le _, hg0, hcalm⟩) ?_
        rintro ⟨i, g, d⟩ ⟨hi, hg, hc⟩
        dsimp only at hi hg hc ⊢
        obtain ⟨hdo, hdb, hh1, hg1, hgm, hfn, hrn, hn4, hr200⟩ := hg.facts
        intro K18 hK18
        refine vwp_sq [2, 7, 9, 50, 51, 52] fun K19 hK19 => vwp_region hT ?_
        simp [Dk.obs]
        refine hK19 _ ?_
        try clear hK19 K19
        refine vwp_seq_k fun K20 hK20 => ?_
        refine vwp_cond (by first | rfl | (simp; rfl)) (fun h5 => ?_) fun h5 => ?_
        · simp -failIfUnchanged at h5; all_goals
         have q := h5
         obtain ⟨x, hx⟩ := getI (l := l) (i := i) (by omega)
         have hxm := List.mem_of_getElem? hx
         obtain ⟨hx1, hx2, hx3⟩ := hb x hxm
         have hx4 := hsm.mem hxm
         have hdr := opsV_drop hx
         refine vwp_skip ?_
         refine hK20 _ ?_
         try clear hK20 K20
         refine vwp_seq_k fun K21 hK21 => ?_
         refine vwp_block ?_
         refine vwp_sq [2, 7, 9, 50, 51, 52] fun K22 hK22 => vwp_region hT ?_
         simp [Dk.obs, hdr, opsV_length]
         repeat refine ⟨by first | assumption | omega | (intros; omega), ?_⟩
         refine hK22 _ ?_
         try clear hK22 K22
         have hrs0 := records_spec g d n (by omega) (fun b hb => by have := hr200 b hb; omega)
         refine vwp_sq [2, 7, 9, 11, 12, 50, 51, 52] fun K23 hK23 => vwp_region hT ?_
         simp [Dk.obs]
         refine vcall_k [2, 0, 1, 3] (hrs0) ?_ (hh := by simp [Dk.obs])
         rintro r ob' ⟨rfl, rfl⟩
         simp [Dk.obs]
         refine hK23 _ ?_
         try clear hK23 K23
         refine vwp_sq [2, 7, 9, 11, 12, 13, 50, 51, 52] fun K24 hK24 => vwp_region hT ?_
         simp [Dk.obs]
         refine hK24 _ ?_
         try clear hK24 K24
         refine vwp_cut_s (fun u : Int × Lg × Dk × List (List Int) => ⟨[(2, sB b), (7, .ptr 0 5 0), (9, .ptr 2 6 0), (11, .int .i64 (i : Int)), (12, .ptr 4 4 0), (13, sBB u.2.2.2), (14, .int .i64 u.1), (50, .fs l.length (opsV l)), (51, .int .i64 l.length), (52, .int .i64 (i : Int))], [.live [.sl 1 u.2.2.1.B.length 32 0 n, .bool u.2.2.1.down, .int .i64 u.2.2.1.fuse, .int .i64 u.2.2.1.torn, .int .i64 u.2.2.1.writes], .live (bts u.2.2.1.B), logO 3 u.2.1, .live ((u.2.1 : Lg).rows.map sB), .live x.cells]⟩) (fun u => ((u.1 = 0 ∧ u.2.1.rows = u.2.2.2 ∨ u.1 = 4 ∨ u.1 = 1 ∧ 200 < x.b.length) ∧ Good u.2.1 u.2.2.1 n ∧ u.2.2.1.calm) ∧ rowsOk u.2.2.2) (fun K25 hK25 => ?_) ?_
         · refine vwp_sq [2, 7, 9, 11, 12, 13, 50, 51, 52] fun K26 hK26 => vwp_region hT ?_
           simp [Dk.obs]
           refine hK26 _ ?_
           try clear hK26 K26
           refine vwp_cond (by first | rfl | (simp; rfl)) (fun h6 => ?_) fun h6 => ?_
           · simp -failIfUnchanged at h6; all_goals
            refine vwp_seq_k fun K27 hK27 => ?_
            refine vwp_gh (st' := ⟨[(2, sB b), (7, .ptr 0 5 0), (9, .ptr 2 6 0), (11, .int .i64 (i : Int)), (12, .ptr 4 4 0), (50, .fs l.length (opsV l)), (51, .int .i64 l.length), (52, .int .i64 (i : Int))], [.live [.sl 1 d.B.length 32 0 n, .bool d.down, .int .i64 d.fuse, .int .i64 d.torn, .int .i64 d.writes], .live (bts d.B), logO 3 g, .live ((g : Lg).rows.map sB), .live x.cells]⟩) (Gh.to_k [2, 7, 9, 11, 12, 50, 51, 52] [0, 1, 2, 3, 4] (hh := by simp [Dk.obs])) ?_
            have hmb : ∀ b ∈ manyL x, byteL b := fun b hb => by rw [manyL_mem hb]; exact hx2
            have hmk := manyL_ok hx4
            have hal2 := only_law hg hmb
            obtain ⟨q, hq⟩ : ∃ q, q = onlyL g d n (manyL x) := ⟨_, rfl⟩
            rw [← hq] at hal2
            obtain ⟨e, g2, d2⟩ := q
            dsimp only at hal2
            obtain ⟨hal2, hcl2⟩ := hal2
            obtain ⟨he7, hc2⟩ := hcl2 hc
            by_cases he0 : e = 0
            · subst he0
              have hsp := only_ok hdo hh1 hgm (by have := hmk.1; omega) hmb (fun b hb => by have := hmk.2 b hb; omega) hq.symm
              have hms := many_spec x
              refine vwp_live [2, 7, 9, 11, 12, 50, 51, 52] (vwp_region hT ?_)
              simp [Dk.obs]
              refine vcall_k [] (hms) ?_
              rintro r ob' ⟨rfl, rfl⟩
              simp [Dk.obs]
              refine vcall_freeze 5 (by rfl) (by intro c hc; obtain ⟨z, _, rfl⟩ := List.mem_map.1 hc; rfl) ?_
              refine vcall_k [2, 0, 1, 3] (hsp) ?_ (hh := by simp [Dk.obs]) (ha := by simp [List.take_of_length_le]) (hok := by simp)
              rintro r ob' ⟨rfl, old, rfl⟩
              simp [Dk.obs]
              refine hK27 _ ?_
              try clear hK27 K27
              refine vwp_live [2, 7, 9, 11, 12, 14, 50, 51, 52] (vwp_region hT ?_)
              simp [Dk.obs]
              refine vcall_k [] (hms) ?_
              rintro r ob' ⟨rfl, rfl⟩
              simp [Dk.obs]
              exact hK25 (0, g2, d2, manyL x) _ ((Gh.freeze 7 (by rfl) (by intro c hc; obtain ⟨z, _, rfl⟩ := List.mem_map.1 hc; rfl)).trans (Gh.to_k [2, 7, 9, 11, 12, 13, 14, 50, 51, 52] [0, 1, 2, 6, 4] (hh := by simp [Dk.obs]) (he := by simp [List.take_of_length_le]) (hs := by simp))) (by
                refine ⟨⟨?_, ?_, hc2⟩, hmk⟩
                · dsimp only
                  rcases hal2 with ⟨q1, q2, q3, _⟩ | ⟨q1, q2⟩ | ⟨q1, _, q2⟩ | q2
                  · exact .inl ⟨q1, q3⟩
                  · omega
                  · omega
                  · cases q2
                · rcases hal2 with ⟨q1, q2, q3, _⟩ | ⟨q1, q2⟩ | ⟨q1, _, q2⟩ | q2
                  · exact q2
                  · omega
                  · omega
                  · cases q2)
            · have hsp := only_bad hdo hh1 hgm (by have := hmk.1; omega) hmb (fun b hb => by have := hmk.2 b hb; omega) hq.symm he0
              have hms := many_spec x
              refine vwp_live [2, 7, 9, 11, 12, 50, 51, 52] (vwp_region hT ?_)
              simp [Dk.obs]
              refine vcall_k [] (hms) ?_
              rintro r ob' ⟨rfl, rfl⟩
              simp [Dk.obs]
              refine vcall_freeze 5 (by rfl) (by intro c hc; obtain ⟨z, _, rfl⟩ := List.mem_map.1 hc; rfl) ?_
              refine vcall_k [2, 0, 1, 3] (hsp) ?_ (hh := by simp [Dk.obs]) (ha := by simp [List.take_of_length_le]) (hok := by simp)
              rintro r ob' ⟨rfl, rfl⟩
              simp [Dk.obs]
              refine hK27 _ ?_
              try clear hK27 K27
              refine vwp_live [2, 7, 9, 11, 12, 14, 50, 51, 52] (vwp_region hT ?_)
              simp [Dk.obs]
              refine vcall_k [] (hms) ?_
              rintro r ob' ⟨rfl, rfl⟩
              simp [Dk.obs]
              exact hK25 (e, g2, d2, manyL x) _ ((Gh.freeze 6 (by rfl) (by intro c hc; obtain ⟨z, _, rfl⟩ := List.mem_map.1 hc; rfl)).trans (Gh.to_k [2, 7, 9, 11, 12, 13, 14, 50, 51, 52] [0, 1, 2, 3, 4] (hh := by simp [Dk.obs]) (he := by simp [List.take_of_length_le]) (hs := by simp))) (by
                refine ⟨⟨?_, ?_, hc2⟩, hmk⟩
                · dsimp only
                  rcases hal2 with ⟨q1, q2, q3, _⟩ | ⟨q1, q2⟩ | ⟨q1, ⟨b', q3, q4⟩, q2⟩ | q2
                  · omega
                  · exact absurd q1 he7
                  · rw [manyL_mem q3] at q4; exact .inr (.inr ⟨q1, q4⟩)
                  · cases q2; exact .inr (.inl rfl)
                · rcases hal2 with ⟨q1, q2, q3, _⟩ | ⟨q1, q2⟩ | ⟨q1, _, q2⟩ | q2
                  · omega
                  · exact absurd q1 he7
                  · cases q2; exact hg
                  · cases q2; exact hg)
           · simp -failIfUnchanged at h6; all_goals
            have hal2 := append_law hg hx2
            have hsp := append_spec g d n hdo hh1 (by omega) (by omega) hfn x.b hx2 (by omega)
            obtain ⟨q, hq⟩ : ∃ q, q = appendL g d n x.b := ⟨_, rfl⟩
            rw [← hq] at hal2 hsp
            obtain ⟨e, g2, d2⟩ := q
            dsimp only at hal2 hsp
            obtain ⟨hal2, hcl2⟩ := hal2
            obtain ⟨he7, hc2⟩ := hcl2 hc
            refine vwp_sq [2, 7, 9, 11, 12, 13, 50, 51, 52] fun K28 hK28 => vwp_region hT ?_
            simp [Dk.obs]
            refine vcall_k [2, 0, 1, 3] (hsp) ?_ (hh := by simp [Dk.obs]) (ha := by simp)
            rintro r ob' ⟨rfl, rfl⟩
            simp [Dk.obs]
            refine hK28 _ ?_
            try clear hK28 K28
            refine vwp_live [2, 7, 9, 11, 12, 13, 14, 50, 51, 52] (vwp_region hT ?_)
            simp [Dk.obs]
            repeat refine ⟨by first | assumption | omega | (intros; omega), ?_⟩
            exact hK25 (e, g2, d2, g.rows ++ [x.b]) _ ((Gh.freeze 5 (by rfl) (by intro c hc; simp at hc; first | (rcases hc with ⟨z, _, rfl⟩ | rfl <;> rfl) | (obtain ⟨z, _, rfl⟩ := hc; rfl))).trans (Gh.to_k [2, 7, 9, 11, 12, 13, 14, 50, 51, 52] [0, 1, 2, 3, 4] (hh := by simp [Dk.obs]) (he := by simp [List.take_of_length_le]) (hs := by simp))) (by
              refine ⟨⟨?_, ?_, hc2⟩, rowsOk_snoc (by omega) hg.rowsOk (by omega)⟩
              · dsimp only
                rcases hal2 with ⟨q1, q2, q3, _⟩ | ⟨q1, q2⟩ | ⟨q1, q3, q2⟩ | ⟨_, _, q2⟩
                · exact .inl ⟨q1, q3⟩
                · exact absurd q1 he7
                · exact .inr (.inr ⟨q1, q3⟩)
                · cases q2; exact .inr (.inl rfl)
              · rcases hal2 with ⟨q1, q2, q3, _⟩ | ⟨q1, q2⟩ | ⟨q1, _, q2⟩ | ⟨_, _, q2⟩
                · exact q2
                · exact absurd q1 he7
                · cases q2; exact hg
                · cases q2; exact hg)
         · rintro ⟨e, g2, d2, w⟩ ⟨⟨hcs, hg2, hc2⟩, hwk⟩
           dsimp only at hcs hg2 hc2 hwk ⊢
           have hgf := hg2.facts
           have hgr := hg2.rowsOk
           have hrs := records_spec g2 d2 n (by omega) (fun b hb => by have := hgr.2 b hb; omega)
           have hsR := rsame_spec g2.rows g2.rows (by omega) (by omega) (fun b hb => by have := hgr.2 b hb; omega) (fun b hb => by have := hgr.2 b hb; omega)
           rw [decide_eq_true rfl] at hsR
           refine vwp_seq_k fun K29 hK29 => ?_
           refine vwp_seq_k fun K30 hK30 => ?_
           rcases hcs with ⟨rfl, rfl⟩ | rfl | ⟨rfl, hx200⟩
           · refine vwp_live [2, 7, 9, 11, 12, 13, 14, 50, 51, 52] (vwp_region hT ?_)
             simp [Dk.obs]
             refine vcall_k [2, 0, 1, 3] (hrs) ?_ (hh := by simp [Dk.obs])
             rintro r ob' ⟨rfl, rfl⟩
             simp [Dk.obs]
             refine vcall_freeze 5 (by rfl) (by intro c hc; obtain ⟨z, _, rfl⟩ := List.mem_map.1 hc; rfl) ?_
             refine vcall_k [] (hsR) ?_ (ha := by simp [List.take_of_length_le]) (hok := by simp)
             rintro r ob' ⟨rfl, rfl⟩
             simp [Dk.obs]
             refine hK30 _ ?_
             try clear hK30 K30
             refine vwp_cond (by first | rfl | (simp; rfl)) (fun h7 => ?_) fun h7 => ?_
             · simp -failIfUnchanged at h7; all_goals
              refine vwp_seq_k fun K31 hK31 => ?_
              simp at *
             · simp -failIfUnchanged at h7; all_goals
              refine vwp_skip ?_
              refine hK29 _ ?_
              try clear hK29 K29
              have tm : (i : Int).tmod 3 = ((i % 3 : Nat) : Int) := rfl
              refine vwp_sq [2, 7, 9, 11, 50, 51, 52] fun K32 hK32 => vwp_region hT ?_
              simp [Dk.obs, tm]
              repeat refine ⟨by first | assumption | omega | (intros; omega), ?_⟩
              refine hK32 _ ?_
              try clear hK32 K32
              refine vwp_cond (by first | rfl | (simp; rfl)) (fun h8 => ?_) fun h8 => ?_
              · simp -failIfUnchanged at h8; all_goals
               refine vwp_gh (st' := ⟨[(2, sB b), (7, .ptr 0 5 0), (9, .ptr 2 6 0), (50, .fs l.length (opsV l)), (51, .int .i64 l.length), (52, .int .i64 (i : Int))], [.live [.sl 1 d2.B.length 32 0 n, .bool d2.down, .int .i64 d2.fuse, .int .i64 d2.torn, .int .i64 d2.writes], .live (bts d2.B), logO 3 g2, .live ((g2 : Lg).rows.map sB)]⟩) (Gh.to_k [2, 7, 9, 50, 51, 52] [0, 1, 2, 3] (hh := by simp [Dk.obs])) ?_
               obtain ⟨d5, hop2, hg5, hc5⟩ := (open_good hg2.keeps).resolve_right fun q => q.1 hc2
               rw [lg_eta hg2.whole] at hop2 hg5
               have hon2 := open_some hg2.keeps.ok hg2.keeps.byte hop2
               replace hc5 := hc5 hc2
               have hrs := records_spec g2 d5 n (by omega) (fun b hb => by have := hgr.2 b hb; omega)
               have hlf := left_spec g2 d5 n (by omega) (by omega)
               have hgn := generation_spec g2 d5 n (by omega)
               refine vwp_sq [2, 7, 9, 50, 51, 52] fun K33 hK33 => vwp_region hT ?_
               simp [Dk.obs]
               refine vcall_k [0, 1] (hon2) ?_ (hh := by simp [Dk.obs])
               rintro r ob' ⟨rfl, rfl⟩
               simp [Dk.obs]
               refine hK33 _ ?_
               try clear hK33 K33
               refine vwp_seq_k fun K34 hK34 => ?_
               refine vwp_sq [2, 7, 9, 15, 16, 50, 51, 52] fun K35 hK35 => vwp_region hT ?_
               simp [Dk.obs]
               refine vcall_k [4, 0, 1, 5] (hrs) ?_ (hh := by simp [Dk.obs])
               rintro r ob' ⟨rfl, rfl⟩
               simp [Dk.obs]
               refine vcall_k [2, 0, 1, 3] (hrs) ?_ (hh := by simp [Dk.obs])
               rintro r ob' ⟨rfl, rfl⟩
               simp [Dk.obs]
               refine vcall_freeze 6 (by rfl) (by intro c hc; obtain ⟨z, _, rfl⟩ := List.mem_map.1 hc; rfl) ?_
               refine vcall_freeze 7 (by rfl) (by intro c hc; obtain ⟨z, _, rfl⟩ := List.mem_map.1 hc; rfl) ?_
               refine vcall_k [] (hsR) ?_ (ha := by simp [List.take_of_length_le]) (hok := by simp)
               rintro r ob' ⟨rfl, rfl⟩
               simp [Dk.obs]
               refine vcall_k [4, 0, 1, 5] (hlf) ?_ (hh := by simp [Dk.obs])
               rintro r ob' ⟨rfl, rfl⟩
               simp [Dk.obs]
               refine vcall_k [2, 0, 1, 3] (hlf) ?_ (hh := by simp [Dk.obs])
               rintro r ob' ⟨rfl, rfl⟩
               simp [Dk.obs]
               refine vcall_k [4, 0, 1, 5] (hgn) ?_ (hh := by simp [Dk.obs])
               rintro r ob' ⟨rfl, rfl⟩
               simp [Dk.obs]
               refine vcall_k [2, 0, 1, 3] (hgn) ?_ (hh := by simp [Dk.obs])
               rintro r ob' ⟨rfl, rfl⟩
               simp [Dk.obs]
               refine hK35 _ ?_
               try clear hK35 K35
               refine vwp_cond (by first | rfl | (simp; rfl)) (fun h9 => ?_) fun h9 => ?_
               · simp -failIfUnchanged at h9; all_goals
                refine vwp_seq_k fun K36 hK36 => ?_
                simp at *
               · simp -failIfUnchanged at h9; all_goals
                refine vwp_skip ?_
                refine hK34 _ ?_
                try clear hK34 K34
                refine vwp_live [2, 7, 15, 50, 51, 52] (vwp_region hT ?_)
                simp [Dk.obs]
                refine hK21 _ ?_
                try clear hK21 K21
                have w1 : IntKind.i64.wrap ((i : Int) + 1) = i + 1 := w64 (by omega) (by omega)
                refine vwp_live [2, 7, 9, 50, 51, 52] (vwp_region hT ?_)
                simp [Dk.obs, w1]
                exact hK18 (i + 1, g2, d5) _ (Gh.to_k [2, 7, 9, 50, 51, 52] [0, 1, 4, 5] (hh := by simp [Dk.obs])) (⟨by dsimp only; omega, hg5, hc5⟩) (by dsimp only; omega)
              · simp -failIfUnchanged at h8; all_goals
               refine vwp_skip ?_
               refine hK21 _ ?_
               try clear hK21 K21
               have w1 : IntKind.i64.wrap ((i : Int) + 1) = i + 1 := w64 (by omega) (by omega)
               refine vwp_live [2, 7, 9, 50, 51, 52] (vwp_region hT ?_)
               simp [Dk.obs, w1]
               exact hK18 ((i + 1, g2, d2)) _ (Gh.to_k [2, 7, 9, 50, 51, 52] [0, 1, 2, 3]) (⟨by dsimp only; omega, hg2, hc2⟩) (by dsimp only; omega)
           · refine vwp_live [2, 7, 9, 11, 12, 13, 14, 50, 51, 52] (vwp_region hT ?_)
             simp [Dk.obs]
             refine hK30 _ ?_
             try clear hK30 K30
             refine vwp_cond (by first | rfl | (simp; rfl)) (fun h10 => ?_) fun h10 => ?_
             · simp -failIfUnchanged at h10; all_goals
              refine vwp_seq_k fun K37 hK37 => ?_
              simp at *
             · simp -failIfUnchanged at h10; all_goals
              refine vwp_skip ?_
              refine hK29 _ ?_
              try clear hK29 K29
              have tm : (i : Int).tmod 3 = ((i % 3 : Nat) : Int) := rfl
              refine vwp_sq [2, 7, 9, 11, 50, 51, 52] fun K38 hK38 => vwp_region hT ?_
              simp [Dk.obs, tm]
              repeat refine ⟨by first | assumption | omega | (intros; omega), ?_⟩
              refine hK38 _ ?_
              try clear hK38 K38
              refine vwp_cond (by first | rfl | (simp; rfl)) (fun h11 => ?_) fun h11 => ?_
              · simp -failIfUnchanged at h11; all_goals
               refine vwp_gh (st' := ⟨[(2, sB b), (7, .ptr 0 5 0), (9, .ptr 2 6 0), (50, .fs l.length (opsV l)), (51, .int .i64 l.length), (52, .int .i64 (i : Int))], [.live [.sl 1 d2.B.length 32 0 n, .bool d2.down, .int .i64 d2.fuse, .int .i64 d2.torn, .int .i64 d2.writes], .live (bts d2.B), logO 3 g2, .live ((g2 : Lg).rows.map sB)]⟩) (Gh.to_k [2, 7, 9, 50, 51, 52] [0, 1, 2, 3] (hh := by simp [Dk.obs])) ?_
               obtain ⟨d5, hop2, hg5, hc5⟩ := (open_good hg2.keeps).resolve_right fun q => q.1 hc2
               rw [lg_eta hg2.whole] at hop2 hg5
               have hon2 := open_some hg2.keeps.ok hg2.keeps.byte hop2
               replace hc5 := hc5 hc2
               have hrs := records_spec g2 d5 n (by omega) (fun b hb => by have := hgr.2 b hb; omega)
               have hlf := left_spec g2 d5 n (by omega) (by omega)
               have hgn := generation_spec g2 d5 n (by omega)
               refine vwp_sq [2, 7, 9, 50, 51, 52] fun K39 hK39 => vwp_region hT ?_
               simp [Dk.obs]
               refine vcall_k [0, 1] (hon2) ?_ (hh := by simp [Dk.obs])
               rintro r ob' ⟨rfl, rfl⟩
               simp [Dk.obs]
               refine hK39 _ ?_
               try clear hK39 K39
               refine vwp_seq_k fun K40 hK40 => ?_
               refine vwp_sq [2, 7, 9, 15, 16, 50, 51, 52] fun K41 hK41 => vwp_region hT ?_
               simp [Dk.obs]
               refine vcall_k [4, 0, 1, 5] (hrs) ?_ (hh := by simp [Dk.obs])
               rintro r ob' ⟨rfl, rfl⟩
               simp [Dk.obs]
               refine vcall_k [2, 0, 1, 3] (hrs) ?_ (hh := by simp [Dk.obs])
               rintro r ob' ⟨rfl, rfl⟩
               simp [Dk.obs]
               refine vcall_freeze 6 (by rfl) (by intro c hc; obtain ⟨z, _, rfl⟩ := List.mem_map.1 hc; rfl) ?_
               refine vcall_freeze 7 (by rfl) (by intro c hc; obtain ⟨z, _, rfl⟩ := List.mem_map.1 hc; rfl) ?_
               refine vcall_k [] (hsR) ?_ (ha := by simp [List.take_of_length_le]) (hok := by simp)
               rintro r ob' ⟨rfl, rfl⟩
               simp [Dk.obs]
               refine vcall_k [4, 0, 1, 5] (hlf) ?_ (hh := by simp [Dk.obs])
               rintro r ob' ⟨rfl, rfl⟩
               simp [Dk.obs]
               refine vcall_k [2, 0, 1, 3] (hlf) ?_ (hh := by simp [Dk.obs])
               rintro r ob' ⟨rfl, rfl⟩
               simp [Dk.obs]
               refine vcall_k [4, 0, 1, 5] (hgn) ?_ (hh := by simp [Dk.obs])
               rintro r ob' ⟨rfl, rfl⟩
               simp [Dk.obs]
               refine vcall_k [2, 0, 1, 3] (hgn) ?_ (hh := by simp [Dk.obs])
               rintro r ob' ⟨rfl, rfl⟩
               simp [Dk.obs]
               refine hK41 _ ?_
               try clear hK41 K41
               refine vwp_cond (by first | rfl | (simp; rfl)) (fun h12 => ?_) fun h12 => ?_
               · simp -failIfUnchanged at h12; all_goals
                refine vwp_seq_k fun K42 hK42 => ?_
                simp at *
               · simp -failIfUnchanged at h12; all_goals
                refine vwp_skip ?_
                refine hK40 _ ?_
                try clear hK40 K40
                refine vwp_live [2, 7, 15, 50, 51, 52] (vwp_region hT ?_)
                simp [Dk.obs]
                refine hK21 _ ?_
                try clear hK21 K21
                have w1 : IntKind.i64.wrap ((i : Int) + 1) = i + 1 := w64 (by omega) (by omega)
                refine vwp_live [2, 7, 9, 50, 51, 52] (vwp_region hT ?_)
                simp [Dk.obs, w1]
                exact hK18 (i + 1, g2, d5) _ (Gh.to_k [2, 7, 9, 50, 51, 52] [0, 1, 4, 5] (hh := by simp [Dk.obs])) (⟨by dsimp only; omega, hg5, hc5⟩) (by dsimp only; omega)
              · simp -failIfUnchanged at h11; all_goals
               refine vwp_skip ?_
               refine hK21 _ ?_
               try clear hK21 K21
               have w1 : IntKind.i64.wrap ((i : Int) + 1) = i + 1 := w64 (by omega) (by omega)
               refine vwp_live [2, 7, 9, 50, 51, 52] (vwp_region hT ?_)
               simp [Dk.obs, w1]
               exact hK18 ((i + 1, g2, d2)) _ (Gh.to_k [2, 7, 9, 50, 51, 52] [0, 1, 2, 3]) (⟨by dsimp only; omega, hg2, hc2⟩) (by dsimp only; omega)
           · have hx2b : ¬ (x.b.length : Int) ≤ 200 := by omega
             have hx2c : ¬ x.b.length ≤ 200 := by omega
             refine vwp_live [2, 7, 9, 11, 12, 13, 14, 50, 51, 52] (vwp_region hT ?_)
             simp [Dk.obs, hx2b, hx2c]
             refine hK30 _ ?_
             try clear hK30 K30
             refine vwp_cond (by first | rfl | (simp; rfl)) (fun h13 => ?_) fun h13 => ?_
             · simp -failIfUnchanged at h13; all_goals
              refine vwp_seq_k fun K43 hK43 => ?_
              simp at *
             · simp -failIfUnchanged at h13; all_goals
              refine vwp_skip ?_
              refine hK29 _ ?_
              try clear hK29 K29
              have tm : (i : Int).tmod 3 = ((i % 3 : Nat) : Int) := rfl
              refine vwp_sq [2, 7, 9, 11, 50, 51, 52] fun K44 hK44 => vwp_region hT ?_
              simp [Dk.obs, tm]
              repeat refine ⟨by first | assumption | omega | (intros; omega), ?_⟩
              refine hK44 _ ?_
              try clear hK44 K44
              refine vwp_cond (by first | rfl | (simp; rfl)) (fun h14 => ?_) fun h14 => ?_
              · simp -failIfUnchanged at h14; all_goals
               refine vwp_gh (st' := ⟨[(2, sB b), (7, .ptr 0 5 0), (9, .ptr 2 6 0), (50, .fs l.length (opsV l)), (51, .int .i64 l.length), (52, .int .i64 (i : Int))], [.live [.sl 1 d2.B.length 32 0 n, .bool d2.down, .int .i64 d2.fuse, .int .i64 d2.torn, .int .i64 d2.writes], .live (bts d2.B), logO 3 g2, .live ((g2 : Lg).rows.map sB)]⟩) (Gh.to_k [2, 7, 9, 50, 51, 52] [0, 1, 2, 3] (hh := by simp [Dk.obs])) ?_
               obtain ⟨d5, hop2, hg5, hc5⟩ := (open_good hg2.keeps).resolve_right fun q => q.1 hc2
               rw [lg_eta hg2.whole] at hop2 hg5
               have hon2 := open_some hg2.keeps.ok hg2.keeps.byte hop2
               replace hc5 := hc5 hc2
               have hrs := records_spec g2 d5 n (by omega) (fun b hb => by have := hgr.2 b hb; omega)
               have hlf := left_spec g2 d5 n (by omega) (by omega)
               have hgn := generation_spec g2 d5 n (by omega)
               refine vwp_sq [2, 7, 9, 50, 51, 52] fun K45 hK45 => vwp_region hT ?_
               simp [Dk.obs]
               refine vcall_k [0, 1] (hon2) ?_ (hh := by simp [Dk.obs])
               rintro r ob' ⟨rfl, rfl⟩
               simp [Dk.obs]
               refine hK45 _ ?_
               try clear hK45 K45
               refine vwp_seq_k fun K46 hK46 => ?_
               refine vwp_sq [2, 7, 9, 15, 16, 50, 51, 52] fun K47 hK47 => vwp_region hT ?_
               simp [Dk.obs]
               refine vcall_k [4, 0, 1, 5] (hrs) ?_ (hh := by simp [Dk.obs])
               rintro r ob' ⟨rfl, rfl⟩
               simp [Dk.obs]
               refine vcall_k [2, 0, 1, 3] (hrs) ?_ (hh := by simp [Dk.obs])
               rintro r ob' ⟨rfl, rfl⟩
               simp [Dk.obs]
               refine vcall_freeze 6 (by rfl) (by intro c hc; obtain ⟨z, _, rfl⟩ := List.mem_map.1 hc; rfl) ?_
               refine vcall_freeze 7 (by rfl) (by intro c hc; obtain ⟨z, _, rfl⟩ := List.mem_map.1 hc; rfl) ?_
               refine vcall_k [] (hsR) ?_ (ha := by simp [List.take_of_length_le]) (hok := by simp)
               rintro r ob' ⟨rfl, rfl⟩
               simp [Dk.obs]
               refine vcall_k [4, 0, 1, 5] (hlf) ?_ (hh := by simp [Dk.obs])
               rintro r ob' ⟨rfl, rfl⟩
               simp [Dk.obs]
               refine vcall_k [2, 0, 1, 3] (hlf) ?_ (hh := by simp [Dk.obs])
               rintro r ob' ⟨rfl, rfl⟩
               simp [Dk.obs]
               refine vcall_k [4, 0, 1, 5] (hgn) ?_ (hh := by simp [Dk.obs])
               rintro r ob' ⟨rfl, rfl⟩
               simp [Dk.obs]
               refine vcall_k [2, 0, 1, 3] (hgn) ?_ (hh := by simp [Dk.obs])
               rintro r ob' ⟨rfl, rfl⟩
               simp [Dk.obs]
               refine hK47 _ ?_
               try clear hK47 K47
               refine vwp_cond (by first | rfl | (simp; rfl)) (fun h15 => ?_) fun h15 => ?_
               · simp -failIfUnchanged at h15; all_goals
                refine vwp_seq_k fun K48 hK48 => ?_
                simp at *
               · simp -failIfUnchanged at h15; all_goals
                refine vwp_skip ?_
                refine hK46 _ ?_
                try clear hK46 K46
                refine vwp_live [2, 7, 15, 50, 51, 52] (vwp_region hT ?_)
                simp [Dk.obs]
                refine hK21 _ ?_
                try clear hK21 K21
                have w1 : IntKind.i64.wrap ((i : Int) + 1) = i + 1 := w64 (by omega) (by omega)
                refine vwp_live [2, 7, 9, 50, 51, 52] (vwp_region hT ?_)
                simp [Dk.obs, w1]
                exact hK18 (i + 1, g2, d5) _ (Gh.to_k [2, 7, 9, 50, 51, 52] [0, 1, 4, 5] (hh := by simp [Dk.obs])) (⟨by dsimp only; omega, hg5, hc5⟩) (by dsimp only; omega)
              · simp -failIfUnchanged at h14; all_goals
               refine vwp_skip ?_
               refine hK21 _ ?_
               try clear hK21 K21
               have w1 : IntKind.i64.wrap ((i : Int) + 1) = i + 1 := w64 (by omega) (by omega)
               refine vwp_live [2, 7, 9, 50, 51, 52] (vwp_region hT ?_)
               simp [Dk.obs, w1]
               exact hK18 ((i + 1, g2, d2)) _ (Gh.to_k [2, 7, 9, 50, 51, 52] [0, 1, 2, 3]) (⟨by dsimp only; omega, hg2, hc2⟩) (by dsimp only; omega)
        · simp -failIfUnchanged at h5; all_goals
         refine vwp_exit ?_
         simp only [inBlk, thenQ, if_true]
         refine hK16 _ ?_
         try clear hK16 K16
         have hlf := left_spec g d n (by omega) (by omega)
         obtain ⟨lf, hlfe⟩ : ∃ lf, lf = n / 2 - g.fin := ⟨_, rfl⟩
         have hlfi : ((n / 2 : Nat) : Int) - (g.fin : Int) = (lf : Int) := by omega
         rw [hlfi] at hlf
         refine vwp_sq [2, 9] fun K49 hK49 => vwp_region hT ?_
         simp [Dk.obs]
         refine vcall_k [2, 0, 1, 3] (hlf) ?_ (hh := by simp [Dk.obs])
         rintro r ob' ⟨rfl, rfl⟩
         simp [Dk.obs]
         refine hK49 _ ?_
         try clear hK49 K49
         refine vwp_seq_k fun K50 hK50 => ?_
         have hal2 := append_law hg hbb
         have hsp := append_spec g d n hdo hh1 (by omega) (by omega) hfn b hbb (by omega)
         obtain ⟨q, hq⟩ : ∃ q, q = appendL g d n b := ⟨_, rfl⟩
         rw [← hq] at hal2 hsp
         obtain ⟨e, g2, d2⟩ := q
         dsimp only at hal2 hsp
         obtain ⟨hal2, hcl2⟩ := hal2
         obtain ⟨he7, hc2⟩ := hcl2 hc
         rw [secL_length] at hal2
         obtain ⟨m, hm1⟩ : ∃ m, m = 1 + nch (b.drop 17) := ⟨_, rfl⟩
         rw [← hm1] at hal2
         by_cases h200 : 200 < b.length
         · obtain rfl : e = 1 := by
             rcases hal2 with ⟨q1, q2, q3, _, _, q4, _⟩ | ⟨q1, q2⟩ | ⟨q1, q3, q2⟩ | ⟨q3, _, q2⟩
             · omega
             · exact absurd q1 he7
             · exact q1
             · omega
           have h2a : ¬ (b.length : Int) ≤ 200 := by omega
           have h2b : ¬ b.length ≤ 200 := by omega
           refine vwp_live [2, 9, 17] (vwp_region hT ?_)
           simp [Dk.obs]
           refine vcall_k [2, 0, 1, 3] (hsp) ?_ (hh := by simp [Dk.obs]) (ha := by simp)
           rintro r ob' ⟨rfl, rfl⟩
           simp [Dk.obs]
           refine hK50 _ ?_
           try clear hK50 K50
           refine vwp_sq [2, 17, 18] fun K51 hK51 => vwp_region hT ?_
           simp [Dk.obs, h2a, h2b]
           repeat refine ⟨by first | assumption | omega | (intros; omega), ?_⟩
           refine hK51 _ ?_
           try clear hK51 K51
           refine vwp_ret (hR _ _ ?_)
           exact ret_k [6] [] [] (.bool true) rfl
         · have hld := laid_ref b 1 0 (by omega) hbb (by omega) (by omega)
           rw [secL_length, ← hm1] at hld
           obtain ⟨M, hM⟩ : ∃ M, M = 32 * m := ⟨_, rfl⟩
           rw [← hM] at hld
           have hml : m ≤ 1000 := by
             have e : nch (b.drop 17) ≤ 999 := by unfold nch; rw [List.length_drop]; omega
             omega
           have hMd : m = M / 32 := by omega
           have td : (M : Int).tdiv 32 = (m : Int) := by rw [hMd]; rfl
           have hfl : (flatL b 1 0).length = M := by rw [flatL_len, secL_length, ← hm1, hM]
           have wm : IntKind.i64.wrap (m : Int) = (m : Int) := w64 (by omega) (by omega)
           have h2a : (b.length : Int) ≤ 200 := by omega
           have h2b : b.length ≤ 200 := by omega
           have hml2 : (e = 0 ↔ m ≤ lf) := by
             rcases hal2 with ⟨q1, q2, q3, _, _, q4, q5⟩ | ⟨q1, q2⟩ | ⟨q1, q3, q2⟩ | ⟨q3, q4, q2⟩
             · omega
             · exact absurd q1 he7
             · omega
             · cases q2; omega
           have hbb2 : ((e == 0) == decide (m ≤ lf)) = true := by rw [beq_iff_eq, Bool.eq_iff_iff]; simp [hml2]
           refine vwp_live [2, 9, 17] (vwp_region hT ?_)
           simp [Dk.obs]
           refine vcall_k [2, 0, 1, 3] (hsp) ?_ (hh := by simp [Dk.obs]) (ha := by simp)
           rintro r ob' ⟨rfl, rfl⟩
           simp [Dk.obs]
           refine hK50 _ ?_
           try clear hK50 K50
           refine vwp_sq [2, 17, 18] fun K52 hK52 => vwp_region hT ?_
           simp [Dk.obs, h2a, h2b, td, wm]
           repeat refine ⟨by first | assumption | omega | (intros; omega), ?_⟩
           refine vcall_k [] (hld) ?_
           rintro r ob' ⟨rfl, rfl⟩
           simp [Dk.obs, h2a, h2b, td, wm]
           repeat refine ⟨by first | assumption | omega | (intros; omega), ?_⟩
           refine hK52 _ ?_
           try clear hK52 K52
           refine vwp_ret (hR _ _ ?_)
           exact ret_k [6] [] [] (.bool true) rfl (hr := by simp [hbb2])
    · skip
      by_cases hs2 : 2 ≤ s ∧ s ≤ 4096
      · refine vwp_live [0, 1, 2] (vwp_region hT ?_)
        simp [Dk.obs]
        refine vcall_k [] (new_spec s) ?_
        rintro r ob' q2
        rw [if_pos hs2] at q2
        obtain ⟨rfl, rfl⟩ := q2
        simp [Dk.obs]
        refine hK8 _ ?_
        try clear hK8 K8
        refine vwp_seq_k fun K53 hK53 => ?_
        refine vwp_sq [0, 1, 2, 7] fun K54 hK54 => vwp_region hT ?_
        simp [Dk.obs]
        refine hK54 _ ?_
        try clear hK54 K54
        refine vwp_cond (by first | rfl | (simp; rfl)) (fun h16 => ?_) fun h16 => ?_
        · simp -failIfUnchanged at h16; all_goals
         refine vwp_sq [] fun K55 hK55 => vwp_region hT ?_
         simp [Dk.obs]
         refine hK55 _ ?_
         try clear hK55 K55
         refine vwp_ret (hR _ _ ?_)
         exact ret_k [6] [] [] (.bool true) rfl
        · simp -failIfUnchanged at h16; all_goals
         refine vwp_skip ?_
         refine hK53 _ ?_
         try clear hK53 K53
         refine vwp_seq_k fun K56 hK56 => ?_
         exfalso
         simp at * <;> omega
      · refine vwp_live [0, 1, 2] (vwp_region hT ?_)
        simp [Dk.obs]
        refine vcall_k [] (new_spec s) ?_
        rintro r ob' q2
        rw [if_neg hs2] at q2
        obtain ⟨rfl, rfl⟩ := q2
        simp [Dk.obs]
        refine hK8 _ ?_
        try clear hK8 K8
        refine vwp_seq_k fun K57 hK57 => ?_
        refine vwp_sq [0, 1, 2, 7] fun K58 hK58 => vwp_region hT ?_
        simp [Dk.obs]
        refine hK58 _ ?_
        try clear hK58 K58
        refine vwp_cond (by first | rfl | (simp; rfl)) (fun h17 => ?_) fun h17 => ?_
        · simp -failIfUnchanged at h17; all_goals
         refine vwp_sq [] fun K59 hK59 => vwp_region hT ?_
         simp [Dk.obs]
         refine hK59 _ ?_
         try clear hK59 K59
         refine vwp_ret (hR _ _ ?_)
         exact ret_k [6] [] [] (.bool true) rfl
        · simp -failIfUnchanged at h17; all_goals
         refine vwp_skip ?_
         refine hK57 _ ?_
         try clear hK57 K57
         refine vwp_seq_k fun K60 hK60 => ?_
         exfalso
         simp at *
end Go.Proofs.Ytifhbgppjblobaa
