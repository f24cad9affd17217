/- The law LabelTells: the walk. -/
import Derived.Test.YtmpakfpmmkfgpaaLbN
namespace Go.Proofs.Ytmpakfpmmkfgpaa
open Go Go.VX Go.RowKit
set_option linter.unusedVariables false
set_option linter.unusedSimpArgs false
set_option maxHeartbeats 20000000
set_option maxRecDepth 100000

theorem showP_small {x : Whl} {ow po : Int} (hx : lrgP x = false) : (showP x ow po).1.small := by
  have h1 : x.ss.length ≤ 60 ∧ x.fs.length ≤ 60 := by
    simp only [lrgP, Bool.or_eq_false_iff, decide_eq_false_iff_not] at hx; omega
  have hz : Vw.zero.small := ⟨by decide, by decide, by decide⟩
  unfold showP
  split
  · exact hz
  split
  · exact hz
  · refine ⟨?_, ?_, ?_⟩
    · show ((srtO (ownS x ow)).map _).length ≤ 60
      rw [List.length_map, (srtO_perm _).length_eq]
      exact Nat.le_trans (ownL_le x.ss ow) h1.1
    · show (srt (ownF x ow)).length ≤ 60
      rw [srt_len]
      exact Nat.le_trans (ownLF_le x.fs ow) h1.2
    · exact Nat.le_trans (grants_le x po) (by omega)
def Vw.bigB (v : Vw) : Bool := decide (60 < v.rs.length) || (decide (60 < v.fs.length) || decide (60 < v.gs.length))
theorem big_small {v : Vw} (h : v.bigB = false) : v.small := by
  simp only [Vw.bigB, Bool.or_eq_false_iff, decide_eq_false_iff_not] at h
  exact ⟨by omega, by omega, by omega⟩

theorem vwC {l : List Vw} {c : V} (hc : c ∈ rowsV l) : c.noId = true := by
  obtain ⟨a, _, h⟩ := List.mem_flatMap.1 hc
  simp at h
  rcases h with rfl | rfl | rfl | rfl | rfl | rfl <;> rfl
theorem law_ltells (x : Whl) (ow po : Int) (l : List Vw) : VC P 3 [.agg x.c, .int .i64 ow, .int .i64 po, fsV l] [] (fun r ob' => r = .bool true ∧ ob' = []) := by
  refine VC_of_vwp_k ent_3 Try.func3 rfl (by simp) fun R hR => ?_
  refine vwp_sq [0, 1, 2, 3] fun K1 hK1 => vwp_region hT ?_
  simp
  refine hK1 _ ?_
  try clear hK1 K1
  refine vwp_seq_k fun K2 hK2 => ?_
  refine vwp_sq [1, 2, 3, 4] fun K3 hK3 => vwp_region hT ?_
  simp
  refine vcall_k [] (awake17) ?_
  rintro r ob' ⟨rfl, rfl⟩
  simp
  refine hK3 _ ?_
  try clear hK3 K3
  refine vwp_cond (by first | rfl | (simp; rfl)) (fun h1 => ?_) fun h1 => ?_
  · simp -failIfUnchanged at h1; all_goals
   refine vwp_seq_k fun K4 hK4 => ?_
   simp_all
  · simp -failIfUnchanged at h1; all_goals
   refine vwp_skip ?_
   refine hK2 _ ?_
   try clear hK2 K2
   refine vwp_seq_k fun K5 hK5 => ?_
   refine vwp_seq_k fun K6 hK6 => ?_
   rcases hx : lrgP x with _ | _
   · have hb : x.ss.length ≤ 60 ∧ x.fs.length ≤ 60 ∧ x.ls.length ≤ 60 := by
       simp only [lrgP, Bool.or_eq_false_iff, decide_eq_false_iff_not] at hx; omega
     refine vwp_live [1, 2, 3, 4] (vwp_region hT ?_)
     simp [hx]
     refine vcall_z [] (large_spec x) (by rw [hx]; rintro r ob' ⟨rfl, rfl⟩; simp) ?_
     rw [hx]
     rintro r ob' ⟨rfl, rfl⟩
     simp [hx]
     refine hK6 _ ?_
     try clear hK6 K6
     refine vwp_cond (by first | rfl | (simp; rfl)) (fun h2 => ?_) fun h2 => ?_
     · simp -failIfUnchanged at h2; all_goals
      refine vwp_sq [] fun K7 hK7 => vwp_region hT ?_
      simp
      refine hK7 _ ?_
      try clear hK7 K7
      refine vwp_ret (hR _ _ ?_)
      exact ret_k [8] [] ([]) (.bool true) (⟨rfl, rfl⟩)
     · simp -failIfUnchanged at h2; all_goals
      have q := h2
      have hll : l.length ≤ 20 := by simp -failIfUnchanged at q; omega
      obtain ⟨V0, e, hV⟩ : ∃ V0 e, showP x ow po = (V0, e) := ⟨_, _, rfl⟩
      have hVs : V0.small := by have := showP_small (ow := ow) (po := po) hx; rwa [hV] at this
      refine vwp_skip ?_
      refine hK5 _ ?_
      try clear hK5 K5
      refine vwp_sq [1, 2, 3, 4] fun K8 hK8 => vwp_region hT ?_
      simp
      repeat refine ⟨by first | assumption | omega | (intros; omega), ?_⟩
      refine vcall_k [] (show_spec x ow po (by omega) (by omega) (by omega)) ?_
      rw [hV]
      rintro r ob' ⟨rfl, rfl⟩
      simp
      repeat refine ⟨by first | assumption | omega | (intros; omega), ?_⟩
      refine hK8 _ ?_
      try clear hK8 K8
      refine vwp_sq [1, 2, 3, 4, 9, 10] fun K9 hK9 => vwp_region hT ?_
      simp
      repeat refine ⟨by first | assumption | omega | (intros; omega), ?_⟩
      refine vcall_k [] (whole_spec x (by omega) (by omega) (by omega)) ?_
      rintro r ob' ⟨rfl, rfl⟩
      simp
      repeat refine ⟨by first | assumption | omega | (intros; omega), ?_⟩
      refine vcall_k [] (dshow_spec x ow po (by omega) (by omega) (by omega) (by omega)) ?_
      rw [hV]
      rintro r ob' ⟨rfl, rfl⟩
      simp
      repeat refine ⟨by first | assumption | omega | (intros; omega), ?_⟩
      refine hK9 _ ?_
      try clear hK9 K9
      refine vwp_sq [3, 9, 10, 11, 12] fun K10 hK10 => vwp_region hT ?_
      simp
      refine hK10 _ ?_
      try clear hK10 K10
      refine vwp_seq_k fun K11 hK11 => ?_
      refine vwp_sq [3, 9, 10, 11, 12, 13] fun K12 hK12 => vwp_region hT ?_
      simp
      refine hK12 _ ?_
      try clear hK12 K12
      refine vwp_block ?_
      refine vwp_loop_s (fun i : Nat => ⟨[(3, fsV l), (9, .ptr 1 6 0), (10, .int .i64 e), (11, .ptr 2 6 0), (12, .int .i64 e), (13, .sl 3 (i * 6) 6 0 i), (40, fsV l), (41, .int .i64 l.length), (42, .int .i64 (i : Int))], [.live x.c, .live V0.cells, .live V0.cells, .live (rowsV (l.take i))]⟩) (fun i => i ≤ l.length ∧ ∀ v ∈ l.take i, v.small) (fun i => l.length - i) (0) ((Gh.virt 13 6 (by simp)).trans (Gh.to_k [3, 9, 10, 11, 12, 13, 40, 41, 42] [0, 1, 2, 3] (he := by simp) (hh := by simp))) (⟨by omega, by simp⟩) ?_
      rintro i ⟨hi, hsm⟩
      have hrl : (rowsV (l.take i)).length = i * 6 := by rw [lenVw, List.length_take, Nat.min_eq_left hi]
      intro K13 hK13
      refine vwp_sq [3, 9, 10, 11, 12, 13, 40, 41, 42] fun K14 hK14 => vwp_region hT ?_
      simp
      refine hK14 _ ?_
      try clear hK14 K14
      refine vwp_seq_k fun K15 hK15 => ?_
      refine vwp_cond (by first | rfl | (simp; rfl)) (fun h3 => ?_) fun h3 => ?_
      · simp -failIfUnchanged at h3; all_goals
       refine vwp_skip ?_
       refine hK15 _ ?_
       try clear hK15 K15
       refine vwp_seq_k fun K16 hK16 => ?_
       refine vwp_block ?_
       obtain ⟨y, hs1⟩ := getI (l := l) (i := i) (by omega)
       have hrow := rowVw hs1
       have hlen := lenVw l
       refine vwp_sq [3, 9, 10, 11, 12, 13, 40, 41, 42] fun K17 hK17 => vwp_region hT ?_
       simp [hrow, hlen]
       repeat refine ⟨by first | assumption | omega | (intros; omega), ?_⟩
       refine hK17 _ ?_
       try clear hK17 K17
       refine vwp_seq_k fun K18 hK18 => ?_
       refine vwp_seq_k fun K19 hK19 => ?_
       by_cases hl1 : 60 < y.rs.length
       · have h2i : (60 : Int) < y.rs.length := by omega
         refine vwp_live [3, 9, 10, 11, 12, 13, 15, 40, 41, 42] (vwp_region hT ?_)
         simp [hl1, h2i]
         refine hK19 _ ?_
         try clear hK19 K19
         refine vwp_cond (by first | rfl | (simp; rfl)) (fun h4 => ?_) fun h4 => ?_
         · simp -failIfUnchanged at h4; all_goals
          refine vwp_sq [] fun K20 hK20 => vwp_region hT ?_
          simp
          refine hK20 _ ?_
          try clear hK20 K20
          refine vwp_ret (hR _ _ ?_)
          exact ret_k [8] [] ([]) (.bool true) (⟨rfl, rfl⟩)
         · simp -failIfUnchanged at h4; all_goals
          refine vwp_skip ?_
          refine hK18 _ ?_
          try clear hK18 K18
          refine vwp_seq_k fun K21 hK21 => ?_
          simp_all
       · have h1i : ¬ (60 : Int) < y.rs.length := by omega
         by_cases hl2 : 60 < y.fs.length
         · have h2i : (60 : Int) < y.fs.length := by omega
           refine vwp_live [3, 9, 10, 11, 12, 13, 15, 40, 41, 42] (vwp_region hT ?_)
           simp [hl1, h1i, hl2, h2i]
           refine hK19 _ ?_
           try clear hK19 K19
           refine vwp_cond (by first | rfl | (simp; rfl)) (fun h5 => ?_) fun h5 => ?_
           · simp -failIfUnchanged at h5; all_goals
            refine vwp_sq [] fun K22 hK22 => vwp_region hT ?_
            simp
            refine hK22 _ ?_
            try clear hK22 K22
            refine vwp_ret (hR _ _ ?_)
            exact ret_k [8] [] ([]) (.bool true) (⟨rfl, rfl⟩)
           · simp -failIfUnchanged at h5; all_goals
            refine vwp_skip ?_
            refine hK18 _ ?_
            try clear hK18 K18
            refine vwp_seq_k fun K23 hK23 => ?_
            simp_all
         · have h3i : ¬ (60 : Int) < y.fs.length := by omega
           by_cases hl3 : 60 < y.gs.length
           · have h2i : (60 : Int) < y.gs.length := by omega
             refine vwp_live [3, 9, 10, 11, 12, 13, 15, 40, 41, 42] (vwp_region hT ?_)
             simp [hl1, h1i, hl2, h3i, hl3, h2i]
             refine hK19 _ ?_
             try clear hK19 K19
             refine vwp_cond (by first | rfl | (simp; rfl)) (fun h6 => ?_) fun h6 => ?_
             · simp -failIfUnchanged at h6; all_goals
              refine vwp_sq [] fun K24 hK24 => vwp_region hT ?_
              simp
              refine hK24 _ ?_
              try clear hK24 K24
              refine vwp_ret (hR _ _ ?_)
              exact ret_k [8] [] ([]) (.bool true) (⟨rfl, rfl⟩)
             · simp -failIfUnchanged at h6; all_goals
              refine vwp_skip ?_
              refine hK18 _ ?_
              try clear hK18 K18
              refine vwp_seq_k fun K25 hK25 => ?_
              simp_all
           · have h4i : ¬ (60 : Int) < y.gs.length := by omega
             have hys : y.small := ⟨by omega, by omega, by omega⟩
             refine vwp_live [3, 9, 10, 11, 12, 13, 15, 40, 41, 42] (vwp_region hT ?_)
             simp [hl1, h1i, hl2, h3i, hl3, h4i]
             refine hK19 _ ?_
             try clear hK19 K19
             refine vwp_cond (by first | rfl | (simp; rfl)) (fun h7 => ?_) fun h7 => ?_
             · simp -failIfUnchanged at h7; all_goals
              refine vwp_seq_k fun K26 hK26 => ?_
              simp_all
             · simp -failIfUnchanged at h7; all_goals
              refine vwp_skip ?_
              refine hK18 _ ?_
              try clear hK18 K18
              refine vwp_sq [3, 9, 10, 11, 12, 13, 15, 40, 41, 42] fun K27 hK27 => vwp_region hT ?_
              simp [hrl, zerosV, spl]
              repeat refine ⟨by first | assumption | omega | (intros; omega), ?_⟩
              refine vcall_k [] (own_spec y (by have := hys.1; omega)) ?_
              rintro r ob' ⟨rfl, rfl⟩
              simp [hrl, zerosV, spl]
              repeat refine ⟨by first | assumption | omega | (intros; omega), ?_⟩
              refine hK27 _ ?_
              try clear hK27 K27
              refine vwp_sq [3, 9, 10, 11, 12, 13, 15, 40, 41, 42] fun K28 hK28 => vwp_calm hT hm (by kernel_rfl) ?_
              simp
              refine ⟨.bool (decide (V0 = y)), fun sl => ?_, ?_⟩
              · refine vcall_z [] (lsame_spec V0 y ⟨by have := hVs.1; omega, by have := hVs.2.1; omega, by have := hVs.2.2; omega⟩ ⟨by have := hys.1; omega, by have := hys.2.1; omega, by have := hys.2.2; omega⟩) (by rintro r ob' ⟨rfl, rfl⟩; simp) ?_
                rintro r ob' ⟨rfl, rfl⟩
                simp
              simp
              refine ⟨.agg y.cells, fun sl => ?_, ?_⟩
              · refine vcall_k [] (own_spec y (by have := hys.1; omega)) ?_
                rintro r ob' ⟨rfl, rfl⟩
                simp
              simp
              refine ⟨.bool (decide (V0 = y)), fun sl => ?_, ?_⟩
              · refine vcall_z [] (dsame_spec V0 y ⟨by have := hVs.1; omega, by have := hVs.2.1; omega, by have := hVs.2.2; omega⟩ ⟨by have := hys.1; omega, by have := hys.2.1; omega, by have := hys.2.2; omega⟩) (by rintro r ob' ⟨rfl, rfl⟩; simp) ?_
                rintro r ob' ⟨rfl, rfl⟩
                simp
              simp
              refine hK28 _ ?_
              try clear hK28 K28
              refine vwp_cond (by first | rfl | (simp; rfl)) (fun h8 => ?_) fun h8 => ?_
              · simp -failIfUnchanged at h8; all_goals
               refine vwp_seq_k fun K29 hK29 => ?_
               simp_all
              · simp -failIfUnchanged at h8; all_goals
               refine vwp_skip ?_
               refine hK16 _ ?_
               try clear hK16 K16
               have w1 : IntKind.i64.wrap ((i : Int) + 1) = i + 1 := w64 (by omega) (by omega)
               refine vwp_live [3, 9, 10, 11, 12, 13, 40, 41, 42] (vwp_region hT ?_)
               simp [w1]
               exact hK13 (i + 1) _ (Gh.to_k [3, 9, 10, 11, 12, 13, 40, 41, 42] [0, 1, 2, 3] (he := by simp) (hh := by simp [take_snoc hs1, rowsV_snoc, Nat.add_mul])) (⟨by omega, by rw [take_snoc hs1]; intro v hv; rcases List.mem_append.1 hv with h | h; exact hsm v h; simp at h; rw [h]; exact hys⟩) (by omega)
      · simp -failIfUnchanged at h3; all_goals
       refine vwp_exit ?_
       simp only [inBlk, thenQ, if_true]
       refine hK11 _ ?_
       try clear hK11 K11
       obtain rfl : i = l.length := by omega
       rw [List.take_length] at hrl hsm ⊢
       have htk : List.take (l.length * 6) (rowsV l) = rowsV l := List.take_of_length_le (by omega)
       refine vwp_sq [3, 9, 10, 11, 12, 13] fun K30 hK30 => vwp_calm hT hm (by kernel_rfl) ?_
       simp
       refine ⟨.agg V0.cells, fun sl => ?_, ?_⟩
       · refine vcall_k [] (own_spec V0 (by have := hVs.1; omega)) ?_
         rintro r ob' ⟨rfl, rfl⟩
         simp
       simp
       refine ⟨.bool true, fun sl => ?_, ?_⟩
       · refine vcall_z [] (dsame_spec V0 V0 ⟨by have := hVs.1; omega, by have := hVs.2.1; omega, by have := hVs.2.2; omega⟩ ⟨by have := hVs.1; omega, by have := hVs.2.1; omega, by have := hVs.2.2; omega⟩) (by rintro r ob' ⟨rfl, rfl⟩; simp) ?_
         rintro r ob' ⟨rfl, rfl⟩
         simp
       simp
       refine ⟨.int .i64 (relP l), fun sl => ?_, ?_⟩
       · refine vcall_z [] (released_spec l hll hsm) (by rintro r ob' ⟨rfl, rfl⟩; simp) ?_
         rintro r ob' ⟨rfl, rfl⟩
         simp
       simp
       refine ⟨.int .i64 (relP l), fun sl => ?_, ?_⟩
       · refine vcall_z [] (dreleased_spec l hll hsm) (by rintro r ob' ⟨rfl, rfl⟩; simp) ?_ (ha := by simp [htk]) (hok := by simp; exact ⟨hrl, fun c hc => vwC hc⟩)
         rintro r ob' ⟨rfl, rfl⟩
         simp
       simp
       refine hK30 _ ?_
       try clear hK30 K30
       refine vwp_ret (hR _ _ ?_)
       exact ret_k [8] [] ([]) (.bool true) (⟨rfl, rfl⟩)
   · refine vwp_live [1, 2, 3, 4] (vwp_region hT ?_)
     simp [hx]
     refine vcall_z [] (large_spec x) (by rw [hx]; rintro r ob' ⟨rfl, rfl⟩; simp) ?_
     rw [hx]
     rintro r ob' ⟨rfl, rfl⟩
     simp [hx]
     refine hK6 _ ?_
     try clear hK6 K6
     refine vwp_cond (by first | rfl | (simp; rfl)) (fun h9 => ?_) fun h9 => ?_
     · simp -failIfUnchanged at h9; all_goals
      refine vwp_sq [] fun K31 hK31 => vwp_region hT ?_
      simp
      refine hK31 _ ?_
      try clear hK31 K31
      refine vwp_ret (hR _ _ ?_)
      exact ret_k [8] [] ([]) (.bool true) (⟨rfl, rfl⟩)
     · simp -failIfUnchanged at h9; all_goals
      refine vwp_skip ?_
      refine hK5 _ ?_
      try clear hK5 K5
      refine vwp_seq_k fun K32 hK32 => ?_
      simp_all
end Go.Proofs.Ytmpakfpmmkfgpaa
