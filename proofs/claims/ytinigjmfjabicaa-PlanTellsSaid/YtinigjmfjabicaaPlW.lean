/- Plans copied, compared, large: the walk. -/
import Derived.Test.YtinigjmfjabicaaPlV
namespace Go.Proofs.Ytinigjmfjabicaa
open Go Go.VX Go.RowKit
set_option linter.unusedVariables false
set_option linter.unusedSimpArgs false
set_option maxHeartbeats 20000000
set_option maxRecDepth 100000

theorem ret_frz {nt : Sh} {sl : List (Nat × V)} {ob : List Ob} {R : St → Prop} (id : Nat) {cs : List V} (ho : ob[id]? = some (.live cs)) (hn : ∀ c ∈ cs, c.noId = true) (h : ∃ st', Gh nt ⟨sl, ob.set id (.frz cs)⟩ st' ∧ R st') : ∃ st', Gh nt ⟨sl, ob⟩ st' ∧ R st' := by
  obtain ⟨st', g, q⟩ := h
  exact ⟨st', (Gh.freeze id ho hn).trans g, q⟩
theorem ret_gh {nt : Sh} {a b : St} {R : St → Prop} (g : Gh nt a b) (h : ∃ st', Gh nt b st' ∧ R st') : ∃ st', Gh nt a st' ∧ R st' := by
  obtain ⟨st', g', q⟩ := h
  exact ⟨st', g.trans g', q⟩
theorem ints_noId {l : List Int} : ∀ c ∈ ints l, c.noId = true := by
  intro c hc
  obtain ⟨n, _, rfl⟩ := List.mem_map.1 hc
  rfl
theorem rt_noId {l : List Rt} : ∀ c ∈ rowsV l, c.noId = true := by
  intro c hc
  obtain ⟨a, _, ha⟩ := List.mem_flatMap.1 hc
  simp at ha
  rcases ha with rfl | rfl <;> rfl
theorem clonef_spec (l : List Int) (hl : l.length < 1099511627776) : VC P 38 [sI l] [] (fun r ob' => r = sI l ∧ ob' = []) := by
  refine VC_of_vwp_k ent_38 Try.func38 rfl (by simp) fun R hR => ?_
  refine vwp_sq [0] fun K1 hK1 => vwp_region hT ?_
  simp
  refine hK1 _ ?_
  try clear hK1 K1
  refine vwp_seq_k fun K2 hK2 => ?_
  refine vwp_seq_k fun K3 hK3 => ?_
  have htk : List.take l.length (ints l) = ints l := List.take_of_length_le (by simp)
  by_cases hne : l = []
  · subst hne
    refine vwp_live [0] (vwp_regionA hT ?_)
    simp
    refine ⟨?_, ?_⟩
    · refine hK3 _ ?_
      try clear hK3 K3
      refine vwp_cond (by first | rfl | (simp; rfl)) (fun h1 => ?_) fun h1 => ?_
      · simp -failIfUnchanged at h1; all_goals
       refine vwp_seq_k fun K4 hK4 => ?_
       simp_all
      · simp -failIfUnchanged at h1; all_goals
       refine vwp_skip ?_
       refine hK2 _ ?_
       try clear hK2 K2
       refine vwp_sq [0] fun K5 hK5 => vwp_region hT ?_
       simp
       repeat refine ⟨by first | assumption | omega | (intros; omega), ?_⟩
       refine hK5 _ ?_
       try clear hK5 K5
       refine vwp_ret (hR _ _ ?_)
       refine ret_frz 0 rfl (by simp) ?_
       exact ret_k [2] [] ([]) (.fs 0 []) (⟨rfl, rfl⟩)
    · repeat refine ⟨by first | assumption | omega | (intros; omega), ?_⟩
      refine hK3 _ ?_
      try clear hK3 K3
      refine vwp_cond (by first | rfl | (simp; rfl)) (fun h2 => ?_) fun h2 => ?_
      · simp -failIfUnchanged at h2; all_goals
       refine vwp_sq [] fun K6 hK6 => vwp_region hT ?_
       simp
       refine hK6 _ ?_
       try clear hK6 K6
       refine vwp_ret (hR _ _ ?_)
       refine ret_gh (Gh.virt 2 1 (by simp)) ?_
       simp
       refine ret_frz 0 rfl (by simp) ?_
       exact ret_k [2] [] ([]) (.fs 0 []) (⟨rfl, rfl⟩)
      · simp -failIfUnchanged at h2; all_goals
       refine vwp_skip ?_
       refine hK2 _ ?_
       try clear hK2 K2
       refine vwp_seq_k fun K7 hK7 => ?_
       simp_all
  · have hl0 : l.length ≠ 0 := fun e => hne (List.length_eq_zero_iff.1 e)
    refine vwp_live [0] (vwp_region hT ?_)
    simp [hl0]
    refine hK3 _ ?_
    try clear hK3 K3
    refine vwp_cond (by first | rfl | (simp; rfl)) (fun h3 => ?_) fun h3 => ?_
    · simp -failIfUnchanged at h3; all_goals
     refine vwp_seq_k fun K8 hK8 => ?_
     simp at *
    · simp -failIfUnchanged at h3; all_goals
     refine vwp_skip ?_
     refine hK2 _ ?_
     try clear hK2 K2
     refine vwp_sq [0] fun K9 hK9 => vwp_region hT ?_
     simp
     repeat refine ⟨by first | assumption | omega | (intros; omega), ?_⟩
     refine hK9 _ ?_
     try clear hK9 K9
     refine vwp_ret (hR _ _ ?_)
     refine ret_frz 0 rfl ints_noId ?_
     exact ret_k [2] [] ([]) (sI l) (⟨rfl, rfl⟩) (hs := by simp) (hr := by simp [htk])
theorem copyf_spec (p : Pn) (hp : p.few) : VC P 24 [.agg p.c] [] (fun r ob' => r = .agg p.c ∧ ob' = []) := by
  refine VC_of_vwp_c hT ent_24 Try.func24 rfl (by simp) fun R hR => ?_
  refine vwp_sq [0] fun K1 hK1 => vwp_region hT ?_
  simp
  refine hK1 _ ?_
  try clear hK1 K1
  refine vwp_sq [1, 2] fun K2 hK2 => vwp_region hT ?_
  simp
  repeat refine ⟨by first | assumption | omega | (intros; omega), ?_⟩
  refine vcall_k [] (clonef_spec p.un hp.un) ?_
  rintro r ob' ⟨rfl, rfl⟩
  simp
  repeat refine ⟨by first | assumption | omega | (intros; omega), ?_⟩
  refine hK2 _ ?_
  try clear hK2 K2
  refine vwp_seq_k fun K3 hK3 => ?_
  refine vwp_sq [1, 2, 3] fun K4 hK4 => vwp_region hT ?_
  simp
  refine hK4 _ ?_
  try clear hK4 K4
  refine vwp_block ?_
  have hprs := hp.rs
  refine vwp_gh (Gh.virtC 2 0 2 rfl rfl) ?_
  simp
  refine vwp_loop_s (fun i : Nat => ⟨[(2, .ptr 1 2 0), (3, .ptr 2 2 0), (11, rtV p.rs), (12, .int .i64 p.rs.length), (13, .int .i64 (i : Int))], [.live p.c, .live [.nils, .nils], .live [.sl 3 (i * 2) 2 0 i, sI p.un], .live (rowsV (p.rs.take i))]⟩) (fun i => i ≤ p.rs.length) (fun i => p.rs.length - i) (0) (Gh.to_k [2, 3, 11, 12, 13] [0, 1, 2, 3] (hh := by simp)) (by omega) ?_
  rintro i hi
  have hrl : (rowsV (p.rs.take i)).length = i * 2 := by rw [lenRt, List.length_take, Nat.min_eq_left hi]
  intro K5 hK5
  refine vwp_sq [2, 3, 11, 12, 13] fun K6 hK6 => vwp_region hT ?_
  simp
  refine hK6 _ ?_
  try clear hK6 K6
  refine vwp_seq_k fun K7 hK7 => ?_
  refine vwp_cond (by first | rfl | (simp; rfl)) (fun h1 => ?_) fun h1 => ?_
  · simp -failIfUnchanged at h1; all_goals
   refine vwp_skip ?_
   refine hK7 _ ?_
   try clear hK7 K7
   refine vwp_seq_k fun K8 hK8 => ?_
   refine vwp_block ?_
   obtain ⟨s, hs⟩ := getI (l := p.rs) (i := i) (by omega)
   have hrow := rowRt hs
   have hlen := lenRt p.rs
   have hst : s.st.length < 1099511627776 := by
     have h1 := catR_le p.rs (i + 1)
     have h2 := hp.cat
     rw [catR_take hs, List.length_append] at h1
     omega
   refine vwp_sq [2, 3, 11, 12, 13] fun K9 hK9 => vwp_region hT ?_
   simp [hrow, hlen]
   repeat refine ⟨by first | assumption | omega | (intros; omega), ?_⟩
   refine hK9 _ ?_
   try clear hK9 K9
   refine vwp_live [2, 3, 5, 11, 12, 13] (vwp_storm hT hm [.win 0 1, .win 0 1, .win 0 1, .win 0 1, .win 0 0, .win 0 0, .mv, .win 1 1, .lit, .mv, .win 2 2, .mv] [[], [0], [], [2], [], [4], [4, 5], [2, 3, 4, 5, 6], [2, 3, 4, 5, 6, 7], [0, 1, 2, 3, 4, 5, 6, 7, 8], [0, 1, 2, 3, 4, 5, 6, 7, 8, 9], [0, 1, 2, 3, 4, 5, 6, 7, 8, 9, 10]] (by kernel_rfl) ?_)
   simp [hrl, zerosV, spl]
   repeat refine ⟨by first | assumption | omega | (intros; omega), ?_⟩
   refine ⟨sI s.st, [.live p.c, .live [.nils, .nils], .live [.sl 3 (i * 2) 2 0 i, sI p.un], .live (rowsV (p.rs.take i)), .live (Rt.cells s)], fun sl => ?_, ?_⟩
   · refine vcall_k [] (clonef_spec s.st hst) ?_
     rintro r ob' ⟨rfl, rfl⟩
     simp
   simp [hrl, zerosV, spl]
   repeat refine ⟨by first | assumption | omega | (intros; omega), ?_⟩
   refine hK8 _ ?_
   try clear hK8 K8
   have w1 : IntKind.i64.wrap ((i : Int) + 1) = i + 1 := w64 (by omega) (by omega)
   refine vwp_live [2, 3, 11, 12, 13] (vwp_region hT ?_)
   simp [w1]
   exact hK5 (i + 1) _ (Gh.to_k [2, 3, 11, 12, 13] [0, 1, 2, 3] (hh := by simp [take_snoc hs, rowsV_snoc, Nat.add_mul])) (by omega) (by omega)
  · simp -failIfUnchanged at h1; all_goals
   refine vwp_exit ?_
   simp only [inBlk, thenQ, if_true]
   refine hK3 _ ?_
   try clear hK3 K3
   refine vwp_sq [2, 3] fun K10 hK10 => vwp_region hT ?_
   simp
   repeat refine ⟨by first | assumption | omega | (intros; omega), ?_⟩
   refine hK10 _ ?_
   try clear hK10 K10
   refine vwp_ret (hR _ _ ?_)
   obtain rfl : i = p.rs.length := by omega
   rw [List.take_length] at hrl ⊢
   refine ret_frz 3 rfl rt_noId ?_
   have htk : List.take (p.rs.length * 2) (rowsV p.rs) = rowsV p.rs := List.take_of_length_le (by omega)
   exact retc_only [] [] (p := True) (xs := [.agg [.sl 3 (p.rs.length * 2) 2 0 p.rs.length, sI p.un]]) (xs' := [.agg [rtV p.rs, sI p.un]]) (by simp) trivial (by simp) (by simp) rfl (by simp [hrl]) (by simp [htk]) rfl (by simp) ⟨rfl, rfl⟩
theorem pequal_spec (p : Pn) (hp : p.few) : VC P 32 [.agg p.c, .agg p.c] [] (fun r ob' => r = .bool true ∧ ob' = []) := by
  refine VC_of_vwp_k ent_32 Try.func32 rfl (by simp) fun R hR => ?_
  refine vwp_sq [0, 1] fun K1 hK1 => vwp_region hT ?_
  simp
  refine hK1 _ ?_
  try clear hK1 K1
  refine vwp_seq_k fun K2 hK2 => ?_
  refine vwp_sq [2, 3] fun K3 hK3 => vwp_region hT ?_
  simp
  refine vcall_z [] (same_spec p.un p.un (by have := hp.un; omega) (by have := hp.un; omega)) (by rintro r ob' ⟨rfl, rfl⟩; simp) ?_
  rintro r ob' ⟨rfl, rfl⟩
  simp
  refine hK3 _ ?_
  try clear hK3 K3
  refine vwp_cond (by first | rfl | (simp; rfl)) (fun h1 => ?_) fun h1 => ?_
  · simp -failIfUnchanged at h1; all_goals
   refine vwp_seq_k fun K4 hK4 => ?_
   simp_all
  · simp -failIfUnchanged at h1; all_goals
   refine vwp_skip ?_
   refine hK2 _ ?_
   try clear hK2 K2
   refine vwp_seq_k fun K5 hK5 => ?_
   refine vwp_sq [2, 3] fun K6 hK6 => vwp_region hT ?_
   simp
   refine hK6 _ ?_
   try clear hK6 K6
   refine vwp_block ?_
   have hprs := hp.rs
   refine vwp_loop_s (fun i : Nat => ⟨[(2, .ptr 0 2 0), (3, .ptr 1 2 0), (5, .int .i64 (i : Int))], [.live p.c, .live p.c]⟩) (fun i => i ≤ p.rs.length) (fun i => p.rs.length - i) (0) (Gh.to_k [2, 3, 5] [0, 1]) (by omega) ?_
   rintro i hi
   intro K7 hK7
   refine vwp_seq_k fun K8 hK8 => ?_
   refine vwp_sq [2, 3, 5] fun K9 hK9 => vwp_region hT ?_
   simp
   refine hK9 _ ?_
   try clear hK9 K9
   refine vwp_cond (by first | rfl | (simp; rfl)) (fun h2 => ?_) fun h2 => ?_
   · simp -failIfUnchanged at h2; all_goals
    refine vwp_skip ?_
    refine hK8 _ ?_
    try clear hK8 K8
    refine vwp_seq_k fun K10 hK10 => ?_
    refine vwp_block ?_
    obtain ⟨s, hs⟩ := getI (l := p.rs) (i := i) (by omega)
    obtain ⟨hg0, hg1⟩ := getRt hs
    have hlen := lenRt p.rs
    have li : i * 2 + 1 < p.rs.length * 2 := by omega
    have hst : s.st.length < 1099511627776 := by
      have h1 := catR_le p.rs (i + 1)
      have h2 := hp.cat
      rw [catR_take hs, List.length_append] at h1
      omega
    refine vwp_sq [2, 3, 5] fun K11 hK11 => vwp_calm hT hm (by kernel_rfl) ?_
    simp [hg0, hg1, hlen]
    repeat refine ⟨by first | assumption | omega | (intros; omega), ?_⟩
    refine ⟨.bool true, fun sl => ?_, ?_⟩
    · refine vcall_z [] (same_spec s.st s.st (by omega) (by omega)) (by rintro r ob' ⟨rfl, rfl⟩; simp) ?_
      rintro r ob' ⟨rfl, rfl⟩
      simp
    simp [hg0, hg1, hlen]
    repeat refine ⟨by first | assumption | omega | (intros; omega), ?_⟩
    refine hK11 _ ?_
    try clear hK11 K11
    refine vwp_cond (by first | rfl | (simp; rfl)) (fun h3 => ?_) fun h3 => ?_
    · simp -failIfUnchanged at h3; all_goals
     refine vwp_seq_k fun K12 hK12 => ?_
     simp_all
    · simp -failIfUnchanged at h3; all_goals
     refine vwp_skip ?_
     refine hK10 _ ?_
     try clear hK10 K10
     have w1 : IntKind.i64.wrap ((i : Int) + 1) = i + 1 := w64 (by omega) (by omega)
     refine vwp_live [2, 3, 5] (vwp_region hT ?_)
     simp [w1]
     exact hK7 (i + 1) _ (Gh.to_k [2, 3, 5] [0, 1]) (by omega) (by omega)
   · simp -failIfUnchanged at h2; all_goals
    refine vwp_exit ?_
    simp only [inBlk, thenQ, if_true]
    refine hK5 _ ?_
    try clear hK5 K5
    refine vwp_sq [] fun K13 hK13 => vwp_region hT ?_
    simp
    refine hK13 _ ?_
    try clear hK13 K13
    refine vwp_ret (hR _ _ ?_)
    exact ret_k [4] [] ([]) (.bool true) (⟨rfl, rfl⟩)
end Go.Proofs.Ytinigjmfjabicaa
