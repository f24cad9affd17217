/- Copies of rows, empty ones too. -/
import Derived.Test.YtifhbgppjblobaaLogK
import Derived.Test.YtifhbgppjblobaaVXc
namespace Go.Proofs.Ytifhbgppjblobaa
open Go Go.VX Go.RowKit
set_option linter.unusedVariables false
set_option linter.unusedSimpArgs false
set_option maxHeartbeats 20000000
set_option maxRecDepth 100000
theorem bclone_e0  : VC P 37 [.fs 0 []] [] (fun r ob' => (r = .nils ∧ ob' = []) ∨ (r = .sl 0 0 1 0 0 ∧ ob' = [.live []])) := by
  refine VC_of_vwp_k ent_37 Try.func37 rfl (by simp) fun R hR => ?_
  refine vwp_sq [0] fun K1 hK1 => vwp_region hT ?_
  simp
  refine hK1 _ ?_
  try clear hK1 K1
  refine vwp_seq_k fun K2 hK2 => ?_
  refine vwp_sq [0] fun K3 hK3 => vwp_eqnil hT T_34 (by rfl) (by decide) (by decide) (fun b => ?_)
  simp
  refine hK3 _ ?_
  try clear hK3 K3
  refine vwp_cond (by first | rfl | (simp; rfl)) (fun h1 => ?_) fun h1 => ?_
  · simp -failIfUnchanged at h1; all_goals
   refine vwp_sq [] fun K4 hK4 => vwp_region hT ?_
   simp
   refine hK4 _ ?_
   try clear hK4 K4
   refine vwp_ret (hR _ _ ?_)
   exact ret_k [2] [] ([]) (.nils) (.inl ⟨rfl, rfl⟩)
  · simp -failIfUnchanged at h1; all_goals
   refine vwp_skip ?_
   refine hK2 _ ?_
   try clear hK2 K2
   refine vwp_sq [0] fun K5 hK5 => vwp_region hT ?_
   simp
   repeat refine ⟨by first | assumption | omega | (intros; omega), ?_⟩
   refine hK5 _ ?_
   try clear hK5 K5
   refine vwp_ret (hR _ _ ?_)
   exact ret_k [2] [0] ([.live []]) (.sl 0 0 1 0 0) (.inr ⟨rfl, rfl⟩)

theorem bclone_u (l : List Int) (hln : l.length < 1099511627776) : VC P 37 [sB l] [] (fun r ob' => r = .sl 0 l.length 1 0 l.length ∧ ob' = [.live (bts l)]) := by
  by_cases h : l = []
  · subst h
    refine bclone_e0.virt fun r ob' q => ?_
    rcases q with ⟨rfl, rfl⟩ | ⟨rfl, rfl⟩
    · exact .inr (.inl ⟨rfl, rfl, rfl⟩)
    · exact .inl ⟨rfl, rfl⟩
  · exact bclone_spec l h hln
theorem copied_f (rs : List (List Int)) (hr : rs.length < 1099511627776) (hrl : ∀ l ∈ rs, l.length < 1099511627776) : VC P 41 [sBB rs] [] (fun r ob' => r = .sl 0 rs.length 1 0 rs.length ∧ ob' = [.live (rs.map sB)]) := by
  refine VC_of_vwp_k ent_41 Try.func41 rfl (by simp) fun R hR => ?_
  refine vwp_sq [0] fun K1 hK1 => vwp_region hT ?_
  simp
  refine hK1 _ ?_
  try clear hK1 K1
  refine vwp_sq [0] fun K2 hK2 => vwp_region hT ?_
  simp
  refine hK2 _ ?_
  try clear hK2 K2
  refine vwp_seq_k fun K3 hK3 => ?_
  refine vwp_gh (Gh.virt 3 1 (by rfl)) ?_
  simp
  refine vwp_sq [0, 3] fun K4 hK4 => vwp_region hT ?_
  simp
  refine hK4 _ ?_
  try clear hK4 K4
  refine vwp_block ?_
  refine vwp_loop_s (fun i : Nat => ⟨[(3, .sl 0 i 1 0 i), (6, sBB rs), (7, .int .i64 rs.length), (8, .int .i64 (i : Int))], [.live ((rs.take i).map sB)]⟩) (fun i => i ≤ rs.length) (fun i => rs.length - i) (0) (Gh.to_k [3, 6, 7, 8] [0] (hh := by simp)) (by omega) ?_
  rintro i hi
  intro K5 hK5
  refine vwp_sq [3, 6, 7, 8] fun K6 hK6 => vwp_region hT ?_
  simp
  refine hK6 _ ?_
  try clear hK6 K6
  refine vwp_seq_k fun K7 hK7 => ?_
  refine vwp_cond (by first | rfl | (simp; rfl)) (fun h1 => ?_) fun h1 => ?_
  · simp -failIfUnchanged at h1; all_goals
   refine vwp_skip ?_
   refine hK7 _ ?_
   try clear hK7 K7
   refine vwp_seq_k fun K8 hK8 => ?_
   refine vwp_block ?_
   obtain ⟨b, hb⟩ := getI (l := rs) (i := i) (by omega)
   have hmin : min i rs.length = i := by omega
   refine vwp_sq [3, 6, 7, 8] fun K9 hK9 => vwp_region hT ?_
   simp [hb]
   repeat refine ⟨by first | assumption | omega | (intros; omega), ?_⟩
   refine hK9 _ ?_
   try clear hK9 K9
   refine vwp_live [3, 5, 6, 7, 8] (vwp_region hT ?_)
   simp [hmin]
   repeat refine ⟨by first | assumption | omega | (intros; omega), ?_⟩
   refine vcall_k [] (bclone_u b (hrl b (List.mem_of_getElem? hb))) ?_
   rintro r ob' ⟨rfl, rfl⟩
   simp [hmin]
   repeat refine ⟨by first | assumption | omega | (intros; omega), ?_⟩
   refine hK8 _ ?_
   try clear hK8 K8
   have w1 : IntKind.i64.wrap ((i : Int) + 1) = i + 1 := w64 (by omega) (by omega)
   refine vwp_live [3, 6, 7, 8] (vwp_region hT ?_)
   simp [w1]
   exact hK5 (i + 1) _ ((Gh.freeze 1 (by rfl) (by intro c hc; simp at hc; obtain ⟨z, _, rfl⟩ := hc; rfl)).trans ((Gh.cellFs 1 0 i (tot := b.length) (esz := 1) (off := 0) (n := b.length) (by rfl) (by simp [hmin]) (by rfl) (by simp)).trans (Gh.to_k [3, 6, 7, 8] [0] (hh := by simp [List.take_add_one, hb, hmin, List.take_of_length_le])))) (by omega) (by omega)
  · simp -failIfUnchanged at h1; all_goals
   refine vwp_exit ?_
   simp only [inBlk, thenQ, if_true]
   refine hK3 _ ?_
   try clear hK3 K3
   refine vwp_sq [3] fun K10 hK10 => vwp_region hT ?_
   simp
   refine hK10 _ ?_
   try clear hK10 K10
   refine vwp_ret (hR _ _ ?_)
   have e : i = rs.length := by omega
   subst e
   exact ret_k [2] [0] ([.live (rs.map sB)]) (.sl 0 rs.length 1 0 rs.length) (⟨rfl, rfl⟩) (hh := by simp)
theorem copied_l (rs : List (List Int)) (hr : rs.length < 1099511627776) (hrl : ∀ l ∈ rs, l.length < 1099511627776) : VC P 41 [.sl 0 rs.length 1 0 rs.length] [.live (rs.map sB)] (fun r ob' => r = .sl 1 rs.length 1 0 rs.length ∧ ob' = [.live (rs.map sB), .live (rs.map sB)]) := by
  refine VC_of_vwp_k ent_41 Try.func41 rfl (by simp) fun R hR => ?_
  refine vwp_sq [0] fun K1 hK1 => vwp_region hT ?_
  simp
  refine hK1 _ ?_
  try clear hK1 K1
  refine vwp_sq [0] fun K2 hK2 => vwp_region hT ?_
  simp
  refine hK2 _ ?_
  try clear hK2 K2
  refine vwp_seq_k fun K3 hK3 => ?_
  refine vwp_gh (Gh.virt 3 1 (by rfl)) ?_
  simp
  refine vwp_sq [0, 3] fun K4 hK4 => vwp_region hT ?_
  simp
  refine hK4 _ ?_
  try clear hK4 K4
  refine vwp_block ?_
  refine vwp_loop_s (fun i : Nat => ⟨[(3, .sl 1 i 1 0 i), (6, .sl 0 rs.length 1 0 rs.length), (7, .int .i64 rs.length), (8, .int .i64 (i : Int))], [.live (rs.map sB), .live ((rs.take i).map sB)]⟩) (fun i => i ≤ rs.length) (fun i => rs.length - i) (0) (Gh.to_k [3, 6, 7, 8] [0, 1] (hh := by simp)) (by omega) ?_
  rintro i hi
  intro K5 hK5
  refine vwp_sq [3, 6, 7, 8] fun K6 hK6 => vwp_region hT ?_
  simp
  refine hK6 _ ?_
  try clear hK6 K6
  refine vwp_seq_k fun K7 hK7 => ?_
  refine vwp_cond (by first | rfl | (simp; rfl)) (fun h1 => ?_) fun h1 => ?_
  · simp -failIfUnchanged at h1; all_goals
   refine vwp_skip ?_
   refine hK7 _ ?_
   try clear hK7 K7
   refine vwp_seq_k fun K8 hK8 => ?_
   refine vwp_block ?_
   obtain ⟨b, hb⟩ := getI (l := rs) (i := i) (by omega)
   have hmin : min i rs.length = i := by omega
   refine vwp_sq [3, 6, 7, 8] fun K9 hK9 => vwp_region hT ?_
   simp [hb]
   repeat refine ⟨by first | assumption | omega | (intros; omega), ?_⟩
   refine hK9 _ ?_
   try clear hK9 K9
   refine vwp_live [3, 5, 6, 7, 8] (vwp_region hT ?_)
   simp [hmin]
   repeat refine ⟨by first | assumption | omega | (intros; omega), ?_⟩
   refine vcall_k [] (bclone_u b (hrl b (List.mem_of_getElem? hb))) ?_
   rintro r ob' ⟨rfl, rfl⟩
   simp [hmin]
   repeat refine ⟨by first | assumption | omega | (intros; omega), ?_⟩
   refine hK8 _ ?_
   try clear hK8 K8
   have w1 : IntKind.i64.wrap ((i : Int) + 1) = i + 1 := w64 (by omega) (by omega)
   refine vwp_live [3, 6, 7, 8] (vwp_region hT ?_)
   simp [w1]
   exact hK5 (i + 1) _ ((Gh.freeze 2 (by rfl) (by intro c hc; simp at hc; obtain ⟨z, _, rfl⟩ := hc; rfl)).trans ((Gh.cellFs 2 1 i (tot := b.length) (esz := 1) (off := 0) (n := b.length) (by rfl) (by simp [hmin]) (by rfl) (by simp)).trans (Gh.to_k [3, 6, 7, 8] [0, 1] (hh := by simp [List.take_add_one, hb, hmin, List.take_of_length_le])))) (by omega) (by omega)
  · simp -failIfUnchanged at h1; all_goals
   refine vwp_exit ?_
   simp only [inBlk, thenQ, if_true]
   refine hK3 _ ?_
   try clear hK3 K3
   refine vwp_sq [3] fun K10 hK10 => vwp_region hT ?_
   simp
   refine hK10 _ ?_
   try clear hK10 K10
   refine vwp_ret (hR _ _ ?_)
   have e : i = rs.length := by omega
   subst e
   exact ret_k [2] [0, 1] ([.live (rs.map sB), .live (rs.map sB)]) (.sl 1 rs.length 1 0 rs.length) (⟨rfl, rfl⟩) (hh := by simp)
theorem records_spec (g : Lg) (d : Dk) (n : Nat) (hr : g.rows.length < 1099511627776) (hrl : ∀ l ∈ g.rows, l.length < 1099511627776) : VC P 16 [.ptr 0 6 0] (lobs g d n) (fun r ob' => r = .sl 4 g.rows.length 1 0 g.rows.length ∧ ob' = lobs g d n ++ [.live (g.rows.map sB)]) := by
  refine VC_of_vwp_k ent_16 Try.func16 rfl (by simp) fun R hR => ?_
  refine vwp_sq [0] fun K1 hK1 => vwp_region hT ?_
  simp
  refine hK1 _ ?_
  try clear hK1 K1
  refine vwp_sq [0] fun K2 hK2 => vwp_region hT ?_
  simp
  refine vcall_k [3] (copied_l g.rows hr hrl) ?_
  rintro r ob' ⟨rfl, rfl⟩
  simp
  refine hK2 _ ?_
  try clear hK2 K2
  refine vwp_ret (hR _ _ ?_)
  exact ret_k [2] [0, 1, 2, 3, 4] (lobs g d n ++ [.live (g.rows.map sB)]) (.sl 4 g.rows.length 1 0 g.rows.length) (⟨rfl, rfl⟩)
end Go.Proofs.Ytifhbgppjblobaa
