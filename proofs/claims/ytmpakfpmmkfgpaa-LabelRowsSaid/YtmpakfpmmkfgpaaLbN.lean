/- What is fixed of views: the walk. -/
import Derived.Test.YtmpakfpmmkfgpaaLbM
namespace Go.Proofs.Ytmpakfpmmkfgpaa
open Go Go.VX Go.RowKit
set_option linter.unusedVariables false
set_option linter.unusedSimpArgs false
set_option maxHeartbeats 20000000
set_option maxRecDepth 100000

abbrev xs9 (o : Int) : Whl := ⟨[⟨7, 1, 90, 5⟩, ⟨6, 2, 90, 6⟩, ⟨5, 1, 80, 9⟩], [⟨o, 1⟩], [⟨1, 12, 3, true⟩], 40, 30, 2⟩
abbrev x9 : Whl := xs9 8
abbrev y9 : Whl := xs9 7
abbrev v9 : Vw := ⟨[⟨5, 1, 1, 9⟩, ⟨7, 2, 1, 5⟩], [8], 12, 3, true, [40, 3]⟩
theorem so9 : srtO (ownS x9 1) = [⟨5, 1, 80, 9⟩, ⟨7, 1, 90, 5⟩] :=
  (srtO_unique (by decide) (by decide) (by decide)).symm
theorem so9e : srtO (ownS x9 3) = [] := List.eq_nil_of_length_eq_zero (by rw [(srtO_perm _).length_eq]; decide)
theorem sf9 : srt (ownF x9 1) = [8] := srt_eq (by decide) (by decide)
theorem sf9e : srt (ownF x9 3) = [] := srt_eq (by decide) (by decide)
theorem sh1 : showP x9 1 10 = (v9, 0) := by
  rw [showP, if_neg (by decide), if_neg (by decide), so9, sf9]
  decide
theorem sh2 : showP x9 3 0 = (Vw.zero, 0) := by
  rw [showP, if_neg (by decide), if_neg (by decide), so9e, sf9e]
  decide
theorem sh3 : showP x9 1 16 = (Vw.zero, 1) := by rw [showP, if_pos (by decide)]
theorem sh4 : showP y9 1 0 = (Vw.zero, 6) := by rw [showP, if_neg (by decide), if_pos (by decide)]
theorem small9 : ∀ v ∈ [Vw.zero, v9], v.small := by
  intro v hv
  simp only [List.mem_cons, List.not_mem_nil, or_false] at hv
  rcases hv with rfl | rfl <;> exact ⟨by decide, by decide, by decide⟩
theorem rel9 : relP [Vw.zero, v9] = 17 := by decide
theorem awake17  : VC P 7 [] [] (fun r ob' => r = .bool true ∧ ob' = []) := by
  refine VC_of_vwp_k ent_7 Try.func7 rfl (by simp) fun R hR => ?_
  refine vwp_sq [] fun K1 hK1 => vwp_region hT ?_
  simp [zerosV, spl]
  refine hK1 _ ?_
  try clear hK1 K1
  refine vwp_sq [] fun K2 hK2 => vwp_region hT ?_
  simp [zerosV, spl]
  repeat refine ⟨by first | assumption | omega | (intros; omega), ?_⟩
  refine hK2 _ ?_
  try clear hK2 K2
  refine vwp_sq [1] fun K3 hK3 => vwp_region hT ?_
  simp [zerosV, spl]
  repeat refine ⟨by first | assumption | omega | (intros; omega), ?_⟩
  refine vcall_z [] (showL_spec x9 1 10 (by decide) (by decide) (by decide)) (by
      intro r ob' q
      rw [sh1, resV, if_pos rfl] at q
      obtain ⟨rfl, rfl⟩ := q
      simp [rowsV]) ?_ (ha := by simp [x9, y9, xs9, v9, rowsV])
  intro r ob' q
  rw [sh1, resV, if_pos rfl] at q
  obtain ⟨rfl, rfl⟩ := q
  simp [zerosV, spl]
  repeat refine ⟨by first | assumption | omega | (intros; omega), ?_⟩
  refine hK3 _ ?_
  try clear hK3 K3
  refine vwp_sq [1, 2, 3] fun K4 hK4 => vwp_region hT ?_
  simp [zerosV, spl]
  repeat refine ⟨by first | assumption | omega | (intros; omega), ?_⟩
  refine vcall_z [] (showL_spec x9 3 0 (by decide) (by decide) (by decide)) (by
      intro r ob' q
      rw [sh2, resV, if_pos rfl] at q
      obtain ⟨rfl, rfl⟩ := q
      simp [rowsV]) ?_ (ha := by simp [x9, y9, xs9, v9, rowsV])
  intro r ob' q
  rw [sh2, resV, if_pos rfl] at q
  obtain ⟨rfl, rfl⟩ := q
  simp [zerosV, spl]
  repeat refine ⟨by first | assumption | omega | (intros; omega), ?_⟩
  refine hK4 _ ?_
  try clear hK4 K4
  refine vwp_sq [1, 2, 3, 4, 5] fun K5 hK5 => vwp_region hT ?_
  simp [zerosV, spl]
  repeat refine ⟨by first | assumption | omega | (intros; omega), ?_⟩
  refine vcall_z [] (showL_spec x9 1 16 (by decide) (by decide) (by decide)) (by
      intro r ob' q
      rw [sh3, resV, if_neg (by decide)] at q
      obtain ⟨_, rfl, rfl⟩ := q
      simp [rowsV]) ?_ (ha := by simp [x9, y9, xs9, v9, rowsV])
  intro r ob' q
  rw [sh3, resV, if_neg (by decide)] at q
  obtain ⟨_, rfl, rfl⟩ := q
  simp [zerosV, spl]
  repeat refine ⟨by first | assumption | omega | (intros; omega), ?_⟩
  refine hK5 _ ?_
  try clear hK5 K5
  refine vwp_sq [1, 2, 3, 4, 5, 7] fun K6 hK6 => vwp_region hT ?_
  simp [zerosV, spl]
  repeat refine ⟨by first | assumption | omega | (intros; omega), ?_⟩
  refine hK6 _ ?_
  try clear hK6 K6
  refine vwp_sq [1, 2, 3, 4, 5, 7] fun K7 hK7 => vwp_region hT ?_
  simp [zerosV, spl]
  repeat refine ⟨by first | assumption | omega | (intros; omega), ?_⟩
  refine vcall_z [] (showL_spec y9 1 0 (by decide) (by decide) (by decide)) (by
      intro r ob' q
      rw [sh4, resV, if_neg (by decide)] at q
      obtain ⟨_, rfl, rfl⟩ := q
      simp [rowsV]) ?_ (ha := by simp [x9, y9, xs9, v9, rowsV])
  intro r ob' q
  rw [sh4, resV, if_neg (by decide)] at q
  obtain ⟨_, rfl, rfl⟩ := q
  simp [zerosV, spl]
  repeat refine ⟨by first | assumption | omega | (intros; omega), ?_⟩
  refine hK7 _ ?_
  try clear hK7 K7
  refine vwp_cut_s (fun _ : Unit => ⟨[(2, .ptr 0 6 0), (3, .int .i64 0), (4, .ptr 1 6 0), (5, .int .i64 0), (7, .int .i64 1), (9, .int .i64 6), (10, .ptr 2 6 0)], [.live v9.cells, .live Vw.zero.cells, .live v9.cells]⟩) (fun _ => True) (fun K8 hK8 => ?_) ?_
  · refine vwp_live [2, 3, 4, 5, 7, 9] (vwp_region hT ?_)
    simp [zerosV, spl]
    repeat refine ⟨by first | assumption | omega | (intros; omega), ?_⟩
    exact hK8 () _ (((((((((((Gh.freeze 4 rfl (by simp [rowsV])).trans (Gh.cellFs 4 7 0 rfl rfl rfl rfl)).trans ((Gh.freeze 5 rfl (by simp [rowsV])).trans (Gh.cellFs 5 7 1 rfl rfl rfl rfl))).trans ((Gh.freeze 6 rfl (by simp [rowsV])).trans (Gh.cellFs 6 7 5 rfl rfl rfl rfl))).trans ((Gh.freeze 8 rfl (by simp [rowsV])).trans (Gh.cellFs 8 11 0 rfl rfl rfl rfl))).trans ((Gh.freeze 9 rfl (by simp [rowsV])).trans (Gh.cellFs 9 11 1 rfl rfl rfl rfl))).trans ((Gh.freeze 10 rfl (by simp [rowsV])).trans (Gh.cellFs 10 11 5 rfl rfl rfl rfl))).trans ((Gh.freeze 14 rfl (by simp [rowsV])).trans (Gh.cellFs 14 17 0 rfl rfl rfl rfl))).trans ((Gh.freeze 15 rfl (by simp [rowsV])).trans (Gh.cellFs 15 17 1 rfl rfl rfl rfl))).trans ((Gh.freeze 16 rfl (by simp [rowsV])).trans (Gh.cellFs 16 17 5 rfl rfl rfl rfl))).trans (Gh.to_k [2, 3, 4, 5, 7, 9, 10] [7, 11, 17] (hh := by simp [rowsV]))) trivial
  · rintro _ _
    refine vwp_sq [2, 3, 4, 5, 7, 9, 10] fun K9 hK9 => vwp_storm hT hm [.win 0 0, .mv, .win 0 1, .mv, .pure, .pure, .win 2 2, .pure, .pure, .win 2 2, .mv, .win 2 3, .mv, .pure, .pure, .pure, .win 4 4, .pure, .pure, .pure, .win 4 4, .pure, .pure, .pure, .win 4 4, .pure, .pure, .win 4 4, .win 4 4, .mv, .pure, .pure, .win 5 5, .win 5 5, .mv, .pure, .pure, .pure, .win 6 6, .win 6 6, .lit, .mv, .win 7 7, .pure, .pure] [[], [0], [], [0, 1, 2], [0, 1, 2, 3], [0, 1, 2, 3, 4], [0, 1, 2, 3, 4, 5], [0, 1, 2, 3, 4, 5, 6], [0, 1, 2, 3, 4, 5, 6, 7], [0, 1, 2, 3, 4, 5, 6, 7, 8], [0, 1, 2, 3, 4, 5, 6, 7, 8, 9], [0, 1, 2, 3, 4, 5, 6, 7, 8], [0, 1, 2, 3, 4, 5, 6, 7, 8, 9, 10, 11], [0, 1, 2, 3, 4, 5, 6, 7, 8, 9, 10, 11, 12], [0, 1, 2, 3, 4, 5, 6, 7, 8, 9, 10, 11, 12, 13], [0, 1, 2, 3, 4, 5, 6, 7, 8, 9, 10, 11, 12, 13, 14], [0, 1, 2, 3, 4, 5, 6, 7, 8, 9, 10, 11, 12, 13, 14, 15], [0, 1, 2, 3, 4, 5, 6, 7, 8, 9, 10, 11, 12, 13, 14, 15, 16], [0, 1, 2, 3, 4, 5, 6, 7, 8, 9, 10, 11, 12, 13, 14, 15, 16, 17], [0, 1, 2, 3, 4, 5, 6, 7, 8, 9, 10, 11, 12, 13, 14, 15, 16, 17, 18], [0, 1, 2, 3, 4, 5, 6, 7, 8, 9, 10, 11, 12, 13, 14, 15, 16, 17, 18, 19], [0, 1, 2, 3, 4, 5, 6, 7, 8, 9, 10, 11, 12, 13, 14, 15, 16, 17, 18, 19, 20], [0, 1, 2, 3, 4, 5, 6, 7, 8, 9, 10, 11, 12, 13, 14, 15, 16, 17, 18, 19, 20, 21], [0, 1, 2, 3, 4, 5, 6, 7, 8, 9, 10, 11, 12, 13, 14, 15, 16, 17, 18, 19, 20, 21, 22], [0, 1, 2, 3, 4, 5, 6, 7, 8, 9, 10, 11, 12, 13, 14, 15, 16, 17, 18, 19, 20, 21, 22, 23], [0, 1, 2, 3, 4, 5, 6, 7, 8, 9, 10, 11, 12, 13, 14, 15, 16, 17, 18, 19, 20, 21, 22, 23, 24], [0, 1, 2, 3, 4, 5, 6, 7, 8, 9, 10, 11, 12, 13, 14, 15, 16, 17, 18, 19, 20, 21, 22, 23, 24, 25], [0, 1, 2, 3, 4, 5, 6, 7, 8, 9, 10, 11, 12, 13, 14, 15, 16, 17, 18, 19, 20, 21, 22, 23, 24, 25, 26], [0, 1, 2, 3, 4, 5, 6, 7, 8, 9, 10, 11, 12, 13, 14, 15, 16, 17, 18, 19, 20, 21, 22, 23, 24, 25, 26], [0, 1, 2, 3, 4, 5, 6, 7, 8, 9, 10, 11, 12, 13, 14, 15, 16, 17, 18, 19, 20, 21, 22, 23, 24, 25, 26, 27, 28], [0, 1, 2, 3, 4, 5, 6, 7, 8, 9, 10, 11, 12, 13, 14, 15, 16, 17, 18, 19, 20, 21, 22, 23, 24, 25, 26, 27, 28, 29], [0, 1, 2, 3, 4, 5, 6, 7, 8, 9, 10, 11, 12, 13, 14, 15, 16, 17, 18, 19, 20, 21, 22, 23, 24, 25, 26, 27, 28, 29, 30], [0, 1, 2, 3, 4, 5, 6, 7, 8, 9, 10, 11, 12, 13, 14, 15, 16, 17, 18, 19, 20, 21, 22, 23, 24, 25, 26, 27, 28, 29, 30, 31], [0, 1, 2, 3, 4, 5, 6, 7, 8, 9, 10, 11, 12, 13, 14, 15, 16, 17, 18, 19, 20, 21, 22, 23, 24, 25, 26, 27, 28, 29, 30, 31], [0, 1, 2, 3, 4, 5, 6, 7, 8, 9, 10, 11, 12, 13, 14, 15, 16, 17, 18, 19, 20, 21, 22, 23, 24, 25, 26, 27, 28, 29, 30, 31, 32, 33], [0, 1, 2, 3, 4, 5, 6, 7, 8, 9, 10, 11, 12, 13, 14, 15, 16, 17, 18, 19, 20, 21, 22, 23, 24, 25, 26, 27, 28, 29, 30, 31, 32, 33, 34], [0, 1, 2, 3, 4, 5, 6, 7, 8, 9, 10, 11, 12, 13, 14, 15, 16, 17, 18, 19, 20, 21, 22, 23, 24, 25, 26, 27, 28, 29, 30, 31, 32, 33, 34, 35], [0, 1, 2, 3, 4, 5, 6, 7, 8, 9, 10, 11, 12, 13, 14, 15, 16, 17, 18, 19, 20, 21, 22, 23, 24, 25, 26, 27, 28, 29, 30, 31, 32, 33, 34, 35, 36], [0, 1, 2, 3, 4, 5, 6, 7, 8, 9, 10, 11, 12, 13, 14, 15, 16, 17, 18, 19, 20, 21, 22, 23, 24, 25, 26, 27, 28, 29, 30, 31, 32, 33, 34, 35, 36, 37], [0, 1, 2, 3, 4, 5, 6, 7, 8, 9, 10, 11, 12, 13, 14, 15, 16, 17, 18, 19, 20, 21, 22, 23, 24, 25, 26, 27, 28, 29, 30, 31, 32, 33, 34, 35, 36, 37], [0, 1, 2, 3, 4, 5, 6, 7, 8, 9, 10, 11, 12, 13, 14, 15, 16, 17, 18, 19, 20, 21, 22, 23, 24, 25, 26, 27, 28, 29, 30, 31, 32, 33, 34, 35, 36, 37, 38, 39], [0, 1, 2, 3, 4, 5, 6, 7, 8, 9, 10, 11, 12, 13, 14, 15, 16, 17, 18, 19, 20, 21, 22, 23, 24, 25, 26, 27, 28, 29, 30, 31, 32, 33, 34, 35, 36, 37, 38, 39, 40], [0, 1, 2, 3, 4, 5, 6, 7, 8, 9, 10, 11, 12, 13, 14, 15, 16, 17, 18, 19, 20, 21, 22, 23, 24, 25, 26, 27, 28, 29, 30, 31, 32, 33, 34, 35, 36, 37, 38, 39, 40, 41], [0, 1, 2, 3, 4, 5, 6, 7, 8, 9, 10, 11, 12, 13, 14, 15, 16, 17, 18, 19, 20, 21, 22, 23, 24, 25, 26, 27, 28, 29, 30, 31, 32, 33, 34, 35, 36, 37, 38, 39, 40, 41, 42], [0, 1, 2, 3, 4, 5, 6, 7, 8, 9, 10, 11, 12, 13, 14, 15, 16, 17, 18, 19, 20, 21, 22, 23, 24, 25, 26, 27, 28, 29, 30, 31, 32, 33, 34, 35, 36, 37, 38, 39, 40, 41, 42, 43]] (by kernel_rfl) ?_
    simp [zerosV, spl]
    refine ⟨.agg v9.cells, [.live v9.cells, .live Vw.zero.cells, .live v9.cells], fun sl => ?_, ?_⟩
    · refine vcall_k [] (own_spec v9 (by decide)) ?_ (ha := by simp [x9, y9, xs9, v9, rowsV])
      rintro r ob' ⟨rfl, rfl⟩
      simp
    simp [zerosV, spl]
    refine ⟨.bool true, [.live v9.cells, .live Vw.zero.cells, .live v9.cells], fun sl => ?_, ?_⟩
    · refine vcall_z [] (dsame_spec v9 v9 (by decide) (by decide)) (by rintro r ob' ⟨rfl, rfl⟩; simp) ?_ (ha := by simp [x9, y9, xs9, v9, rowsV])
      rintro r ob' ⟨rfl, rfl⟩
      simp
    simp [zerosV, spl]
    refine ⟨.agg Vw.zero.cells, [.live v9.cells, .live Vw.zero.cells, .live v9.cells], fun sl => ?_, ?_⟩
    · refine vcall_k [] (own_spec Vw.zero (by decide)) ?_ (ha := by simp [x9, y9, xs9, v9, rowsV])
      rintro r ob' ⟨rfl, rfl⟩
      simp
    simp [zerosV, spl]
    refine ⟨.bool true, [.live v9.cells, .live Vw.zero.cells, .live v9.cells], fun sl => ?_, ?_⟩
    · refine vcall_z [] (nilaggV (dsame_spec Vw.zero Vw.zero (by decide) (by decide))) (by rintro r ob' ⟨rfl, rfl⟩; simp) ?_ (ha := by simp [x9, y9, xs9, v9, rowsV])
      rintro r ob' ⟨rfl, rfl⟩
      simp
    simp [zerosV, spl]
    refine ⟨.bool true, [.live v9.cells, .live Vw.zero.cells, .live v9.cells], fun sl => ?_, ?_⟩
    · refine vcall_z [] (lsame_spec v9 v9 (by decide) (by decide)) (by rintro r ob' ⟨rfl, rfl⟩; simp) ?_ (ha := by simp [x9, y9, xs9, v9, rowsV])
      rintro r ob' ⟨rfl, rfl⟩
      simp
    simp [zerosV, spl]
    refine ⟨.bool false, [.live v9.cells, .live Vw.zero.cells, .live v9.cells], fun sl => ?_, ?_⟩
    · refine vcall_z [] (lsame_spec Vw.zero v9 (by decide) (by decide)) (by rintro r ob' ⟨rfl, rfl⟩; simp) ?_ (ha := by simp [x9, y9, xs9, v9, rowsV])
      rintro r ob' ⟨rfl, rfl⟩
      simp
    simp [zerosV, spl]
    refine ⟨.int .i64 17, [.live v9.cells, .live Vw.zero.cells, .live v9.cells], fun sl => ?_, ?_⟩
    · refine vcall_z [] (released_spec [Vw.zero, v9] (by decide) small9) (by rw [rel9]; rintro r ob' ⟨rfl, rfl⟩; simp) ?_ (ha := by simp [x9, y9, xs9, v9, rowsV])
      rw [rel9]
      rintro r ob' ⟨rfl, rfl⟩
      simp
    simp [zerosV, spl]
    refine hK9 _ ?_
    try clear hK9 K9
    refine vwp_ret (hR _ _ ?_)
    exact ret_k [0] [] ([]) (.bool true) (⟨rfl, rfl⟩)
end Go.Proofs.Ytmpakfpmmkfgpaa
