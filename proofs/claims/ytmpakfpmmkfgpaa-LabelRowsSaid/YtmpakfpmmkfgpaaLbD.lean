/- Go's sorts, by the library's contracts. -/
import Derived.Test.YtmpakfpmmkfgpaaLbC
import Derived.Shelf.SortM.Plain
import Derived.Shelf.SortM.SortNone
import Derived.Shelf.SlGeneric
namespace Go.Proofs.Ytmpakfpmmkfgpaa
open Go Go.VX Go.RowKit
set_option linter.unusedVariables false
set_option linter.unusedSimpArgs false
set_option maxHeartbeats 20000000
set_option maxRecDepth 100000
open Go.Shelf Go.Sort Go.Proofs
def lays5_ren : Go.Shelf.Ren := ⟨(fun | 5 => 24 | 8 => 35 | 7 => 41 | 19 => 51 | 20 => 52 | 10 => 54 | 11 => 55 | 12 => 56 | 13 => 57 | 14 => 58 | 15 => 59 | 16 => 60 | 17 => 61 | 18 => 62 | 30 => 68 | 31 => 64 | 32 => 65 | 33 => 69 | 34 => 70 | 35 => 36 | 40 => 72 | n => n), (fun | 23 => 31 | 25 => 3 | 3 => 3 | 32 => 91 | 22 => 31 | 0 => 0 | 44 => 107 | 46 => 109 | 4 => 4 | 36 => 101 | 35 => 100 | 41 => 68 | 5 => 5 | 9 => 9 | 53 => 117 | 57 => 121 | 63 => 125 | 64 => 126 | n => n), (fun | n => n)⟩
theorem lays5 : SlLaysM.n5 Try.prog lays5_ren where
  mixed := by kernel_rfl
  f5 := ⟨Try.f24.name, by kernel_rfl, Try.func24.trans (congrArg some (by kernel_rfl))⟩
  f7 := ⟨Try.f41.name, by kernel_rfl, Try.func41.trans (congrArg some (by kernel_rfl))⟩
  f8 := Try.func35.trans (congrArg some (by kernel_rfl))
  f10 := ⟨Try.f54.name, by kernel_rfl, Try.func54.trans (congrArg some (by kernel_rfl))⟩
  f11 := ⟨Try.f55.name, by kernel_rfl, Try.func55.trans (congrArg some (by kernel_rfl))⟩
  f12 := ⟨Try.f56.name, by kernel_rfl, Try.func56.trans (congrArg some (by kernel_rfl))⟩
  f13 := ⟨Try.f57.name, by kernel_rfl, Try.func57.trans (congrArg some (by kernel_rfl))⟩
  f14 := ⟨Try.f58.name, by kernel_rfl, Try.func58.trans (congrArg some (by kernel_rfl))⟩
  f15 := ⟨Try.f59.name, by kernel_rfl, Try.func59.trans (congrArg some (by kernel_rfl))⟩
  f16 := ⟨Try.f60.name, by kernel_rfl, Try.func60.trans (congrArg some (by kernel_rfl))⟩
  f17 := ⟨Try.f61.name, by kernel_rfl, Try.func61.trans (congrArg some (by kernel_rfl))⟩
  f18 := ⟨Try.f62.name, by kernel_rfl, Try.func62.trans (congrArg some (by kernel_rfl))⟩
  f19 := Try.func51.trans (congrArg some (by kernel_rfl))
  f20 := Try.func52.trans (congrArg some (by kernel_rfl))
  f30 := ⟨Try.f68.name, by kernel_rfl, Try.func68.trans (congrArg some (by kernel_rfl))⟩
  f31 := Try.func64.trans (congrArg some (by kernel_rfl))
  f32 := Try.func65.trans (congrArg some (by kernel_rfl))
  f33 := ⟨Try.f69.name, by kernel_rfl, Try.func69.trans (congrArg some (by kernel_rfl))⟩
  f34 := ⟨Try.f70.name, by kernel_rfl, Try.func70.trans (congrArg some (by kernel_rfl))⟩
  f35 := ⟨Try.f36.name, by kernel_rfl, Try.func36.trans (congrArg some (by kernel_rfl))⟩
  f40 := ⟨Try.f72.name, by kernel_rfl, Try.func72.trans (congrArg some (by kernel_rfl))⟩
  t0 := Try.underlying0
  a0 := Try.isAgg0
  z0 := Try.sizeOf0
  v0 := Try.zeroValue0
  t3 := Try.underlying3
  a3 := Try.isAgg3
  z3 := Try.sizeOf3
  v3 := Try.zeroValue3
  t4 := Try.underlying4
  a4 := Try.isAgg4
  z4 := Try.sizeOf4
  v4 := Try.zeroValue4
  t5 := Try.underlying5
  a5 := Try.isAgg5
  z5 := Try.sizeOf5
  v5 := Try.zeroValue5
  t9 := Try.underlying9
  a9 := Try.isAgg9
  z9 := Try.sizeOf9
  v9 := Try.zeroValue9
  t22 := Try.underlying31
  a22 := Try.isAgg31
  z22 := Try.sizeOf31
  v22 := Try.zeroValue31
  t23 := Try.underlying31
  a23 := Try.isAgg31
  z23 := Try.sizeOf31
  v23 := Try.zeroValue31
  t25 := Try.underlying3
  a25 := Try.isAgg3
  z25 := Try.sizeOf3
  v25 := Try.zeroValue3
  t32 := Try.underlying91
  a32 := Try.isAgg91
  z32 := Try.sizeOf91
  v32 := Try.zeroValue91
  t35 := Try.underlying100
  a35 := Try.isAgg100
  z35 := Try.sizeOf100
  v35 := Try.zeroValue100
  t36 := Try.underlying101
  a36 := Try.isAgg101
  z36 := Try.sizeOf101
  v36 := Try.zeroValue101
  t41 := Try.underlying68
  a41 := Try.isAgg68
  z41 := Try.sizeOf68
  v41 := Try.zeroValue68
  t44 := Try.underlying107
  a44 := Try.isAgg107
  z44 := Try.sizeOf107
  v44 := Try.zeroValue107
  t46 := Try.underlying109
  a46 := Try.isAgg109
  z46 := Try.sizeOf109
  v46 := Try.zeroValue109
  t53 := Try.underlying117
  a53 := Try.isAgg117
  z53 := Try.sizeOf117
  v53 := Try.zeroValue117
  t57 := Try.underlying121
  a57 := Try.isAgg121
  z57 := Try.sizeOf121
  v57 := Try.zeroValue121
  t63 := Try.underlying125
  a63 := Try.isAgg125
  z63 := Try.sizeOf125
  v63 := Try.zeroValue125
  t64 := Try.underlying126
  a64 := Try.isAgg126
  z64 := Try.sizeOf126
  v64 := Try.zeroValue126
def laysF_ren : Go.Shelf.Ren := ⟨(fun | 6 => 18 | 15 => 35 | 14 => 34 | 28 => 51 | 29 => 52 | 20 => 43 | 21 => 44 | 22 => 45 | 23 => 46 | 24 => 47 | 25 => 48 | 26 => 49 | 27 => 50 | 46 => 63 | 47 => 64 | 48 => 65 | 49 => 66 | 50 => 67 | 57 => 71 | n => n), (fun | 22 => 22 | 24 => 57 | 25 => 73 | 3 => 3 | 39 => 91 | 0 => 0 | 53 => 107 | 55 => 109 | 4 => 4 | 46 => 101 | 45 => 100 | 50 => 68 | 5 => 5 | 9 => 9 | 66 => 117 | 70 => 121 | 76 => 125 | 77 => 126 | n => n), (fun | n => n)⟩
theorem laysF : SlLaysF0.n6 Try.prog laysF_ren where
  mixed := by kernel_rfl
  f6 := ⟨Try.f18.name, by kernel_rfl, Try.func18.trans (congrArg some (by kernel_rfl))⟩
  f14 := ⟨Try.f34.name, by kernel_rfl, Try.func34.trans (congrArg some (by kernel_rfl))⟩
  f15 := Try.func35.trans (congrArg some (by kernel_rfl))
  f20 := ⟨Try.f43.name, by kernel_rfl, Try.func43.trans (congrArg some (by kernel_rfl))⟩
  f21 := ⟨Try.f44.name, by kernel_rfl, Try.func44.trans (congrArg some (by kernel_rfl))⟩
  f22 := ⟨Try.f45.name, by kernel_rfl, Try.func45.trans (congrArg some (by kernel_rfl))⟩
  f23 := ⟨Try.f46.name, by kernel_rfl, Try.func46.trans (congrArg some (by kernel_rfl))⟩
  f24 := ⟨Try.f47.name, by kernel_rfl, Try.func47.trans (congrArg some (by kernel_rfl))⟩
  f25 := ⟨Try.f48.name, by kernel_rfl, Try.func48.trans (congrArg some (by kernel_rfl))⟩
  f26 := ⟨Try.f49.name, by kernel_rfl, Try.func49.trans (congrArg some (by kernel_rfl))⟩
  f27 := ⟨Try.f50.name, by kernel_rfl, Try.func50.trans (congrArg some (by kernel_rfl))⟩
  f28 := Try.func51.trans (congrArg some (by kernel_rfl))
  f29 := Try.func52.trans (congrArg some (by kernel_rfl))
  f46 := ⟨Try.f63.name, by kernel_rfl, Try.func63.trans (congrArg some (by kernel_rfl))⟩
  f47 := Try.func64.trans (congrArg some (by kernel_rfl))
  f48 := Try.func65.trans (congrArg some (by kernel_rfl))
  f49 := ⟨Try.f66.name, by kernel_rfl, Try.func66.trans (congrArg some (by kernel_rfl))⟩
  f50 := ⟨Try.f67.name, by kernel_rfl, Try.func67.trans (congrArg some (by kernel_rfl))⟩
  f57 := ⟨Try.f71.name, by kernel_rfl, Try.func71.trans (congrArg some (by kernel_rfl))⟩
  t0 := Try.underlying0
  a0 := Try.isAgg0
  z0 := Try.sizeOf0
  v0 := Try.zeroValue0
  t3 := Try.underlying3
  a3 := Try.isAgg3
  z3 := Try.sizeOf3
  v3 := Try.zeroValue3
  t4 := Try.underlying4
  a4 := Try.isAgg4
  z4 := Try.sizeOf4
  v4 := Try.zeroValue4
  t5 := Try.underlying5
  a5 := Try.isAgg5
  z5 := Try.sizeOf5
  v5 := Try.zeroValue5
  t9 := Try.underlying9
  a9 := Try.isAgg9
  z9 := Try.sizeOf9
  v9 := Try.zeroValue9
  t22 := Try.underlying22
  a22 := Try.isAgg22
  z22 := Try.sizeOf22
  v22 := Try.zeroValue22
  t25 := Try.underlying73
  a25 := Try.isAgg73
  z25 := Try.sizeOf73
  v25 := Try.zeroValue73
  t39 := Try.underlying91
  a39 := Try.isAgg91
  z39 := Try.sizeOf91
  v39 := Try.zeroValue91
  t45 := Try.underlying100
  a45 := Try.isAgg100
  z45 := Try.sizeOf100
  v45 := Try.zeroValue100
  t46 := Try.underlying101
  a46 := Try.isAgg101
  z46 := Try.sizeOf101
  v46 := Try.zeroValue101
  t50 := Try.underlying68
  a50 := Try.isAgg68
  z50 := Try.sizeOf68
  v50 := Try.zeroValue68
  t53 := Try.underlying107
  a53 := Try.isAgg107
  z53 := Try.sizeOf107
  v53 := Try.zeroValue107
  t55 := Try.underlying109
  a55 := Try.isAgg109
  z55 := Try.sizeOf109
  v55 := Try.zeroValue109
  t66 := Try.underlying117
  a66 := Try.isAgg117
  z66 := Try.sizeOf117
  v66 := Try.zeroValue117
  t70 := Try.underlying121
  a70 := Try.isAgg121
  z70 := Try.sizeOf121
  v70 := Try.zeroValue121
  t76 := Try.underlying125
  a76 := Try.isAgg125
  z76 := Try.sizeOf125
  v76 := Try.zeroValue125
  t77 := Try.underlying126
  a77 := Try.isAgg126
  z77 := Try.sizeOf126
  v77 := Try.zeroValue126

theorem sort_spec (L : List Int) (hL : L.length < 1099511627776) : VC P 24 [.sl 0 L.length 1 0 L.length] [.live (L.map (.int .i64))] (fun r ob' => r = .tup [] ∧ ob' = [.live ((srt L).map (.int .i64))]) :=
  VC_inplace (by simp) ent_24 (fun b cap w hH hb => AnyM.slices_Sort_int lays5 b 0 cap L w (fun j hj => by simpa using hH j (by simpa using hj)) hb (by omega)) (fun _ p cap w => AnyM.slices_Sort_int_none lays5 p cap w)
theorem isNaN_ci (x : Int) : VC P 36 [.int .i64 x] [] (fun r ob' => r = .bool false ∧ ob' = []) := by
  refine VC_of_vwp_k ent_36 Try.func36 rfl (by simp) fun R hR => ?_
  refine vwp_sq [0] fun K1 hK1 => vwp_region hT ?_
  simp
  refine hK1 _ ?_
  try clear hK1 K1
  refine vwp_sq [0] fun K2 hK2 => vwp_region hT ?_
  simp
  refine hK2 _ ?_
  try clear hK2 K2
  refine vwp_ret (hR _ _ ?_)
  exact ret_k [2] [] ([]) (.bool false) (⟨rfl, rfl⟩)
theorem cmp_ci (x y : Int) : VC P 20 [.int .i64 x, .int .i64 y] [] (fun r ob' => r = .int .i64 (cmpN x y) ∧ ob' = []) := by
  refine VC_of_vwp_k ent_20 Try.func20 rfl (by simp) fun R hR => ?_
  refine vwp_sq [0, 1] fun K1 hK1 => vwp_region hT ?_
  simp
  refine hK1 _ ?_
  try clear hK1 K1
  refine vwp_sq [0, 1] fun K2 hK2 => vwp_region hT ?_
  simp
  refine vcall_k [] (isNaN_ci x) ?_
  rintro r ob' ⟨rfl, rfl⟩
  simp
  refine hK2 _ ?_
  try clear hK2 K2
  refine vwp_sq [0, 1, 5] fun K3 hK3 => vwp_region hT ?_
  simp
  refine vcall_k [] (isNaN_ci y) ?_
  rintro r ob' ⟨rfl, rfl⟩
  simp
  refine hK3 _ ?_
  try clear hK3 K3
  refine vwp_seq_k fun K4 hK4 => ?_
  refine vwp_sq [0, 1, 5, 6] fun K5 hK5 => vwp_region hT ?_
  simp
  refine hK5 _ ?_
  try clear hK5 K5
  refine vwp_cond (by first | rfl | (simp; rfl)) (fun h1 => ?_) fun h1 => ?_
  · simp -failIfUnchanged at h1; all_goals
   refine vwp_seq_k fun K6 hK6 => ?_
   refine vwp_sq [6] fun K7 hK7 => vwp_region hT ?_
   simp
   refine hK7 _ ?_
   try clear hK7 K7
   refine vwp_cond (by first | rfl | (simp; rfl)) (fun h2 => ?_) fun h2 => ?_
   · simp -failIfUnchanged at h2; all_goals
    refine vwp_sq [] fun K8 hK8 => vwp_region hT ?_
    simp
    refine hK8 _ ?_
    try clear hK8 K8
    refine vwp_ret (hR _ _ ?_)
    exact ret_k [4] [] ([]) (.int .i64 (cmpN x y)) (⟨rfl, rfl⟩) (hr := by simp [cmpN]; omega)
   · simp -failIfUnchanged at h2; all_goals
    refine vwp_skip ?_
    refine hK6 _ ?_
    try clear hK6 K6
    refine vwp_sq [] fun K9 hK9 => vwp_region hT ?_
    simp
    refine hK9 _ ?_
    try clear hK9 K9
    refine vwp_ret (hR _ _ ?_)
    exact ret_k [4] [] ([]) (.int .i64 (cmpN x y)) (⟨rfl, rfl⟩) (hr := by simp [cmpN]; omega)
  · simp -failIfUnchanged at h1; all_goals
   refine vwp_skip ?_
   refine hK4 _ ?_
   try clear hK4 K4
   refine vwp_seq_k fun K10 hK10 => ?_
   refine vwp_sq [0, 1, 6] fun K11 hK11 => vwp_region hT ?_
   simp
   refine hK11 _ ?_
   try clear hK11 K11
   refine vwp_cond (by first | rfl | (simp; rfl)) (fun h3 => ?_) fun h3 => ?_
   · simp -failIfUnchanged at h3; all_goals
    refine vwp_sq [] fun K12 hK12 => vwp_region hT ?_
    simp
    refine hK12 _ ?_
    try clear hK12 K12
    refine vwp_ret (hR _ _ ?_)
    exact ret_k [4] [] ([]) (.int .i64 (cmpN x y)) (⟨rfl, rfl⟩) (hr := by simp [cmpN]; omega)
   · simp -failIfUnchanged at h3; all_goals
    refine vwp_skip ?_
    refine hK10 _ ?_
    try clear hK10 K10
    refine vwp_seq_k fun K13 hK13 => ?_
    refine vwp_sq [0, 1] fun K14 hK14 => vwp_region hT ?_
    simp
    refine hK14 _ ?_
    try clear hK14 K14
    refine vwp_cond (by first | rfl | (simp; rfl)) (fun h4 => ?_) fun h4 => ?_
    · simp -failIfUnchanged at h4; all_goals
     refine vwp_sq [] fun K15 hK15 => vwp_region hT ?_
     simp
     refine hK15 _ ?_
     try clear hK15 K15
     refine vwp_ret (hR _ _ ?_)
     exact ret_k [4] [] ([]) (.int .i64 (cmpN x y)) (⟨rfl, rfl⟩) (hr := by simp [cmpN]; omega)
    · simp -failIfUnchanged at h4; all_goals
     refine vwp_skip ?_
     refine hK13 _ ?_
     try clear hK13 K13
     refine vwp_seq_k fun K16 hK16 => ?_
     refine vwp_sq [0, 1] fun K17 hK17 => vwp_region hT ?_
     simp
     refine hK17 _ ?_
     try clear hK17 K17
     refine vwp_cond (by first | rfl | (simp; rfl)) (fun h5 => ?_) fun h5 => ?_
     · simp -failIfUnchanged at h5; all_goals
      refine vwp_sq [] fun K18 hK18 => vwp_region hT ?_
      simp
      refine hK18 _ ?_
      try clear hK18 K18
      refine vwp_ret (hR _ _ ?_)
      exact ret_k [4] [] ([]) (.int .i64 (cmpN x y)) (⟨rfl, rfl⟩) (hr := by simp [cmpN]; omega)
     · simp -failIfUnchanged at h5; all_goals
      refine vwp_skip ?_
      refine hK16 _ ?_
      try clear hK16 K16
      refine vwp_sq [] fun K19 hK19 => vwp_region hT ?_
      simp
      refine hK19 _ ?_
      try clear hK19 K19
      refine vwp_ret (hR _ _ ?_)
      exact ret_k [4] [] ([]) (.int .i64 (cmpN x y)) (⟨rfl, rfl⟩) (hr := by simp [cmpN]; omega)
theorem isNaN_cl (x : Int) : VC P 53 [.int .i64 x] [] (fun r ob' => r = .bool false ∧ ob' = []) := by
  refine VC_of_vwp_k ent_53 Try.func53 rfl (by simp) fun R hR => ?_
  refine vwp_sq [0] fun K1 hK1 => vwp_region hT ?_
  simp
  refine hK1 _ ?_
  try clear hK1 K1
  refine vwp_sq [0] fun K2 hK2 => vwp_region hT ?_
  simp
  refine hK2 _ ?_
  try clear hK2 K2
  refine vwp_ret (hR _ _ ?_)
  exact ret_k [2] [] ([]) (.bool false) (⟨rfl, rfl⟩)
theorem cmp_cl (x y : Int) : VC P 40 [.int .i64 x, .int .i64 y] [] (fun r ob' => r = .int .i64 (cmpN x y) ∧ ob' = []) := by
  refine VC_of_vwp_k ent_40 Try.func40 rfl (by simp) fun R hR => ?_
  refine vwp_sq [0, 1] fun K1 hK1 => vwp_region hT ?_
  simp
  refine hK1 _ ?_
  try clear hK1 K1
  refine vwp_sq [0, 1] fun K2 hK2 => vwp_region hT ?_
  simp
  refine vcall_k [] (isNaN_cl x) ?_
  rintro r ob' ⟨rfl, rfl⟩
  simp
  refine hK2 _ ?_
  try clear hK2 K2
  refine vwp_sq [0, 1, 5] fun K3 hK3 => vwp_region hT ?_
  simp
  refine vcall_k [] (isNaN_cl y) ?_
  rintro r ob' ⟨rfl, rfl⟩
  simp
  refine hK3 _ ?_
  try clear hK3 K3
  refine vwp_seq_k fun K4 hK4 => ?_
  refine vwp_sq [0, 1, 5, 6] fun K5 hK5 => vwp_region hT ?_
  simp
  refine hK5 _ ?_
  try clear hK5 K5
  refine vwp_cond (by first | rfl | (simp; rfl)) (fun h1 => ?_) fun h1 => ?_
  · simp -failIfUnchanged at h1; all_goals
   refine vwp_seq_k fun K6 hK6 => ?_
   refine vwp_sq [6] fun K7 hK7 => vwp_region hT ?_
   simp
   refine hK7 _ ?_
   try clear hK7 K7
   refine vwp_cond (by first | rfl | (simp; rfl)) (fun h2 => ?_) fun h2 => ?_
   · simp -failIfUnchanged at h2; all_goals
    refine vwp_sq [] fun K8 hK8 => vwp_region hT ?_
    simp
    refine hK8 _ ?_
    try clear hK8 K8
    refine vwp_ret (hR _ _ ?_)
    exact ret_k [4] [] ([]) (.int .i64 (cmpN x y)) (⟨rfl, rfl⟩) (hr := by simp [cmpN]; omega)
   · simp -failIfUnchanged at h2; all_goals
    refine vwp_skip ?_
    refine hK6 _ ?_
    try clear hK6 K6
    refine vwp_sq [] fun K9 hK9 => vwp_region hT ?_
    simp
    refine hK9 _ ?_
    try clear hK9 K9
    refine vwp_ret (hR _ _ ?_)
    exact ret_k [4] [] ([]) (.int .i64 (cmpN x y)) (⟨rfl, rfl⟩) (hr := by simp [cmpN]; omega)
  · simp -failIfUnchanged at h1; all_goals
   refine vwp_skip ?_
   refine hK4 _ ?_
   try clear hK4 K4
   refine vwp_seq_k fun K10 hK10 => ?_
   refine vwp_sq [0, 1, 6] fun K11 hK11 => vwp_region hT ?_
   simp
   refine hK11 _ ?_
   try clear hK11 K11
   refine vwp_cond (by first | rfl | (simp; rfl)) (fun h3 => ?_) fun h3 => ?_
   · simp -failIfUnchanged at h3; all_goals
    refine vwp_sq [] fun K12 hK12 => vwp_region hT ?_
    simp
    refine hK12 _ ?_
    try clear hK12 K12
    refine vwp_ret (hR _ _ ?_)
    exact ret_k [4] [] ([]) (.int .i64 (cmpN x y)) (⟨rfl, rfl⟩) (hr := by simp [cmpN]; omega)
   · simp -failIfUnchanged at h3; all_goals
    refine vwp_skip ?_
    refine hK10 _ ?_
    try clear hK10 K10
    refine vwp_seq_k fun K13 hK13 => ?_
    refine vwp_sq [0, 1] fun K14 hK14 => vwp_region hT ?_
    simp
    refine hK14 _ ?_
    try clear hK14 K14
    refine vwp_cond (by first | rfl | (simp; rfl)) (fun h4 => ?_) fun h4 => ?_
    · simp -failIfUnchanged at h4; all_goals
     refine vwp_sq [] fun K15 hK15 => vwp_region hT ?_
     simp
     refine hK15 _ ?_
     try clear hK15 K15
     refine vwp_ret (hR _ _ ?_)
     exact ret_k [4] [] ([]) (.int .i64 (cmpN x y)) (⟨rfl, rfl⟩) (hr := by simp [cmpN]; omega)
    · simp -failIfUnchanged at h4; all_goals
     refine vwp_skip ?_
     refine hK13 _ ?_
     try clear hK13 K13
     refine vwp_seq_k fun K16 hK16 => ?_
     refine vwp_sq [0, 1] fun K17 hK17 => vwp_region hT ?_
     simp
     refine hK17 _ ?_
     try clear hK17 K17
     refine vwp_cond (by first | rfl | (simp; rfl)) (fun h5 => ?_) fun h5 => ?_
     · simp -failIfUnchanged at h5; all_goals
      refine vwp_sq [] fun K18 hK18 => vwp_region hT ?_
      simp
      refine hK18 _ ?_
      try clear hK18 K18
      refine vwp_ret (hR _ _ ?_)
      exact ret_k [4] [] ([]) (.int .i64 (cmpN x y)) (⟨rfl, rfl⟩) (hr := by simp [cmpN]; omega)
     · simp -failIfUnchanged at h5; all_goals
      refine vwp_skip ?_
      refine hK16 _ ?_
      try clear hK16 K16
      refine vwp_sq [] fun K19 hK19 => vwp_region hT ?_
      simp
      refine hK19 _ ?_
      try clear hK19 K19
      refine vwp_ret (hR _ _ ?_)
      exact ret_k [4] [] ([]) (.int .i64 (cmpN x y)) (⟨rfl, rfl⟩) (hr := by simp [cmpN]; omega)

def orP (l : List Int) : Int := (l.find? fun x => !decide (x = 0)).getD 0
theorem orP_snoc {l : List Int} {i : Nat} {x : Int} (hx : l[i]? = some x) (h : ∀ y ∈ l.take i, y = 0) (hn : x ≠ 0) : orP l = x := by
  have e := split_at' hx
  unfold orP
  rw [e, List.find?_append, List.find?_eq_none.2 (fun y hy => by simp [h y hy])]
  simp [hn]
theorem or_spec (l : List Int) (hl : l.length < 1099511627776) : VC P 39 [sI l] [] (fun r ob' => r = .int .i64 (orP l) ∧ ob' = []) := by
  refine VC_of_vwp_k ent_39 Try.func39 rfl (by simp) fun R hR => ?_
  refine vwp_sq [0] fun K1 hK1 => vwp_region hT ?_
  simp
  refine hK1 _ ?_
  try clear hK1 K1
  refine vwp_sq [0] fun K2 hK2 => vwp_region hT ?_
  simp
  refine hK2 _ ?_
  try clear hK2 K2
  refine vwp_seq_k fun K3 hK3 => ?_
  refine vwp_sq [0, 3] fun K4 hK4 => vwp_region hT ?_
  simp
  refine hK4 _ ?_
  try clear hK4 K4
  refine vwp_block ?_
  refine vwp_loop_s (fun i : Nat => ⟨[(3, .int .i64 0), (6, sI l), (7, .int .i64 l.length), (8, .int .i64 (i : Int))], []⟩) (fun i => i ≤ l.length ∧ ∀ y ∈ l.take i, y = 0) (fun i => l.length - i) (0) (Gh.to_k [3, 6, 7, 8] []) (⟨by omega, by simp⟩) ?_
  rintro i ⟨hi, hz⟩
  intro K5 hK5
  refine vwp_sq [3, 6, 7, 8] fun K6 hK6 => vwp_region hT ?_
  simp
  refine hK6 _ ?_
  try clear hK6 K6
  refine vwp_seq_k fun K7 hK7 => ?_
  refine vwp_cond (by first | rfl | (simp; rfl)) (fun h1 => ?_) fun h1 => ?_
  · simp -failIfUnchanged at h1; all_goals
   refine vwp_skip ?_
   refine hK7 _ ?_
   try clear hK7 K7
   refine vwp_seq_k fun K8 hK8 => ?_
   refine vwp_block ?_
   obtain ⟨x, hx⟩ := getI (l := l) (i := i) (by omega)
   refine vwp_sq [3, 6, 7, 8] fun K9 hK9 => vwp_region hT ?_
   simp [hx]
   repeat refine ⟨by first | assumption | omega | (intros; omega), ?_⟩
   refine hK9 _ ?_
   try clear hK9 K9
   refine vwp_sq [3, 5, 6, 7, 8] fun K10 hK10 => vwp_region hT ?_
   simp
   refine hK10 _ ?_
   try clear hK10 K10
   refine vwp_cond (by first | rfl | (simp; rfl)) (fun h2 => ?_) fun h2 => ?_
   · simp -failIfUnchanged at h2; all_goals
    have q := h2
    have hx0 : x ≠ 0 := by simpa using q
    refine vwp_sq [5] fun K11 hK11 => vwp_region hT ?_
    simp
    refine hK11 _ ?_
    try clear hK11 K11
    refine vwp_ret (hR _ _ ?_)
    exact ret_k [2] [] ([]) (.int .i64 (orP l)) (⟨rfl, rfl⟩) (hr := by simp [orP_snoc hx hz hx0])
   · simp -failIfUnchanged at h2; all_goals
    have q := h2
    have hx0 : x = 0 := by simpa using q
    refine vwp_skip ?_
    refine hK8 _ ?_
    try clear hK8 K8
    have w1 : IntKind.i64.wrap ((i : Int) + 1) = i + 1 := w64 (by omega) (by omega)
    refine vwp_live [3, 6, 7, 8] (vwp_region hT ?_)
    simp [w1]
    exact hK5 (i + 1) _ (Gh.to_k [3, 6, 7, 8] []) (⟨by omega, by rw [take_snoc hx]; intro y hy; rcases List.mem_append.1 hy with h | h; exact hz y h; simp at h; rw [h]; exact hx0⟩) (by omega)
  · simp -failIfUnchanged at h1; all_goals
   refine vwp_exit ?_
   simp only [inBlk, thenQ, if_true]
   refine hK3 _ ?_
   try clear hK3 K3
   refine vwp_sq [3] fun K12 hK12 => vwp_region hT ?_
   simp
   refine hK12 _ ?_
   try clear hK12 K12
   refine vwp_ret (hR _ _ ?_)
   obtain rfl : i = l.length := by omega
   rw [List.take_length] at hz
   have hnone : l.find? (fun x => !decide (x = 0)) = none := List.find?_eq_none.2 (fun y hy => by simp [hz y hy])
   exact ret_k [2] [] ([]) (.int .i64 (orP l)) (⟨rfl, rfl⟩) (hr := by simp [orP, hnone])
theorem cmpO_spec (a b : Stp) : VC P 19 [.agg (Row.cells a), .agg (Row.cells b)] [] (fun r ob' => r = .int .i64 (cfO a b) ∧ ob' = []) := by
  refine VC_of_vwp_k ent_19 Try.func19 rfl (by simp) fun R hR => ?_
  refine vwp_sq [0, 1] fun K1 hK1 => vwp_region hT ?_
  simp
  refine hK1 _ ?_
  try clear hK1 K1
  refine vwp_sq [2, 3] fun K2 hK2 => vwp_region hT ?_
  simp
  refine vcall_k [] (cmp_ci a.oi b.oi) ?_
  rintro r ob' ⟨rfl, rfl⟩
  simp
  refine hK2 _ ?_
  try clear hK2 K2
  refine vwp_ret (hR _ _ ?_)
  exact ret_k [4] [] ([]) (.int .i64 (cfO a b)) (⟨rfl, rfl⟩) (hr := by simp [cfO])

theorem orP2 (a b : Stp) : orP [cmpN a.et b.et, cmpN a.oi b.oi] = cfL a b := by
  unfold orP cfL
  by_cases h : cmpN a.et b.et = 0
  · by_cases h2 : cmpN a.oi b.oi = 0 <;> simp [h, h2]
  · simp [h]
theorem cmpL_spec (a b : Stp) : VC P 38 [.agg (Row.cells a), .agg (Row.cells b)] [] (fun r ob' => r = .int .i64 (cfL a b) ∧ ob' = []) := by
  refine VC_of_vwp_k ent_38 Try.func38 rfl (by simp) fun R hR => ?_
  refine vwp_sq [0, 1] fun K1 hK1 => vwp_region hT ?_
  simp
  refine hK1 _ ?_
  try clear hK1 K1
  refine vwp_sq [2, 3] fun K2 hK2 => vwp_storm hT hm [.win 0 0, .win 0 0, .win 0 0, .win 0 0, .mv, .win 0 1, .win 0 1, .win 0 1, .win 0 1, .mv, .lit, .mv, .pure] [[], [0], [], [2], [0, 1, 2, 3], [], [5], [], [7], [0, 1, 2, 3, 4, 5, 6, 7, 8], [0, 1, 2, 3, 4, 5, 6, 7, 8, 9], [0, 1, 2, 3, 4, 5, 6, 7, 8, 9, 10], [0, 1, 2, 3, 4, 5, 6, 7, 8, 9, 10, 11]] (by kernel_rfl) ?_
  simp
  refine ⟨.int .i64 (cmpN a.et b.et), [.live (Row.cells a), .live (Row.cells b)], fun sl => ?_, ?_⟩
  · refine vcall_z [] (cmp_cl a.et b.et) (by rintro r ob' ⟨rfl, rfl⟩; simp) ?_
    rintro r ob' ⟨rfl, rfl⟩
    simp
  simp
  refine ⟨.int .i64 (cmpN a.oi b.oi), [.live (Row.cells a), .live (Row.cells b)], fun sl => ?_, ?_⟩
  · refine vcall_z [] (cmp_ci a.oi b.oi) (by rintro r ob' ⟨rfl, rfl⟩; simp) ?_
    rintro r ob' ⟨rfl, rfl⟩
    simp
  simp
  refine ⟨.int .i64 (orP [cmpN a.et b.et, cmpN a.oi b.oi]), [.live (Row.cells a), .live (Row.cells b)], fun sl => ?_, ?_⟩
  · refine vcall_z [] (or_spec [cmpN a.et b.et, cmpN a.oi b.oi] (by simp)) (by rintro r ob' ⟨rfl, rfl⟩; simp) ?_
    rintro r ob' ⟨rfl, rfl⟩
    simp
  simp
  refine hK2 _ ?_
  try clear hK2 K2
  refine vwp_ret (hR _ _ ?_)
  exact ret_k [4] [] ([]) (.int .i64 (cfL a b)) (⟨rfl, rfl⟩) (hr := by simp [orP2])

theorem sortO_spec (l : List Stp) (hl : l.length < 1099511627776) : VC P 18 [.sl 0 (l.length * 4) 4 0 l.length, .fn 19 []] [.live (rowsV l)] (fun r ob' => r = .tup [] ∧ ∃ m : List Stp, m.Perm l ∧ m.Pairwise (fun x y => 0 ≤ cfO y x) ∧ ob' = [.live (rowsV m)]) :=
  VC_sortFunc (α := Stp) laysF Try.isAgg57 Try.sizeOf57 swoO (enters_of Try.func19 (by kernel_rfl) rfl) cmpO_spec ent_18 l (by omega)
theorem sortL_spec (l : List Stp) (hl : l.length < 1099511627776) : VC P 18 [.sl 0 (l.length * 4) 4 0 l.length, .fn 38 []] [.live (rowsV l)] (fun r ob' => r = .tup [] ∧ ∃ m : List Stp, m.Perm l ∧ m.Pairwise (fun x y => 0 ≤ cfL y x) ∧ ob' = [.live (rowsV m)]) :=
  VC_sortFunc (α := Stp) laysF Try.isAgg57 Try.sizeOf57 swoL (enters_of Try.func38 (by kernel_rfl) rfl) cmpL_spec ent_18 l (by omega)
end Go.Proofs.Ytmpakfpmmkfgpaa
