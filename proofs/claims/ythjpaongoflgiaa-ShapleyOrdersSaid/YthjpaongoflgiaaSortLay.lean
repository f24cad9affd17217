/- Go's sort of ints, by the library's contract. -/
import Derived.Test.YthjpaongoflgiaaBase
import Derived.Shelf.SortM.Plain
import Derived.Shelf.SortM.SortNone
import Derived.Shelf.SlGeneric
namespace Go.Proofs.Ythjpaongoflgiaa
open Go Go.VX Go.RowKit
set_option linter.unusedVariables false
set_option linter.unusedSimpArgs false
set_option maxHeartbeats 20000000
set_option maxRecDepth 100000
open Go.Shelf Go.Sort Go.Proofs
def lays5_ren : Go.Shelf.Ren := ⟨(fun | 5 => 70 | 8 => 76 | 7 => 75 | 19 => 87 | 20 => 88 | 10 => 78 | 11 => 79 | 12 => 80 | 13 => 81 | 14 => 82 | 15 => 83 | 16 => 84 | 17 => 85 | 18 => 86 | 30 => 90 | 31 => 91 | 32 => 92 | 33 => 93 | 34 => 94 | 35 => 95 | 40 => 96 | n => n), (fun | 23 => 37 | 25 => 3 | 3 => 3 | 32 => 60 | 22 => 37 | 0 => 0 | 44 => 104 | 46 => 106 | 4 => 4 | 36 => 96 | 35 => 95 | 41 => 101 | 5 => 5 | 9 => 9 | 53 => 107 | 57 => 111 | 63 => 113 | 64 => 114 | n => n), (fun | n => n)⟩
theorem lays5 : SlLaysM.n5 Try.prog lays5_ren where
  mixed := by kernel_rfl
  f5 := ⟨Try.f70.name, by kernel_rfl, Try.func70.trans (congrArg some (by kernel_rfl))⟩
  f7 := ⟨Try.f75.name, by kernel_rfl, Try.func75.trans (congrArg some (by kernel_rfl))⟩
  f8 := Try.func76.trans (congrArg some (by kernel_rfl))
  f10 := ⟨Try.f78.name, by kernel_rfl, Try.func78.trans (congrArg some (by kernel_rfl))⟩
  f11 := ⟨Try.f79.name, by kernel_rfl, Try.func79.trans (congrArg some (by kernel_rfl))⟩
  f12 := ⟨Try.f80.name, by kernel_rfl, Try.func80.trans (congrArg some (by kernel_rfl))⟩
  f13 := ⟨Try.f81.name, by kernel_rfl, Try.func81.trans (congrArg some (by kernel_rfl))⟩
  f14 := ⟨Try.f82.name, by kernel_rfl, Try.func82.trans (congrArg some (by kernel_rfl))⟩
  f15 := ⟨Try.f83.name, by kernel_rfl, Try.func83.trans (congrArg some (by kernel_rfl))⟩
  f16 := ⟨Try.f84.name, by kernel_rfl, Try.func84.trans (congrArg some (by kernel_rfl))⟩
  f17 := ⟨Try.f85.name, by kernel_rfl, Try.func85.trans (congrArg some (by kernel_rfl))⟩
  f18 := ⟨Try.f86.name, by kernel_rfl, Try.func86.trans (congrArg some (by kernel_rfl))⟩
  f19 := Try.func87.trans (congrArg some (by kernel_rfl))
  f20 := Try.func88.trans (congrArg some (by kernel_rfl))
  f30 := ⟨Try.f90.name, by kernel_rfl, Try.func90.trans (congrArg some (by kernel_rfl))⟩
  f31 := Try.func91.trans (congrArg some (by kernel_rfl))
  f32 := Try.func92.trans (congrArg some (by kernel_rfl))
  f33 := ⟨Try.f93.name, by kernel_rfl, Try.func93.trans (congrArg some (by kernel_rfl))⟩
  f34 := ⟨Try.f94.name, by kernel_rfl, Try.func94.trans (congrArg some (by kernel_rfl))⟩
  f35 := ⟨Try.f95.name, by kernel_rfl, Try.func95.trans (congrArg some (by kernel_rfl))⟩
  f40 := ⟨Try.f96.name, by kernel_rfl, Try.func96.trans (congrArg some (by kernel_rfl))⟩
  t0 := Try.underlying0
  a0 := Try.isAgg0
  z0 := Try.sizeOf0
  v0 := Try.zeroValue0
  t3 := Try.underlying3
  a3 := Try.isAgg3
  z3 := Try.sizeOf3
  v3 := Try.zeroValue3
  t4 := Try.underlying4
  a4 := Try.isAgg4
  z4 := Try.sizeOf4
  v4 := Try.zeroValue4
  t5 := Try.underlying5
  a5 := Try.isAgg5
  z5 := Try.sizeOf5
  v5 := Try.zeroValue5
  t9 := Try.underlying9
  a9 := Try.isAgg9
  z9 := Try.sizeOf9
  v9 := Try.zeroValue9
  t22 := Try.underlying37
  a22 := Try.isAgg37
  z22 := Try.sizeOf37
  v22 := Try.zeroValue37
  t23 := Try.underlying37
  a23 := Try.isAgg37
  z23 := Try.sizeOf37
  v23 := Try.zeroValue37
  t25 := Try.underlying3
  a25 := Try.isAgg3
  z25 := Try.sizeOf3
  v25 := Try.zeroValue3
  t32 := Try.underlying60
  a32 := Try.isAgg60
  z32 := Try.sizeOf60
  v32 := Try.zeroValue60
  t35 := Try.underlying95
  a35 := Try.isAgg95
  z35 := Try.sizeOf95
  v35 := Try.zeroValue95
  t36 := Try.underlying96
  a36 := Try.isAgg96
  z36 := Try.sizeOf96
  v36 := Try.zeroValue96
  t41 := Try.underlying101
  a41 := Try.isAgg101
  z41 := Try.sizeOf101
  v41 := Try.zeroValue101
  t44 := Try.underlying104
  a44 := Try.isAgg104
  z44 := Try.sizeOf104
  v44 := Try.zeroValue104
  t46 := Try.underlying106
  a46 := Try.isAgg106
  z46 := Try.sizeOf106
  v46 := Try.zeroValue106
  t53 := Try.underlying107
  a53 := Try.isAgg107
  z53 := Try.sizeOf107
  v53 := Try.zeroValue107
  t57 := Try.underlying111
  a57 := Try.isAgg111
  z57 := Try.sizeOf111
  v57 := Try.zeroValue111
  t63 := Try.underlying113
  a63 := Try.isAgg113
  z63 := Try.sizeOf113
  v63 := Try.zeroValue113
  t64 := Try.underlying114
  a64 := Try.isAgg114
  z64 := Try.sizeOf114
  v64 := Try.zeroValue114
end Go.Proofs.Ythjpaongoflgiaa
