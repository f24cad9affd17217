/- Go's sort of ints, by the library's contract. -/
import Derived.Test.YtinigjmfjabicaaBase
import Derived.Shelf.SortM.Plain
import Derived.Shelf.SortM.SortNone
import Derived.Shelf.SlGeneric
namespace Go.Proofs.Ytinigjmfjabicaa
open Go Go.VX Go.RowKit
set_option linter.unusedVariables false
set_option linter.unusedSimpArgs false
set_option maxHeartbeats 20000000
set_option maxRecDepth 100000
open Go.Shelf Go.Sort Go.Proofs
def lays5_ren : Go.Shelf.Ren := ⟨(fun | 5 => 62 | 8 => 97 | 7 => 96 | 19 => 116 | 20 => 117 | 10 => 108 | 11 => 109 | 12 => 110 | 13 => 111 | 14 => 112 | 15 => 113 | 16 => 98 | 17 => 114 | 18 => 115 | 30 => 122 | 31 => 123 | 32 => 124 | 33 => 125 | 34 => 126 | 35 => 118 | 40 => 130 | n => n), (fun | 23 => 29 | 25 => 3 | 3 => 3 | 32 => 144 | 22 => 29 | 0 => 0 | 44 => 164 | 46 => 166 | 4 => 4 | 36 => 158 | 35 => 157 | 41 => 106 | 5 => 5 | 9 => 9 | 53 => 170 | 57 => 174 | 63 => 177 | 64 => 178 | n => n), (fun | n => n)⟩
theorem lays5 : SlLaysM.n5 Try.prog lays5_ren where
  mixed := by kernel_rfl
  f5 := ⟨Try.f62.name, by kernel_rfl, Try.func62.trans (congrArg some (by kernel_rfl))⟩
  f7 := ⟨Try.f96.name, by kernel_rfl, Try.func96.trans (congrArg some (by kernel_rfl))⟩
  f8 := Try.func97.trans (congrArg some (by kernel_rfl))
  f10 := ⟨Try.f108.name, by kernel_rfl, Try.func108.trans (congrArg some (by kernel_rfl))⟩
  f11 := ⟨Try.f109.name, by kernel_rfl, Try.func109.trans (congrArg some (by kernel_rfl))⟩
  f12 := ⟨Try.f110.name, by kernel_rfl, Try.func110.trans (congrArg some (by kernel_rfl))⟩
  f13 := ⟨Try.f111.name, by kernel_rfl, Try.func111.trans (congrArg some (by kernel_rfl))⟩
  f14 := ⟨Try.f112.name, by kernel_rfl, Try.func112.trans (congrArg some (by kernel_rfl))⟩
  f15 := ⟨Try.f113.name, by kernel_rfl, Try.func113.trans (congrArg some (by kernel_rfl))⟩
  f16 := ⟨Try.f98.name, by kernel_rfl, Try.func98.trans (congrArg some (by kernel_rfl))⟩
  f17 := ⟨Try.f114.name, by kernel_rfl, Try.func114.trans (congrArg some (by kernel_rfl))⟩
  f18 := ⟨Try.f115.name, by kernel_rfl, Try.func115.trans (congrArg some (by kernel_rfl))⟩
  f19 := Try.func116.trans (congrArg some (by kernel_rfl))
  f20 := Try.func117.trans (congrArg some (by kernel_rfl))
  f30 := ⟨Try.f122.name, by kernel_rfl, Try.func122.trans (congrArg some (by kernel_rfl))⟩
  f31 := Try.func123.trans (congrArg some (by kernel_rfl))
  f32 := Try.func124.trans (congrArg some (by kernel_rfl))
  f33 := ⟨Try.f125.name, by kernel_rfl, Try.func125.trans (congrArg some (by kernel_rfl))⟩
  f34 := ⟨Try.f126.name, by kernel_rfl, Try.func126.trans (congrArg some (by kernel_rfl))⟩
  f35 := ⟨Try.f118.name, by kernel_rfl, Try.func118.trans (congrArg some (by kernel_rfl))⟩
  f40 := ⟨Try.f130.name, by kernel_rfl, Try.func130.trans (congrArg some (by kernel_rfl))⟩
  t0 := Try.underlying0
  a0 := Try.isAgg0
  z0 := Try.sizeOf0
  v0 := Try.zeroValue0
  t3 := Try.underlying3
  a3 := Try.isAgg3
  z3 := Try.sizeOf3
  v3 := Try.zeroValue3
  t4 := Try.underlying4
  a4 := Try.isAgg4
  z4 := Try.sizeOf4
  v4 := Try.zeroValue4
  t5 := Try.underlying5
  a5 := Try.isAgg5
  z5 := Try.sizeOf5
  v5 := Try.zeroValue5
  t9 := Try.underlying9
  a9 := Try.isAgg9
  z9 := Try.sizeOf9
  v9 := Try.zeroValue9
  t22 := Try.underlying29
  a22 := Try.isAgg29
  z22 := Try.sizeOf29
  v22 := Try.zeroValue29
  t23 := Try.underlying29
  a23 := Try.isAgg29
  z23 := Try.sizeOf29
  v23 := Try.zeroValue29
  t25 := Try.underlying3
  a25 := Try.isAgg3
  z25 := Try.sizeOf3
  v25 := Try.zeroValue3
  t32 := Try.underlying144
  a32 := Try.isAgg144
  z32 := Try.sizeOf144
  v32 := Try.zeroValue144
  t35 := Try.underlying157
  a35 := Try.isAgg157
  z35 := Try.sizeOf157
  v35 := Try.zeroValue157
  t36 := Try.underlying158
  a36 := Try.isAgg158
  z36 := Try.sizeOf158
  v36 := Try.zeroValue158
  t41 := Try.underlying106
  a41 := Try.isAgg106
  z41 := Try.sizeOf106
  v41 := Try.zeroValue106
  t44 := Try.underlying164
  a44 := Try.isAgg164
  z44 := Try.sizeOf164
  v44 := Try.zeroValue164
  t46 := Try.underlying166
  a46 := Try.isAgg166
  z46 := Try.sizeOf166
  v46 := Try.zeroValue166
  t53 := Try.underlying170
  a53 := Try.isAgg170
  z53 := Try.sizeOf170
  v53 := Try.zeroValue170
  t57 := Try.underlying174
  a57 := Try.isAgg174
  z57 := Try.sizeOf174
  v57 := Try.zeroValue174
  t63 := Try.underlying177
  a63 := Try.isAgg177
  z63 := Try.sizeOf177
  v63 := Try.zeroValue177
  t64 := Try.underlying178
  a64 := Try.isAgg178
  z64 := Try.sizeOf178
  v64 := Try.zeroValue178
end Go.Proofs.Ytinigjmfjabicaa
