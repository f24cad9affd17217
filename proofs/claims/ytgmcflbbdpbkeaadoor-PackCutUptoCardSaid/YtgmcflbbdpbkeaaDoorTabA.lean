/- The types of the program, in short, and that they are so. Printed by gen_tab.py. -/
import Derived.Test.YtgmcflbbdpbkeaaDoorVXb
import Derived.Test.YtgmcflbbdpbkeaaDoorProg
import Derived.KernelRfl
namespace Go.Proofs.YtgmcflbbdpbkeaaDoor
open Go Go.VX
set_option linter.unusedVariables false
set_option maxRecDepth 100000

def T : Nat → Option TI
  | 1 => some ⟨.func, 1, 8, .nilf⟩
  | 2 => some ⟨.int .i64, 1, 8, .int .i64 0⟩
  | 3 => some ⟨.int .i64, 1, 8, .int .i64 0⟩
  | 4 => some ⟨.bool, 1, 1, .bool false⟩
  | 5 => some ⟨.int .u8, 1, 1, .int .u8 0⟩
  | 6 => some ⟨.int .u8, 1, 1, .int .u8 0⟩
  | 7 => some ⟨.struct [(0, 2), (1, 3), (2, 4), (3, 6)], 4, 24, .agg [.int .i64 0, .int .i64 0, .bool false, .int .u8 0]⟩
  | 8 => some ⟨.struct [(0, 2), (1, 3), (2, 4), (3, 6)], 4, 24, .agg [.int .i64 0, .int .i64 0, .bool false, .int .u8 0]⟩
  | 9 => some ⟨.string, 1, 16, .str ⟨#[]⟩⟩
  | 10 => some ⟨.string, 1, 16, .str ⟨#[]⟩⟩
  | 11 => some ⟨.string, 1, 16, .str ⟨#[]⟩⟩
  | 12 => some ⟨.int .u64, 1, 8, .int .u64 0⟩
  | 15 => some ⟨.ptr 91, 1, 8, .nilp⟩
  | 16 => some ⟨.ptr 94, 1, 8, .nilp⟩
  | 17 => some ⟨.ptr 104, 1, 8, .nilp⟩
  | 21 => some ⟨.int .i32, 1, 4, .int .i32 0⟩
  | 22 => some ⟨.slice 34, 1, 24, .nils⟩
  | 23 => some ⟨.func, 1, 8, .nilf⟩
  | 24 => some ⟨.func, 1, 8, .nilf⟩
  | 25 => some ⟨.slice 5, 1, 24, .nils⟩
  | 26 => some ⟨.int .i64, 1, 8, .int .i64 0⟩
  | 28 => some ⟨.func, 1, 8, .nilf⟩
  | 29 => some ⟨.func, 1, 8, .nilf⟩
  | 30 => some ⟨.slice 51, 1, 24, .nils⟩
  | 31 => some ⟨.func, 1, 8, .nilf⟩
  | 32 => some ⟨.func, 1, 8, .nilf⟩
  | 33 => some ⟨.struct [(0, 2), (1, 9)], 2, 24, .agg [.int .i64 0, .str ⟨#[]⟩]⟩
  | 34 => some ⟨.struct [(0, 2), (1, 9)], 2, 24, .agg [.int .i64 0, .str ⟨#[]⟩]⟩
  | 35 => some ⟨.func, 1, 8, .nilf⟩
  | 36 => some ⟨.func, 1, 8, .nilf⟩
  | 37 => some ⟨.func, 1, 8, .nilf⟩
  | 39 => some ⟨.func, 1, 8, .nilf⟩
  | 41 => some ⟨.func, 1, 8, .nilf⟩
  | 42 => some ⟨.func, 1, 8, .nilf⟩
  | 43 => some ⟨.func, 1, 8, .nilf⟩
  | 44 => some ⟨.func, 1, 8, .nilf⟩
  | 45 => some ⟨.func, 1, 8, .nilf⟩
  | 47 => some ⟨.func, 1, 8, .nilf⟩
  | 48 => some ⟨.func, 1, 8, .nilf⟩
  | 49 => some ⟨.func, 1, 8, .nilf⟩
  | 50 => some ⟨.func, 1, 8, .nilf⟩
  | 51 => some ⟨.struct [(0, 2), (1, 9)], 2, 24, .agg [.int .i64 0, .str ⟨#[]⟩]⟩
  | 52 => some ⟨.func, 1, 8, .nilf⟩
  | 53 => some ⟨.func, 1, 8, .nilf⟩
  | 54 => some ⟨.struct [(0, 25)], 1, 24, .agg [.nils]⟩
  | 55 => some ⟨.struct [(0, 25)], 1, 24, .agg [.nils]⟩
  | 56 => some ⟨.func, 1, 8, .nilf⟩
  | 58 => some ⟨.func, 1, 8, .nilf⟩
  | 60 => some ⟨.func, 1, 8, .nilf⟩
  | 61 => some ⟨.func, 1, 8, .nilf⟩
  | 62 => some ⟨.int .u64, 1, 8, .int .u64 0⟩
  | 63 => some ⟨.int .u64, 1, 8, .int .u64 0⟩
  | 64 => some ⟨.ptr 55, 1, 8, .nilp⟩
  | 65 => some ⟨.struct [(0, 26)], 1, 8, .agg [.int .i64 0]⟩
  | 66 => some ⟨.struct [(0, 26)], 1, 8, .agg [.int .i64 0]⟩
  | 67 => some ⟨.func, 1, 8, .nilf⟩
  | 68 => some ⟨.func, 1, 8, .nilf⟩
  | 69 => some ⟨.func, 1, 8, .nilf⟩
  | 70 => some ⟨.array 256 4, 256, 256, .agg (List.replicate 256 (.bool false))⟩
  | 71 => some ⟨.array 256 4, 256, 256, .agg (List.replicate 256 (.bool false))⟩
  | 73 => some ⟨.func, 1, 8, .nilf⟩
  | 74 => some ⟨.func, 1, 8, .nilf⟩
  | 75 => some ⟨.ptr 71, 1, 8, .nilp⟩
  | 76 => some ⟨.func, 1, 8, .nilf⟩
  | 77 => some ⟨.func, 1, 8, .nilf⟩
  | 79 => some ⟨.func, 1, 8, .nilf⟩
  | 80 => some ⟨.func, 1, 8, .nilf⟩
  | 81 => some ⟨.func, 1, 8, .nilf⟩
  | 82 => some ⟨.array 256 5, 256, 256, .agg (List.replicate 256 (.int .u8 0))⟩
  | 83 => some ⟨.struct [(0, 5), (1, 5)], 2, 2, .agg [.int .u8 0, .int .u8 0]⟩
  | 84 => some ⟨.struct [(0, 5), (1, 5)], 2, 2, .agg [.int .u8 0, .int .u8 0]⟩
  | 85 => some ⟨.array 16 84, 32, 32, .agg (List.replicate 32 (.int .u8 0))⟩
  | 86 => some ⟨.func, 1, 8, .nilf⟩
  | 87 => some ⟨.func, 1, 8, .nilf⟩
  | 88 => some ⟨.func, 1, 8, .nilf⟩
  | 89 => some ⟨.func, 1, 8, .nilf⟩
  | 95 => some ⟨.func, 1, 8, .nilf⟩
  | 96 => some ⟨.int .u32, 1, 4, .int .u32 0⟩
  | 97 => some ⟨.int .u8, 1, 1, .int .u8 0⟩
  | 98 => some ⟨.int .u8, 1, 1, .int .u8 0⟩
  | 99 => some ⟨.func, 1, 8, .nilf⟩
  | 100 => some ⟨.ptr 5, 1, 8, .nilp⟩
  | 101 => some ⟨.int .i32, 1, 4, .int .i32 0⟩
  | 102 => some ⟨.int .i32, 1, 4, .int .i32 0⟩
  | _ => none

@[simp] theorem T_1 : T 1 = some ⟨.func, 1, 8, .nilf⟩ := rfl
@[simp] theorem T_2 : T 2 = some ⟨.int .i64, 1, 8, .int .i64 0⟩ := rfl
@[simp] theorem T_3 : T 3 = some ⟨.int .i64, 1, 8, .int .i64 0⟩ := rfl
@[simp] theorem T_4 : T 4 = some ⟨.bool, 1, 1, .bool false⟩ := rfl
@[simp] theorem T_5 : T 5 = some ⟨.int .u8, 1, 1, .int .u8 0⟩ := rfl
@[simp] theorem T_6 : T 6 = some ⟨.int .u8, 1, 1, .int .u8 0⟩ := rfl
@[simp] theorem T_7 : T 7 = some ⟨.struct [(0, 2), (1, 3), (2, 4), (3, 6)], 4, 24, .agg [.int .i64 0, .int .i64 0, .bool false, .int .u8 0]⟩ := rfl
@[simp] theorem T_8 : T 8 = some ⟨.struct [(0, 2), (1, 3), (2, 4), (3, 6)], 4, 24, .agg [.int .i64 0, .int .i64 0, .bool false, .int .u8 0]⟩ := rfl
@[simp] theorem T_9 : T 9 = some ⟨.string, 1, 16, .str ⟨#[]⟩⟩ := rfl
@[simp] theorem T_10 : T 10 = some ⟨.string, 1, 16, .str ⟨#[]⟩⟩ := rfl
@[simp] theorem T_11 : T 11 = some ⟨.string, 1, 16, .str ⟨#[]⟩⟩ := rfl
@[simp] theorem T_12 : T 12 = some ⟨.int .u64, 1, 8, .int .u64 0⟩ := rfl
@[simp] theorem T_15 : T 15 = some ⟨.ptr 91, 1, 8, .nilp⟩ := rfl
@[simp] theorem T_16 : T 16 = some ⟨.ptr 94, 1, 8, .nilp⟩ := rfl
@[simp] theorem T_17 : T 17 = some ⟨.ptr 104, 1, 8, .nilp⟩ := rfl
@[simp] theorem T_21 : T 21 = some ⟨.int .i32, 1, 4, .int .i32 0⟩ := rfl
@[simp] theorem T_22 : T 22 = some ⟨.slice 34, 1, 24, .nils⟩ := rfl
@[simp] theorem T_23 : T 23 = some ⟨.func, 1, 8, .nilf⟩ := rfl
@[simp] theorem T_24 : T 24 = some ⟨.func, 1, 8, .nilf⟩ := rfl
@[simp] theorem T_25 : T 25 = some ⟨.slice 5, 1, 24, .nils⟩ := rfl
@[simp] theorem T_26 : T 26 = some ⟨.int .i64, 1, 8, .int .i64 0⟩ := rfl
@[simp] theorem T_28 : T 28 = some ⟨.func, 1, 8, .nilf⟩ := rfl
@[simp] theorem T_29 : T 29 = some ⟨.func, 1, 8, .nilf⟩ := rfl
@[simp] theorem T_30 : T 30 = some ⟨.slice 51, 1, 24, .nils⟩ := rfl
@[simp] theorem T_31 : T 31 = some ⟨.func, 1, 8, .nilf⟩ := rfl
@[simp] theorem T_32 : T 32 = some ⟨.func, 1, 8, .nilf⟩ := rfl
@[simp] theorem T_33 : T 33 = some ⟨.struct [(0, 2), (1, 9)], 2, 24, .agg [.int .i64 0, .str ⟨#[]⟩]⟩ := rfl
@[simp] theorem T_34 : T 34 = some ⟨.struct [(0, 2), (1, 9)], 2, 24, .agg [.int .i64 0, .str ⟨#[]⟩]⟩ := rfl
@[simp] theorem T_35 : T 35 = some ⟨.func, 1, 8, .nilf⟩ := rfl
@[simp] theorem T_36 : T 36 = some ⟨.func, 1, 8, .nilf⟩ := rfl
@[simp] theorem T_37 : T 37 = some ⟨.func, 1, 8, .nilf⟩ := rfl
@[simp] theorem T_39 : T 39 = some ⟨.func, 1, 8, .nilf⟩ := rfl
@[simp] theorem T_41 : T 41 = some ⟨.func, 1, 8, .nilf⟩ := rfl
@[simp] theorem T_42 : T 42 = some ⟨.func, 1, 8, .nilf⟩ := rfl
@[simp] theorem T_43 : T 43 = some ⟨.func, 1, 8, .nilf⟩ := rfl
@[simp] theorem T_44 : T 44 = some ⟨.func, 1, 8, .nilf⟩ := rfl
@[simp] theorem T_45 : T 45 = some ⟨.func, 1, 8, .nilf⟩ := rfl
@[simp] theorem T_47 : T 47 = some ⟨.func, 1, 8, .nilf⟩ := rfl
@[simp] theorem T_48 : T 48 = some ⟨.func, 1, 8, .nilf⟩ := rfl
@[simp] theorem T_49 : T 49 = some ⟨.func, 1, 8, .nilf⟩ := rfl
@[simp] theorem T_50 : T 50 = some ⟨.func, 1, 8, .nilf⟩ := rfl
@[simp] theorem T_51 : T 51 = some ⟨.struct [(0, 2), (1, 9)], 2, 24, .agg [.int .i64 0, .str ⟨#[]⟩]⟩ := rfl
@[simp] theorem T_52 : T 52 = some ⟨.func, 1, 8, .nilf⟩ := rfl
@[simp] theorem T_53 : T 53 = some ⟨.func, 1, 8, .nilf⟩ := rfl
@[simp] theorem T_54 : T 54 = some ⟨.struct [(0, 25)], 1, 24, .agg [.nils]⟩ := rfl
@[simp] theorem T_55 : T 55 = some ⟨.struct [(0, 25)], 1, 24, .agg [.nils]⟩ := rfl
@[simp] theorem T_56 : T 56 = some ⟨.func, 1, 8, .nilf⟩ := rfl
@[simp] theorem T_58 : T 58 = some ⟨.func, 1, 8, .nilf⟩ := rfl
@[simp] theorem T_60 : T 60 = some ⟨.func, 1, 8, .nilf⟩ := rfl
@[simp] theorem T_61 : T 61 = some ⟨.func, 1, 8, .nilf⟩ := rfl
@[simp] theorem T_62 : T 62 = some ⟨.int .u64, 1, 8, .int .u64 0⟩ := rfl
@[simp] theorem T_63 : T 63 = some ⟨.int .u64, 1, 8, .int .u64 0⟩ := rfl
@[simp] theorem T_64 : T 64 = some ⟨.ptr 55, 1, 8, .nilp⟩ := rfl
@[simp] theorem T_65 : T 65 = some ⟨.struct [(0, 26)], 1, 8, .agg [.int .i64 0]⟩ := rfl
@[simp] theorem T_66 : T 66 = some ⟨.struct [(0, 26)], 1, 8, .agg [.int .i64 0]⟩ := rfl
@[simp] theorem T_67 : T 67 = some ⟨.func, 1, 8, .nilf⟩ := rfl
@[simp] theorem T_68 : T 68 = some ⟨.func, 1, 8, .nilf⟩ := rfl
@[simp] theorem T_69 : T 69 = some ⟨.func, 1, 8, .nilf⟩ := rfl
@[simp] theorem T_70 : T 70 = some ⟨.array 256 4, 256, 256, .agg (List.replicate 256 (.bool false))⟩ := rfl
@[simp] theorem T_71 : T 71 = some ⟨.array 256 4, 256, 256, .agg (List.replicate 256 (.bool false))⟩ := rfl
@[simp] theorem T_73 : T 73 = some ⟨.func, 1, 8, .nilf⟩ := rfl
@[simp] theorem T_74 : T 74 = some ⟨.func, 1, 8, .nilf⟩ := rfl
@[simp] theorem T_75 : T 75 = some ⟨.ptr 71, 1, 8, .nilp⟩ := rfl
@[simp] theorem T_76 : T 76 = some ⟨.func, 1, 8, .nilf⟩ := rfl
@[simp] theorem T_77 : T 77 = some ⟨.func, 1, 8, .nilf⟩ := rfl
@[simp] theorem T_79 : T 79 = some ⟨.func, 1, 8, .nilf⟩ := rfl
@[simp] theorem T_80 : T 80 = some ⟨.func, 1, 8, .nilf⟩ := rfl
@[simp] theorem T_81 : T 81 = some ⟨.func, 1, 8, .nilf⟩ := rfl
@[simp] theorem T_82 : T 82 = some ⟨.array 256 5, 256, 256, .agg (List.replicate 256 (.int .u8 0))⟩ := rfl
@[simp] theorem T_83 : T 83 = some ⟨.struct [(0, 5), (1, 5)], 2, 2, .agg [.int .u8 0, .int .u8 0]⟩ := rfl
@[simp] theorem T_84 : T 84 = some ⟨.struct [(0, 5), (1, 5)], 2, 2, .agg [.int .u8 0, .int .u8 0]⟩ := rfl
@[simp] theorem T_85 : T 85 = some ⟨.array 16 84, 32, 32, .agg (List.replicate 32 (.int .u8 0))⟩ := rfl
@[simp] theorem T_86 : T 86 = some ⟨.func, 1, 8, .nilf⟩ := rfl
@[simp] theorem T_87 : T 87 = some ⟨.func, 1, 8, .nilf⟩ := rfl
@[simp] theorem T_88 : T 88 = some ⟨.func, 1, 8, .nilf⟩ := rfl
@[simp] theorem T_89 : T 89 = some ⟨.func, 1, 8, .nilf⟩ := rfl
@[simp] theorem T_95 : T 95 = some ⟨.func, 1, 8, .nilf⟩ := rfl
@[simp] theorem T_96 : T 96 = some ⟨.int .u32, 1, 4, .int .u32 0⟩ := rfl
@[simp] theorem T_97 : T 97 = some ⟨.int .u8, 1, 1, .int .u8 0⟩ := rfl
@[simp] theorem T_98 : T 98 = some ⟨.int .u8, 1, 1, .int .u8 0⟩ := rfl
@[simp] theorem T_99 : T 99 = some ⟨.func, 1, 8, .nilf⟩ := rfl
@[simp] theorem T_100 : T 100 = some ⟨.ptr 5, 1, 8, .nilp⟩ := rfl
@[simp] theorem T_101 : T 101 = some ⟨.int .i32, 1, 4, .int .i32 0⟩ := rfl
@[simp] theorem T_102 : T 102 = some ⟨.int .i32, 1, 4, .int .i32 0⟩ := rfl

abbrev TRow (t : Nat) (i : TI) : Prop := ∃ info d z, Tryd.prog.info? t = some info ∧ Tryd.prog.underlying t = some d ∧ kindOf d = i.k ∧ info.size = i.size ∧ info.bytes = i.bytes ∧ info.zero = some z ∧ vconst z = i.zero ∧ i.zero.known = true ∧ i.zero.cells.length = i.size
theorem row_1 : TRow 1 ⟨.func, 1, 8, .nilf⟩ := ⟨Tryd.t1, _, _, by kernel_rfl, Tryd.underlying1, rfl, rfl, rfl, rfl, rfl, rfl, rfl⟩
theorem row_2 : TRow 2 ⟨.int .i64, 1, 8, .int .i64 0⟩ := ⟨Tryd.t2, _, _, by kernel_rfl, Tryd.underlying2, rfl, rfl, rfl, rfl, rfl, rfl, rfl⟩
theorem row_3 : TRow 3 ⟨.int .i64, 1, 8, .int .i64 0⟩ := ⟨Tryd.t3, _, _, by kernel_rfl, Tryd.underlying3, rfl, rfl, rfl, rfl, rfl, rfl, rfl⟩
theorem row_4 : TRow 4 ⟨.bool, 1, 1, .bool false⟩ := ⟨Tryd.t4, _, _, by kernel_rfl, Tryd.underlying4, rfl, rfl, rfl, rfl, rfl, rfl, rfl⟩
theorem row_5 : TRow 5 ⟨.int .u8, 1, 1, .int .u8 0⟩ := ⟨Tryd.t5, _, _, by kernel_rfl, Tryd.underlying5, rfl, rfl, rfl, rfl, rfl, rfl, rfl⟩
theorem row_6 : TRow 6 ⟨.int .u8, 1, 1, .int .u8 0⟩ := ⟨Tryd.t6, _, _, by kernel_rfl, Tryd.underlying6, rfl, rfl, rfl, rfl, rfl, rfl, rfl⟩
theorem row_7 : TRow 7 ⟨.struct [(0, 2), (1, 3), (2, 4), (3, 6)], 4, 24, .agg [.int .i64 0, .int .i64 0, .bool false, .int .u8 0]⟩ := ⟨Tryd.t7, _, _, by kernel_rfl, Tryd.underlying7, rfl, rfl, rfl, rfl, rfl, rfl, rfl⟩
theorem row_8 : TRow 8 ⟨.struct [(0, 2), (1, 3), (2, 4), (3, 6)], 4, 24, .agg [.int .i64 0, .int .i64 0, .bool false, .int .u8 0]⟩ := ⟨Tryd.t8, _, _, by kernel_rfl, Tryd.underlying8, rfl, rfl, rfl, rfl, rfl, rfl, rfl⟩
theorem row_9 : TRow 9 ⟨.string, 1, 16, .str ⟨#[]⟩⟩ := ⟨Tryd.t9, _, _, by kernel_rfl, Tryd.underlying9, rfl, rfl, rfl, rfl, rfl, rfl, rfl⟩
theorem row_10 : TRow 10 ⟨.string, 1, 16, .str ⟨#[]⟩⟩ := ⟨Tryd.t10, _, _, by kernel_rfl, Tryd.underlying10, rfl, rfl, rfl, rfl, rfl, rfl, rfl⟩
theorem row_11 : TRow 11 ⟨.string, 1, 16, .str ⟨#[]⟩⟩ := ⟨Tryd.t11, _, _, by kernel_rfl, Tryd.underlying11, rfl, rfl, rfl, rfl, rfl, rfl, rfl⟩
theorem row_12 : TRow 12 ⟨.int .u64, 1, 8, .int .u64 0⟩ := ⟨Tryd.t12, _, _, by kernel_rfl, Tryd.underlying12, rfl, rfl, rfl, rfl, rfl, rfl, rfl⟩
theorem row_15 : TRow 15 ⟨.ptr 91, 1, 8, .nilp⟩ := ⟨Tryd.t15, _, _, by kernel_rfl, Tryd.underlying15, rfl, rfl, rfl, rfl, rfl, rfl, rfl⟩
theorem row_16 : TRow 16 ⟨.ptr 94, 1, 8, .nilp⟩ := ⟨Tryd.t16, _, _, by kernel_rfl, Tryd.underlying16, rfl, rfl, rfl, rfl, rfl, rfl, rfl⟩
theorem row_17 : TRow 17 ⟨.ptr 104, 1, 8, .nilp⟩ := ⟨Tryd.t17, _, _, by kernel_rfl, Tryd.underlying17, rfl, rfl, rfl, rfl, rfl, rfl, rfl⟩
theorem row_21 : TRow 21 ⟨.int .i32, 1, 4, .int .i32 0⟩ := ⟨Tryd.t21, _, _, by kernel_rfl, Tryd.underlying21, rfl, rfl, rfl, rfl, rfl, rfl, rfl⟩
theorem row_22 : TRow 22 ⟨.slice 34, 1, 24, .nils⟩ := ⟨Tryd.t22, _, _, by kernel_rfl, Tryd.underlying22, rfl, rfl, rfl, rfl, rfl, rfl, rfl⟩
theorem row_23 : TRow 23 ⟨.func, 1, 8, .nilf⟩ := ⟨Tryd.t23, _, _, by kernel_rfl, Tryd.underlying23, rfl, rfl, rfl, rfl, rfl, rfl, rfl⟩
theorem row_24 : TRow 24 ⟨.func, 1, 8, .nilf⟩ := ⟨Tryd.t24, _, _, by kernel_rfl, Tryd.underlying24, rfl, rfl, rfl, rfl, rfl, rfl, rfl⟩
theorem row_25 : TRow 25 ⟨.slice 5, 1, 24, .nils⟩ := ⟨Tryd.t25, _, _, by kernel_rfl, Tryd.underlying25, rfl, rfl, rfl, rfl, rfl, rfl, rfl⟩
theorem row_26 : TRow 26 ⟨.int .i64, 1, 8, .int .i64 0⟩ := ⟨Tryd.t26, _, _, by kernel_rfl, Tryd.underlying26, rfl, rfl, rfl, rfl, rfl, rfl, rfl⟩
theorem row_28 : TRow 28 ⟨.func, 1, 8, .nilf⟩ := ⟨Tryd.t28, _, _, by kernel_rfl, Tryd.underlying28, rfl, rfl, rfl, rfl, rfl, rfl, rfl⟩
theorem row_29 : TRow 29 ⟨.func, 1, 8, .nilf⟩ := ⟨Tryd.t29, _, _, by kernel_rfl, Tryd.underlying29, rfl, rfl, rfl, rfl, rfl, rfl, rfl⟩
theorem row_30 : TRow 30 ⟨.slice 51, 1, 24, .nils⟩ := ⟨Tryd.t30, _, _, by kernel_rfl, Tryd.underlying30, rfl, rfl, rfl, rfl, rfl, rfl, rfl⟩
theorem row_31 : TRow 31 ⟨.func, 1, 8, .nilf⟩ := ⟨Tryd.t31, _, _, by kernel_rfl, Tryd.underlying31, rfl, rfl, rfl, rfl, rfl, rfl, rfl⟩
theorem row_32 : TRow 32 ⟨.func, 1, 8, .nilf⟩ := ⟨Tryd.t32, _, _, by kernel_rfl, Tryd.underlying32, rfl, rfl, rfl, rfl, rfl, rfl, rfl⟩
theorem row_33 : TRow 33 ⟨.struct [(0, 2), (1, 9)], 2, 24, .agg [.int .i64 0, .str ⟨#[]⟩]⟩ := ⟨Tryd.t33, _, _, by kernel_rfl, Tryd.underlying33, rfl, rfl, rfl, rfl, rfl, rfl, rfl⟩
theorem row_34 : TRow 34 ⟨.struct [(0, 2), (1, 9)], 2, 24, .agg [.int .i64 0, .str ⟨#[]⟩]⟩ := ⟨Tryd.t34, _, _, by kernel_rfl, Tryd.underlying34, rfl, rfl, rfl, rfl, rfl, rfl, rfl⟩
theorem row_35 : TRow 35 ⟨.func, 1, 8, .nilf⟩ := ⟨Tryd.t35, _, _, by kernel_rfl, Tryd.underlying35, rfl, rfl, rfl, rfl, rfl, rfl, rfl⟩
theorem row_36 : TRow 36 ⟨.func, 1, 8, .nilf⟩ := ⟨Tryd.t36, _, _, by kernel_rfl, Tryd.underlying36, rfl, rfl, rfl, rfl, rfl, rfl, rfl⟩
theorem row_37 : TRow 37 ⟨.func, 1, 8, .nilf⟩ := ⟨Tryd.t37, _, _, by kernel_rfl, Tryd.underlying37, rfl, rfl, rfl, rfl, rfl, rfl, rfl⟩
theorem row_39 : TRow 39 ⟨.func, 1, 8, .nilf⟩ := ⟨Tryd.t39, _, _, by kernel_rfl, Tryd.underlying39, rfl, rfl, rfl, rfl, rfl, rfl, rfl⟩
theorem row_41 : TRow 41 ⟨.func, 1, 8, .nilf⟩ := ⟨Tryd.t41, _, _, by kernel_rfl, Tryd.underlying41, rfl, rfl, rfl, rfl, rfl, rfl, rfl⟩
theorem row_42 : TRow 42 ⟨.func, 1, 8, .nilf⟩ := ⟨Tryd.t42, _, _, by kernel_rfl, Tryd.underlying42, rfl, rfl, rfl, rfl, rfl, rfl, rfl⟩
theorem row_43 : TRow 43 ⟨.func, 1, 8, .nilf⟩ := ⟨Tryd.t43, _, _, by kernel_rfl, Tryd.underlying43, rfl, rfl, rfl, rfl, rfl, rfl, rfl⟩
theorem row_44 : TRow 44 ⟨.func, 1, 8, .nilf⟩ := ⟨Tryd.t44, _, _, by kernel_rfl, Tryd.underlying44, rfl, rfl, rfl, rfl, rfl, rfl, rfl⟩
theorem row_45 : TRow 45 ⟨.func, 1, 8, .nilf⟩ := ⟨Tryd.t45, _, _, by kernel_rfl, Tryd.underlying45, rfl, rfl, rfl, rfl, rfl, rfl, rfl⟩
theorem row_47 : TRow 47 ⟨.func, 1, 8, .nilf⟩ := ⟨Tryd.t47, _, _, by kernel_rfl, Tryd.underlying47, rfl, rfl, rfl, rfl, rfl, rfl, rfl⟩
theorem row_48 : TRow 48 ⟨.func, 1, 8, .nilf⟩ := ⟨Tryd.t48, _, _, by kernel_rfl, Tryd.underlying48, rfl, rfl, rfl, rfl, rfl, rfl, rfl⟩
theorem row_49 : TRow 49 ⟨.func, 1, 8, .nilf⟩ := ⟨Tryd.t49, _, _, by kernel_rfl, Tryd.underlying49, rfl, rfl, rfl, rfl, rfl, rfl, rfl⟩
theorem row_50 : TRow 50 ⟨.func, 1, 8, .nilf⟩ := ⟨Tryd.t50, _, _, by kernel_rfl, Tryd.underlying50, rfl, rfl, rfl, rfl, rfl, rfl, rfl⟩
theorem row_51 : TRow 51 ⟨.struct [(0, 2), (1, 9)], 2, 24, .agg [.int .i64 0, .str ⟨#[]⟩]⟩ := ⟨Tryd.t51, _, _, by kernel_rfl, Tryd.underlying51, rfl, rfl, rfl, rfl, rfl, rfl, rfl⟩
theorem row_52 : TRow 52 ⟨.func, 1, 8, .nilf⟩ := ⟨Tryd.t52, _, _, by kernel_rfl, Tryd.underlying52, rfl, rfl, rfl, rfl, rfl, rfl, rfl⟩
theorem row_53 : TRow 53 ⟨.func, 1, 8, .nilf⟩ := ⟨Tryd.t53, _, _, by kernel_rfl, Tryd.underlying53, rfl, rfl, rfl, rfl, rfl, rfl, rfl⟩
theorem row_54 : TRow 54 ⟨.struct [(0, 25)], 1, 24, .agg [.nils]⟩ := ⟨Tryd.t54, _, _, by kernel_rfl, Tryd.underlying54, rfl, rfl, rfl, rfl, rfl, rfl, rfl⟩
theorem row_55 : TRow 55 ⟨.struct [(0, 25)], 1, 24, .agg [.nils]⟩ := ⟨Tryd.t55, _, _, by kernel_rfl, Tryd.underlying55, rfl, rfl, rfl, rfl, rfl, rfl, rfl⟩
theorem row_56 : TRow 56 ⟨.func, 1, 8, .nilf⟩ := ⟨Tryd.t56, _, _, by kernel_rfl, Tryd.underlying56, rfl, rfl, rfl, rfl, rfl, rfl, rfl⟩
theorem row_58 : TRow 58 ⟨.func, 1, 8, .nilf⟩ := ⟨Tryd.t58, _, _, by kernel_rfl, Tryd.underlying58, rfl, rfl, rfl, rfl, rfl, rfl, rfl⟩
theorem row_60 : TRow 60 ⟨.func, 1, 8, .nilf⟩ := ⟨Tryd.t60, _, _, by kernel_rfl, Tryd.underlying60, rfl, rfl, rfl, rfl, rfl, rfl, rfl⟩
theorem row_61 : TRow 61 ⟨.func, 1, 8, .nilf⟩ := ⟨Tryd.t61, _, _, by kernel_rfl, Tryd.underlying61, rfl, rfl, rfl, rfl, rfl, rfl, rfl⟩
theorem row_62 : TRow 62 ⟨.int .u64, 1, 8, .int .u64 0⟩ := ⟨Tryd.t62, _, _, by kernel_rfl, Tryd.underlying62, rfl, rfl, rfl, rfl, rfl, rfl, rfl⟩
theorem row_63 : TRow 63 ⟨.int .u64, 1, 8, .int .u64 0⟩ := ⟨Tryd.t63, _, _, by kernel_rfl, Tryd.underlying63, rfl, rfl, rfl, rfl, rfl, rfl, rfl⟩
theorem row_64 : TRow 64 ⟨.ptr 55, 1, 8, .nilp⟩ := ⟨Tryd.t64, _, _, by kernel_rfl, Tryd.underlying64, rfl, rfl, rfl, rfl, rfl, rfl, rfl⟩
theorem row_65 : TRow 65 ⟨.struct [(0, 26)], 1, 8, .agg [.int .i64 0]⟩ := ⟨Tryd.t65, _, _, by kernel_rfl, Tryd.underlying65, rfl, rfl, rfl, rfl, rfl, rfl, rfl⟩
theorem row_66 : TRow 66 ⟨.struct [(0, 26)], 1, 8, .agg [.int .i64 0]⟩ := ⟨Tryd.t66, _, _, by kernel_rfl, Tryd.underlying66, rfl, rfl, rfl, rfl, rfl, rfl, rfl⟩
theorem row_67 : TRow 67 ⟨.func, 1, 8, .nilf⟩ := ⟨Tryd.t67, _, _, by kernel_rfl, Tryd.underlying67, rfl, rfl, rfl, rfl, rfl, rfl, rfl⟩
theorem row_68 : TRow 68 ⟨.func, 1, 8, .nilf⟩ := ⟨Tryd.t68, _, _, by kernel_rfl, Tryd.underlying68, rfl, rfl, rfl, rfl, rfl, rfl, rfl⟩
theorem row_69 : TRow 69 ⟨.func, 1, 8, .nilf⟩ := ⟨Tryd.t69, _, _, by kernel_rfl, Tryd.underlying69, rfl, rfl, rfl, rfl, rfl, rfl, rfl⟩
theorem row_70 : TRow 70 ⟨.array 256 4, 256, 256, .agg (List.replicate 256 (.bool false))⟩ := ⟨Tryd.t70, _, _, by kernel_rfl, Tryd.underlying70, rfl, rfl, rfl, rfl, rfl, rfl, rfl⟩
theorem row_71 : TRow 71 ⟨.array 256 4, 256, 256, .agg (List.replicate 256 (.bool false))⟩ := ⟨Tryd.t71, _, _, by kernel_rfl, Tryd.underlying71, rfl, rfl, rfl, rfl, rfl, rfl, rfl⟩
theorem row_73 : TRow 73 ⟨.func, 1, 8, .nilf⟩ := ⟨Tryd.t73, _, _, by kernel_rfl, Tryd.underlying73, rfl, rfl, rfl, rfl, rfl, rfl, rfl⟩
theorem row_74 : TRow 74 ⟨.func, 1, 8, .nilf⟩ := ⟨Tryd.t74, _, _, by kernel_rfl, Tryd.underlying74, rfl, rfl, rfl, rfl, rfl, rfl, rfl⟩
theorem row_75 : TRow 75 ⟨.ptr 71, 1, 8, .nilp⟩ := ⟨Tryd.t75, _, _, by kernel_rfl, Tryd.underlying75, rfl, rfl, rfl, rfl, rfl, rfl, rfl⟩
theorem row_76 : TRow 76 ⟨.func, 1, 8, .nilf⟩ := ⟨Tryd.t76, _, _, by kernel_rfl, Tryd.underlying76, rfl, rfl, rfl, rfl, rfl, rfl, rfl⟩
theorem row_77 : TRow 77 ⟨.func, 1, 8, .nilf⟩ := ⟨Tryd.t77, _, _, by kernel_rfl, Tryd.underlying77, rfl, rfl, rfl, rfl, rfl, rfl, rfl⟩
theorem row_79 : TRow 79 ⟨.func, 1, 8, .nilf⟩ := ⟨Tryd.t79, _, _, by kernel_rfl, Tryd.underlying79, rfl, rfl, rfl, rfl, rfl, rfl, rfl⟩
theorem row_80 : TRow 80 ⟨.func, 1, 8, .nilf⟩ := ⟨Tryd.t80, _, _, by kernel_rfl, Tryd.underlying80, rfl, rfl, rfl, rfl, rfl, rfl, rfl⟩
theorem row_81 : TRow 81 ⟨.func, 1, 8, .nilf⟩ := ⟨Tryd.t81, _, _, by kernel_rfl, Tryd.underlying81, rfl, rfl, rfl, rfl, rfl, rfl, rfl⟩
theorem row_82 : TRow 82 ⟨.array 256 5, 256, 256, .agg (List.replicate 256 (.int .u8 0))⟩ := ⟨Tryd.t82, _, _, by kernel_rfl, Tryd.underlying82, rfl, rfl, rfl, rfl, rfl, rfl, rfl⟩
theorem row_83 : TRow 83 ⟨.struct [(0, 5), (1, 5)], 2, 2, .agg [.int .u8 0, .int .u8 0]⟩ := ⟨Tryd.t83, _, _, by kernel_rfl, Tryd.underlying83, rfl, rfl, rfl, rfl, rfl, rfl, rfl⟩
theorem row_84 : TRow 84 ⟨.struct [(0, 5), (1, 5)], 2, 2, .agg [.int .u8 0, .int .u8 0]⟩ := ⟨Tryd.t84, _, _, by kernel_rfl, Tryd.underlying84, rfl, rfl, rfl, rfl, rfl, rfl, rfl⟩
theorem row_85 : TRow 85 ⟨.array 16 84, 32, 32, .agg (List.replicate 32 (.int .u8 0))⟩ := ⟨Tryd.t85, _, _, by kernel_rfl, Tryd.underlying85, rfl, rfl, rfl, rfl, rfl, rfl, rfl⟩
theorem row_86 : TRow 86 ⟨.func, 1, 8, .nilf⟩ := ⟨Tryd.t86, _, _, by kernel_rfl, Tryd.underlying86, rfl, rfl, rfl, rfl, rfl, rfl, rfl⟩
theorem row_87 : TRow 87 ⟨.func, 1, 8, .nilf⟩ := ⟨Tryd.t87, _, _, by kernel_rfl, Tryd.underlying87, rfl, rfl, rfl, rfl, rfl, rfl, rfl⟩
theorem row_88 : TRow 88 ⟨.func, 1, 8, .nilf⟩ := ⟨Tryd.t88, _, _, by kernel_rfl, Tryd.underlying88, rfl, rfl, rfl, rfl, rfl, rfl, rfl⟩
theorem row_89 : TRow 89 ⟨.func, 1, 8, .nilf⟩ := ⟨Tryd.t89, _, _, by kernel_rfl, Tryd.underlying89, rfl, rfl, rfl, rfl, rfl, rfl, rfl⟩
theorem row_95 : TRow 95 ⟨.func, 1, 8, .nilf⟩ := ⟨Tryd.t95, _, _, by kernel_rfl, Tryd.underlying95, rfl, rfl, rfl, rfl, rfl, rfl, rfl⟩
theorem row_96 : TRow 96 ⟨.int .u32, 1, 4, .int .u32 0⟩ := ⟨Tryd.t96, _, _, by kernel_rfl, Tryd.underlying96, rfl, rfl, rfl, rfl, rfl, rfl, rfl⟩
theorem row_97 : TRow 97 ⟨.int .u8, 1, 1, .int .u8 0⟩ := ⟨Tryd.t97, _, _, by kernel_rfl, Tryd.underlying97, rfl, rfl, rfl, rfl, rfl, rfl, rfl⟩
theorem row_98 : TRow 98 ⟨.int .u8, 1, 1, .int .u8 0⟩ := ⟨Tryd.t98, _, _, by kernel_rfl, Tryd.underlying98, rfl, rfl, rfl, rfl, rfl, rfl, rfl⟩
theorem row_99 : TRow 99 ⟨.func, 1, 8, .nilf⟩ := ⟨Tryd.t99, _, _, by kernel_rfl, Tryd.underlying99, rfl, rfl, rfl, rfl, rfl, rfl, rfl⟩
theorem row_100 : TRow 100 ⟨.ptr 5, 1, 8, .nilp⟩ := ⟨Tryd.t100, _, _, by kernel_rfl, Tryd.underlying100, rfl, rfl, rfl, rfl, rfl, rfl, rfl⟩
theorem row_101 : TRow 101 ⟨.int .i32, 1, 4, .int .i32 0⟩ := ⟨Tryd.t101, _, _, by kernel_rfl, Tryd.underlying101, rfl, rfl, rfl, rfl, rfl, rfl, rfl⟩
theorem row_102 : TRow 102 ⟨.int .i32, 1, 4, .int .i32 0⟩ := ⟨Tryd.t102, _, _, by kernel_rfl, Tryd.underlying102, rfl, rfl, rfl, rfl, rfl, rfl, rfl⟩
theorem hTt : ∀ t i, T t = some i → TRow t i := by
  intro t i h
  unfold T at h
  split at h
  · obtain rfl := Option.some.inj h; exact row_1
  · obtain rfl := Option.some.inj h; exact row_2
  · obtain rfl := Option.some.inj h; exact row_3
  · obtain rfl := Option.some.inj h; exact row_4
  · obtain rfl := Option.some.inj h; exact row_5
  · obtain rfl := Option.some.inj h; exact row_6
  · obtain rfl := Option.some.inj h; exact row_7
  · obtain rfl := Option.some.inj h; exact row_8
  · obtain rfl := Option.some.inj h; exact row_9
  · obtain rfl := Option.some.inj h; exact row_10
  · obtain rfl := Option.some.inj h; exact row_11
  · obtain rfl := Option.some.inj h; exact row_12
  · obtain rfl := Option.some.inj h; exact row_15
  · obtain rfl := Option.some.inj h; exact row_16
  · obtain rfl := Option.some.inj h; exact row_17
  · obtain rfl := Option.some.inj h; exact row_21
  · obtain rfl := Option.some.inj h; exact row_22
  · obtain rfl := Option.some.inj h; exact row_23
  · obtain rfl := Option.some.inj h; exact row_24
  · obtain rfl := Option.some.inj h; exact row_25
  · obtain rfl := Option.some.inj h; exact row_26
  · obtain rfl := Option.some.inj h; exact row_28
  · obtain rfl := Option.some.inj h; exact row_29
  · obtain rfl := Option.some.inj h; exact row_30
  · obtain rfl := Option.some.inj h; exact row_31
  · obtain rfl := Option.some.inj h; exact row_32
  · obtain rfl := Option.some.inj h; exact row_33
  · obtain rfl := Option.some.inj h; exact row_34
  · obtain rfl := Option.some.inj h; exact row_35
  · obtain rfl := Option.some.inj h; exact row_36
  · obtain rfl := Option.some.inj h; exact row_37
  · obtain rfl := Option.some.inj h; exact row_39
  · obtain rfl := Option.some.inj h; exact row_41
  · obtain rfl := Option.some.inj h; exact row_42
  · obtain rfl := Option.some.inj h; exact row_43
  · obtain rfl := Option.some.inj h; exact row_44
  · obtain rfl := Option.some.inj h; exact row_45
  · obtain rfl := Option.some.inj h; exact row_47
  · obtain rfl := Option.some.inj h; exact row_48
  · obtain rfl := Option.some.inj h; exact row_49
  · obtain rfl := Option.some.inj h; exact row_50
  · obtain rfl := Option.some.inj h; exact row_51
  · obtain rfl := Option.some.inj h; exact row_52
  · obtain rfl := Option.some.inj h; exact row_53
  · obtain rfl := Option.some.inj h; exact row_54
  · obtain rfl := Option.some.inj h; exact row_55
  · obtain rfl := Option.some.inj h; exact row_56
  · obtain rfl := Option.some.inj h; exact row_58
  · obtain rfl := Option.some.inj h; exact row_60
  · obtain rfl := Option.some.inj h; exact row_61
  · obtain rfl := Option.some.inj h; exact row_62
  · obtain rfl := Option.some.inj h; exact row_63
  · obtain rfl := Option.some.inj h; exact row_64
  · obtain rfl := Option.some.inj h; exact row_65
  · obtain rfl := Option.some.inj h; exact row_66
  · obtain rfl := Option.some.inj h; exact row_67
  · obtain rfl := Option.some.inj h; exact row_68
  · obtain rfl := Option.some.inj h; exact row_69
  · obtain rfl := Option.some.inj h; exact row_70
  · obtain rfl := Option.some.inj h; exact row_71
  · obtain rfl := Option.some.inj h; exact row_73
  · obtain rfl := Option.some.inj h; exact row_74
  · obtain rfl := Option.some.inj h; exact row_75
  · obtain rfl := Option.some.inj h; exact row_76
  · obtain rfl := Option.some.inj h; exact row_77
  · obtain rfl := Option.some.inj h; exact row_79
  · obtain rfl := Option.some.inj h; exact row_80
  · obtain rfl := Option.some.inj h; exact row_81
  · obtain rfl := Option.some.inj h; exact row_82
  · obtain rfl := Option.some.inj h; exact row_83
  · obtain rfl := Option.some.inj h; exact row_84
  · obtain rfl := Option.some.inj h; exact row_85
  · obtain rfl := Option.some.inj h; exact row_86
  · obtain rfl := Option.some.inj h; exact row_87
  · obtain rfl := Option.some.inj h; exact row_88
  · obtain rfl := Option.some.inj h; exact row_89
  · obtain rfl := Option.some.inj h; exact row_95
  · obtain rfl := Option.some.inj h; exact row_96
  · obtain rfl := Option.some.inj h; exact row_97
  · obtain rfl := Option.some.inj h; exact row_98
  · obtain rfl := Option.some.inj h; exact row_99
  · obtain rfl := Option.some.inj h; exact row_100
  · obtain rfl := Option.some.inj h; exact row_101
  · obtain rfl := Option.some.inj h; exact row_102
  · cases h

theorem eq_7 : eqOK Tryd.prog 7 = true := by kernel_rfl
theorem eq_8 : eqOK Tryd.prog 8 = true := by kernel_rfl
theorem eq_33 : eqOK Tryd.prog 33 = true := by kernel_rfl
theorem eq_34 : eqOK Tryd.prog 34 = true := by kernel_rfl
theorem eq_51 : eqOK Tryd.prog 51 = true := by kernel_rfl
theorem eq_54 : eqOK Tryd.prog 54 = true := by kernel_rfl
theorem eq_55 : eqOK Tryd.prog 55 = true := by kernel_rfl
theorem eq_65 : eqOK Tryd.prog 65 = true := by kernel_rfl
theorem eq_66 : eqOK Tryd.prog 66 = true := by kernel_rfl
theorem eq_83 : eqOK Tryd.prog 83 = true := by kernel_rfl
theorem eq_84 : eqOK Tryd.prog 84 = true := by kernel_rfl
theorem hTe : ∀ t fs s b z, T t = some ⟨.struct fs, s, b, z⟩ → eqOK Tryd.prog t = true := by
  intro t fs s b z h
  unfold T at h
  split at h
  · cases h
  · cases h
  · cases h
  · cases h
  · cases h
  · cases h
  · exact eq_7
  · exact eq_8
  · cases h
  · cases h
  · cases h
  · cases h
  · cases h
  · cases h
  · cases h
  · cases h
  · cases h
  · cases h
  · cases h
  · cases h
  · cases h
  · cases h
  · cases h
  · cases h
  · cases h
  · cases h
  · exact eq_33
  · exact eq_34
  · cases h
  · cases h
  · cases h
  · cases h
  · cases h
  · cases h
  · cases h
  · cases h
  · cases h
  · cases h
  · cases h
  · cases h
  · cases h
  · exact eq_51
  · cases h
  · cases h
  · exact eq_54
  · exact eq_55
  · cases h
  · cases h
  · cases h
  · cases h
  · cases h
  · cases h
  · cases h
  · exact eq_65
  · exact eq_66
  · cases h
  · cases h
  · cases h
  · cases h
  · cases h
  · cases h
  · cases h
  · cases h
  · cases h
  · cases h
  · cases h
  · cases h
  · cases h
  · cases h
  · exact eq_83
  · exact eq_84
  · cases h
  · cases h
  · cases h
  · cases h
  · cases h
  · cases h
  · cases h
  · cases h
  · cases h
  · cases h
  · cases h
  · cases h
  · cases h
  · cases h
theorem hT : TabOK Tryd.prog T := ⟨hTt, hTe⟩

theorem ent_3 : Ent Tryd.prog 3 := by unfold Ent; kernel_rfl
theorem ent_4 : Ent Tryd.prog 4 := by unfold Ent; kernel_rfl
theorem ent_5 : Ent Tryd.prog 5 := by unfold Ent; kernel_rfl
theorem ent_6 : Ent Tryd.prog 6 := by unfold Ent; kernel_rfl
theorem ent_7 : Ent Tryd.prog 7 := by unfold Ent; kernel_rfl
theorem ent_8 : Ent Tryd.prog 8 := by unfold Ent; kernel_rfl
theorem ent_9 : Ent Tryd.prog 9 := by unfold Ent; kernel_rfl
theorem ent_10 : Ent Tryd.prog 10 := by unfold Ent; kernel_rfl
theorem ent_11 : Ent Tryd.prog 11 := by unfold Ent; kernel_rfl
theorem ent_12 : Ent Tryd.prog 12 := by unfold Ent; kernel_rfl
theorem ent_13 : Ent Tryd.prog 13 := by unfold Ent; kernel_rfl
theorem ent_14 : Ent Tryd.prog 14 := by unfold Ent; kernel_rfl
theorem ent_15 : Ent Tryd.prog 15 := by unfold Ent; kernel_rfl
theorem ent_16 : Ent Tryd.prog 16 := by unfold Ent; kernel_rfl
theorem ent_17 : Ent Tryd.prog 17 := by unfold Ent; kernel_rfl
theorem ent_18 : Ent Tryd.prog 18 := by unfold Ent; kernel_rfl
theorem ent_19 : Ent Tryd.prog 19 := by unfold Ent; kernel_rfl
theorem ent_20 : Ent Tryd.prog 20 := by unfold Ent; kernel_rfl
theorem ent_21 : Ent Tryd.prog 21 := by unfold Ent; kernel_rfl
theorem ent_22 : Ent Tryd.prog 22 := by unfold Ent; kernel_rfl
theorem ent_23 : Ent Tryd.prog 23 := by unfold Ent; kernel_rfl
theorem ent_24 : Ent Tryd.prog 24 := by unfold Ent; kernel_rfl
theorem ent_25 : Ent Tryd.prog 25 := by unfold Ent; kernel_rfl
theorem ent_26 : Ent Tryd.prog 26 := by unfold Ent; kernel_rfl
theorem ent_27 : Ent Tryd.prog 27 := by unfold Ent; kernel_rfl
theorem ent_28 : Ent Tryd.prog 28 := by unfold Ent; kernel_rfl
theorem ent_29 : Ent Tryd.prog 29 := by unfold Ent; kernel_rfl
theorem ent_30 : Ent Tryd.prog 30 := by unfold Ent; kernel_rfl
theorem ent_31 : Ent Tryd.prog 31 := by unfold Ent; kernel_rfl
theorem ent_32 : Ent Tryd.prog 32 := by unfold Ent; kernel_rfl
theorem ent_33 : Ent Tryd.prog 33 := by unfold Ent; kernel_rfl
theorem ent_34 : Ent Tryd.prog 34 := by unfold Ent; kernel_rfl
theorem ent_35 : Ent Tryd.prog 35 := by unfold Ent; kernel_rfl
theorem ent_36 : Ent Tryd.prog 36 := by unfold Ent; kernel_rfl
theorem ent_37 : Ent Tryd.prog 37 := by unfold Ent; kernel_rfl
theorem ent_38 : Ent Tryd.prog 38 := by unfold Ent; kernel_rfl
theorem ent_39 : Ent Tryd.prog 39 := by unfold Ent; kernel_rfl
theorem ent_40 : Ent Tryd.prog 40 := by unfold Ent; kernel_rfl
theorem ent_41 : Ent Tryd.prog 41 := by unfold Ent; kernel_rfl
theorem ent_42 : Ent Tryd.prog 42 := by unfold Ent; kernel_rfl
theorem ent_43 : Ent Tryd.prog 43 := by unfold Ent; kernel_rfl
theorem ent_44 : Ent Tryd.prog 44 := by unfold Ent; kernel_rfl
theorem ent_45 : Ent Tryd.prog 45 := by unfold Ent; kernel_rfl
theorem ent_46 : Ent Tryd.prog 46 := by unfold Ent; kernel_rfl
theorem ent_47 : Ent Tryd.prog 47 := by unfold Ent; kernel_rfl
theorem ent_48 : Ent Tryd.prog 48 := by unfold Ent; kernel_rfl
theorem ent_49 : Ent Tryd.prog 49 := by unfold Ent; kernel_rfl
theorem ent_50 : Ent Tryd.prog 50 := by unfold Ent; kernel_rfl
theorem ent_51 : Ent Tryd.prog 51 := by unfold Ent; kernel_rfl
theorem ent_52 : Ent Tryd.prog 52 := by unfold Ent; kernel_rfl
theorem ent_54 : Ent Tryd.prog 54 := by unfold Ent; kernel_rfl
theorem ent_76 : Ent Tryd.prog 76 := by unfold Ent; kernel_rfl
@[simp] theorem res_3 : Tryd.f3.results.toList = [.tmp 8] := rfl
attribute [simp] Tryd.ntmps3
@[simp] theorem res_4 : Tryd.f4.results.toList = [.tmp 4] := rfl
attribute [simp] Tryd.ntmps4
@[simp] theorem res_5 : Tryd.f5.results.toList = [.tmp 6] := rfl
attribute [simp] Tryd.ntmps5
@[simp] theorem res_6 : Tryd.f6.results.toList = [.tmp 8] := rfl
attribute [simp] Tryd.ntmps6
@[simp] theorem res_7 : Tryd.f7.results.toList = [.tmp 0] := rfl
attribute [simp] Tryd.ntmps7
@[simp] theorem res_8 : Tryd.f8.results.toList = [.tmp 4] := rfl
attribute [simp] Tryd.ntmps8
@[simp] theorem res_9 : Tryd.f9.results.toList = [.tmp 4, .tmp 5] := rfl
attribute [simp] Tryd.ntmps9
@[simp] theorem res_10 : Tryd.f10.results.toList = [.tmp 4, .tmp 5] := rfl
attribute [simp] Tryd.ntmps10
@[simp] theorem res_11 : Tryd.f11.results.toList = [.tmp 2] := rfl
attribute [simp] Tryd.ntmps11
@[simp] theorem res_12 : Tryd.f12.results.toList = [.tmp 4] := rfl
attribute [simp] Tryd.ntmps12
@[simp] theorem res_13 : Tryd.f13.results.toList = [.cell 2 34] := rfl
attribute [simp] Tryd.ntmps13
@[simp] theorem res_14 : Tryd.f14.results.toList = [.cell 2 34] := rfl
attribute [simp] Tryd.ntmps14
@[simp] theorem res_15 : Tryd.f15.results.toList = [.tmp 4, .tmp 5] := rfl
attribute [simp] Tryd.ntmps15
@[simp] theorem res_16 : Tryd.f16.results.toList = [.tmp 4, .tmp 5] := rfl
attribute [simp] Tryd.ntmps16
@[simp] theorem res_17 : Tryd.f17.results.toList = [.tmp 4] := rfl
attribute [simp] Tryd.ntmps17
@[simp] theorem res_18 : Tryd.f18.results.toList = [.tmp 2, .tmp 3, .tmp 4] := rfl
attribute [simp] Tryd.ntmps18
@[simp] theorem res_19 : Tryd.f19.results.toList = [.tmp 4] := rfl
attribute [simp] Tryd.ntmps19
@[simp] theorem res_20 : Tryd.f20.results.toList = [.tmp 4] := rfl
attribute [simp] Tryd.ntmps20
@[simp] theorem res_21 : Tryd.f21.results.toList = [.tmp 2, .tmp 3, .tmp 4] := rfl
attribute [simp] Tryd.ntmps21
@[simp] theorem res_22 : Tryd.f22.results.toList = [.tmp 4] := rfl
attribute [simp] Tryd.ntmps22
@[simp] theorem res_23 : Tryd.f23.results.toList = [.tmp 2] := rfl
attribute [simp] Tryd.ntmps23
@[simp] theorem res_24 : Tryd.f24.results.toList = [.tmp 4] := rfl
attribute [simp] Tryd.ntmps24
@[simp] theorem res_25 : Tryd.f25.results.toList = [.tmp 2] := rfl
attribute [simp] Tryd.ntmps25
@[simp] theorem res_26 : Tryd.f26.results.toList = [.cell 6 22, .cell 7 26] := rfl
attribute [simp] Tryd.ntmps26
@[simp] theorem res_27 : Tryd.f27.results.toList = [.tmp 4, .tmp 5, .tmp 6] := rfl
attribute [simp] Tryd.ntmps27
@[simp] theorem res_28 : Tryd.f28.results.toList = [.tmp 4, .tmp 5] := rfl
attribute [simp] Tryd.ntmps28
@[simp] theorem res_29 : Tryd.f29.results.toList = [.tmp 4] := rfl
attribute [simp] Tryd.ntmps29
@[simp] theorem res_30 : Tryd.f30.results.toList = [] := rfl
attribute [simp] Tryd.ntmps30
@[simp] theorem res_31 : Tryd.f31.results.toList = [.tmp 2] := rfl
attribute [simp] Tryd.ntmps31
@[simp] theorem res_32 : Tryd.f32.results.toList = [.tmp 2] := rfl
attribute [simp] Tryd.ntmps32
@[simp] theorem res_33 : Tryd.f33.results.toList = [.tmp 4, .tmp 5] := rfl
attribute [simp] Tryd.ntmps33
@[simp] theorem res_34 : Tryd.f34.results.toList = [.tmp 4] := rfl
attribute [simp] Tryd.ntmps34
@[simp] theorem res_35 : Tryd.f35.results.toList = [.tmp 4] := rfl
attribute [simp] Tryd.ntmps35
@[simp] theorem res_36 : Tryd.f36.results.toList = [.cell 2 71, .tmp 3] := rfl
attribute [simp] Tryd.ntmps36
@[simp] theorem res_37 : Tryd.f37.results.toList = [.tmp 4] := rfl
attribute [simp] Tryd.ntmps37
@[simp] theorem res_38 : Tryd.f38.results.toList = [.tmp 4] := rfl
attribute [simp] Tryd.ntmps38
@[simp] theorem res_39 : Tryd.f39.results.toList = [.tmp 4] := rfl
attribute [simp] Tryd.ntmps39
@[simp] theorem res_40 : Tryd.f40.results.toList = [.tmp 4] := rfl
attribute [simp] Tryd.ntmps40
@[simp] theorem res_41 : Tryd.f41.results.toList = [.tmp 2] := rfl
attribute [simp] Tryd.ntmps41
@[simp] theorem res_42 : Tryd.f42.results.toList = [.tmp 4] := rfl
attribute [simp] Tryd.ntmps42
@[simp] theorem res_43 : Tryd.f43.results.toList = [.tmp 4] := rfl
attribute [simp] Tryd.ntmps43
@[simp] theorem res_44 : Tryd.f44.results.toList = [.tmp 2, .tmp 3] := rfl
attribute [simp] Tryd.ntmps44
@[simp] theorem res_45 : Tryd.f45.results.toList = [.tmp 4] := rfl
attribute [simp] Tryd.ntmps45
@[simp] theorem res_46 : Tryd.f46.results.toList = [.tmp 2, .tmp 3] := rfl
attribute [simp] Tryd.ntmps46
@[simp] theorem res_47 : Tryd.f47.results.toList = [.tmp 2, .tmp 3] := rfl
attribute [simp] Tryd.ntmps47
@[simp] theorem res_48 : Tryd.f48.results.toList = [.tmp 4] := rfl
attribute [simp] Tryd.ntmps48
@[simp] theorem res_49 : Tryd.f49.results.toList = [.tmp 2] := rfl
attribute [simp] Tryd.ntmps49
@[simp] theorem res_50 : Tryd.f50.results.toList = [.tmp 4] := rfl
attribute [simp] Tryd.ntmps50
@[simp] theorem res_51 : Tryd.f51.results.toList = [.tmp 2] := rfl
attribute [simp] Tryd.ntmps51
@[simp] theorem res_52 : Tryd.f52.results.toList = [.tmp 2] := rfl
attribute [simp] Tryd.ntmps52
@[simp] theorem res_54 : Tryd.f54.results.toList = [.tmp 4] := rfl
attribute [simp] Tryd.ntmps54
@[simp] theorem res_76 : Tryd.f76.results.toList = [] := rfl
attribute [simp] Tryd.ntmps76
end Go.Proofs.YtgmcflbbdpbkeaaDoor
