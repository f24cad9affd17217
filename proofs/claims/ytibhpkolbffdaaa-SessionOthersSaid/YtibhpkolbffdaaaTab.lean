/- The types of the program, in short, and that they are so. Printed by gen_tab.py. -/
import Derived.Test.YtibhpkolbffdaaaVXGh
import Derived.Test.YtibhpkolbffdaaaProg
import Derived.KernelRfl
namespace Go.Proofs.Ytibhpkolbffdaaa
open Go Go.VX
set_option linter.unusedVariables false

def T : Nat → Option TI
  | 1 => some ⟨.func, 1, 8, .nilf⟩
  | 2 => some ⟨.int .i64, 1, 8, .int .i64 0⟩
  | 3 => some ⟨.int .i64, 1, 8, .int .i64 0⟩
  | 4 => some ⟨.bool, 1, 1, .bool false⟩
  | 5 => some ⟨.int .u8, 1, 1, .int .u8 0⟩
  | 6 => some ⟨.int .u8, 1, 1, .int .u8 0⟩
  | 7 => some ⟨.struct [(0, 2), (1, 3), (2, 4), (3, 6)], 4, 24, .agg [.int .i64 0, .int .i64 0, .bool false, .int .u8 0]⟩
  | 8 => some ⟨.struct [(0, 2), (1, 3), (2, 4), (3, 6)], 4, 24, .agg [.int .i64 0, .int .i64 0, .bool false, .int .u8 0]⟩
  | 9 => some ⟨.string, 1, 16, .str ⟨#[]⟩⟩
  | 10 => some ⟨.string, 1, 16, .str ⟨#[]⟩⟩
  | 11 => some ⟨.string, 1, 16, .str ⟨#[]⟩⟩
  | 12 => some ⟨.int .u64, 1, 8, .int .u64 0⟩
  | 15 => some ⟨.ptr 110, 1, 8, .nilp⟩
  | 16 => some ⟨.ptr 113, 1, 8, .nilp⟩
  | 17 => some ⟨.ptr 122, 1, 8, .nilp⟩
  | 21 => some ⟨.int .i32, 1, 4, .int .i32 0⟩
  | 22 => some ⟨.slice 34, 1, 24, .nils⟩
  | 23 => some ⟨.func, 1, 8, .nilf⟩
  | 24 => some ⟨.func, 1, 8, .nilf⟩
  | 25 => some ⟨.ptr 81, 1, 8, .nilp⟩
  | 26 => some ⟨.int .i64, 1, 8, .int .i64 0⟩
  | 28 => some ⟨.func, 1, 8, .nilf⟩
  | 29 => some ⟨.ptr 44, 1, 8, .nilp⟩
  | 31 => some ⟨.func, 1, 8, .nilf⟩
  | 32 => some ⟨.slice 5, 1, 24, .nils⟩
  | 33 => some ⟨.struct [(0, 3), (1, 3), (2, 3), (3, 32)], 4, 48, .agg [.int .i64 0, .int .i64 0, .int .i64 0, .nils]⟩
  | 34 => some ⟨.struct [(0, 3), (1, 3), (2, 3), (3, 32)], 4, 48, .agg [.int .i64 0, .int .i64 0, .int .i64 0, .nils]⟩
  | 35 => some ⟨.func, 1, 8, .nilf⟩
  | 36 => some ⟨.func, 1, 8, .nilf⟩
  | 37 => some ⟨.func, 1, 8, .nilf⟩
  | 38 => some ⟨.func, 1, 8, .nilf⟩
  | 40 => some ⟨.func, 1, 8, .nilf⟩
  | 41 => some ⟨.func, 1, 8, .nilf⟩
  | 42 => some ⟨.func, 1, 8, .nilf⟩
  | 43 => some ⟨.struct [(0, 32), (1, 4), (2, 3), (3, 3), (4, 3)], 5, 56, .agg [.nils, .bool false, .int .i64 0, .int .i64 0, .int .i64 0]⟩
  | 44 => some ⟨.struct [(0, 32), (1, 4), (2, 3), (3, 3), (4, 3)], 5, 56, .agg [.nils, .bool false, .int .i64 0, .int .i64 0, .int .i64 0]⟩
  | 45 => some ⟨.func, 1, 8, .nilf⟩
  | 46 => some ⟨.func, 1, 8, .nilf⟩
  | 47 => some ⟨.slice 32, 1, 24, .nils⟩
  | 48 => some ⟨.func, 1, 8, .nilf⟩
  | 49 => some ⟨.slice 58, 1, 24, .nils⟩
  | 50 => some ⟨.func, 1, 8, .nilf⟩
  | 51 => some ⟨.ptr 88, 1, 8, .nilp⟩
  | 53 => some ⟨.func, 1, 8, .nilf⟩
  | 54 => some ⟨.ptr 92, 1, 8, .nilp⟩
  | 56 => some ⟨.func, 1, 8, .nilf⟩
  | 57 => some ⟨.struct [(0, 3), (1, 9), (2, 9), (3, 3), (4, 2), (5, 2)], 6, 64, .agg [.int .i64 0, .str ⟨#[]⟩, .str ⟨#[]⟩, .int .i64 0, .int .i64 0, .int .i64 0]⟩
  | 58 => some ⟨.struct [(0, 3), (1, 9), (2, 9), (3, 3), (4, 2), (5, 2)], 6, 64, .agg [.int .i64 0, .str ⟨#[]⟩, .str ⟨#[]⟩, .int .i64 0, .int .i64 0, .int .i64 0]⟩
  | 59 => some ⟨.struct [(0, 2), (1, 3), (2, 26)], 3, 24, .agg [.int .i64 0, .int .i64 0, .int .i64 0]⟩
  | 60 => some ⟨.struct [(0, 2), (1, 3), (2, 26)], 3, 24, .agg [.int .i64 0, .int .i64 0, .int .i64 0]⟩
  | 61 => some ⟨.func, 1, 8, .nilf⟩
  | 62 => some ⟨.func, 1, 8, .nilf⟩
  | 64 => some ⟨.func, 1, 8, .nilf⟩
  | 65 => some ⟨.func, 1, 8, .nilf⟩
  | 67 => some ⟨.func, 1, 8, .nilf⟩
  | 68 => some ⟨.func, 1, 8, .nilf⟩
  | 69 => some ⟨.func, 1, 8, .nilf⟩
  | 70 => some ⟨.map 9 3, 1, 8, .nilm⟩
  | 71 => some ⟨.map 2 3, 1, 8, .nilm⟩
  | 72 => some ⟨.map 2 2, 1, 8, .nilm⟩
  | 75 => some ⟨.slice 3, 1, 24, .nils⟩
  | 76 => some ⟨.func, 1, 8, .nilf⟩
  | 77 => some ⟨.slice 2, 1, 24, .nils⟩
  | 78 => some ⟨.func, 1, 8, .nilf⟩
  | 79 => some ⟨.slice 84, 1, 24, .nils⟩
  | 80 => some ⟨.struct [(0, 79), (1, 4), (2, 3), (3, 3), (4, 3)], 5, 56, .agg [.nils, .bool false, .int .i64 0, .int .i64 0, .int .i64 0]⟩
  | 81 => some ⟨.struct [(0, 79), (1, 4), (2, 3), (3, 3), (4, 3)], 5, 56, .agg [.nils, .bool false, .int .i64 0, .int .i64 0, .int .i64 0]⟩
  | 82 => some ⟨.func, 1, 8, .nilf⟩
  | 83 => some ⟨.array 32 5, 32, 32, .agg (List.replicate 32 (.int .u8 0))⟩
  | 84 => some ⟨.array 32 5, 32, 32, .agg (List.replicate 32 (.int .u8 0))⟩
  | 85 => some ⟨.map 9 105, 1, 8, .nilm⟩
  | 86 => some ⟨.map 2 101, 1, 8, .nilm⟩
  | 87 => some ⟨.struct [(0, 2), (1, 3), (2, 85), (3, 86)], 4, 32, .agg [.int .i64 0, .int .i64 0, .nilm, .nilm]⟩
  | 88 => some ⟨.struct [(0, 2), (1, 3), (2, 85), (3, 86)], 4, 32, .agg [.int .i64 0, .int .i64 0, .nilm, .nilm]⟩
  | 89 => some ⟨.slice 95, 1, 24, .nils⟩
  | 90 => some ⟨.slice 99, 1, 24, .nils⟩
  | 91 => some ⟨.struct [(0, 2), (1, 3), (2, 89), (3, 90)], 4, 64, .agg [.int .i64 0, .int .i64 0, .nils, .nils]⟩
  | 92 => some ⟨.struct [(0, 2), (1, 3), (2, 89), (3, 90)], 4, 64, .agg [.int .i64 0, .int .i64 0, .nils, .nils]⟩
  | 93 => some ⟨.func, 1, 8, .nilf⟩
  | 94 => some ⟨.struct [(0, 9), (1, 9), (2, 3)], 3, 40, .agg [.str ⟨#[]⟩, .str ⟨#[]⟩, .int .i64 0]⟩
  | 95 => some ⟨.struct [(0, 9), (1, 9), (2, 3)], 3, 40, .agg [.str ⟨#[]⟩, .str ⟨#[]⟩, .int .i64 0]⟩
  | 96 => some ⟨.func, 1, 8, .nilf⟩
  | 97 => some ⟨.func, 1, 8, .nilf⟩
  | 98 => some ⟨.struct [(0, 2), (1, 3), (2, 2)], 3, 24, .agg [.int .i64 0, .int .i64 0, .int .i64 0]⟩
  | 99 => some ⟨.struct [(0, 2), (1, 3), (2, 2)], 3, 24, .agg [.int .i64 0, .int .i64 0, .int .i64 0]⟩
  | 100 => some ⟨.struct [(0, 3), (1, 2)], 2, 16, .agg [.int .i64 0, .int .i64 0]⟩
  | 101 => some ⟨.struct [(0, 3), (1, 2)], 2, 16, .agg [.int .i64 0, .int .i64 0]⟩
  | 103 => some ⟨.func, 1, 8, .nilf⟩
  | 104 => some ⟨.struct [(0, 9), (1, 3)], 2, 24, .agg [.str ⟨#[]⟩, .int .i64 0]⟩
  | 105 => some ⟨.struct [(0, 9), (1, 3)], 2, 24, .agg [.str ⟨#[]⟩, .int .i64 0]⟩
  | 107 => some ⟨.func, 1, 8, .nilf⟩
  | 108 => some ⟨.func, 1, 8, .nilf⟩
  | 114 => some ⟨.int .u32, 1, 4, .int .u32 0⟩
  | 115 => some ⟨.int .u8, 1, 1, .int .u8 0⟩
  | 116 => some ⟨.int .u8, 1, 1, .int .u8 0⟩
  | 117 => some ⟨.func, 1, 8, .nilf⟩
  | 118 => some ⟨.ptr 5, 1, 8, .nilp⟩
  | 119 => some ⟨.int .i32, 1, 4, .int .i32 0⟩
  | 120 => some ⟨.int .i32, 1, 4, .int .i32 0⟩
  | _ => none

@[simp] theorem T_1 : T 1 = some ⟨.func, 1, 8, .nilf⟩ := rfl
@[simp] theorem T_2 : T 2 = some ⟨.int .i64, 1, 8, .int .i64 0⟩ := rfl
@[simp] theorem T_3 : T 3 = some ⟨.int .i64, 1, 8, .int .i64 0⟩ := rfl
@[simp] theorem T_4 : T 4 = some ⟨.bool, 1, 1, .bool false⟩ := rfl
@[simp] theorem T_5 : T 5 = some ⟨.int .u8, 1, 1, .int .u8 0⟩ := rfl
@[simp] theorem T_6 : T 6 = some ⟨.int .u8, 1, 1, .int .u8 0⟩ := rfl
@[simp] theorem T_7 : T 7 = some ⟨.struct [(0, 2), (1, 3), (2, 4), (3, 6)], 4, 24, .agg [.int .i64 0, .int .i64 0, .bool false, .int .u8 0]⟩ := rfl
@[simp] theorem T_8 : T 8 = some ⟨.struct [(0, 2), (1, 3), (2, 4), (3, 6)], 4, 24, .agg [.int .i64 0, .int .i64 0, .bool false, .int .u8 0]⟩ := rfl
@[simp] theorem T_9 : T 9 = some ⟨.string, 1, 16, .str ⟨#[]⟩⟩ := rfl
@[simp] theorem T_10 : T 10 = some ⟨.string, 1, 16, .str ⟨#[]⟩⟩ := rfl
@[simp] theorem T_11 : T 11 = some ⟨.string, 1, 16, .str ⟨#[]⟩⟩ := rfl
@[simp] theorem T_12 : T 12 = some ⟨.int .u64, 1, 8, .int .u64 0⟩ := rfl
@[simp] theorem T_15 : T 15 = some ⟨.ptr 110, 1, 8, .nilp⟩ := rfl
@[simp] theorem T_16 : T 16 = some ⟨.ptr 113, 1, 8, .nilp⟩ := rfl
@[simp] theorem T_17 : T 17 = some ⟨.ptr 122, 1, 8, .nilp⟩ := rfl
@[simp] theorem T_21 : T 21 = some ⟨.int .i32, 1, 4, .int .i32 0⟩ := rfl
@[simp] theorem T_22 : T 22 = some ⟨.slice 34, 1, 24, .nils⟩ := rfl
@[simp] theorem T_23 : T 23 = some ⟨.func, 1, 8, .nilf⟩ := rfl
@[simp] theorem T_24 : T 24 = some ⟨.func, 1, 8, .nilf⟩ := rfl
@[simp] theorem T_25 : T 25 = some ⟨.ptr 81, 1, 8, .nilp⟩ := rfl
@[simp] theorem T_26 : T 26 = some ⟨.int .i64, 1, 8, .int .i64 0⟩ := rfl
@[simp] theorem T_28 : T 28 = some ⟨.func, 1, 8, .nilf⟩ := rfl
@[simp] theorem T_29 : T 29 = some ⟨.ptr 44, 1, 8, .nilp⟩ := rfl
@[simp] theorem T_31 : T 31 = some ⟨.func, 1, 8, .nilf⟩ := rfl
@[simp] theorem T_32 : T 32 = some ⟨.slice 5, 1, 24, .nils⟩ := rfl
@[simp] theorem T_33 : T 33 = some ⟨.struct [(0, 3), (1, 3), (2, 3), (3, 32)], 4, 48, .agg [.int .i64 0, .int .i64 0, .int .i64 0, .nils]⟩ := rfl
@[simp] theorem T_34 : T 34 = some ⟨.struct [(0, 3), (1, 3), (2, 3), (3, 32)], 4, 48, .agg [.int .i64 0, .int .i64 0, .int .i64 0, .nils]⟩ := rfl
@[simp] theorem T_35 : T 35 = some ⟨.func, 1, 8, .nilf⟩ := rfl
@[simp] theorem T_36 : T 36 = some ⟨.func, 1, 8, .nilf⟩ := rfl
@[simp] theorem T_37 : T 37 = some ⟨.func, 1, 8, .nilf⟩ := rfl
@[simp] theorem T_38 : T 38 = some ⟨.func, 1, 8, .nilf⟩ := rfl
@[simp] theorem T_40 : T 40 = some ⟨.func, 1, 8, .nilf⟩ := rfl
@[simp] theorem T_41 : T 41 = some ⟨.func, 1, 8, .nilf⟩ := rfl
@[simp] theorem T_42 : T 42 = some ⟨.func, 1, 8, .nilf⟩ := rfl
@[simp] theorem T_43 : T 43 = some ⟨.struct [(0, 32), (1, 4), (2, 3), (3, 3), (4, 3)], 5, 56, .agg [.nils, .bool false, .int .i64 0, .int .i64 0, .int .i64 0]⟩ := rfl
@[simp] theorem T_44 : T 44 = some ⟨.struct [(0, 32), (1, 4), (2, 3), (3, 3), (4, 3)], 5, 56, .agg [.nils, .bool false, .int .i64 0, .int .i64 0, .int .i64 0]⟩ := rfl
@[simp] theorem T_45 : T 45 = some ⟨.func, 1, 8, .nilf⟩ := rfl
@[simp] theorem T_46 : T 46 = some ⟨.func, 1, 8, .nilf⟩ := rfl
@[simp] theorem T_47 : T 47 = some ⟨.slice 32, 1, 24, .nils⟩ := rfl
@[simp] theorem T_48 : T 48 = some ⟨.func, 1, 8, .nilf⟩ := rfl
@[simp] theorem T_49 : T 49 = some ⟨.slice 58, 1, 24, .nils⟩ := rfl
@[simp] theorem T_50 : T 50 = some ⟨.func, 1, 8, .nilf⟩ := rfl
@[simp] theorem T_51 : T 51 = some ⟨.ptr 88, 1, 8, .nilp⟩ := rfl
@[simp] theorem T_53 : T 53 = some ⟨.func, 1, 8, .nilf⟩ := rfl
@[simp] theorem T_54 : T 54 = some ⟨.ptr 92, 1, 8, .nilp⟩ := rfl
@[simp] theorem T_56 : T 56 = some ⟨.func, 1, 8, .nilf⟩ := rfl
@[simp] theorem T_57 : T 57 = some ⟨.struct [(0, 3), (1, 9), (2, 9), (3, 3), (4, 2), (5, 2)], 6, 64, .agg [.int .i64 0, .str ⟨#[]⟩, .str ⟨#[]⟩, .int .i64 0, .int .i64 0, .int .i64 0]⟩ := rfl
@[simp] theorem T_58 : T 58 = some ⟨.struct [(0, 3), (1, 9), (2, 9), (3, 3), (4, 2), (5, 2)], 6, 64, .agg [.int .i64 0, .str ⟨#[]⟩, .str ⟨#[]⟩, .int .i64 0, .int .i64 0, .int .i64 0]⟩ := rfl
@[simp] theorem T_59 : T 59 = some ⟨.struct [(0, 2), (1, 3), (2, 26)], 3, 24, .agg [.int .i64 0, .int .i64 0, .int .i64 0]⟩ := rfl
@[simp] theorem T_60 : T 60 = some ⟨.struct [(0, 2), (1, 3), (2, 26)], 3, 24, .agg [.int .i64 0, .int .i64 0, .int .i64 0]⟩ := rfl
@[simp] theorem T_61 : T 61 = some ⟨.func, 1, 8, .nilf⟩ := rfl
@[simp] theorem T_62 : T 62 = some ⟨.func, 1, 8, .nilf⟩ := rfl
@[simp] theorem T_64 : T 64 = some ⟨.func, 1, 8, .nilf⟩ := rfl
@[simp] theorem T_65 : T 65 = some ⟨.func, 1, 8, .nilf⟩ := rfl
@[simp] theorem T_67 : T 67 = some ⟨.func, 1, 8, .nilf⟩ := rfl
@[simp] theorem T_68 : T 68 = some ⟨.func, 1, 8, .nilf⟩ := rfl
@[simp] theorem T_69 : T 69 = some ⟨.func, 1, 8, .nilf⟩ := rfl
@[simp] theorem T_70 : T 70 = some ⟨.map 9 3, 1, 8, .nilm⟩ := rfl
@[simp] theorem T_71 : T 71 = some ⟨.map 2 3, 1, 8, .nilm⟩ := rfl
@[simp] theorem T_72 : T 72 = some ⟨.map 2 2, 1, 8, .nilm⟩ := rfl
@[simp] theorem T_75 : T 75 = some ⟨.slice 3, 1, 24, .nils⟩ := rfl
@[simp] theorem T_76 : T 76 = some ⟨.func, 1, 8, .nilf⟩ := rfl
@[simp] theorem T_77 : T 77 = some ⟨.slice 2, 1, 24, .nils⟩ := rfl
@[simp] theorem T_78 : T 78 = some ⟨.func, 1, 8, .nilf⟩ := rfl
@[simp] theorem T_79 : T 79 = some ⟨.slice 84, 1, 24, .nils⟩ := rfl
@[simp] theorem T_80 : T 80 = some ⟨.struct [(0, 79), (1, 4), (2, 3), (3, 3), (4, 3)], 5, 56, .agg [.nils, .bool false, .int .i64 0, .int .i64 0, .int .i64 0]⟩ := rfl
@[simp] theorem T_81 : T 81 = some ⟨.struct [(0, 79), (1, 4), (2, 3), (3, 3), (4, 3)], 5, 56, .agg [.nils, .bool false, .int .i64 0, .int .i64 0, .int .i64 0]⟩ := rfl
@[simp] theorem T_82 : T 82 = some ⟨.func, 1, 8, .nilf⟩ := rfl
@[simp] theorem T_83 : T 83 = some ⟨.array 32 5, 32, 32, .agg (List.replicate 32 (.int .u8 0))⟩ := rfl
@[simp] theorem T_84 : T 84 = some ⟨.array 32 5, 32, 32, .agg (List.replicate 32 (.int .u8 0))⟩ := rfl
@[simp] theorem T_85 : T 85 = some ⟨.map 9 105, 1, 8, .nilm⟩ := rfl
@[simp] theorem T_86 : T 86 = some ⟨.map 2 101, 1, 8, .nilm⟩ := rfl
@[simp] theorem T_87 : T 87 = some ⟨.struct [(0, 2), (1, 3), (2, 85), (3, 86)], 4, 32, .agg [.int .i64 0, .int .i64 0, .nilm, .nilm]⟩ := rfl
@[simp] theorem T_88 : T 88 = some ⟨.struct [(0, 2), (1, 3), (2, 85), (3, 86)], 4, 32, .agg [.int .i64 0, .int .i64 0, .nilm, .nilm]⟩ := rfl
@[simp] theorem T_89 : T 89 = some ⟨.slice 95, 1, 24, .nils⟩ := rfl
@[simp] theorem T_90 : T 90 = some ⟨.slice 99, 1, 24, .nils⟩ := rfl
@[simp] theorem T_91 : T 91 = some ⟨.struct [(0, 2), (1, 3), (2, 89), (3, 90)], 4, 64, .agg [.int .i64 0, .int .i64 0, .nils, .nils]⟩ := rfl
@[simp] theorem T_92 : T 92 = some ⟨.struct [(0, 2), (1, 3), (2, 89), (3, 90)], 4, 64, .agg [.int .i64 0, .int .i64 0, .nils, .nils]⟩ := rfl
@[simp] theorem T_93 : T 93 = some ⟨.func, 1, 8, .nilf⟩ := rfl
@[simp] theorem T_94 : T 94 = some ⟨.struct [(0, 9), (1, 9), (2, 3)], 3, 40, .agg [.str ⟨#[]⟩, .str ⟨#[]⟩, .int .i64 0]⟩ := rfl
@[simp] theorem T_95 : T 95 = some ⟨.struct [(0, 9), (1, 9), (2, 3)], 3, 40, .agg [.str ⟨#[]⟩, .str ⟨#[]⟩, .int .i64 0]⟩ := rfl
@[simp] theorem T_96 : T 96 = some ⟨.func, 1, 8, .nilf⟩ := rfl
@[simp] theorem T_97 : T 97 = some ⟨.func, 1, 8, .nilf⟩ := rfl
@[simp] theorem T_98 : T 98 = some ⟨.struct [(0, 2), (1, 3), (2, 2)], 3, 24, .agg [.int .i64 0, .int .i64 0, .int .i64 0]⟩ := rfl
@[simp] theorem T_99 : T 99 = some ⟨.struct [(0, 2), (1, 3), (2, 2)], 3, 24, .agg [.int .i64 0, .int .i64 0, .int .i64 0]⟩ := rfl
@[simp] theorem T_100 : T 100 = some ⟨.struct [(0, 3), (1, 2)], 2, 16, .agg [.int .i64 0, .int .i64 0]⟩ := rfl
@[simp] theorem T_101 : T 101 = some ⟨.struct [(0, 3), (1, 2)], 2, 16, .agg [.int .i64 0, .int .i64 0]⟩ := rfl
@[simp] theorem T_103 : T 103 = some ⟨.func, 1, 8, .nilf⟩ := rfl
@[simp] theorem T_104 : T 104 = some ⟨.struct [(0, 9), (1, 3)], 2, 24, .agg [.str ⟨#[]⟩, .int .i64 0]⟩ := rfl
@[simp] theorem T_105 : T 105 = some ⟨.struct [(0, 9), (1, 3)], 2, 24, .agg [.str ⟨#[]⟩, .int .i64 0]⟩ := rfl
@[simp] theorem T_107 : T 107 = some ⟨.func, 1, 8, .nilf⟩ := rfl
@[simp] theorem T_108 : T 108 = some ⟨.func, 1, 8, .nilf⟩ := rfl
@[simp] theorem T_114 : T 114 = some ⟨.int .u32, 1, 4, .int .u32 0⟩ := rfl
@[simp] theorem T_115 : T 115 = some ⟨.int .u8, 1, 1, .int .u8 0⟩ := rfl
@[simp] theorem T_116 : T 116 = some ⟨.int .u8, 1, 1, .int .u8 0⟩ := rfl
@[simp] theorem T_117 : T 117 = some ⟨.func, 1, 8, .nilf⟩ := rfl
@[simp] theorem T_118 : T 118 = some ⟨.ptr 5, 1, 8, .nilp⟩ := rfl
@[simp] theorem T_119 : T 119 = some ⟨.int .i32, 1, 4, .int .i32 0⟩ := rfl
@[simp] theorem T_120 : T 120 = some ⟨.int .i32, 1, 4, .int .i32 0⟩ := rfl

abbrev TRow (t : Nat) (i : TI) : Prop := ∃ info d z, Try.prog.info? t = some info ∧ Try.prog.underlying t = some d ∧ kindOf d = i.k ∧ info.size = i.size ∧ info.bytes = i.bytes ∧ info.zero = some z ∧ vconst z = i.zero ∧ i.zero.known = true ∧ i.zero.cells.length = i.size
theorem row_1 : TRow 1 ⟨.func, 1, 8, .nilf⟩ := ⟨Try.t1, _, _, by kernel_rfl, Try.underlying1, rfl, rfl, rfl, rfl, rfl, rfl, rfl⟩
theorem row_2 : TRow 2 ⟨.int .i64, 1, 8, .int .i64 0⟩ := ⟨Try.t2, _, _, by kernel_rfl, Try.underlying2, rfl, rfl, rfl, rfl, rfl, rfl, rfl⟩
theorem row_3 : TRow 3 ⟨.int .i64, 1, 8, .int .i64 0⟩ := ⟨Try.t3, _, _, by kernel_rfl, Try.underlying3, rfl, rfl, rfl, rfl, rfl, rfl, rfl⟩
theorem row_4 : TRow 4 ⟨.bool, 1, 1, .bool false⟩ := ⟨Try.t4, _, _, by kernel_rfl, Try.underlying4, rfl, rfl, rfl, rfl, rfl, rfl, rfl⟩
theorem row_5 : TRow 5 ⟨.int .u8, 1, 1, .int .u8 0⟩ := ⟨Try.t5, _, _, by kernel_rfl, Try.underlying5, rfl, rfl, rfl, rfl, rfl, rfl, rfl⟩
theorem row_6 : TRow 6 ⟨.int .u8, 1, 1, .int .u8 0⟩ := ⟨Try.t6, _, _, by kernel_rfl, Try.underlying6, rfl, rfl, rfl, rfl, rfl, rfl, rfl⟩
theorem row_7 : TRow 7 ⟨.struct [(0, 2), (1, 3), (2, 4), (3, 6)], 4, 24, .agg [.int .i64 0, .int .i64 0, .bool false, .int .u8 0]⟩ := ⟨Try.t7, _, _, by kernel_rfl, Try.underlying7, rfl, rfl, rfl, rfl, rfl, rfl, rfl⟩
theorem row_8 : TRow 8 ⟨.struct [(0, 2), (1, 3), (2, 4), (3, 6)], 4, 24, .agg [.int .i64 0, .int .i64 0, .bool false, .int .u8 0]⟩ := ⟨Try.t8, _, _, by kernel_rfl, Try.underlying8, rfl, rfl, rfl, rfl, rfl, rfl, rfl⟩
theorem row_9 : TRow 9 ⟨.string, 1, 16, .str ⟨#[]⟩⟩ := ⟨Try.t9, _, _, by kernel_rfl, Try.underlying9, rfl, rfl, rfl, rfl, rfl, rfl, rfl⟩
theorem row_10 : TRow 10 ⟨.string, 1, 16, .str ⟨#[]⟩⟩ := ⟨Try.t10, _, _, by kernel_rfl, Try.underlying10, rfl, rfl, rfl, rfl, rfl, rfl, rfl⟩
theorem row_11 : TRow 11 ⟨.string, 1, 16, .str ⟨#[]⟩⟩ := ⟨Try.t11, _, _, by kernel_rfl, Try.underlying11, rfl, rfl, rfl, rfl, rfl, rfl, rfl⟩
theorem row_12 : TRow 12 ⟨.int .u64, 1, 8, .int .u64 0⟩ := ⟨Try.t12, _, _, by kernel_rfl, Try.underlying12, rfl, rfl, rfl, rfl, rfl, rfl, rfl⟩
theorem row_15 : TRow 15 ⟨.ptr 110, 1, 8, .nilp⟩ := ⟨Try.t15, _, _, by kernel_rfl, Try.underlying15, rfl, rfl, rfl, rfl, rfl, rfl, rfl⟩
theorem row_16 : TRow 16 ⟨.ptr 113, 1, 8, .nilp⟩ := ⟨Try.t16, _, _, by kernel_rfl, Try.underlying16, rfl, rfl, rfl, rfl, rfl, rfl, rfl⟩
theorem row_17 : TRow 17 ⟨.ptr 122, 1, 8, .nilp⟩ := ⟨Try.t17, _, _, by kernel_rfl, Try.underlying17, rfl, rfl, rfl, rfl, rfl, rfl, rfl⟩
theorem row_21 : TRow 21 ⟨.int .i32, 1, 4, .int .i32 0⟩ := ⟨Try.t21, _, _, by kernel_rfl, Try.underlying21, rfl, rfl, rfl, rfl, rfl, rfl, rfl⟩
theorem row_22 : TRow 22 ⟨.slice 34, 1, 24, .nils⟩ := ⟨Try.t22, _, _, by kernel_rfl, Try.underlying22, rfl, rfl, rfl, rfl, rfl, rfl, rfl⟩
theorem row_23 : TRow 23 ⟨.func, 1, 8, .nilf⟩ := ⟨Try.t23, _, _, by kernel_rfl, Try.underlying23, rfl, rfl, rfl, rfl, rfl, rfl, rfl⟩
theorem row_24 : TRow 24 ⟨.func, 1, 8, .nilf⟩ := ⟨Try.t24, _, _, by kernel_rfl, Try.underlying24, rfl, rfl, rfl, rfl, rfl, rfl, rfl⟩
theorem row_25 : TRow 25 ⟨.ptr 81, 1, 8, .nilp⟩ := ⟨Try.t25, _, _, by kernel_rfl, Try.underlying25, rfl, rfl, rfl, rfl, rfl, rfl, rfl⟩
theorem row_26 : TRow 26 ⟨.int .i64, 1, 8, .int .i64 0⟩ := ⟨Try.t26, _, _, by kernel_rfl, Try.underlying26, rfl, rfl, rfl, rfl, rfl, rfl, rfl⟩
theorem row_28 : TRow 28 ⟨.func, 1, 8, .nilf⟩ := ⟨Try.t28, _, _, by kernel_rfl, Try.underlying28, rfl, rfl, rfl, rfl, rfl, rfl, rfl⟩
theorem row_29 : TRow 29 ⟨.ptr 44, 1, 8, .nilp⟩ := ⟨Try.t29, _, _, by kernel_rfl, Try.underlying29, rfl, rfl, rfl, rfl, rfl, rfl, rfl⟩
theorem row_31 : TRow 31 ⟨.func, 1, 8, .nilf⟩ := ⟨Try.t31, _, _, by kernel_rfl, Try.underlying31, rfl, rfl, rfl, rfl, rfl, rfl, rfl⟩
theorem row_32 : TRow 32 ⟨.slice 5, 1, 24, .nils⟩ := ⟨Try.t32, _, _, by kernel_rfl, Try.underlying32, rfl, rfl, rfl, rfl, rfl, rfl, rfl⟩
theorem row_33 : TRow 33 ⟨.struct [(0, 3), (1, 3), (2, 3), (3, 32)], 4, 48, .agg [.int .i64 0, .int .i64 0, .int .i64 0, .nils]⟩ := ⟨Try.t33, _, _, by kernel_rfl, Try.underlying33, rfl, rfl, rfl, rfl, rfl, rfl, rfl⟩
theorem row_34 : TRow 34 ⟨.struct [(0, 3), (1, 3), (2, 3), (3, 32)], 4, 48, .agg [.int .i64 0, .int .i64 0, .int .i64 0, .nils]⟩ := ⟨Try.t34, _, _, by kernel_rfl, Try.underlying34, rfl, rfl, rfl, rfl, rfl, rfl, rfl⟩
theorem row_35 : TRow 35 ⟨.func, 1, 8, .nilf⟩ := ⟨Try.t35, _, _, by kernel_rfl, Try.underlying35, rfl, rfl, rfl, rfl, rfl, rfl, rfl⟩
theorem row_36 : TRow 36 ⟨.func, 1, 8, .nilf⟩ := ⟨Try.t36, _, _, by kernel_rfl, Try.underlying36, rfl, rfl, rfl, rfl, rfl, rfl, rfl⟩
theorem row_37 : TRow 37 ⟨.func, 1, 8, .nilf⟩ := ⟨Try.t37, _, _, by kernel_rfl, Try.underlying37, rfl, rfl, rfl, rfl, rfl, rfl, rfl⟩
theorem row_38 : TRow 38 ⟨.func, 1, 8, .nilf⟩ := ⟨Try.t38, _, _, by kernel_rfl, Try.underlying38, rfl, rfl, rfl, rfl, rfl, rfl, rfl⟩
theorem row_40 : TRow 40 ⟨.func, 1, 8, .nilf⟩ := ⟨Try.t40, _, _, by kernel_rfl, Try.underlying40, rfl, rfl, rfl, rfl, rfl, rfl, rfl⟩
theorem row_41 : TRow 41 ⟨.func, 1, 8, .nilf⟩ := ⟨Try.t41, _, _, by kernel_rfl, Try.underlying41, rfl, rfl, rfl, rfl, rfl, rfl, rfl⟩
theorem row_42 : TRow 42 ⟨.func, 1, 8, .nilf⟩ := ⟨Try.t42, _, _, by kernel_rfl, Try.underlying42, rfl, rfl, rfl, rfl, rfl, rfl, rfl⟩
theorem row_43 : TRow 43 ⟨.struct [(0, 32), (1, 4), (2, 3), (3, 3), (4, 3)], 5, 56, .agg [.nils, .bool false, .int .i64 0, .int .i64 0, .int .i64 0]⟩ := ⟨Try.t43, _, _, by kernel_rfl, Try.underlying43, rfl, rfl, rfl, rfl, rfl, rfl, rfl⟩
theorem row_44 : TRow 44 ⟨.struct [(0, 32), (1, 4), (2, 3), (3, 3), (4, 3)], 5, 56, .agg [.nils, .bool false, .int .i64 0, .int .i64 0, .int .i64 0]⟩ := ⟨Try.t44, _, _, by kernel_rfl, Try.underlying44, rfl, rfl, rfl, rfl, rfl, rfl, rfl⟩
theorem row_45 : TRow 45 ⟨.func, 1, 8, .nilf⟩ := ⟨Try.t45, _, _, by kernel_rfl, Try.underlying45, rfl, rfl, rfl, rfl, rfl, rfl, rfl⟩
theorem row_46 : TRow 46 ⟨.func, 1, 8, .nilf⟩ := ⟨Try.t46, _, _, by kernel_rfl, Try.underlying46, rfl, rfl, rfl, rfl, rfl, rfl, rfl⟩
theorem row_47 : TRow 47 ⟨.slice 32, 1, 24, .nils⟩ := ⟨Try.t47, _, _, by kernel_rfl, Try.underlying47, rfl, rfl, rfl, rfl, rfl, rfl, rfl⟩
theorem row_48 : TRow 48 ⟨.func, 1, 8, .nilf⟩ := ⟨Try.t48, _, _, by kernel_rfl, Try.underlying48, rfl, rfl, rfl, rfl, rfl, rfl, rfl⟩
theorem row_49 : TRow 49 ⟨.slice 58, 1, 24, .nils⟩ := ⟨Try.t49, _, _, by kernel_rfl, Try.underlying49, rfl, rfl, rfl, rfl, rfl, rfl, rfl⟩
theorem row_50 : TRow 50 ⟨.func, 1, 8, .nilf⟩ := ⟨Try.t50, _, _, by kernel_rfl, Try.underlying50, rfl, rfl, rfl, rfl, rfl, rfl, rfl⟩
theorem row_51 : TRow 51 ⟨.ptr 88, 1, 8, .nilp⟩ := ⟨Try.t51, _, _, by kernel_rfl, Try.underlying51, rfl, rfl, rfl, rfl, rfl, rfl, rfl⟩
theorem row_53 : TRow 53 ⟨.func, 1, 8, .nilf⟩ := ⟨Try.t53, _, _, by kernel_rfl, Try.underlying53, rfl, rfl, rfl, rfl, rfl, rfl, rfl⟩
theorem row_54 : TRow 54 ⟨.ptr 92, 1, 8, .nilp⟩ := ⟨Try.t54, _, _, by kernel_rfl, Try.underlying54, rfl, rfl, rfl, rfl, rfl, rfl, rfl⟩
theorem row_56 : TRow 56 ⟨.func, 1, 8, .nilf⟩ := ⟨Try.t56, _, _, by kernel_rfl, Try.underlying56, rfl, rfl, rfl, rfl, rfl, rfl, rfl⟩
theorem row_57 : TRow 57 ⟨.struct [(0, 3), (1, 9), (2, 9), (3, 3), (4, 2), (5, 2)], 6, 64, .agg [.int .i64 0, .str ⟨#[]⟩, .str ⟨#[]⟩, .int .i64 0, .int .i64 0, .int .i64 0]⟩ := ⟨Try.t57, _, _, by kernel_rfl, Try.underlying57, rfl, rfl, rfl, rfl, rfl, rfl, rfl⟩
theorem row_58 : TRow 58 ⟨.struct [(0, 3), (1, 9), (2, 9), (3, 3), (4, 2), (5, 2)], 6, 64, .agg [.int .i64 0, .str ⟨#[]⟩, .str ⟨#[]⟩, .int .i64 0, .int .i64 0, .int .i64 0]⟩ := ⟨Try.t58, _, _, by kernel_rfl, Try.underlying58, rfl, rfl, rfl, rfl, rfl, rfl, rfl⟩
theorem row_59 : TRow 59 ⟨.struct [(0, 2), (1, 3), (2, 26)], 3, 24, .agg [.int .i64 0, .int .i64 0, .int .i64 0]⟩ := ⟨Try.t59, _, _, by kernel_rfl, Try.underlying59, rfl, rfl, rfl, rfl, rfl, rfl, rfl⟩
theorem row_60 : TRow 60 ⟨.struct [(0, 2), (1, 3), (2, 26)], 3, 24, .agg [.int .i64 0, .int .i64 0, .int .i64 0]⟩ := ⟨Try.t60, _, _, by kernel_rfl, Try.underlying60, rfl, rfl, rfl, rfl, rfl, rfl, rfl⟩
theorem row_61 : TRow 61 ⟨.func, 1, 8, .nilf⟩ := ⟨Try.t61, _, _, by kernel_rfl, Try.underlying61, rfl, rfl, rfl, rfl, rfl, rfl, rfl⟩
theorem row_62 : TRow 62 ⟨.func, 1, 8, .nilf⟩ := ⟨Try.t62, _, _, by kernel_rfl, Try.underlying62, rfl, rfl, rfl, rfl, rfl, rfl, rfl⟩
theorem row_64 : TRow 64 ⟨.func, 1, 8, .nilf⟩ := ⟨Try.t64, _, _, by kernel_rfl, Try.underlying64, rfl, rfl, rfl, rfl, rfl, rfl, rfl⟩
theorem row_65 : TRow 65 ⟨.func, 1, 8, .nilf⟩ := ⟨Try.t65, _, _, by kernel_rfl, Try.underlying65, rfl, rfl, rfl, rfl, rfl, rfl, rfl⟩
theorem row_67 : TRow 67 ⟨.func, 1, 8, .nilf⟩ := ⟨Try.t67, _, _, by kernel_rfl, Try.underlying67, rfl, rfl, rfl, rfl, rfl, rfl, rfl⟩
theorem row_68 : TRow 68 ⟨.func, 1, 8, .nilf⟩ := ⟨Try.t68, _, _, by kernel_rfl, Try.underlying68, rfl, rfl, rfl, rfl, rfl, rfl, rfl⟩
theorem row_69 : TRow 69 ⟨.func, 1, 8, .nilf⟩ := ⟨Try.t69, _, _, by kernel_rfl, Try.underlying69, rfl, rfl, rfl, rfl, rfl, rfl, rfl⟩
theorem row_70 : TRow 70 ⟨.map 9 3, 1, 8, .nilm⟩ := ⟨Try.t70, _, _, by kernel_rfl, Try.underlying70, rfl, rfl, rfl, rfl, rfl, rfl, rfl⟩
theorem row_71 : TRow 71 ⟨.map 2 3, 1, 8, .nilm⟩ := ⟨Try.t71, _, _, by kernel_rfl, Try.underlying71, rfl, rfl, rfl, rfl, rfl, rfl, rfl⟩
theorem row_72 : TRow 72 ⟨.map 2 2, 1, 8, .nilm⟩ := ⟨Try.t72, _, _, by kernel_rfl, Try.underlying72, rfl, rfl, rfl, rfl, rfl, rfl, rfl⟩
theorem row_75 : TRow 75 ⟨.slice 3, 1, 24, .nils⟩ := ⟨Try.t75, _, _, by kernel_rfl, Try.underlying75, rfl, rfl, rfl, rfl, rfl, rfl, rfl⟩
theorem row_76 : TRow 76 ⟨.func, 1, 8, .nilf⟩ := ⟨Try.t76, _, _, by kernel_rfl, Try.underlying76, rfl, rfl, rfl, rfl, rfl, rfl, rfl⟩
theorem row_77 : TRow 77 ⟨.slice 2, 1, 24, .nils⟩ := ⟨Try.t77, _, _, by kernel_rfl, Try.underlying77, rfl, rfl, rfl, rfl, rfl, rfl, rfl⟩
theorem row_78 : TRow 78 ⟨.func, 1, 8, .nilf⟩ := ⟨Try.t78, _, _, by kernel_rfl, Try.underlying78, rfl, rfl, rfl, rfl, rfl, rfl, rfl⟩
theorem row_79 : TRow 79 ⟨.slice 84, 1, 24, .nils⟩ := ⟨Try.t79, _, _, by kernel_rfl, Try.underlying79, rfl, rfl, rfl, rfl, rfl, rfl, rfl⟩
theorem row_80 : TRow 80 ⟨.struct [(0, 79), (1, 4), (2, 3), (3, 3), (4, 3)], 5, 56, .agg [.nils, .bool false, .int .i64 0, .int .i64 0, .int .i64 0]⟩ := ⟨Try.t80, _, _, by kernel_rfl, Try.underlying80, rfl, rfl, rfl, rfl, rfl, rfl, rfl⟩
theorem row_81 : TRow 81 ⟨.struct [(0, 79), (1, 4), (2, 3), (3, 3), (4, 3)], 5, 56, .agg [.nils, .bool false, .int .i64 0, .int .i64 0, .int .i64 0]⟩ := ⟨Try.t81, _, _, by kernel_rfl, Try.underlying81, rfl, rfl, rfl, rfl, rfl, rfl, rfl⟩
theorem row_82 : TRow 82 ⟨.func, 1, 8, .nilf⟩ := ⟨Try.t82, _, _, by kernel_rfl, Try.underlying82, rfl, rfl, rfl, rfl, rfl, rfl, rfl⟩
theorem row_83 : TRow 83 ⟨.array 32 5, 32, 32, .agg (List.replicate 32 (.int .u8 0))⟩ := ⟨Try.t83, _, _, by kernel_rfl, Try.underlying83, rfl, rfl, rfl, rfl, rfl, rfl, rfl⟩
theorem row_84 : TRow 84 ⟨.array 32 5, 32, 32, .agg (List.replicate 32 (.int .u8 0))⟩ := ⟨Try.t84, _, _, by kernel_rfl, Try.underlying84, rfl, rfl, rfl, rfl, rfl, rfl, rfl⟩
theorem row_85 : TRow 85 ⟨.map 9 105, 1, 8, .nilm⟩ := ⟨Try.t85, _, _, by kernel_rfl, Try.underlying85, rfl, rfl, rfl, rfl, rfl, rfl, rfl⟩
theorem row_86 : TRow 86 ⟨.map 2 101, 1, 8, .nilm⟩ := ⟨Try.t86, _, _, by kernel_rfl, Try.underlying86, rfl, rfl, rfl, rfl, rfl, rfl, rfl⟩
theorem row_87 : TRow 87 ⟨.struct [(0, 2), (1, 3), (2, 85), (3, 86)], 4, 32, .agg [.int .i64 0, .int .i64 0, .nilm, .nilm]⟩ := ⟨Try.t87, _, _, by kernel_rfl, Try.underlying87, rfl, rfl, rfl, rfl, rfl, rfl, rfl⟩
theorem row_88 : TRow 88 ⟨.struct [(0, 2), (1, 3), (2, 85), (3, 86)], 4, 32, .agg [.int .i64 0, .int .i64 0, .nilm, .nilm]⟩ := ⟨Try.t88, _, _, by kernel_rfl, Try.underlying88, rfl, rfl, rfl, rfl, rfl, rfl, rfl⟩
theorem row_89 : TRow 89 ⟨.slice 95, 1, 24, .nils⟩ := ⟨Try.t89, _, _, by kernel_rfl, Try.underlying89, rfl, rfl, rfl, rfl, rfl, rfl, rfl⟩
theorem row_90 : TRow 90 ⟨.slice 99, 1, 24, .nils⟩ := ⟨Try.t90, _, _, by kernel_rfl, Try.underlying90, rfl, rfl, rfl, rfl, rfl, rfl, rfl⟩
theorem row_91 : TRow 91 ⟨.struct [(0, 2), (1, 3), (2, 89), (3, 90)], 4, 64, .agg [.int .i64 0, .int .i64 0, .nils, .nils]⟩ := ⟨Try.t91, _, _, by kernel_rfl, Try.underlying91, rfl, rfl, rfl, rfl, rfl, rfl, rfl⟩
theorem row_92 : TRow 92 ⟨.struct [(0, 2), (1, 3), (2, 89), (3, 90)], 4, 64, .agg [.int .i64 0, .int .i64 0, .nils, .nils]⟩ := ⟨Try.t92, _, _, by kernel_rfl, Try.underlying92, rfl, rfl, rfl, rfl, rfl, rfl, rfl⟩
theorem row_93 : TRow 93 ⟨.func, 1, 8, .nilf⟩ := ⟨Try.t93, _, _, by kernel_rfl, Try.underlying93, rfl, rfl, rfl, rfl, rfl, rfl, rfl⟩
theorem row_94 : TRow 94 ⟨.struct [(0, 9), (1, 9), (2, 3)], 3, 40, .agg [.str ⟨#[]⟩, .str ⟨#[]⟩, .int .i64 0]⟩ := ⟨Try.t94, _, _, by kernel_rfl, Try.underlying94, rfl, rfl, rfl, rfl, rfl, rfl, rfl⟩
theorem row_95 : TRow 95 ⟨.struct [(0, 9), (1, 9), (2, 3)], 3, 40, .agg [.str ⟨#[]⟩, .str ⟨#[]⟩, .int .i64 0]⟩ := ⟨Try.t95, _, _, by kernel_rfl, Try.underlying95, rfl, rfl, rfl, rfl, rfl, rfl, rfl⟩
theorem row_96 : TRow 96 ⟨.func, 1, 8, .nilf⟩ := ⟨Try.t96, _, _, by kernel_rfl, Try.underlying96, rfl, rfl, rfl, rfl, rfl, rfl, rfl⟩
theorem row_97 : TRow 97 ⟨.func, 1, 8, .nilf⟩ := ⟨Try.t97, _, _, by kernel_rfl, Try.underlying97, rfl, rfl, rfl, rfl, rfl, rfl, rfl⟩
theorem row_98 : TRow 98 ⟨.struct [(0, 2), (1, 3), (2, 2)], 3, 24, .agg [.int .i64 0, .int .i64 0, .int .i64 0]⟩ := ⟨Try.t98, _, _, by kernel_rfl, Try.underlying98, rfl, rfl, rfl, rfl, rfl, rfl, rfl⟩
theorem row_99 : TRow 99 ⟨.struct [(0, 2), (1, 3), (2, 2)], 3, 24, .agg [.int .i64 0, .int .i64 0, .int .i64 0]⟩ := ⟨Try.t99, _, _, by kernel_rfl, Try.underlying99, rfl, rfl, rfl, rfl, rfl, rfl, rfl⟩
theorem row_100 : TRow 100 ⟨.struct [(0, 3), (1, 2)], 2, 16, .agg [.int .i64 0, .int .i64 0]⟩ := ⟨Try.t100, _, _, by kernel_rfl, Try.underlying100, rfl, rfl, rfl, rfl, rfl, rfl, rfl⟩
theorem row_101 : TRow 101 ⟨.struct [(0, 3), (1, 2)], 2, 16, .agg [.int .i64 0, .int .i64 0]⟩ := ⟨Try.t101, _, _, by kernel_rfl, Try.underlying101, rfl, rfl, rfl, rfl, rfl, rfl, rfl⟩
theorem row_103 : TRow 103 ⟨.func, 1, 8, .nilf⟩ := ⟨Try.t103, _, _, by kernel_rfl, Try.underlying103, rfl, rfl, rfl, rfl, rfl, rfl, rfl⟩
theorem row_104 : TRow 104 ⟨.struct [(0, 9), (1, 3)], 2, 24, .agg [.str ⟨#[]⟩, .int .i64 0]⟩ := ⟨Try.t104, _, _, by kernel_rfl, Try.underlying104, rfl, rfl, rfl, rfl, rfl, rfl, rfl⟩
theorem row_105 : TRow 105 ⟨.struct [(0, 9), (1, 3)], 2, 24, .agg [.str ⟨#[]⟩, .int .i64 0]⟩ := ⟨Try.t105, _, _, by kernel_rfl, Try.underlying105, rfl, rfl, rfl, rfl, rfl, rfl, rfl⟩
theorem row_107 : TRow 107 ⟨.func, 1, 8, .nilf⟩ := ⟨Try.t107, _, _, by kernel_rfl, Try.underlying107, rfl, rfl, rfl, rfl, rfl, rfl, rfl⟩
theorem row_108 : TRow 108 ⟨.func, 1, 8, .nilf⟩ := ⟨Try.t108, _, _, by kernel_rfl, Try.underlying108, rfl, rfl, rfl, rfl, rfl, rfl, rfl⟩
theorem row_114 : TRow 114 ⟨.int .u32, 1, 4, .int .u32 0⟩ := ⟨Try.t114, _, _, by kernel_rfl, Try.underlying114, rfl, rfl, rfl, rfl, rfl, rfl, rfl⟩
theorem row_115 : TRow 115 ⟨.int .u8, 1, 1, .int .u8 0⟩ := ⟨Try.t115, _, _, by kernel_rfl, Try.underlying115, rfl, rfl, rfl, rfl, rfl, rfl, rfl⟩
theorem row_116 : TRow 116 ⟨.int .u8, 1, 1, .int .u8 0⟩ := ⟨Try.t116, _, _, by kernel_rfl, Try.underlying116, rfl, rfl, rfl, rfl, rfl, rfl, rfl⟩
theorem row_117 : TRow 117 ⟨.func, 1, 8, .nilf⟩ := ⟨Try.t117, _, _, by kernel_rfl, Try.underlying117, rfl, rfl, rfl, rfl, rfl, rfl, rfl⟩
theorem row_118 : TRow 118 ⟨.ptr 5, 1, 8, .nilp⟩ := ⟨Try.t118, _, _, by kernel_rfl, Try.underlying118, rfl, rfl, rfl, rfl, rfl, rfl, rfl⟩
theorem row_119 : TRow 119 ⟨.int .i32, 1, 4, .int .i32 0⟩ := ⟨Try.t119, _, _, by kernel_rfl, Try.underlying119, rfl, rfl, rfl, rfl, rfl, rfl, rfl⟩
theorem row_120 : TRow 120 ⟨.int .i32, 1, 4, .int .i32 0⟩ := ⟨Try.t120, _, _, by kernel_rfl, Try.underlying120, rfl, rfl, rfl, rfl, rfl, rfl, rfl⟩
theorem hTt : ∀ t i, T t = some i → TRow t i := by
  intro t i h
  unfold T at h
  split at h
  · obtain rfl := Option.some.inj h; exact row_1
  · obtain rfl := Option.some.inj h; exact row_2
  · obtain rfl := Option.some.inj h; exact row_3
  · obtain rfl := Option.some.inj h; exact row_4
  · obtain rfl := Option.some.inj h; exact row_5
  · obtain rfl := Option.some.inj h; exact row_6
  · obtain rfl := Option.some.inj h; exact row_7
  · obtain rfl := Option.some.inj h; exact row_8
  · obtain rfl := Option.some.inj h; exact row_9
  · obtain rfl := Option.some.inj h; exact row_10
  · obtain rfl := Option.some.inj h; exact row_11
  · obtain rfl := Option.some.inj h; exact row_12
  · obtain rfl := Option.some.inj h; exact row_15
  · obtain rfl := Option.some.inj h; exact row_16
  · obtain rfl := Option.some.inj h; exact row_17
  · obtain rfl := Option.some.inj h; exact row_21
  · obtain rfl := Option.some.inj h; exact row_22
  · obtain rfl := Option.some.inj h; exact row_23
  · obtain rfl := Option.some.inj h; exact row_24
  · obtain rfl := Option.some.inj h; exact row_25
  · obtain rfl := Option.some.inj h; exact row_26
  · obtain rfl := Option.some.inj h; exact row_28
  · obtain rfl := Option.some.inj h; exact row_29
  · obtain rfl := Option.some.inj h; exact row_31
  · obtain rfl := Option.some.inj h; exact row_32
  · obtain rfl := Option.some.inj h; exact row_33
  · obtain rfl := Option.some.inj h; exact row_34
  · obtain rfl := Option.some.inj h; exact row_35
  · obtain rfl := Option.some.inj h; exact row_36
  · obtain rfl := Option.some.inj h; exact row_37
  · obtain rfl := Option.some.inj h; exact row_38
  · obtain rfl := Option.some.inj h; exact row_40
  · obtain rfl := Option.some.inj h; exact row_41
  · obtain rfl := Option.some.inj h; exact row_42
  · obtain rfl := Option.some.inj h; exact row_43
  · obtain rfl := Option.some.inj h; exact row_44
  · obtain rfl := Option.some.inj h; exact row_45
  · obtain rfl := Option.some.inj h; exact row_46
  · obtain rfl := Option.some.inj h; exact row_47
  · obtain rfl := Option.some.inj h; exact row_48
  · obtain rfl := Option.some.inj h; exact row_49
  · obtain rfl := Option.some.inj h; exact row_50
  · obtain rfl := Option.some.inj h; exact row_51
  · obtain rfl := Option.some.inj h; exact row_53
  · obtain rfl := Option.some.inj h; exact row_54
  · obtain rfl := Option.some.inj h; exact row_56
  · obtain rfl := Option.some.inj h; exact row_57
  · obtain rfl := Option.some.inj h; exact row_58
  · obtain rfl := Option.some.inj h; exact row_59
  · obtain rfl := Option.some.inj h; exact row_60
  · obtain rfl := Option.some.inj h; exact row_61
  · obtain rfl := Option.some.inj h; exact row_62
  · obtain rfl := Option.some.inj h; exact row_64
  · obtain rfl := Option.some.inj h; exact row_65
  · obtain rfl := Option.some.inj h; exact row_67
  · obtain rfl := Option.some.inj h; exact row_68
  · obtain rfl := Option.some.inj h; exact row_69
  · obtain rfl := Option.some.inj h; exact row_70
  · obtain rfl := Option.some.inj h; exact row_71
  · obtain rfl := Option.some.inj h; exact row_72
  · obtain rfl := Option.some.inj h; exact row_75
  · obtain rfl := Option.some.inj h; exact row_76
  · obtain rfl := Option.some.inj h; exact row_77
  · obtain rfl := Option.some.inj h; exact row_78
  · obtain rfl := Option.some.inj h; exact row_79
  · obtain rfl := Option.some.inj h; exact row_80
  · obtain rfl := Option.some.inj h; exact row_81
  · obtain rfl := Option.some.inj h; exact row_82
  · obtain rfl := Option.some.inj h; exact row_83
  · obtain rfl := Option.some.inj h; exact row_84
  · obtain rfl := Option.some.inj h; exact row_85
  · obtain rfl := Option.some.inj h; exact row_86
  · obtain rfl := Option.some.inj h; exact row_87
  · obtain rfl := Option.some.inj h; exact row_88
  · obtain rfl := Option.some.inj h; exact row_89
  · obtain rfl := Option.some.inj h; exact row_90
  · obtain rfl := Option.some.inj h; exact row_91
  · obtain rfl := Option.some.inj h; exact row_92
  · obtain rfl := Option.some.inj h; exact row_93
  · obtain rfl := Option.some.inj h; exact row_94
  · obtain rfl := Option.some.inj h; exact row_95
  · obtain rfl := Option.some.inj h; exact row_96
  · obtain rfl := Option.some.inj h; exact row_97
  · obtain rfl := Option.some.inj h; exact row_98
  · obtain rfl := Option.some.inj h; exact row_99
  · obtain rfl := Option.some.inj h; exact row_100
  · obtain rfl := Option.some.inj h; exact row_101
  · obtain rfl := Option.some.inj h; exact row_103
  · obtain rfl := Option.some.inj h; exact row_104
  · obtain rfl := Option.some.inj h; exact row_105
  · obtain rfl := Option.some.inj h; exact row_107
  · obtain rfl := Option.some.inj h; exact row_108
  · obtain rfl := Option.some.inj h; exact row_114
  · obtain rfl := Option.some.inj h; exact row_115
  · obtain rfl := Option.some.inj h; exact row_116
  · obtain rfl := Option.some.inj h; exact row_117
  · obtain rfl := Option.some.inj h; exact row_118
  · obtain rfl := Option.some.inj h; exact row_119
  · obtain rfl := Option.some.inj h; exact row_120
  · cases h

theorem eq_7 : eqOK Try.prog 7 = true := by kernel_rfl
theorem eq_8 : eqOK Try.prog 8 = true := by kernel_rfl
theorem eq_33 : eqOK Try.prog 33 = true := by kernel_rfl
theorem eq_34 : eqOK Try.prog 34 = true := by kernel_rfl
theorem eq_43 : eqOK Try.prog 43 = true := by kernel_rfl
theorem eq_44 : eqOK Try.prog 44 = true := by kernel_rfl
theorem eq_57 : eqOK Try.prog 57 = true := by kernel_rfl
theorem eq_58 : eqOK Try.prog 58 = true := by kernel_rfl
theorem eq_59 : eqOK Try.prog 59 = true := by kernel_rfl
theorem eq_60 : eqOK Try.prog 60 = true := by kernel_rfl
theorem eq_80 : eqOK Try.prog 80 = true := by kernel_rfl
theorem eq_81 : eqOK Try.prog 81 = true := by kernel_rfl
theorem eq_87 : eqOK Try.prog 87 = true := by kernel_rfl
theorem eq_88 : eqOK Try.prog 88 = true := by kernel_rfl
theorem eq_91 : eqOK Try.prog 91 = true := by kernel_rfl
theorem eq_92 : eqOK Try.prog 92 = true := by kernel_rfl
theorem eq_94 : eqOK Try.prog 94 = true := by kernel_rfl
theorem eq_95 : eqOK Try.prog 95 = true := by kernel_rfl
theorem eq_98 : eqOK Try.prog 98 = true := by kernel_rfl
theorem eq_99 : eqOK Try.prog 99 = true := by kernel_rfl
theorem eq_100 : eqOK Try.prog 100 = true := by kernel_rfl
theorem eq_101 : eqOK Try.prog 101 = true := by kernel_rfl
theorem eq_104 : eqOK Try.prog 104 = true := by kernel_rfl
theorem eq_105 : eqOK Try.prog 105 = true := by kernel_rfl
theorem hTe : ∀ t fs s b z, T t = some ⟨.struct fs, s, b, z⟩ → eqOK Try.prog t = true := by
  intro t fs s b z h
  unfold T at h
  split at h
  · cases h
  · cases h
  · cases h
  · cases h
  · cases h
  · cases h
  · exact eq_7
  · exact eq_8
  · cases h
  · cases h
  · cases h
  · cases h
  · cases h
  · cases h
  · cases h
  · cases h
  · cases h
  · cases h
  · cases h
  · cases h
  · cases h
  · cases h
  · cases h
  · cases h
  · cases h
  · exact eq_33
  · exact eq_34
  · cases h
  · cases h
  · cases h
  · cases h
  · cases h
  · cases h
  · cases h
  · exact eq_43
  · exact eq_44
  · cases h
  · cases h
  · cases h
  · cases h
  · cases h
  · cases h
  · cases h
  · cases h
  · cases h
  · cases h
  · exact eq_57
  · exact eq_58
  · exact eq_59
  · exact eq_60
  · cases h
  · cases h
  · cases h
  · cases h
  · cases h
  · cases h
  · cases h
  · cases h
  · cases h
  · cases h
  · cases h
  · cases h
  · cases h
  · cases h
  · cases h
  · exact eq_80
  · exact eq_81
  · cases h
  · cases h
  · cases h
  · cases h
  · cases h
  · exact eq_87
  · exact eq_88
  · cases h
  · cases h
  · exact eq_91
  · exact eq_92
  · cases h
  · exact eq_94
  · exact eq_95
  · cases h
  · cases h
  · exact eq_98
  · exact eq_99
  · exact eq_100
  · exact eq_101
  · cases h
  · exact eq_104
  · exact eq_105
  · cases h
  · cases h
  · cases h
  · cases h
  · cases h
  · cases h
  · cases h
  · cases h
  · cases h
  · cases h
theorem hT : TabOK Try.prog T := ⟨hTt, hTe⟩

theorem ent_3 : Ent Try.prog 3 := by unfold Ent; kernel_rfl
theorem ent_4 : Ent Try.prog 4 := by unfold Ent; kernel_rfl
theorem ent_5 : Ent Try.prog 5 := by unfold Ent; kernel_rfl
theorem ent_6 : Ent Try.prog 6 := by unfold Ent; kernel_rfl
theorem ent_7 : Ent Try.prog 7 := by unfold Ent; kernel_rfl
theorem ent_8 : Ent Try.prog 8 := by unfold Ent; kernel_rfl
theorem ent_9 : Ent Try.prog 9 := by unfold Ent; kernel_rfl
theorem ent_10 : Ent Try.prog 10 := by unfold Ent; kernel_rfl
theorem ent_11 : Ent Try.prog 11 := by unfold Ent; kernel_rfl
theorem ent_12 : Ent Try.prog 12 := by unfold Ent; kernel_rfl
theorem ent_13 : Ent Try.prog 13 := by unfold Ent; kernel_rfl
theorem ent_14 : Ent Try.prog 14 := by unfold Ent; kernel_rfl
theorem ent_15 : Ent Try.prog 15 := by unfold Ent; kernel_rfl
theorem ent_16 : Ent Try.prog 16 := by unfold Ent; kernel_rfl
theorem ent_17 : Ent Try.prog 17 := by unfold Ent; kernel_rfl
theorem ent_18 : Ent Try.prog 18 := by unfold Ent; kernel_rfl
theorem ent_19 : Ent Try.prog 19 := by unfold Ent; kernel_rfl
theorem ent_20 : Ent Try.prog 20 := by unfold Ent; kernel_rfl
theorem ent_21 : Ent Try.prog 21 := by unfold Ent; kernel_rfl
theorem ent_22 : Ent Try.prog 22 := by unfold Ent; kernel_rfl
theorem ent_23 : Ent Try.prog 23 := by unfold Ent; kernel_rfl
theorem ent_24 : Ent Try.prog 24 := by unfold Ent; kernel_rfl
theorem ent_25 : Ent Try.prog 25 := by unfold Ent; kernel_rfl
theorem ent_26 : Ent Try.prog 26 := by unfold Ent; kernel_rfl
theorem ent_27 : Ent Try.prog 27 := by unfold Ent; kernel_rfl
theorem ent_28 : Ent Try.prog 28 := by unfold Ent; kernel_rfl
theorem ent_29 : Ent Try.prog 29 := by unfold Ent; kernel_rfl
theorem ent_30 : Ent Try.prog 30 := by unfold Ent; kernel_rfl
theorem ent_31 : Ent Try.prog 31 := by unfold Ent; kernel_rfl
theorem ent_32 : Ent Try.prog 32 := by unfold Ent; kernel_rfl
theorem ent_33 : Ent Try.prog 33 := by unfold Ent; kernel_rfl
theorem ent_34 : Ent Try.prog 34 := by unfold Ent; kernel_rfl
theorem ent_35 : Ent Try.prog 35 := by unfold Ent; kernel_rfl
theorem ent_36 : Ent Try.prog 36 := by unfold Ent; kernel_rfl
theorem ent_37 : Ent Try.prog 37 := by unfold Ent; kernel_rfl
theorem ent_38 : Ent Try.prog 38 := by unfold Ent; kernel_rfl
theorem ent_39 : Ent Try.prog 39 := by unfold Ent; kernel_rfl
theorem ent_40 : Ent Try.prog 40 := by unfold Ent; kernel_rfl
theorem ent_41 : Ent Try.prog 41 := by unfold Ent; kernel_rfl
theorem ent_42 : Ent Try.prog 42 := by unfold Ent; kernel_rfl
theorem ent_43 : Ent Try.prog 43 := by unfold Ent; kernel_rfl
theorem ent_44 : Ent Try.prog 44 := by unfold Ent; kernel_rfl
theorem ent_45 : Ent Try.prog 45 := by unfold Ent; kernel_rfl
theorem ent_46 : Ent Try.prog 46 := by unfold Ent; kernel_rfl
theorem ent_47 : Ent Try.prog 47 := by unfold Ent; kernel_rfl
theorem ent_48 : Ent Try.prog 48 := by unfold Ent; kernel_rfl
theorem ent_49 : Ent Try.prog 49 := by unfold Ent; kernel_rfl
end Go.Proofs.Ytibhpkolbffdaaa
