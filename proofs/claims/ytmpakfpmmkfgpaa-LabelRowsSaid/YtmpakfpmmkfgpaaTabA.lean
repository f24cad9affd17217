/- The types of the program, in short, and that they are so. Printed by gen_tab.py. -/
import Derived.Test.YtmpakfpmmkfgpaaVXb
import Derived.Test.YtmpakfpmmkfgpaaProg
import Derived.KernelRfl
namespace Go.Proofs.Ytmpakfpmmkfgpaa
open Go Go.VX
set_option linter.unusedVariables false
set_option maxRecDepth 100000

def T : Nat → Option TI
  | 1 => some ⟨.func, 1, 8, .nilf⟩
  | 2 => some ⟨.int .i64, 1, 8, .int .i64 0⟩
  | 3 => some ⟨.int .i64, 1, 8, .int .i64 0⟩
  | 4 => some ⟨.bool, 1, 1, .bool false⟩
  | 5 => some ⟨.int .u8, 1, 1, .int .u8 0⟩
  | 6 => some ⟨.int .u8, 1, 1, .int .u8 0⟩
  | 7 => some ⟨.struct [(0, 2), (1, 3), (2, 4), (3, 6)], 4, 24, .agg [.int .i64 0, .int .i64 0, .bool false, .int .u8 0]⟩
  | 8 => some ⟨.struct [(0, 2), (1, 3), (2, 4), (3, 6)], 4, 24, .agg [.int .i64 0, .int .i64 0, .bool false, .int .u8 0]⟩
  | 9 => some ⟨.string, 1, 16, .str ⟨#[]⟩⟩
  | 10 => some ⟨.string, 1, 16, .str ⟨#[]⟩⟩
  | 11 => some ⟨.string, 1, 16, .str ⟨#[]⟩⟩
  | 12 => some ⟨.int .u64, 1, 8, .int .u64 0⟩
  | 15 => some ⟨.ptr 131, 1, 8, .nilp⟩
  | 16 => some ⟨.ptr 134, 1, 8, .nilp⟩
  | 17 => some ⟨.ptr 143, 1, 8, .nilp⟩
  | 21 => some ⟨.int .i32, 1, 4, .int .i32 0⟩
  | 22 => some ⟨.slice 57, 1, 24, .nils⟩
  | 23 => some ⟨.slice 59, 1, 24, .nils⟩
  | 24 => some ⟨.slice 61, 1, 24, .nils⟩
  | 25 => some ⟨.struct [(0, 22), (1, 23), (2, 24), (3, 2), (4, 2), (5, 3)], 6, 96, .agg [.nils, .nils, .nils, .int .i64 0, .int .i64 0, .int .i64 0]⟩
  | 26 => some ⟨.struct [(0, 22), (1, 23), (2, 24), (3, 2), (4, 2), (5, 3)], 6, 96, .agg [.nils, .nils, .nils, .int .i64 0, .int .i64 0, .int .i64 0]⟩
  | 27 => some ⟨.slice 34, 1, 24, .nils⟩
  | 28 => some ⟨.func, 1, 8, .nilf⟩
  | 29 => some ⟨.func, 1, 8, .nilf⟩
  | 30 => some ⟨.slice 67, 1, 24, .nils⟩
  | 31 => some ⟨.slice 3, 1, 24, .nils⟩
  | 32 => some ⟨.slice 2, 1, 24, .nils⟩
  | 33 => some ⟨.struct [(0, 30), (1, 31), (2, 2), (3, 3), (4, 4), (5, 32)], 6, 96, .agg [.nils, .nils, .int .i64 0, .int .i64 0, .bool false, .nils]⟩
  | 34 => some ⟨.struct [(0, 30), (1, 31), (2, 2), (3, 3), (4, 4), (5, 32)], 6, 96, .agg [.nils, .nils, .int .i64 0, .int .i64 0, .bool false, .nils]⟩
  | 35 => some ⟨.int .i64, 1, 8, .int .i64 0⟩
  | 37 => some ⟨.func, 1, 8, .nilf⟩
  | 38 => some ⟨.slice 70, 1, 24, .nils⟩
  | 39 => some ⟨.struct [(0, 38), (1, 31), (2, 2), (3, 3), (4, 4), (5, 32)], 6, 96, .agg [.nils, .nils, .int .i64 0, .int .i64 0, .bool false, .nils]⟩
  | 40 => some ⟨.struct [(0, 38), (1, 31), (2, 2), (3, 3), (4, 4), (5, 32)], 6, 96, .agg [.nils, .nils, .int .i64 0, .int .i64 0, .bool false, .nils]⟩
  | 42 => some ⟨.func, 1, 8, .nilf⟩
  | 43 => some ⟨.slice 79, 1, 24, .nils⟩
  | 44 => some ⟨.slice 80, 1, 24, .nils⟩
  | 45 => some ⟨.slice 83, 1, 24, .nils⟩
  | 46 => some ⟨.struct [(0, 43), (1, 44), (2, 45), (3, 2), (4, 2), (5, 3)], 6, 96, .agg [.nils, .nils, .nils, .int .i64 0, .int .i64 0, .int .i64 0]⟩
  | 47 => some ⟨.struct [(0, 43), (1, 44), (2, 45), (3, 2), (4, 2), (5, 3)], 6, 96, .agg [.nils, .nils, .nils, .int .i64 0, .int .i64 0, .int .i64 0]⟩
  | 48 => some ⟨.func, 1, 8, .nilf⟩
  | 49 => some ⟨.slice 40, 1, 24, .nils⟩
  | 50 => some ⟨.func, 1, 8, .nilf⟩
  | 51 => some ⟨.func, 1, 8, .nilf⟩
  | 52 => some ⟨.func, 1, 8, .nilf⟩
  | 53 => some ⟨.func, 1, 8, .nilf⟩
  | 54 => some ⟨.func, 1, 8, .nilf⟩
  | 55 => some ⟨.func, 1, 8, .nilf⟩
  | 56 => some ⟨.struct [(0, 3), (1, 3), (2, 3), (3, 2)], 4, 32, .agg [.int .i64 0, .int .i64 0, .int .i64 0, .int .i64 0]⟩
  | 57 => some ⟨.struct [(0, 3), (1, 3), (2, 3), (3, 2)], 4, 32, .agg [.int .i64 0, .int .i64 0, .int .i64 0, .int .i64 0]⟩
  | 58 => some ⟨.struct [(0, 3), (1, 3)], 2, 16, .agg [.int .i64 0, .int .i64 0]⟩
  | 59 => some ⟨.struct [(0, 3), (1, 3)], 2, 16, .agg [.int .i64 0, .int .i64 0]⟩
  | 60 => some ⟨.struct [(0, 3), (1, 2), (2, 3), (3, 4)], 4, 32, .agg [.int .i64 0, .int .i64 0, .int .i64 0, .bool false]⟩
  | 61 => some ⟨.struct [(0, 3), (1, 2), (2, 3), (3, 4)], 4, 32, .agg [.int .i64 0, .int .i64 0, .int .i64 0, .bool false]⟩
  | 62 => some ⟨.func, 1, 8, .nilf⟩
  | 63 => some ⟨.map 3 4, 1, 8, .nilm⟩
  | 64 => some ⟨.func, 1, 8, .nilf⟩
  | 65 => some ⟨.map 3 3, 1, 8, .nilm⟩
  | 66 => some ⟨.struct [(0, 3), (1, 3), (2, 3), (3, 2)], 4, 32, .agg [.int .i64 0, .int .i64 0, .int .i64 0, .int .i64 0]⟩
  | 67 => some ⟨.struct [(0, 3), (1, 3), (2, 3), (3, 2)], 4, 32, .agg [.int .i64 0, .int .i64 0, .int .i64 0, .int .i64 0]⟩
  | 69 => some ⟨.func, 1, 8, .nilf⟩
  | 70 => some ⟨.struct [(0, 3), (1, 3), (2, 3), (3, 2)], 4, 32, .agg [.int .i64 0, .int .i64 0, .int .i64 0, .int .i64 0]⟩
  | 71 => some ⟨.func, 1, 8, .nilf⟩
  | 72 => some ⟨.func, 1, 8, .nilf⟩
  | 73 => some ⟨.func, 1, 8, .nilf⟩
  | 74 => some ⟨.func, 1, 8, .nilf⟩
  | 75 => some ⟨.func, 1, 8, .nilf⟩
  | 76 => some ⟨.func, 1, 8, .nilf⟩
  | 77 => some ⟨.func, 1, 8, .nilf⟩
  | 78 => some ⟨.func, 1, 8, .nilf⟩
  | 79 => some ⟨.struct [(0, 3), (1, 3), (2, 3), (3, 2)], 4, 32, .agg [.int .i64 0, .int .i64 0, .int .i64 0, .int .i64 0]⟩
  | 80 => some ⟨.struct [(0, 3), (1, 3)], 2, 16, .agg [.int .i64 0, .int .i64 0]⟩
  | 81 => some ⟨.func, 1, 8, .nilf⟩
  | 82 => some ⟨.func, 1, 8, .nilf⟩
  | 83 => some ⟨.struct [(0, 3), (1, 2), (2, 3), (3, 4)], 4, 32, .agg [.int .i64 0, .int .i64 0, .int .i64 0, .bool false]⟩
  | 84 => some ⟨.struct [(0, 2), (1, 3), (2, 4)], 3, 24, .agg [.int .i64 0, .int .i64 0, .bool false]⟩
  | 85 => some ⟨.struct [(0, 2), (1, 3), (2, 4)], 3, 24, .agg [.int .i64 0, .int .i64 0, .bool false]⟩
  | 86 => some ⟨.func, 1, 8, .nilf⟩
  | 87 => some ⟨.func, 1, 8, .nilf⟩
  | 88 => some ⟨.func, 1, 8, .nilf⟩
  | 89 => some ⟨.func, 1, 8, .nilf⟩
  | 90 => some ⟨.func, 1, 8, .nilf⟩
  | 91 => some ⟨.int .u64, 1, 8, .int .u64 0⟩
  | 92 => some ⟨.func, 1, 8, .nilf⟩
  | 93 => some ⟨.array 4 2, 4, 32, .agg [.int .i64 0, .int .i64 0, .int .i64 0, .int .i64 0]⟩
  | 94 => some ⟨.func, 1, 8, .nilf⟩
  | 95 => some ⟨.func, 1, 8, .nilf⟩
  | 96 => some ⟨.func, 1, 8, .nilf⟩
  | 97 => some ⟨.func, 1, 8, .nilf⟩
  | 98 => some ⟨.func, 1, 8, .nilf⟩
  | 99 => some ⟨.func, 1, 8, .nilf⟩
  | 100 => some ⟨.int .i64, 1, 8, .int .i64 0⟩
  | 102 => some ⟨.func, 1, 8, .nilf⟩
  | 103 => some ⟨.func, 1, 8, .nilf⟩
  | 104 => some ⟨.func, 1, 8, .nilf⟩
  | 105 => some ⟨.func, 1, 8, .nilf⟩
  | 106 => some ⟨.func, 1, 8, .nilf⟩
  | 107 => some ⟨.int .u32, 1, 4, .int .u32 0⟩
  | 108 => some ⟨.func, 1, 8, .nilf⟩
  | 109 => some ⟨.int .u64, 1, 8, .int .u64 0⟩
  | 110 => some ⟨.func, 1, 8, .nilf⟩
  | 111 => some ⟨.func, 1, 8, .nilf⟩
  | 112 => some ⟨.func, 1, 8, .nilf⟩
  | 113 => some ⟨.func, 1, 8, .nilf⟩
  | 114 => some ⟨.func, 1, 8, .nilf⟩
  | 115 => some ⟨.func, 1, 8, .nilf⟩
  | 116 => some ⟨.func, 1, 8, .nilf⟩
  | 117 => some ⟨.int .u64, 1, 8, .int .u64 0⟩
  | 118 => some ⟨.func, 1, 8, .nilf⟩
  | 119 => some ⟨.func, 1, 8, .nilf⟩
  | 120 => some ⟨.func, 1, 8, .nilf⟩
  | 121 => some ⟨.ptr 3, 1, 8, .nilp⟩
  | 122 => some ⟨.func, 1, 8, .nilf⟩
  | 123 => some ⟨.func, 1, 8, .nilf⟩
  | 124 => some ⟨.func, 1, 8, .nilf⟩
  | 125 => some ⟨.ptr 117, 1, 8, .nilp⟩
  | 127 => some ⟨.func, 1, 8, .nilf⟩
  | 128 => some ⟨.func, 1, 8, .nilf⟩
  | 129 => some ⟨.func, 1, 8, .nilf⟩
  | 135 => some ⟨.func, 1, 8, .nilf⟩
  | 136 => some ⟨.int .u8, 1, 1, .int .u8 0⟩
  | 137 => some ⟨.int .u8, 1, 1, .int .u8 0⟩
  | 138 => some ⟨.func, 1, 8, .nilf⟩
  | 139 => some ⟨.ptr 5, 1, 8, .nilp⟩
  | 140 => some ⟨.int .i32, 1, 4, .int .i32 0⟩
  | 141 => some ⟨.int .i32, 1, 4, .int .i32 0⟩
  | _ => none

@[simp] theorem T_1 : T 1 = some ⟨.func, 1, 8, .nilf⟩ := rfl
@[simp] theorem T_2 : T 2 = some ⟨.int .i64, 1, 8, .int .i64 0⟩ := rfl
@[simp] theorem T_3 : T 3 = some ⟨.int .i64, 1, 8, .int .i64 0⟩ := rfl
@[simp] theorem T_4 : T 4 = some ⟨.bool, 1, 1, .bool false⟩ := rfl
@[simp] theorem T_5 : T 5 = some ⟨.int .u8, 1, 1, .int .u8 0⟩ := rfl
@[simp] theorem T_6 : T 6 = some ⟨.int .u8, 1, 1, .int .u8 0⟩ := rfl
@[simp] theorem T_7 : T 7 = some ⟨.struct [(0, 2), (1, 3), (2, 4), (3, 6)], 4, 24, .agg [.int .i64 0, .int .i64 0, .bool false, .int .u8 0]⟩ := rfl
@[simp] theorem T_8 : T 8 = some ⟨.struct [(0, 2), (1, 3), (2, 4), (3, 6)], 4, 24, .agg [.int .i64 0, .int .i64 0, .bool false, .int .u8 0]⟩ := rfl
@[simp] theorem T_9 : T 9 = some ⟨.string, 1, 16, .str ⟨#[]⟩⟩ := rfl
@[simp] theorem T_10 : T 10 = some ⟨.string, 1, 16, .str ⟨#[]⟩⟩ := rfl
@[simp] theorem T_11 : T 11 = some ⟨.string, 1, 16, .str ⟨#[]⟩⟩ := rfl
@[simp] theorem T_12 : T 12 = some ⟨.int .u64, 1, 8, .int .u64 0⟩ := rfl
@[simp] theorem T_15 : T 15 = some ⟨.ptr 131, 1, 8, .nilp⟩ := rfl
@[simp] theorem T_16 : T 16 = some ⟨.ptr 134, 1, 8, .nilp⟩ := rfl
@[simp] theorem T_17 : T 17 = some ⟨.ptr 143, 1, 8, .nilp⟩ := rfl
@[simp] theorem T_21 : T 21 = some ⟨.int .i32, 1, 4, .int .i32 0⟩ := rfl
@[simp] theorem T_22 : T 22 = some ⟨.slice 57, 1, 24, .nils⟩ := rfl
@[simp] theorem T_23 : T 23 = some ⟨.slice 59, 1, 24, .nils⟩ := rfl
@[simp] theorem T_24 : T 24 = some ⟨.slice 61, 1, 24, .nils⟩ := rfl
@[simp] theorem T_25 : T 25 = some ⟨.struct [(0, 22), (1, 23), (2, 24), (3, 2), (4, 2), (5, 3)], 6, 96, .agg [.nils, .nils, .nils, .int .i64 0, .int .i64 0, .int .i64 0]⟩ := rfl
@[simp] theorem T_26 : T 26 = some ⟨.struct [(0, 22), (1, 23), (2, 24), (3, 2), (4, 2), (5, 3)], 6, 96, .agg [.nils, .nils, .nils, .int .i64 0, .int .i64 0, .int .i64 0]⟩ := rfl
@[simp] theorem T_27 : T 27 = some ⟨.slice 34, 1, 24, .nils⟩ := rfl
@[simp] theorem T_28 : T 28 = some ⟨.func, 1, 8, .nilf⟩ := rfl
@[simp] theorem T_29 : T 29 = some ⟨.func, 1, 8, .nilf⟩ := rfl
@[simp] theorem T_30 : T 30 = some ⟨.slice 67, 1, 24, .nils⟩ := rfl
@[simp] theorem T_31 : T 31 = some ⟨.slice 3, 1, 24, .nils⟩ := rfl
@[simp] theorem T_32 : T 32 = some ⟨.slice 2, 1, 24, .nils⟩ := rfl
@[simp] theorem T_33 : T 33 = some ⟨.struct [(0, 30), (1, 31), (2, 2), (3, 3), (4, 4), (5, 32)], 6, 96, .agg [.nils, .nils, .int .i64 0, .int .i64 0, .bool false, .nils]⟩ := rfl
@[simp] theorem T_34 : T 34 = some ⟨.struct [(0, 30), (1, 31), (2, 2), (3, 3), (4, 4), (5, 32)], 6, 96, .agg [.nils, .nils, .int .i64 0, .int .i64 0, .bool false, .nils]⟩ := rfl
@[simp] theorem T_35 : T 35 = some ⟨.int .i64, 1, 8, .int .i64 0⟩ := rfl
@[simp] theorem T_37 : T 37 = some ⟨.func, 1, 8, .nilf⟩ := rfl
@[simp] theorem T_38 : T 38 = some ⟨.slice 70, 1, 24, .nils⟩ := rfl
@[simp] theorem T_39 : T 39 = some ⟨.struct [(0, 38), (1, 31), (2, 2), (3, 3), (4, 4), (5, 32)], 6, 96, .agg [.nils, .nils, .int .i64 0, .int .i64 0, .bool false, .nils]⟩ := rfl
@[simp] theorem T_40 : T 40 = some ⟨.struct [(0, 38), (1, 31), (2, 2), (3, 3), (4, 4), (5, 32)], 6, 96, .agg [.nils, .nils, .int .i64 0, .int .i64 0, .bool false, .nils]⟩ := rfl
@[simp] theorem T_42 : T 42 = some ⟨.func, 1, 8, .nilf⟩ := rfl
@[simp] theorem T_43 : T 43 = some ⟨.slice 79, 1, 24, .nils⟩ := rfl
@[simp] theorem T_44 : T 44 = some ⟨.slice 80, 1, 24, .nils⟩ := rfl
@[simp] theorem T_45 : T 45 = some ⟨.slice 83, 1, 24, .nils⟩ := rfl
@[simp] theorem T_46 : T 46 = some ⟨.struct [(0, 43), (1, 44), (2, 45), (3, 2), (4, 2), (5, 3)], 6, 96, .agg [.nils, .nils, .nils, .int .i64 0, .int .i64 0, .int .i64 0]⟩ := rfl
@[simp] theorem T_47 : T 47 = some ⟨.struct [(0, 43), (1, 44), (2, 45), (3, 2), (4, 2), (5, 3)], 6, 96, .agg [.nils, .nils, .nils, .int .i64 0, .int .i64 0, .int .i64 0]⟩ := rfl
@[simp] theorem T_48 : T 48 = some ⟨.func, 1, 8, .nilf⟩ := rfl
@[simp] theorem T_49 : T 49 = some ⟨.slice 40, 1, 24, .nils⟩ := rfl
@[simp] theorem T_50 : T 50 = some ⟨.func, 1, 8, .nilf⟩ := rfl
@[simp] theorem T_51 : T 51 = some ⟨.func, 1, 8, .nilf⟩ := rfl
@[simp] theorem T_52 : T 52 = some ⟨.func, 1, 8, .nilf⟩ := rfl
@[simp] theorem T_53 : T 53 = some ⟨.func, 1, 8, .nilf⟩ := rfl
@[simp] theorem T_54 : T 54 = some ⟨.func, 1, 8, .nilf⟩ := rfl
@[simp] theorem T_55 : T 55 = some ⟨.func, 1, 8, .nilf⟩ := rfl
@[simp] theorem T_56 : T 56 = some ⟨.struct [(0, 3), (1, 3), (2, 3), (3, 2)], 4, 32, .agg [.int .i64 0, .int .i64 0, .int .i64 0, .int .i64 0]⟩ := rfl
@[simp] theorem T_57 : T 57 = some ⟨.struct [(0, 3), (1, 3), (2, 3), (3, 2)], 4, 32, .agg [.int .i64 0, .int .i64 0, .int .i64 0, .int .i64 0]⟩ := rfl
@[simp] theorem T_58 : T 58 = some ⟨.struct [(0, 3), (1, 3)], 2, 16, .agg [.int .i64 0, .int .i64 0]⟩ := rfl
@[simp] theorem T_59 : T 59 = some ⟨.struct [(0, 3), (1, 3)], 2, 16, .agg [.int .i64 0, .int .i64 0]⟩ := rfl
@[simp] theorem T_60 : T 60 = some ⟨.struct [(0, 3), (1, 2), (2, 3), (3, 4)], 4, 32, .agg [.int .i64 0, .int .i64 0, .int .i64 0, .bool false]⟩ := rfl
@[simp] theorem T_61 : T 61 = some ⟨.struct [(0, 3), (1, 2), (2, 3), (3, 4)], 4, 32, .agg [.int .i64 0, .int .i64 0, .int .i64 0, .bool false]⟩ := rfl
@[simp] theorem T_62 : T 62 = some ⟨.func, 1, 8, .nilf⟩ := rfl
@[simp] theorem T_63 : T 63 = some ⟨.map 3 4, 1, 8, .nilm⟩ := rfl
@[simp] theorem T_64 : T 64 = some ⟨.func, 1, 8, .nilf⟩ := rfl
@[simp] theorem T_65 : T 65 = some ⟨.map 3 3, 1, 8, .nilm⟩ := rfl
@[simp] theorem T_66 : T 66 = some ⟨.struct [(0, 3), (1, 3), (2, 3), (3, 2)], 4, 32, .agg [.int .i64 0, .int .i64 0, .int .i64 0, .int .i64 0]⟩ := rfl
@[simp] theorem T_67 : T 67 = some ⟨.struct [(0, 3), (1, 3), (2, 3), (3, 2)], 4, 32, .agg [.int .i64 0, .int .i64 0, .int .i64 0, .int .i64 0]⟩ := rfl
@[simp] theorem T_69 : T 69 = some ⟨.func, 1, 8, .nilf⟩ := rfl
@[simp] theorem T_70 : T 70 = some ⟨.struct [(0, 3), (1, 3), (2, 3), (3, 2)], 4, 32, .agg [.int .i64 0, .int .i64 0, .int .i64 0, .int .i64 0]⟩ := rfl
@[simp] theorem T_71 : T 71 = some ⟨.func, 1, 8, .nilf⟩ := rfl
@[simp] theorem T_72 : T 72 = some ⟨.func, 1, 8, .nilf⟩ := rfl
@[simp] theorem T_73 : T 73 = some ⟨.func, 1, 8, .nilf⟩ := rfl
@[simp] theorem T_74 : T 74 = some ⟨.func, 1, 8, .nilf⟩ := rfl
@[simp] theorem T_75 : T 75 = some ⟨.func, 1, 8, .nilf⟩ := rfl
@[simp] theorem T_76 : T 76 = some ⟨.func, 1, 8, .nilf⟩ := rfl
@[simp] theorem T_77 : T 77 = some ⟨.func, 1, 8, .nilf⟩ := rfl
@[simp] theorem T_78 : T 78 = some ⟨.func, 1, 8, .nilf⟩ := rfl
@[simp] theorem T_79 : T 79 = some ⟨.struct [(0, 3), (1, 3), (2, 3), (3, 2)], 4, 32, .agg [.int .i64 0, .int .i64 0, .int .i64 0, .int .i64 0]⟩ := rfl
@[simp] theorem T_80 : T 80 = some ⟨.struct [(0, 3), (1, 3)], 2, 16, .agg [.int .i64 0, .int .i64 0]⟩ := rfl
@[simp] theorem T_81 : T 81 = some ⟨.func, 1, 8, .nilf⟩ := rfl
@[simp] theorem T_82 : T 82 = some ⟨.func, 1, 8, .nilf⟩ := rfl
@[simp] theorem T_83 : T 83 = some ⟨.struct [(0, 3), (1, 2), (2, 3), (3, 4)], 4, 32, .agg [.int .i64 0, .int .i64 0, .int .i64 0, .bool false]⟩ := rfl
@[simp] theorem T_84 : T 84 = some ⟨.struct [(0, 2), (1, 3), (2, 4)], 3, 24, .agg [.int .i64 0, .int .i64 0, .bool false]⟩ := rfl
@[simp] theorem T_85 : T 85 = some ⟨.struct [(0, 2), (1, 3), (2, 4)], 3, 24, .agg [.int .i64 0, .int .i64 0, .bool false]⟩ := rfl
@[simp] theorem T_86 : T 86 = some ⟨.func, 1, 8, .nilf⟩ := rfl
@[simp] theorem T_87 : T 87 = some ⟨.func, 1, 8, .nilf⟩ := rfl
@[simp] theorem T_88 : T 88 = some ⟨.func, 1, 8, .nilf⟩ := rfl
@[simp] theorem T_89 : T 89 = some ⟨.func, 1, 8, .nilf⟩ := rfl
@[simp] theorem T_90 : T 90 = some ⟨.func, 1, 8, .nilf⟩ := rfl
@[simp] theorem T_91 : T 91 = some ⟨.int .u64, 1, 8, .int .u64 0⟩ := rfl
@[simp] theorem T_92 : T 92 = some ⟨.func, 1, 8, .nilf⟩ := rfl
@[simp] theorem T_93 : T 93 = some ⟨.array 4 2, 4, 32, .agg [.int .i64 0, .int .i64 0, .int .i64 0, .int .i64 0]⟩ := rfl
@[simp] theorem T_94 : T 94 = some ⟨.func, 1, 8, .nilf⟩ := rfl
@[simp] theorem T_95 : T 95 = some ⟨.func, 1, 8, .nilf⟩ := rfl
@[simp] theorem T_96 : T 96 = some ⟨.func, 1, 8, .nilf⟩ := rfl
@[simp] theorem T_97 : T 97 = some ⟨.func, 1, 8, .nilf⟩ := rfl
@[simp] theorem T_98 : T 98 = some ⟨.func, 1, 8, .nilf⟩ := rfl
@[simp] theorem T_99 : T 99 = some ⟨.func, 1, 8, .nilf⟩ := rfl
@[simp] theorem T_100 : T 100 = some ⟨.int .i64, 1, 8, .int .i64 0⟩ := rfl
@[simp] theorem T_102 : T 102 = some ⟨.func, 1, 8, .nilf⟩ := rfl
@[simp] theorem T_103 : T 103 = some ⟨.func, 1, 8, .nilf⟩ := rfl
@[simp] theorem T_104 : T 104 = some ⟨.func, 1, 8, .nilf⟩ := rfl
@[simp] theorem T_105 : T 105 = some ⟨.func, 1, 8, .nilf⟩ := rfl
@[simp] theorem T_106 : T 106 = some ⟨.func, 1, 8, .nilf⟩ := rfl
@[simp] theorem T_107 : T 107 = some ⟨.int .u32, 1, 4, .int .u32 0⟩ := rfl
@[simp] theorem T_108 : T 108 = some ⟨.func, 1, 8, .nilf⟩ := rfl
@[simp] theorem T_109 : T 109 = some ⟨.int .u64, 1, 8, .int .u64 0⟩ := rfl
@[simp] theorem T_110 : T 110 = some ⟨.func, 1, 8, .nilf⟩ := rfl
@[simp] theorem T_111 : T 111 = some ⟨.func, 1, 8, .nilf⟩ := rfl
@[simp] theorem T_112 : T 112 = some ⟨.func, 1, 8, .nilf⟩ := rfl
@[simp] theorem T_113 : T 113 = some ⟨.func, 1, 8, .nilf⟩ := rfl
@[simp] theorem T_114 : T 114 = some ⟨.func, 1, 8, .nilf⟩ := rfl
@[simp] theorem T_115 : T 115 = some ⟨.func, 1, 8, .nilf⟩ := rfl
@[simp] theorem T_116 : T 116 = some ⟨.func, 1, 8, .nilf⟩ := rfl
@[simp] theorem T_117 : T 117 = some ⟨.int .u64, 1, 8, .int .u64 0⟩ := rfl
@[simp] theorem T_118 : T 118 = some ⟨.func, 1, 8, .nilf⟩ := rfl
@[simp] theorem T_119 : T 119 = some ⟨.func, 1, 8, .nilf⟩ := rfl
@[simp] theorem T_120 : T 120 = some ⟨.func, 1, 8, .nilf⟩ := rfl
@[simp] theorem T_121 : T 121 = some ⟨.ptr 3, 1, 8, .nilp⟩ := rfl
@[simp] theorem T_122 : T 122 = some ⟨.func, 1, 8, .nilf⟩ := rfl
@[simp] theorem T_123 : T 123 = some ⟨.func, 1, 8, .nilf⟩ := rfl
@[simp] theorem T_124 : T 124 = some ⟨.func, 1, 8, .nilf⟩ := rfl
@[simp] theorem T_125 : T 125 = some ⟨.ptr 117, 1, 8, .nilp⟩ := rfl
@[simp] theorem T_127 : T 127 = some ⟨.func, 1, 8, .nilf⟩ := rfl
@[simp] theorem T_128 : T 128 = some ⟨.func, 1, 8, .nilf⟩ := rfl
@[simp] theorem T_129 : T 129 = some ⟨.func, 1, 8, .nilf⟩ := rfl
@[simp] theorem T_135 : T 135 = some ⟨.func, 1, 8, .nilf⟩ := rfl
@[simp] theorem T_136 : T 136 = some ⟨.int .u8, 1, 1, .int .u8 0⟩ := rfl
@[simp] theorem T_137 : T 137 = some ⟨.int .u8, 1, 1, .int .u8 0⟩ := rfl
@[simp] theorem T_138 : T 138 = some ⟨.func, 1, 8, .nilf⟩ := rfl
@[simp] theorem T_139 : T 139 = some ⟨.ptr 5, 1, 8, .nilp⟩ := rfl
@[simp] theorem T_140 : T 140 = some ⟨.int .i32, 1, 4, .int .i32 0⟩ := rfl
@[simp] theorem T_141 : T 141 = some ⟨.int .i32, 1, 4, .int .i32 0⟩ := rfl

abbrev TRow (t : Nat) (i : TI) : Prop := ∃ info d z, Try.prog.info? t = some info ∧ Try.prog.underlying t = some d ∧ kindOf d = i.k ∧ info.size = i.size ∧ info.bytes = i.bytes ∧ info.zero = some z ∧ vconst z = i.zero ∧ i.zero.known = true ∧ i.zero.cells.length = i.size
theorem row_1 : TRow 1 ⟨.func, 1, 8, .nilf⟩ := ⟨Try.t1, _, _, by kernel_rfl, Try.underlying1, rfl, rfl, rfl, rfl, rfl, rfl, rfl⟩
theorem row_2 : TRow 2 ⟨.int .i64, 1, 8, .int .i64 0⟩ := ⟨Try.t2, _, _, by kernel_rfl, Try.underlying2, rfl, rfl, rfl, rfl, rfl, rfl, rfl⟩
theorem row_3 : TRow 3 ⟨.int .i64, 1, 8, .int .i64 0⟩ := ⟨Try.t3, _, _, by kernel_rfl, Try.underlying3, rfl, rfl, rfl, rfl, rfl, rfl, rfl⟩
theorem row_4 : TRow 4 ⟨.bool, 1, 1, .bool false⟩ := ⟨Try.t4, _, _, by kernel_rfl, Try.underlying4, rfl, rfl, rfl, rfl, rfl, rfl, rfl⟩
theorem row_5 : TRow 5 ⟨.int .u8, 1, 1, .int .u8 0⟩ := ⟨Try.t5, _, _, by kernel_rfl, Try.underlying5, rfl, rfl, rfl, rfl, rfl, rfl, rfl⟩
theorem row_6 : TRow 6 ⟨.int .u8, 1, 1, .int .u8 0⟩ := ⟨Try.t6, _, _, by kernel_rfl, Try.underlying6, rfl, rfl, rfl, rfl, rfl, rfl, rfl⟩
theorem row_7 : TRow 7 ⟨.struct [(0, 2), (1, 3), (2, 4), (3, 6)], 4, 24, .agg [.int .i64 0, .int .i64 0, .bool false, .int .u8 0]⟩ := ⟨Try.t7, _, _, by kernel_rfl, Try.underlying7, rfl, rfl, rfl, rfl, rfl, rfl, rfl⟩
theorem row_8 : TRow 8 ⟨.struct [(0, 2), (1, 3), (2, 4), (3, 6)], 4, 24, .agg [.int .i64 0, .int .i64 0, .bool false, .int .u8 0]⟩ := ⟨Try.t8, _, _, by kernel_rfl, Try.underlying8, rfl, rfl, rfl, rfl, rfl, rfl, rfl⟩
theorem row_9 : TRow 9 ⟨.string, 1, 16, .str ⟨#[]⟩⟩ := ⟨Try.t9, _, _, by kernel_rfl, Try.underlying9, rfl, rfl, rfl, rfl, rfl, rfl, rfl⟩
theorem row_10 : TRow 10 ⟨.string, 1, 16, .str ⟨#[]⟩⟩ := ⟨Try.t10, _, _, by kernel_rfl, Try.underlying10, rfl, rfl, rfl, rfl, rfl, rfl, rfl⟩
theorem row_11 : TRow 11 ⟨.string, 1, 16, .str ⟨#[]⟩⟩ := ⟨Try.t11, _, _, by kernel_rfl, Try.underlying11, rfl, rfl, rfl, rfl, rfl, rfl, rfl⟩
theorem row_12 : TRow 12 ⟨.int .u64, 1, 8, .int .u64 0⟩ := ⟨Try.t12, _, _, by kernel_rfl, Try.underlying12, rfl, rfl, rfl, rfl, rfl, rfl, rfl⟩
theorem row_15 : TRow 15 ⟨.ptr 131, 1, 8, .nilp⟩ := ⟨Try.t15, _, _, by kernel_rfl, Try.underlying15, rfl, rfl, rfl, rfl, rfl, rfl, rfl⟩
theorem row_16 : TRow 16 ⟨.ptr 134, 1, 8, .nilp⟩ := ⟨Try.t16, _, _, by kernel_rfl, Try.underlying16, rfl, rfl, rfl, rfl, rfl, rfl, rfl⟩
theorem row_17 : TRow 17 ⟨.ptr 143, 1, 8, .nilp⟩ := ⟨Try.t17, _, _, by kernel_rfl, Try.underlying17, rfl, rfl, rfl, rfl, rfl, rfl, rfl⟩
theorem row_21 : TRow 21 ⟨.int .i32, 1, 4, .int .i32 0⟩ := ⟨Try.t21, _, _, by kernel_rfl, Try.underlying21, rfl, rfl, rfl, rfl, rfl, rfl, rfl⟩
theorem row_22 : TRow 22 ⟨.slice 57, 1, 24, .nils⟩ := ⟨Try.t22, _, _, by kernel_rfl, Try.underlying22, rfl, rfl, rfl, rfl, rfl, rfl, rfl⟩
theorem row_23 : TRow 23 ⟨.slice 59, 1, 24, .nils⟩ := ⟨Try.t23, _, _, by kernel_rfl, Try.underlying23, rfl, rfl, rfl, rfl, rfl, rfl, rfl⟩
theorem row_24 : TRow 24 ⟨.slice 61, 1, 24, .nils⟩ := ⟨Try.t24, _, _, by kernel_rfl, Try.underlying24, rfl, rfl, rfl, rfl, rfl, rfl, rfl⟩
theorem row_25 : TRow 25 ⟨.struct [(0, 22), (1, 23), (2, 24), (3, 2), (4, 2), (5, 3)], 6, 96, .agg [.nils, .nils, .nils, .int .i64 0, .int .i64 0, .int .i64 0]⟩ := ⟨Try.t25, _, _, by kernel_rfl, Try.underlying25, rfl, rfl, rfl, rfl, rfl, rfl, rfl⟩
theorem row_26 : TRow 26 ⟨.struct [(0, 22), (1, 23), (2, 24), (3, 2), (4, 2), (5, 3)], 6, 96, .agg [.nils, .nils, .nils, .int .i64 0, .int .i64 0, .int .i64 0]⟩ := ⟨Try.t26, _, _, by kernel_rfl, Try.underlying26, rfl, rfl, rfl, rfl, rfl, rfl, rfl⟩
theorem row_27 : TRow 27 ⟨.slice 34, 1, 24, .nils⟩ := ⟨Try.t27, _, _, by kernel_rfl, Try.underlying27, rfl, rfl, rfl, rfl, rfl, rfl, rfl⟩
theorem row_28 : TRow 28 ⟨.func, 1, 8, .nilf⟩ := ⟨Try.t28, _, _, by kernel_rfl, Try.underlying28, rfl, rfl, rfl, rfl, rfl, rfl, rfl⟩
theorem row_29 : TRow 29 ⟨.func, 1, 8, .nilf⟩ := ⟨Try.t29, _, _, by kernel_rfl, Try.underlying29, rfl, rfl, rfl, rfl, rfl, rfl, rfl⟩
theorem row_30 : TRow 30 ⟨.slice 67, 1, 24, .nils⟩ := ⟨Try.t30, _, _, by kernel_rfl, Try.underlying30, rfl, rfl, rfl, rfl, rfl, rfl, rfl⟩
theorem row_31 : TRow 31 ⟨.slice 3, 1, 24, .nils⟩ := ⟨Try.t31, _, _, by kernel_rfl, Try.underlying31, rfl, rfl, rfl, rfl, rfl, rfl, rfl⟩
theorem row_32 : TRow 32 ⟨.slice 2, 1, 24, .nils⟩ := ⟨Try.t32, _, _, by kernel_rfl, Try.underlying32, rfl, rfl, rfl, rfl, rfl, rfl, rfl⟩
theorem row_33 : TRow 33 ⟨.struct [(0, 30), (1, 31), (2, 2), (3, 3), (4, 4), (5, 32)], 6, 96, .agg [.nils, .nils, .int .i64 0, .int .i64 0, .bool false, .nils]⟩ := ⟨Try.t33, _, _, by kernel_rfl, Try.underlying33, rfl, rfl, rfl, rfl, rfl, rfl, rfl⟩
theorem row_34 : TRow 34 ⟨.struct [(0, 30), (1, 31), (2, 2), (3, 3), (4, 4), (5, 32)], 6, 96, .agg [.nils, .nils, .int .i64 0, .int .i64 0, .bool false, .nils]⟩ := ⟨Try.t34, _, _, by kernel_rfl, Try.underlying34, rfl, rfl, rfl, rfl, rfl, rfl, rfl⟩
theorem row_35 : TRow 35 ⟨.int .i64, 1, 8, .int .i64 0⟩ := ⟨Try.t35, _, _, by kernel_rfl, Try.underlying35, rfl, rfl, rfl, rfl, rfl, rfl, rfl⟩
theorem row_37 : TRow 37 ⟨.func, 1, 8, .nilf⟩ := ⟨Try.t37, _, _, by kernel_rfl, Try.underlying37, rfl, rfl, rfl, rfl, rfl, rfl, rfl⟩
theorem row_38 : TRow 38 ⟨.slice 70, 1, 24, .nils⟩ := ⟨Try.t38, _, _, by kernel_rfl, Try.underlying38, rfl, rfl, rfl, rfl, rfl, rfl, rfl⟩
theorem row_39 : TRow 39 ⟨.struct [(0, 38), (1, 31), (2, 2), (3, 3), (4, 4), (5, 32)], 6, 96, .agg [.nils, .nils, .int .i64 0, .int .i64 0, .bool false, .nils]⟩ := ⟨Try.t39, _, _, by kernel_rfl, Try.underlying39, rfl, rfl, rfl, rfl, rfl, rfl, rfl⟩
theorem row_40 : TRow 40 ⟨.struct [(0, 38), (1, 31), (2, 2), (3, 3), (4, 4), (5, 32)], 6, 96, .agg [.nils, .nils, .int .i64 0, .int .i64 0, .bool false, .nils]⟩ := ⟨Try.t40, _, _, by kernel_rfl, Try.underlying40, rfl, rfl, rfl, rfl, rfl, rfl, rfl⟩
theorem row_42 : TRow 42 ⟨.func, 1, 8, .nilf⟩ := ⟨Try.t42, _, _, by kernel_rfl, Try.underlying42, rfl, rfl, rfl, rfl, rfl, rfl, rfl⟩
theorem row_43 : TRow 43 ⟨.slice 79, 1, 24, .nils⟩ := ⟨Try.t43, _, _, by kernel_rfl, Try.underlying43, rfl, rfl, rfl, rfl, rfl, rfl, rfl⟩
theorem row_44 : TRow 44 ⟨.slice 80, 1, 24, .nils⟩ := ⟨Try.t44, _, _, by kernel_rfl, Try.underlying44, rfl, rfl, rfl, rfl, rfl, rfl, rfl⟩
theorem row_45 : TRow 45 ⟨.slice 83, 1, 24, .nils⟩ := ⟨Try.t45, _, _, by kernel_rfl, Try.underlying45, rfl, rfl, rfl, rfl, rfl, rfl, rfl⟩
theorem row_46 : TRow 46 ⟨.struct [(0, 43), (1, 44), (2, 45), (3, 2), (4, 2), (5, 3)], 6, 96, .agg [.nils, .nils, .nils, .int .i64 0, .int .i64 0, .int .i64 0]⟩ := ⟨Try.t46, _, _, by kernel_rfl, Try.underlying46, rfl, rfl, rfl, rfl, rfl, rfl, rfl⟩
theorem row_47 : TRow 47 ⟨.struct [(0, 43), (1, 44), (2, 45), (3, 2), (4, 2), (5, 3)], 6, 96, .agg [.nils, .nils, .nils, .int .i64 0, .int .i64 0, .int .i64 0]⟩ := ⟨Try.t47, _, _, by kernel_rfl, Try.underlying47, rfl, rfl, rfl, rfl, rfl, rfl, rfl⟩
theorem row_48 : TRow 48 ⟨.func, 1, 8, .nilf⟩ := ⟨Try.t48, _, _, by kernel_rfl, Try.underlying48, rfl, rfl, rfl, rfl, rfl, rfl, rfl⟩
theorem row_49 : TRow 49 ⟨.slice 40, 1, 24, .nils⟩ := ⟨Try.t49, _, _, by kernel_rfl, Try.underlying49, rfl, rfl, rfl, rfl, rfl, rfl, rfl⟩
theorem row_50 : TRow 50 ⟨.func, 1, 8, .nilf⟩ := ⟨Try.t50, _, _, by kernel_rfl, Try.underlying50, rfl, rfl, rfl, rfl, rfl, rfl, rfl⟩
theorem row_51 : TRow 51 ⟨.func, 1, 8, .nilf⟩ := ⟨Try.t51, _, _, by kernel_rfl, Try.underlying51, rfl, rfl, rfl, rfl, rfl, rfl, rfl⟩
theorem row_52 : TRow 52 ⟨.func, 1, 8, .nilf⟩ := ⟨Try.t52, _, _, by kernel_rfl, Try.underlying52, rfl, rfl, rfl, rfl, rfl, rfl, rfl⟩
theorem row_53 : TRow 53 ⟨.func, 1, 8, .nilf⟩ := ⟨Try.t53, _, _, by kernel_rfl, Try.underlying53, rfl, rfl, rfl, rfl, rfl, rfl, rfl⟩
theorem row_54 : TRow 54 ⟨.func, 1, 8, .nilf⟩ := ⟨Try.t54, _, _, by kernel_rfl, Try.underlying54, rfl, rfl, rfl, rfl, rfl, rfl, rfl⟩
theorem row_55 : TRow 55 ⟨.func, 1, 8, .nilf⟩ := ⟨Try.t55, _, _, by kernel_rfl, Try.underlying55, rfl, rfl, rfl, rfl, rfl, rfl, rfl⟩
theorem row_56 : TRow 56 ⟨.struct [(0, 3), (1, 3), (2, 3), (3, 2)], 4, 32, .agg [.int .i64 0, .int .i64 0, .int .i64 0, .int .i64 0]⟩ := ⟨Try.t56, _, _, by kernel_rfl, Try.underlying56, rfl, rfl, rfl, rfl, rfl, rfl, rfl⟩
theorem row_57 : TRow 57 ⟨.struct [(0, 3), (1, 3), (2, 3), (3, 2)], 4, 32, .agg [.int .i64 0, .int .i64 0, .int .i64 0, .int .i64 0]⟩ := ⟨Try.t57, _, _, by kernel_rfl, Try.underlying57, rfl, rfl, rfl, rfl, rfl, rfl, rfl⟩
theorem row_58 : TRow 58 ⟨.struct [(0, 3), (1, 3)], 2, 16, .agg [.int .i64 0, .int .i64 0]⟩ := ⟨Try.t58, _, _, by kernel_rfl, Try.underlying58, rfl, rfl, rfl, rfl, rfl, rfl, rfl⟩
theorem row_59 : TRow 59 ⟨.struct [(0, 3), (1, 3)], 2, 16, .agg [.int .i64 0, .int .i64 0]⟩ := ⟨Try.t59, _, _, by kernel_rfl, Try.underlying59, rfl, rfl, rfl, rfl, rfl, rfl, rfl⟩
theorem row_60 : TRow 60 ⟨.struct [(0, 3), (1, 2), (2, 3), (3, 4)], 4, 32, .agg [.int .i64 0, .int .i64 0, .int .i64 0, .bool false]⟩ := ⟨Try.t60, _, _, by kernel_rfl, Try.underlying60, rfl, rfl, rfl, rfl, rfl, rfl, rfl⟩
theorem row_61 : TRow 61 ⟨.struct [(0, 3), (1, 2), (2, 3), (3, 4)], 4, 32, .agg [.int .i64 0, .int .i64 0, .int .i64 0, .bool false]⟩ := ⟨Try.t61, _, _, by kernel_rfl, Try.underlying61, rfl, rfl, rfl, rfl, rfl, rfl, rfl⟩
theorem row_62 : TRow 62 ⟨.func, 1, 8, .nilf⟩ := ⟨Try.t62, _, _, by kernel_rfl, Try.underlying62, rfl, rfl, rfl, rfl, rfl, rfl, rfl⟩
theorem row_63 : TRow 63 ⟨.map 3 4, 1, 8, .nilm⟩ := ⟨Try.t63, _, _, by kernel_rfl, Try.underlying63, rfl, rfl, rfl, rfl, rfl, rfl, rfl⟩
theorem row_64 : TRow 64 ⟨.func, 1, 8, .nilf⟩ := ⟨Try.t64, _, _, by kernel_rfl, Try.underlying64, rfl, rfl, rfl, rfl, rfl, rfl, rfl⟩
theorem row_65 : TRow 65 ⟨.map 3 3, 1, 8, .nilm⟩ := ⟨Try.t65, _, _, by kernel_rfl, Try.underlying65, rfl, rfl, rfl, rfl, rfl, rfl, rfl⟩
theorem row_66 : TRow 66 ⟨.struct [(0, 3), (1, 3), (2, 3), (3, 2)], 4, 32, .agg [.int .i64 0, .int .i64 0, .int .i64 0, .int .i64 0]⟩ := ⟨Try.t66, _, _, by kernel_rfl, Try.underlying66, rfl, rfl, rfl, rfl, rfl, rfl, rfl⟩
theorem row_67 : TRow 67 ⟨.struct [(0, 3), (1, 3), (2, 3), (3, 2)], 4, 32, .agg [.int .i64 0, .int .i64 0, .int .i64 0, .int .i64 0]⟩ := ⟨Try.t67, _, _, by kernel_rfl, Try.underlying67, rfl, rfl, rfl, rfl, rfl, rfl, rfl⟩
theorem row_69 : TRow 69 ⟨.func, 1, 8, .nilf⟩ := ⟨Try.t69, _, _, by kernel_rfl, Try.underlying69, rfl, rfl, rfl, rfl, rfl, rfl, rfl⟩
theorem row_70 : TRow 70 ⟨.struct [(0, 3), (1, 3), (2, 3), (3, 2)], 4, 32, .agg [.int .i64 0, .int .i64 0, .int .i64 0, .int .i64 0]⟩ := ⟨Try.t70, _, _, by kernel_rfl, Try.underlying70, rfl, rfl, rfl, rfl, rfl, rfl, rfl⟩
theorem row_71 : TRow 71 ⟨.func, 1, 8, .nilf⟩ := ⟨Try.t71, _, _, by kernel_rfl, Try.underlying71, rfl, rfl, rfl, rfl, rfl, rfl, rfl⟩
theorem row_72 : TRow 72 ⟨.func, 1, 8, .nilf⟩ := ⟨Try.t72, _, _, by kernel_rfl, Try.underlying72, rfl, rfl, rfl, rfl, rfl, rfl, rfl⟩
theorem row_73 : TRow 73 ⟨.func, 1, 8, .nilf⟩ := ⟨Try.t73, _, _, by kernel_rfl, Try.underlying73, rfl, rfl, rfl, rfl, rfl, rfl, rfl⟩
theorem row_74 : TRow 74 ⟨.func, 1, 8, .nilf⟩ := ⟨Try.t74, _, _, by kernel_rfl, Try.underlying74, rfl, rfl, rfl, rfl, rfl, rfl, rfl⟩
theorem row_75 : TRow 75 ⟨.func, 1, 8, .nilf⟩ := ⟨Try.t75, _, _, by kernel_rfl, Try.underlying75, rfl, rfl, rfl, rfl, rfl, rfl, rfl⟩
theorem row_76 : TRow 76 ⟨.func, 1, 8, .nilf⟩ := ⟨Try.t76, _, _, by kernel_rfl, Try.underlying76, rfl, rfl, rfl, rfl, rfl, rfl, rfl⟩
theorem row_77 : TRow 77 ⟨.func, 1, 8, .nilf⟩ := ⟨Try.t77, _, _, by kernel_rfl, Try.underlying77, rfl, rfl, rfl, rfl, rfl, rfl, rfl⟩
theorem row_78 : TRow 78 ⟨.func, 1, 8, .nilf⟩ := ⟨Try.t78, _, _, by kernel_rfl, Try.underlying78, rfl, rfl, rfl, rfl, rfl, rfl, rfl⟩
theorem row_79 : TRow 79 ⟨.struct [(0, 3), (1, 3), (2, 3), (3, 2)], 4, 32, .agg [.int .i64 0, .int .i64 0, .int .i64 0, .int .i64 0]⟩ := ⟨Try.t79, _, _, by kernel_rfl, Try.underlying79, rfl, rfl, rfl, rfl, rfl, rfl, rfl⟩
theorem row_80 : TRow 80 ⟨.struct [(0, 3), (1, 3)], 2, 16, .agg [.int .i64 0, .int .i64 0]⟩ := ⟨Try.t80, _, _, by kernel_rfl, Try.underlying80, rfl, rfl, rfl, rfl, rfl, rfl, rfl⟩
theorem row_81 : TRow 81 ⟨.func, 1, 8, .nilf⟩ := ⟨Try.t81, _, _, by kernel_rfl, Try.underlying81, rfl, rfl, rfl, rfl, rfl, rfl, rfl⟩
theorem row_82 : TRow 82 ⟨.func, 1, 8, .nilf⟩ := ⟨Try.t82, _, _, by kernel_rfl, Try.underlying82, rfl, rfl, rfl, rfl, rfl, rfl, rfl⟩
theorem row_83 : TRow 83 ⟨.struct [(0, 3), (1, 2), (2, 3), (3, 4)], 4, 32, .agg [.int .i64 0, .int .i64 0, .int .i64 0, .bool false]⟩ := ⟨Try.t83, _, _, by kernel_rfl, Try.underlying83, rfl, rfl, rfl, rfl, rfl, rfl, rfl⟩
theorem row_84 : TRow 84 ⟨.struct [(0, 2), (1, 3), (2, 4)], 3, 24, .agg [.int .i64 0, .int .i64 0, .bool false]⟩ := ⟨Try.t84, _, _, by kernel_rfl, Try.underlying84, rfl, rfl, rfl, rfl, rfl, rfl, rfl⟩
theorem row_85 : TRow 85 ⟨.struct [(0, 2), (1, 3), (2, 4)], 3, 24, .agg [.int .i64 0, .int .i64 0, .bool false]⟩ := ⟨Try.t85, _, _, by kernel_rfl, Try.underlying85, rfl, rfl, rfl, rfl, rfl, rfl, rfl⟩
theorem row_86 : TRow 86 ⟨.func, 1, 8, .nilf⟩ := ⟨Try.t86, _, _, by kernel_rfl, Try.underlying86, rfl, rfl, rfl, rfl, rfl, rfl, rfl⟩
theorem row_87 : TRow 87 ⟨.func, 1, 8, .nilf⟩ := ⟨Try.t87, _, _, by kernel_rfl, Try.underlying87, rfl, rfl, rfl, rfl, rfl, rfl, rfl⟩
theorem row_88 : TRow 88 ⟨.func, 1, 8, .nilf⟩ := ⟨Try.t88, _, _, by kernel_rfl, Try.underlying88, rfl, rfl, rfl, rfl, rfl, rfl, rfl⟩
theorem row_89 : TRow 89 ⟨.func, 1, 8, .nilf⟩ := ⟨Try.t89, _, _, by kernel_rfl, Try.underlying89, rfl, rfl, rfl, rfl, rfl, rfl, rfl⟩
theorem row_90 : TRow 90 ⟨.func, 1, 8, .nilf⟩ := ⟨Try.t90, _, _, by kernel_rfl, Try.underlying90, rfl, rfl, rfl, rfl, rfl, rfl, rfl⟩
theorem row_91 : TRow 91 ⟨.int .u64, 1, 8, .int .u64 0⟩ := ⟨Try.t91, _, _, by kernel_rfl, Try.underlying91, rfl, rfl, rfl, rfl, rfl, rfl, rfl⟩
theorem row_92 : TRow 92 ⟨.func, 1, 8, .nilf⟩ := ⟨Try.t92, _, _, by kernel_rfl, Try.underlying92, rfl, rfl, rfl, rfl, rfl, rfl, rfl⟩
theorem row_93 : TRow 93 ⟨.array 4 2, 4, 32, .agg [.int .i64 0, .int .i64 0, .int .i64 0, .int .i64 0]⟩ := ⟨Try.t93, _, _, by kernel_rfl, Try.underlying93, rfl, rfl, rfl, rfl, rfl, rfl, rfl⟩
theorem row_94 : TRow 94 ⟨.func, 1, 8, .nilf⟩ := ⟨Try.t94, _, _, by kernel_rfl, Try.underlying94, rfl, rfl, rfl, rfl, rfl, rfl, rfl⟩
theorem row_95 : TRow 95 ⟨.func, 1, 8, .nilf⟩ := ⟨Try.t95, _, _, by kernel_rfl, Try.underlying95, rfl, rfl, rfl, rfl, rfl, rfl, rfl⟩
theorem row_96 : TRow 96 ⟨.func, 1, 8, .nilf⟩ := ⟨Try.t96, _, _, by kernel_rfl, Try.underlying96, rfl, rfl, rfl, rfl, rfl, rfl, rfl⟩
theorem row_97 : TRow 97 ⟨.func, 1, 8, .nilf⟩ := ⟨Try.t97, _, _, by kernel_rfl, Try.underlying97, rfl, rfl, rfl, rfl, rfl, rfl, rfl⟩
theorem row_98 : TRow 98 ⟨.func, 1, 8, .nilf⟩ := ⟨Try.t98, _, _, by kernel_rfl, Try.underlying98, rfl, rfl, rfl, rfl, rfl, rfl, rfl⟩
theorem row_99 : TRow 99 ⟨.func, 1, 8, .nilf⟩ := ⟨Try.t99, _, _, by kernel_rfl, Try.underlying99, rfl, rfl, rfl, rfl, rfl, rfl, rfl⟩
theorem row_100 : TRow 100 ⟨.int .i64, 1, 8, .int .i64 0⟩ := ⟨Try.t100, _, _, by kernel_rfl, Try.underlying100, rfl, rfl, rfl, rfl, rfl, rfl, rfl⟩
theorem row_102 : TRow 102 ⟨.func, 1, 8, .nilf⟩ := ⟨Try.t102, _, _, by kernel_rfl, Try.underlying102, rfl, rfl, rfl, rfl, rfl, rfl, rfl⟩
theorem row_103 : TRow 103 ⟨.func, 1, 8, .nilf⟩ := ⟨Try.t103, _, _, by kernel_rfl, Try.underlying103, rfl, rfl, rfl, rfl, rfl, rfl, rfl⟩
theorem row_104 : TRow 104 ⟨.func, 1, 8, .nilf⟩ := ⟨Try.t104, _, _, by kernel_rfl, Try.underlying104, rfl, rfl, rfl, rfl, rfl, rfl, rfl⟩
theorem row_105 : TRow 105 ⟨.func, 1, 8, .nilf⟩ := ⟨Try.t105, _, _, by kernel_rfl, Try.underlying105, rfl, rfl, rfl, rfl, rfl, rfl, rfl⟩
theorem row_106 : TRow 106 ⟨.func, 1, 8, .nilf⟩ := ⟨Try.t106, _, _, by kernel_rfl, Try.underlying106, rfl, rfl, rfl, rfl, rfl, rfl, rfl⟩
theorem row_107 : TRow 107 ⟨.int .u32, 1, 4, .int .u32 0⟩ := ⟨Try.t107, _, _, by kernel_rfl, Try.underlying107, rfl, rfl, rfl, rfl, rfl, rfl, rfl⟩
theorem row_108 : TRow 108 ⟨.func, 1, 8, .nilf⟩ := ⟨Try.t108, _, _, by kernel_rfl, Try.underlying108, rfl, rfl, rfl, rfl, rfl, rfl, rfl⟩
theorem row_109 : TRow 109 ⟨.int .u64, 1, 8, .int .u64 0⟩ := ⟨Try.t109, _, _, by kernel_rfl, Try.underlying109, rfl, rfl, rfl, rfl, rfl, rfl, rfl⟩
theorem row_110 : TRow 110 ⟨.func, 1, 8, .nilf⟩ := ⟨Try.t110, _, _, by kernel_rfl, Try.underlying110, rfl, rfl, rfl, rfl, rfl, rfl, rfl⟩
theorem row_111 : TRow 111 ⟨.func, 1, 8, .nilf⟩ := ⟨Try.t111, _, _, by kernel_rfl, Try.underlying111, rfl, rfl, rfl, rfl, rfl, rfl, rfl⟩
theorem row_112 : TRow 112 ⟨.func, 1, 8, .nilf⟩ := ⟨Try.t112, _, _, by kernel_rfl, Try.underlying112, rfl, rfl, rfl, rfl, rfl, rfl, rfl⟩
theorem row_113 : TRow 113 ⟨.func, 1, 8, .nilf⟩ := ⟨Try.t113, _, _, by kernel_rfl, Try.underlying113, rfl, rfl, rfl, rfl, rfl, rfl, rfl⟩
theorem row_114 : TRow 114 ⟨.func, 1, 8, .nilf⟩ := ⟨Try.t114, _, _, by kernel_rfl, Try.underlying114, rfl, rfl, rfl, rfl, rfl, rfl, rfl⟩
theorem row_115 : TRow 115 ⟨.func, 1, 8, .nilf⟩ := ⟨Try.t115, _, _, by kernel_rfl, Try.underlying115, rfl, rfl, rfl, rfl, rfl, rfl, rfl⟩
theorem row_116 : TRow 116 ⟨.func, 1, 8, .nilf⟩ := ⟨Try.t116, _, _, by kernel_rfl, Try.underlying116, rfl, rfl, rfl, rfl, rfl, rfl, rfl⟩
theorem row_117 : TRow 117 ⟨.int .u64, 1, 8, .int .u64 0⟩ := ⟨Try.t117, _, _, by kernel_rfl, Try.underlying117, rfl, rfl, rfl, rfl, rfl, rfl, rfl⟩
theorem row_118 : TRow 118 ⟨.func, 1, 8, .nilf⟩ := ⟨Try.t118, _, _, by kernel_rfl, Try.underlying118, rfl, rfl, rfl, rfl, rfl, rfl, rfl⟩
theorem row_119 : TRow 119 ⟨.func, 1, 8, .nilf⟩ := ⟨Try.t119, _, _, by kernel_rfl, Try.underlying119, rfl, rfl, rfl, rfl, rfl, rfl, rfl⟩
theorem row_120 : TRow 120 ⟨.func, 1, 8, .nilf⟩ := ⟨Try.t120, _, _, by kernel_rfl, Try.underlying120, rfl, rfl, rfl, rfl, rfl, rfl, rfl⟩
theorem row_121 : TRow 121 ⟨.ptr 3, 1, 8, .nilp⟩ := ⟨Try.t121, _, _, by kernel_rfl, Try.underlying121, rfl, rfl, rfl, rfl, rfl, rfl, rfl⟩
theorem row_122 : TRow 122 ⟨.func, 1, 8, .nilf⟩ := ⟨Try.t122, _, _, by kernel_rfl, Try.underlying122, rfl, rfl, rfl, rfl, rfl, rfl, rfl⟩
theorem row_123 : TRow 123 ⟨.func, 1, 8, .nilf⟩ := ⟨Try.t123, _, _, by kernel_rfl, Try.underlying123, rfl, rfl, rfl, rfl, rfl, rfl, rfl⟩
theorem row_124 : TRow 124 ⟨.func, 1, 8, .nilf⟩ := ⟨Try.t124, _, _, by kernel_rfl, Try.underlying124, rfl, rfl, rfl, rfl, rfl, rfl, rfl⟩
theorem row_125 : TRow 125 ⟨.ptr 117, 1, 8, .nilp⟩ := ⟨Try.t125, _, _, by kernel_rfl, Try.underlying125, rfl, rfl, rfl, rfl, rfl, rfl, rfl⟩
theorem row_127 : TRow 127 ⟨.func, 1, 8, .nilf⟩ := ⟨Try.t127, _, _, by kernel_rfl, Try.underlying127, rfl, rfl, rfl, rfl, rfl, rfl, rfl⟩
theorem row_128 : TRow 128 ⟨.func, 1, 8, .nilf⟩ := ⟨Try.t128, _, _, by kernel_rfl, Try.underlying128, rfl, rfl, rfl, rfl, rfl, rfl, rfl⟩
theorem row_129 : TRow 129 ⟨.func, 1, 8, .nilf⟩ := ⟨Try.t129, _, _, by kernel_rfl, Try.underlying129, rfl, rfl, rfl, rfl, rfl, rfl, rfl⟩
theorem row_135 : TRow 135 ⟨.func, 1, 8, .nilf⟩ := ⟨Try.t135, _, _, by kernel_rfl, Try.underlying135, rfl, rfl, rfl, rfl, rfl, rfl, rfl⟩
theorem row_136 : TRow 136 ⟨.int .u8, 1, 1, .int .u8 0⟩ := ⟨Try.t136, _, _, by kernel_rfl, Try.underlying136, rfl, rfl, rfl, rfl, rfl, rfl, rfl⟩
theorem row_137 : TRow 137 ⟨.int .u8, 1, 1, .int .u8 0⟩ := ⟨Try.t137, _, _, by kernel_rfl, Try.underlying137, rfl, rfl, rfl, rfl, rfl, rfl, rfl⟩
theorem row_138 : TRow 138 ⟨.func, 1, 8, .nilf⟩ := ⟨Try.t138, _, _, by kernel_rfl, Try.underlying138, rfl, rfl, rfl, rfl, rfl, rfl, rfl⟩
theorem row_139 : TRow 139 ⟨.ptr 5, 1, 8, .nilp⟩ := ⟨Try.t139, _, _, by kernel_rfl, Try.underlying139, rfl, rfl, rfl, rfl, rfl, rfl, rfl⟩
theorem row_140 : TRow 140 ⟨.int .i32, 1, 4, .int .i32 0⟩ := ⟨Try.t140, _, _, by kernel_rfl, Try.underlying140, rfl, rfl, rfl, rfl, rfl, rfl, rfl⟩
theorem row_141 : TRow 141 ⟨.int .i32, 1, 4, .int .i32 0⟩ := ⟨Try.t141, _, _, by kernel_rfl, Try.underlying141, rfl, rfl, rfl, rfl, rfl, rfl, rfl⟩
theorem hTt : ∀ t i, T t = some i → TRow t i := by
  intro t i h
  unfold T at h
  split at h
  · obtain rfl := Option.some.inj h; exact row_1
  · obtain rfl := Option.some.inj h; exact row_2
  · obtain rfl := Option.some.inj h; exact row_3
  · obtain rfl := Option.some.inj h; exact row_4
  · obtain rfl := Option.some.inj h; exact row_5
  · obtain rfl := Option.some.inj h; exact row_6
  · obtain rfl := Option.some.inj h; exact row_7
  · obtain rfl := Option.some.inj h; exact row_8
  · obtain rfl := Option.some.inj h; exact row_9
  · obtain rfl := Option.some.inj h; exact row_10
  · obtain rfl := Option.some.inj h; exact row_11
  · obtain rfl := Option.some.inj h; exact row_12
  · obtain rfl := Option.some.inj h; exact row_15
  · obtain rfl := Option.some.inj h; exact row_16
  · obtain rfl := Option.some.inj h; exact row_17
  · obtain rfl := Option.some.inj h; exact row_21
  · obtain rfl := Option.some.inj h; exact row_22
  · obtain rfl := Option.some.inj h; exact row_23
  · obtain rfl := Option.some.inj h; exact row_24
  · obtain rfl := Option.some.inj h; exact row_25
  · obtain rfl := Option.some.inj h; exact row_26
  · obtain rfl := Option.some.inj h; exact row_27
  · obtain rfl := Option.some.inj h; exact row_28
  · obtain rfl := Option.some.inj h; exact row_29
  · obtain rfl := Option.some.inj h; exact row_30
  · obtain rfl := Option.some.inj h; exact row_31
  · obtain rfl := Option.some.inj h; exact row_32
  · obtain rfl := Option.some.inj h; exact row_33
  · obtain rfl := Option.some.inj h; exact row_34
  · obtain rfl := Option.some.inj h; exact row_35
  · obtain rfl := Option.some.inj h; exact row_37
  · obtain rfl := Option.some.inj h; exact row_38
  · obtain rfl := Option.some.inj h; exact row_39
  · obtain rfl := Option.some.inj h; exact row_40
  · obtain rfl := Option.some.inj h; exact row_42
  · obtain rfl := Option.some.inj h; exact row_43
  · obtain rfl := Option.some.inj h; exact row_44
  · obtain rfl := Option.some.inj h; exact row_45
  · obtain rfl := Option.some.inj h; exact row_46
  · obtain rfl := Option.some.inj h; exact row_47
  · obtain rfl := Option.some.inj h; exact row_48
  · obtain rfl := Option.some.inj h; exact row_49
  · obtain rfl := Option.some.inj h; exact row_50
  · obtain rfl := Option.some.inj h; exact row_51
  · obtain rfl := Option.some.inj h; exact row_52
  · obtain rfl := Option.some.inj h; exact row_53
  · obtain rfl := Option.some.inj h; exact row_54
  · obtain rfl := Option.some.inj h; exact row_55
  · obtain rfl := Option.some.inj h; exact row_56
  · obtain rfl := Option.some.inj h; exact row_57
  · obtain rfl := Option.some.inj h; exact row_58
  · obtain rfl := Option.some.inj h; exact row_59
  · obtain rfl := Option.some.inj h; exact row_60
  · obtain rfl := Option.some.inj h; exact row_61
  · obtain rfl := Option.some.inj h; exact row_62
  · obtain rfl := Option.some.inj h; exact row_63
  · obtain rfl := Option.some.inj h; exact row_64
  · obtain rfl := Option.some.inj h; exact row_65
  · obtain rfl := Option.some.inj h; exact row_66
  · obtain rfl := Option.some.inj h; exact row_67
  · obtain rfl := Option.some.inj h; exact row_69
  · obtain rfl := Option.some.inj h; exact row_70
  · obtain rfl := Option.some.inj h; exact row_71
  · obtain rfl := Option.some.inj h; exact row_72
  · obtain rfl := Option.some.inj h; exact row_73
  · obtain rfl := Option.some.inj h; exact row_74
  · obtain rfl := Option.some.inj h; exact row_75
  · obtain rfl := Option.some.inj h; exact row_76
  · obtain rfl := Option.some.inj h; exact row_77
  · obtain rfl := Option.some.inj h; exact row_78
  · obtain rfl := Option.some.inj h; exact row_79
  · obtain rfl := Option.some.inj h; exact row_80
  · obtain rfl := Option.some.inj h; exact row_81
  · obtain rfl := Option.some.inj h; exact row_82
  · obtain rfl := Option.some.inj h; exact row_83
  · obtain rfl := Option.some.inj h; exact row_84
  · obtain rfl := Option.some.inj h; exact row_85
  · obtain rfl := Option.some.inj h; exact row_86
  · obtain rfl := Option.some.inj h; exact row_87
  · obtain rfl := Option.some.inj h; exact row_88
  · obtain rfl := Option.some.inj h; exact row_89
  · obtain rfl := Option.some.inj h; exact row_90
  · obtain rfl := Option.some.inj h; exact row_91
  · obtain rfl := Option.some.inj h; exact row_92
  · obtain rfl := Option.some.inj h; exact row_93
  · obtain rfl := Option.some.inj h; exact row_94
  · obtain rfl := Option.some.inj h; exact row_95
  · obtain rfl := Option.some.inj h; exact row_96
  · obtain rfl := Option.some.inj h; exact row_97
  · obtain rfl := Option.some.inj h; exact row_98
  · obtain rfl := Option.some.inj h; exact row_99
  · obtain rfl := Option.some.inj h; exact row_100
  · obtain rfl := Option.some.inj h; exact row_102
  · obtain rfl := Option.some.inj h; exact row_103
  · obtain rfl := Option.some.inj h; exact row_104
  · obtain rfl := Option.some.inj h; exact row_105
  · obtain rfl := Option.some.inj h; exact row_106
  · obtain rfl := Option.some.inj h; exact row_107
  · obtain rfl := Option.some.inj h; exact row_108
  · obtain rfl := Option.some.inj h; exact row_109
  · obtain rfl := Option.some.inj h; exact row_110
  · obtain rfl := Option.some.inj h; exact row_111
  · obtain rfl := Option.some.inj h; exact row_112
  · obtain rfl := Option.some.inj h; exact row_113
  · obtain rfl := Option.some.inj h; exact row_114
  · obtain rfl := Option.some.inj h; exact row_115
  · obtain rfl := Option.some.inj h; exact row_116
  · obtain rfl := Option.some.inj h; exact row_117
  · obtain rfl := Option.some.inj h; exact row_118
  · obtain rfl := Option.some.inj h; exact row_119
  · obtain rfl := Option.some.inj h; exact row_120
  · obtain rfl := Option.some.inj h; exact row_121
  · obtain rfl := Option.some.inj h; exact row_122
  · obtain rfl := Option.some.inj h; exact row_123
  · obtain rfl := Option.some.inj h; exact row_124
  · obtain rfl := Option.some.inj h; exact row_125
  · obtain rfl := Option.some.inj h; exact row_127
  · obtain rfl := Option.some.inj h; exact row_128
  · obtain rfl := Option.some.inj h; exact row_129
  · obtain rfl := Option.some.inj h; exact row_135
  · obtain rfl := Option.some.inj h; exact row_136
  · obtain rfl := Option.some.inj h; exact row_137
  · obtain rfl := Option.some.inj h; exact row_138
  · obtain rfl := Option.some.inj h; exact row_139
  · obtain rfl := Option.some.inj h; exact row_140
  · obtain rfl := Option.some.inj h; exact row_141
  · cases h

theorem eq_7 : eqOK Try.prog 7 = true := by kernel_rfl
theorem eq_8 : eqOK Try.prog 8 = true := by kernel_rfl
theorem eq_25 : eqOK Try.prog 25 = true := by kernel_rfl
theorem eq_26 : eqOK Try.prog 26 = true := by kernel_rfl
theorem eq_33 : eqOK Try.prog 33 = true := by kernel_rfl
theorem eq_34 : eqOK Try.prog 34 = true := by kernel_rfl
theorem eq_39 : eqOK Try.prog 39 = true := by kernel_rfl
theorem eq_40 : eqOK Try.prog 40 = true := by kernel_rfl
theorem eq_46 : eqOK Try.prog 46 = true := by kernel_rfl
theorem eq_47 : eqOK Try.prog 47 = true := by kernel_rfl
theorem eq_56 : eqOK Try.prog 56 = true := by kernel_rfl
theorem eq_57 : eqOK Try.prog 57 = true := by kernel_rfl
theorem eq_58 : eqOK Try.prog 58 = true := by kernel_rfl
theorem eq_59 : eqOK Try.prog 59 = true := by kernel_rfl
theorem eq_60 : eqOK Try.prog 60 = true := by kernel_rfl
theorem eq_61 : eqOK Try.prog 61 = true := by kernel_rfl
theorem eq_66 : eqOK Try.prog 66 = true := by kernel_rfl
theorem eq_67 : eqOK Try.prog 67 = true := by kernel_rfl
theorem eq_70 : eqOK Try.prog 70 = true := by kernel_rfl
theorem eq_79 : eqOK Try.prog 79 = true := by kernel_rfl
theorem eq_80 : eqOK Try.prog 80 = true := by kernel_rfl
theorem eq_83 : eqOK Try.prog 83 = true := by kernel_rfl
theorem eq_84 : eqOK Try.prog 84 = true := by kernel_rfl
theorem eq_85 : eqOK Try.prog 85 = true := by kernel_rfl
theorem hTe : ∀ t fs s b z, T t = some ⟨.struct fs, s, b, z⟩ → eqOK Try.prog t = true := by
  intro t fs s b z h
  unfold T at h
  split at h
  · cases h
  · cases h
  · cases h
  · cases h
  · cases h
  · cases h
  · exact eq_7
  · exact eq_8
  · cases h
  · cases h
  · cases h
  · cases h
  · cases h
  · cases h
  · cases h
  · cases h
  · cases h
  · cases h
  · cases h
  · exact eq_25
  · exact eq_26
  · cases h
  · cases h
  · cases h
  · cases h
  · cases h
  · cases h
  · exact eq_33
  · exact eq_34
  · cases h
  · cases h
  · cases h
  · exact eq_39
  · exact eq_40
  · cases h
  · cases h
  · cases h
  · cases h
  · exact eq_46
  · exact eq_47
  · cases h
  · cases h
  · cases h
  · cases h
  · cases h
  · cases h
  · cases h
  · cases h
  · exact eq_56
  · exact eq_57
  · exact eq_58
  · exact eq_59
  · exact eq_60
  · exact eq_61
  · cases h
  · cases h
  · cases h
  · cases h
  · exact eq_66
  · exact eq_67
  · cases h
  · exact eq_70
  · cases h
  · cases h
  · cases h
  · cases h
  · cases h
  · cases h
  · cases h
  · cases h
  · exact eq_79
  · exact eq_80
  · cases h
  · cases h
  · exact eq_83
  · exact eq_84
  · exact eq_85
  · cases h
  · cases h
  · cases h
  · cases h
  · cases h
  · cases h
  · cases h
  · cases h
  · cases h
  · cases h
  · cases h
  · cases h
  · cases h
  · cases h
  · cases h
  · cases h
  · cases h
  · cases h
  · cases h
  · cases h
  · cases h
  · cases h
  · cases h
  · cases h
  · cases h
  · cases h
  · cases h
  · cases h
  · cases h
  · cases h
  · cases h
  · cases h
  · cases h
  · cases h
  · cases h
  · cases h
  · cases h
  · cases h
  · cases h
  · cases h
  · cases h
  · cases h
  · cases h
  · cases h
  · cases h
  · cases h
  · cases h
  · cases h
  · cases h
  · cases h
theorem hT : TabOK Try.prog T := ⟨hTt, hTe⟩

theorem ent_3 : Ent Try.prog 3 := by unfold Ent; kernel_rfl
theorem ent_4 : Ent Try.prog 4 := by unfold Ent; kernel_rfl
theorem ent_5 : Ent Try.prog 5 := by unfold Ent; kernel_rfl
theorem ent_6 : Ent Try.prog 6 := by unfold Ent; kernel_rfl
theorem ent_7 : Ent Try.prog 7 := by unfold Ent; kernel_rfl
theorem ent_8 : Ent Try.prog 8 := by unfold Ent; kernel_rfl
theorem ent_9 : Ent Try.prog 9 := by unfold Ent; kernel_rfl
theorem ent_10 : Ent Try.prog 10 := by unfold Ent; kernel_rfl
theorem ent_11 : Ent Try.prog 11 := by unfold Ent; kernel_rfl
theorem ent_12 : Ent Try.prog 12 := by unfold Ent; kernel_rfl
theorem ent_13 : Ent Try.prog 13 := by unfold Ent; kernel_rfl
theorem ent_14 : Ent Try.prog 14 := by unfold Ent; kernel_rfl
theorem ent_15 : Ent Try.prog 15 := by unfold Ent; kernel_rfl
theorem ent_16 : Ent Try.prog 16 := by unfold Ent; kernel_rfl
theorem ent_17 : Ent Try.prog 17 := by unfold Ent; kernel_rfl
theorem ent_18 : Ent Try.prog 18 := by unfold Ent; kernel_rfl
theorem ent_19 : Ent Try.prog 19 := by unfold Ent; kernel_rfl
theorem ent_20 : Ent Try.prog 20 := by unfold Ent; kernel_rfl
theorem ent_21 : Ent Try.prog 21 := by unfold Ent; kernel_rfl
theorem ent_22 : Ent Try.prog 22 := by unfold Ent; kernel_rfl
theorem ent_23 : Ent Try.prog 23 := by unfold Ent; kernel_rfl
theorem ent_24 : Ent Try.prog 24 := by unfold Ent; kernel_rfl
theorem ent_25 : Ent Try.prog 25 := by unfold Ent; kernel_rfl
theorem ent_26 : Ent Try.prog 26 := by unfold Ent; kernel_rfl
theorem ent_27 : Ent Try.prog 27 := by unfold Ent; kernel_rfl
theorem ent_28 : Ent Try.prog 28 := by unfold Ent; kernel_rfl
theorem ent_29 : Ent Try.prog 29 := by unfold Ent; kernel_rfl
theorem ent_30 : Ent Try.prog 30 := by unfold Ent; kernel_rfl
theorem ent_31 : Ent Try.prog 31 := by unfold Ent; kernel_rfl
theorem ent_32 : Ent Try.prog 32 := by unfold Ent; kernel_rfl
theorem ent_33 : Ent Try.prog 33 := by unfold Ent; kernel_rfl
theorem ent_34 : Ent Try.prog 34 := by unfold Ent; kernel_rfl
theorem ent_35 : Ent Try.prog 35 := by unfold Ent; kernel_rfl
theorem ent_36 : Ent Try.prog 36 := by unfold Ent; kernel_rfl
theorem ent_37 : Ent Try.prog 37 := by unfold Ent; kernel_rfl
theorem ent_38 : Ent Try.prog 38 := by unfold Ent; kernel_rfl
theorem ent_39 : Ent Try.prog 39 := by unfold Ent; kernel_rfl
theorem ent_40 : Ent Try.prog 40 := by unfold Ent; kernel_rfl
theorem ent_41 : Ent Try.prog 41 := by unfold Ent; kernel_rfl
theorem ent_42 : Ent Try.prog 42 := by unfold Ent; kernel_rfl
theorem ent_43 : Ent Try.prog 43 := by unfold Ent; kernel_rfl
theorem ent_44 : Ent Try.prog 44 := by unfold Ent; kernel_rfl
theorem ent_45 : Ent Try.prog 45 := by unfold Ent; kernel_rfl
theorem ent_46 : Ent Try.prog 46 := by unfold Ent; kernel_rfl
theorem ent_47 : Ent Try.prog 47 := by unfold Ent; kernel_rfl
theorem ent_48 : Ent Try.prog 48 := by unfold Ent; kernel_rfl
theorem ent_49 : Ent Try.prog 49 := by unfold Ent; kernel_rfl
theorem ent_50 : Ent Try.prog 50 := by unfold Ent; kernel_rfl
theorem ent_51 : Ent Try.prog 51 := by unfold Ent; kernel_rfl
theorem ent_52 : Ent Try.prog 52 := by unfold Ent; kernel_rfl
theorem ent_53 : Ent Try.prog 53 := by unfold Ent; kernel_rfl
theorem ent_54 : Ent Try.prog 54 := by unfold Ent; kernel_rfl
theorem ent_55 : Ent Try.prog 55 := by unfold Ent; kernel_rfl
theorem ent_56 : Ent Try.prog 56 := by unfold Ent; kernel_rfl
theorem ent_57 : Ent Try.prog 57 := by unfold Ent; kernel_rfl
theorem ent_58 : Ent Try.prog 58 := by unfold Ent; kernel_rfl
theorem ent_59 : Ent Try.prog 59 := by unfold Ent; kernel_rfl
theorem ent_60 : Ent Try.prog 60 := by unfold Ent; kernel_rfl
theorem ent_61 : Ent Try.prog 61 := by unfold Ent; kernel_rfl
theorem ent_62 : Ent Try.prog 62 := by unfold Ent; kernel_rfl
theorem ent_63 : Ent Try.prog 63 := by unfold Ent; kernel_rfl
theorem ent_64 : Ent Try.prog 64 := by unfold Ent; kernel_rfl
theorem ent_65 : Ent Try.prog 65 := by unfold Ent; kernel_rfl
theorem ent_66 : Ent Try.prog 66 := by unfold Ent; kernel_rfl
theorem ent_67 : Ent Try.prog 67 := by unfold Ent; kernel_rfl
theorem ent_68 : Ent Try.prog 68 := by unfold Ent; kernel_rfl
theorem ent_69 : Ent Try.prog 69 := by unfold Ent; kernel_rfl
theorem ent_70 : Ent Try.prog 70 := by unfold Ent; kernel_rfl
theorem ent_71 : Ent Try.prog 71 := by unfold Ent; kernel_rfl
theorem ent_72 : Ent Try.prog 72 := by unfold Ent; kernel_rfl
@[simp] theorem res_3 : Try.f3.results.toList = [.tmp 8] := rfl
attribute [simp] Try.ntmps3
@[simp] theorem res_4 : Try.f4.results.toList = [.tmp 4] := rfl
attribute [simp] Try.ntmps4
@[simp] theorem res_5 : Try.f5.results.toList = [.tmp 8] := rfl
attribute [simp] Try.ntmps5
@[simp] theorem res_6 : Try.f6.results.toList = [.tmp 6] := rfl
attribute [simp] Try.ntmps6
@[simp] theorem res_7 : Try.f7.results.toList = [.tmp 0] := rfl
attribute [simp] Try.ntmps7
@[simp] theorem res_8 : Try.f8.results.toList = [.tmp 2] := rfl
attribute [simp] Try.ntmps8
@[simp] theorem res_9 : Try.f9.results.toList = [.cell 6 34, .tmp 7] := rfl
attribute [simp] Try.ntmps9
@[simp] theorem res_10 : Try.f10.results.toList = [.cell 6 40, .tmp 7] := rfl
attribute [simp] Try.ntmps10
@[simp] theorem res_11 : Try.f11.results.toList = [.cell 2 47] := rfl
attribute [simp] Try.ntmps11
@[simp] theorem res_12 : Try.f12.results.toList = [.cell 2 40] := rfl
attribute [simp] Try.ntmps12
@[simp] theorem res_13 : Try.f13.results.toList = [.tmp 4] := rfl
attribute [simp] Try.ntmps13
@[simp] theorem res_14 : Try.f14.results.toList = [.tmp 4] := rfl
attribute [simp] Try.ntmps14
@[simp] theorem res_15 : Try.f15.results.toList = [.tmp 2] := rfl
attribute [simp] Try.ntmps15
@[simp] theorem res_16 : Try.f16.results.toList = [.tmp 2] := rfl
attribute [simp] Try.ntmps16
@[simp] theorem res_17 : Try.f17.results.toList = [.tmp 2] := rfl
attribute [simp] Try.ntmps17
@[simp] theorem res_18 : Try.f18.results.toList = [] := rfl
attribute [simp] Try.ntmps18
@[simp] theorem res_19 : Try.f19.results.toList = [.tmp 4] := rfl
attribute [simp] Try.ntmps19
@[simp] theorem res_20 : Try.f20.results.toList = [.tmp 4] := rfl
attribute [simp] Try.ntmps20
@[simp] theorem res_21 : Try.f21.results.toList = [.tmp 4] := rfl
attribute [simp] Try.ntmps21
@[simp] theorem res_22 : Try.f22.results.toList = [.tmp 2] := rfl
attribute [simp] Try.ntmps22
@[simp] theorem res_23 : Try.f23.results.toList = [.tmp 2] := rfl
attribute [simp] Try.ntmps23
@[simp] theorem res_24 : Try.f24.results.toList = [] := rfl
attribute [simp] Try.ntmps24
@[simp] theorem res_25 : Try.f25.results.toList = [.tmp 4] := rfl
attribute [simp] Try.ntmps25
@[simp] theorem res_26 : Try.f26.results.toList = [.tmp 3] := rfl
attribute [simp] Try.ntmps26
@[simp] theorem res_27 : Try.f27.results.toList = [.tmp 2] := rfl
attribute [simp] Try.ntmps27
@[simp] theorem res_28 : Try.f28.results.toList = [.cell 4 70] := rfl
attribute [simp] Try.ntmps28
@[simp] theorem res_29 : Try.f29.results.toList = [.tmp 4] := rfl
attribute [simp] Try.ntmps29
@[simp] theorem res_30 : Try.f30.results.toList = [.tmp 4] := rfl
attribute [simp] Try.ntmps30
@[simp] theorem res_31 : Try.f31.results.toList = [.tmp 4] := rfl
attribute [simp] Try.ntmps31
@[simp] theorem res_32 : Try.f32.results.toList = [.tmp 4] := rfl
attribute [simp] Try.ntmps32
@[simp] theorem res_33 : Try.f33.results.toList = [.tmp 4] := rfl
attribute [simp] Try.ntmps33
@[simp] theorem res_34 : Try.f34.results.toList = [] := rfl
attribute [simp] Try.ntmps34
@[simp] theorem res_35 : Try.f35.results.toList = [.tmp 2] := rfl
attribute [simp] Try.ntmps35
@[simp] theorem res_36 : Try.f36.results.toList = [.tmp 2] := rfl
attribute [simp] Try.ntmps36
@[simp] theorem res_37 : Try.f37.results.toList = [.tmp 2] := rfl
attribute [simp] Try.ntmps37
@[simp] theorem res_38 : Try.f38.results.toList = [.tmp 4] := rfl
attribute [simp] Try.ntmps38
@[simp] theorem res_39 : Try.f39.results.toList = [.tmp 2] := rfl
attribute [simp] Try.ntmps39
@[simp] theorem res_40 : Try.f40.results.toList = [.tmp 4] := rfl
attribute [simp] Try.ntmps40
@[simp] theorem res_41 : Try.f41.results.toList = [] := rfl
attribute [simp] Try.ntmps41
@[simp] theorem res_42 : Try.f42.results.toList = [.tmp 6] := rfl
attribute [simp] Try.ntmps42
@[simp] theorem res_43 : Try.f43.results.toList = [] := rfl
attribute [simp] Try.ntmps43
@[simp] theorem res_44 : Try.f44.results.toList = [] := rfl
attribute [simp] Try.ntmps44
@[simp] theorem res_45 : Try.f45.results.toList = [] := rfl
attribute [simp] Try.ntmps45
@[simp] theorem res_46 : Try.f46.results.toList = [.tmp 8, .tmp 9] := rfl
attribute [simp] Try.ntmps46
@[simp] theorem res_47 : Try.f47.results.toList = [] := rfl
attribute [simp] Try.ntmps47
@[simp] theorem res_48 : Try.f48.results.toList = [.tmp 8] := rfl
attribute [simp] Try.ntmps48
@[simp] theorem res_49 : Try.f49.results.toList = [.tmp 10] := rfl
attribute [simp] Try.ntmps49
@[simp] theorem res_50 : Try.f50.results.toList = [.tmp 10, .tmp 11] := rfl
attribute [simp] Try.ntmps50
@[simp] theorem res_51 : Try.f51.results.toList = [.tmp 2] := rfl
attribute [simp] Try.ntmps51
@[simp] theorem res_52 : Try.f52.results.toList = [.tmp 2] := rfl
attribute [simp] Try.ntmps52
@[simp] theorem res_53 : Try.f53.results.toList = [.tmp 2] := rfl
attribute [simp] Try.ntmps53
@[simp] theorem res_54 : Try.f54.results.toList = [] := rfl
attribute [simp] Try.ntmps54
@[simp] theorem res_55 : Try.f55.results.toList = [] := rfl
attribute [simp] Try.ntmps55
@[simp] theorem res_56 : Try.f56.results.toList = [] := rfl
attribute [simp] Try.ntmps56
@[simp] theorem res_57 : Try.f57.results.toList = [.tmp 6, .tmp 7] := rfl
attribute [simp] Try.ntmps57
@[simp] theorem res_58 : Try.f58.results.toList = [] := rfl
attribute [simp] Try.ntmps58
@[simp] theorem res_59 : Try.f59.results.toList = [.tmp 6] := rfl
attribute [simp] Try.ntmps59
@[simp] theorem res_60 : Try.f60.results.toList = [.tmp 4] := rfl
attribute [simp] Try.ntmps60
@[simp] theorem res_61 : Try.f61.results.toList = [.tmp 8] := rfl
attribute [simp] Try.ntmps61
@[simp] theorem res_62 : Try.f62.results.toList = [.tmp 8, .tmp 9] := rfl
attribute [simp] Try.ntmps62
@[simp] theorem res_63 : Try.f63.results.toList = [] := rfl
attribute [simp] Try.ntmps63
@[simp] theorem res_64 : Try.f64.results.toList = [.tmp 2] := rfl
attribute [simp] Try.ntmps64
@[simp] theorem res_65 : Try.f65.results.toList = [.tmp 2] := rfl
attribute [simp] Try.ntmps65
@[simp] theorem res_66 : Try.f66.results.toList = [.tmp 8] := rfl
attribute [simp] Try.ntmps66
@[simp] theorem res_67 : Try.f67.results.toList = [.tmp 12] := rfl
attribute [simp] Try.ntmps67
@[simp] theorem res_68 : Try.f68.results.toList = [] := rfl
attribute [simp] Try.ntmps68
@[simp] theorem res_69 : Try.f69.results.toList = [.tmp 6] := rfl
attribute [simp] Try.ntmps69
@[simp] theorem res_70 : Try.f70.results.toList = [.tmp 10] := rfl
attribute [simp] Try.ntmps70
@[simp] theorem res_71 : Try.f71.results.toList = [.tmp 10, .tmp 11] := rfl
attribute [simp] Try.ntmps71
@[simp] theorem res_72 : Try.f72.results.toList = [.tmp 8, .tmp 9] := rfl
attribute [simp] Try.ntmps72
end Go.Proofs.Ytmpakfpmmkfgpaa
