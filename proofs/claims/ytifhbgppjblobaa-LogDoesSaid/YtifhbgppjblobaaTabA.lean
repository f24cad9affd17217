/- The types of the program, in short, and that they are so. Printed by gen_tab.py. -/
import Derived.Test.YtifhbgppjblobaaVXb
import Derived.Test.YtifhbgppjblobaaProg
import Derived.KernelRfl
namespace Go.Proofs.Ytifhbgppjblobaa
open Go Go.VX
set_option linter.unusedVariables false
set_option maxRecDepth 100000

def T : Nat → Option TI
  | 1 => some ⟨.func, 1, 8, .nilf⟩
  | 2 => some ⟨.int .i64, 1, 8, .int .i64 0⟩
  | 3 => some ⟨.int .i64, 1, 8, .int .i64 0⟩
  | 4 => some ⟨.bool, 1, 1, .bool false⟩
  | 5 => some ⟨.int .u8, 1, 1, .int .u8 0⟩
  | 6 => some ⟨.int .u8, 1, 1, .int .u8 0⟩
  | 7 => some ⟨.struct [(0, 2), (1, 3), (2, 4), (3, 6)], 4, 24, .agg [.int .i64 0, .int .i64 0, .bool false, .int .u8 0]⟩
  | 8 => some ⟨.struct [(0, 2), (1, 3), (2, 4), (3, 6)], 4, 24, .agg [.int .i64 0, .int .i64 0, .bool false, .int .u8 0]⟩
  | 9 => some ⟨.string, 1, 16, .str ⟨#[]⟩⟩
  | 10 => some ⟨.string, 1, 16, .str ⟨#[]⟩⟩
  | 11 => some ⟨.string, 1, 16, .str ⟨#[]⟩⟩
  | 12 => some ⟨.int .u64, 1, 8, .int .u64 0⟩
  | 15 => some ⟨.ptr 117, 1, 8, .nilp⟩
  | 16 => some ⟨.ptr 120, 1, 8, .nilp⟩
  | 17 => some ⟨.ptr 128, 1, 8, .nilp⟩
  | 21 => some ⟨.int .i32, 1, 4, .int .i32 0⟩
  | 22 => some ⟨.slice 36, 1, 24, .nils⟩
  | 23 => some ⟨.slice 41, 1, 24, .nils⟩
  | 24 => some ⟨.func, 1, 8, .nilf⟩
  | 25 => some ⟨.func, 1, 8, .nilf⟩
  | 26 => some ⟨.ptr 61, 1, 8, .nilp⟩
  | 27 => some ⟨.int .i64, 1, 8, .int .i64 0⟩
  | 29 => some ⟨.func, 1, 8, .nilf⟩
  | 30 => some ⟨.ptr 64, 1, 8, .nilp⟩
  | 32 => some ⟨.func, 1, 8, .nilf⟩
  | 33 => some ⟨.slice 34, 1, 24, .nils⟩
  | 34 => some ⟨.slice 5, 1, 24, .nils⟩
  | 35 => some ⟨.struct [(0, 3), (1, 3), (2, 3), (3, 34)], 4, 48, .agg [.int .i64 0, .int .i64 0, .int .i64 0, .nils]⟩
  | 36 => some ⟨.struct [(0, 3), (1, 3), (2, 3), (3, 34)], 4, 48, .agg [.int .i64 0, .int .i64 0, .int .i64 0, .nils]⟩
  | 37 => some ⟨.func, 1, 8, .nilf⟩
  | 38 => some ⟨.func, 1, 8, .nilf⟩
  | 39 => some ⟨.func, 1, 8, .nilf⟩
  | 40 => some ⟨.func, 1, 8, .nilf⟩
  | 41 => some ⟨.array 2 3, 2, 16, .agg [.int .i64 0, .int .i64 0]⟩
  | 42 => some ⟨.func, 1, 8, .nilf⟩
  | 43 => some ⟨.func, 1, 8, .nilf⟩
  | 44 => some ⟨.func, 1, 8, .nilf⟩
  | 45 => some ⟨.func, 1, 8, .nilf⟩
  | 46 => some ⟨.func, 1, 8, .nilf⟩
  | 47 => some ⟨.func, 1, 8, .nilf⟩
  | 48 => some ⟨.ptr 82, 1, 8, .nilp⟩
  | 50 => some ⟨.func, 1, 8, .nilf⟩
  | 51 => some ⟨.ptr 85, 1, 8, .nilp⟩
  | 53 => some ⟨.func, 1, 8, .nilf⟩
  | 54 => some ⟨.func, 1, 8, .nilf⟩
  | 55 => some ⟨.func, 1, 8, .nilf⟩
  | 56 => some ⟨.func, 1, 8, .nilf⟩
  | 58 => some ⟨.func, 1, 8, .nilf⟩
  | 59 => some ⟨.slice 93, 1, 24, .nils⟩
  | 60 => some ⟨.struct [(0, 59), (1, 4), (2, 3), (3, 3), (4, 3)], 5, 56, .agg [.nils, .bool false, .int .i64 0, .int .i64 0, .int .i64 0]⟩
  | 61 => some ⟨.struct [(0, 59), (1, 4), (2, 3), (3, 3), (4, 3)], 5, 56, .agg [.nils, .bool false, .int .i64 0, .int .i64 0, .int .i64 0]⟩
  | 62 => some ⟨.int .u32, 1, 4, .int .u32 0⟩
  | 63 => some ⟨.struct [(0, 26), (1, 3), (2, 62), (3, 33), (4, 3), (5, 4)], 6, 64, .agg [.nilp, .int .i64 0, .int .u32 0, .nils, .int .i64 0, .bool false]⟩
  | 64 => some ⟨.struct [(0, 26), (1, 3), (2, 62), (3, 33), (4, 3), (5, 4)], 6, 64, .agg [.nilp, .int .i64 0, .int .u32 0, .nils, .int .i64 0, .bool false]⟩
  | 65 => some ⟨.func, 1, 8, .nilf⟩
  | 66 => some ⟨.func, 1, 8, .nilf⟩
  | 67 => some ⟨.func, 1, 8, .nilf⟩
  | 68 => some ⟨.func, 1, 8, .nilf⟩
  | 69 => some ⟨.func, 1, 8, .nilf⟩
  | 70 => some ⟨.func, 1, 8, .nilf⟩
  | 71 => some ⟨.func, 1, 8, .nilf⟩
  | 72 => some ⟨.func, 1, 8, .nilf⟩
  | 73 => some ⟨.func, 1, 8, .nilf⟩
  | 74 => some ⟨.slice 33, 1, 24, .nils⟩
  | 75 => some ⟨.func, 1, 8, .nilf⟩
  | 76 => some ⟨.func, 1, 8, .nilf⟩
  | 77 => some ⟨.func, 1, 8, .nilf⟩
  | 78 => some ⟨.func, 1, 8, .nilf⟩
  | 79 => some ⟨.func, 1, 8, .nilf⟩
  | 80 => some ⟨.func, 1, 8, .nilf⟩
  | 81 => some ⟨.struct [(0, 34), (1, 4), (2, 3), (3, 3), (4, 3)], 5, 56, .agg [.nils, .bool false, .int .i64 0, .int .i64 0, .int .i64 0]⟩
  | 82 => some ⟨.struct [(0, 34), (1, 4), (2, 3), (3, 3), (4, 3)], 5, 56, .agg [.nils, .bool false, .int .i64 0, .int .i64 0, .int .i64 0]⟩
  | 83 => some ⟨.func, 1, 8, .nilf⟩
  | 84 => some ⟨.struct [(0, 48), (1, 3), (2, 3), (3, 33), (4, 3), (5, 4)], 6, 64, .agg [.nilp, .int .i64 0, .int .i64 0, .nils, .int .i64 0, .bool false]⟩
  | 85 => some ⟨.struct [(0, 48), (1, 3), (2, 3), (3, 33), (4, 3), (5, 4)], 6, 64, .agg [.nilp, .int .i64 0, .int .i64 0, .nils, .int .i64 0, .bool false]⟩
  | 86 => some ⟨.func, 1, 8, .nilf⟩
  | 87 => some ⟨.func, 1, 8, .nilf⟩
  | 88 => some ⟨.func, 1, 8, .nilf⟩
  | 90 => some ⟨.func, 1, 8, .nilf⟩
  | 91 => some ⟨.func, 1, 8, .nilf⟩
  | 92 => some ⟨.array 32 5, 32, 32, .agg (List.replicate 32 (.int .u8 0))⟩
  | 93 => some ⟨.array 32 5, 32, 32, .agg (List.replicate 32 (.int .u8 0))⟩
  | 94 => some ⟨.func, 1, 8, .nilf⟩
  | 95 => some ⟨.func, 1, 8, .nilf⟩
  | 96 => some ⟨.func, 1, 8, .nilf⟩
  | 97 => some ⟨.func, 1, 8, .nilf⟩
  | 98 => some ⟨.func, 1, 8, .nilf⟩
  | 99 => some ⟨.func, 1, 8, .nilf⟩
  | 100 => some ⟨.func, 1, 8, .nilf⟩
  | 101 => some ⟨.func, 1, 8, .nilf⟩
  | 102 => some ⟨.func, 1, 8, .nilf⟩
  | 103 => some ⟨.func, 1, 8, .nilf⟩
  | 104 => some ⟨.func, 1, 8, .nilf⟩
  | 105 => some ⟨.func, 1, 8, .nilf⟩
  | 106 => some ⟨.func, 1, 8, .nilf⟩
  | 107 => some ⟨.int .u64, 1, 8, .int .u64 0⟩
  | 108 => some ⟨.func, 1, 8, .nilf⟩
  | 109 => some ⟨.func, 1, 8, .nilf⟩
  | 110 => some ⟨.func, 1, 8, .nilf⟩
  | 111 => some ⟨.array 256 62, 256, 1024, .agg (List.replicate 256 (.int .u32 0))⟩
  | 112 => some ⟨.func, 1, 8, .nilf⟩
  | 113 => some ⟨.func, 1, 8, .nilf⟩
  | 114 => some ⟨.func, 1, 8, .nilf⟩
  | 115 => some ⟨.func, 1, 8, .nilf⟩
  | 121 => some ⟨.int .u8, 1, 1, .int .u8 0⟩
  | 122 => some ⟨.int .u8, 1, 1, .int .u8 0⟩
  | 123 => some ⟨.func, 1, 8, .nilf⟩
  | 124 => some ⟨.ptr 5, 1, 8, .nilp⟩
  | 125 => some ⟨.int .i32, 1, 4, .int .i32 0⟩
  | 126 => some ⟨.int .i32, 1, 4, .int .i32 0⟩
  | _ => none

@[simp] theorem T_1 : T 1 = some ⟨.func, 1, 8, .nilf⟩ := rfl
@[simp] theorem T_2 : T 2 = some ⟨.int .i64, 1, 8, .int .i64 0⟩ := rfl
@[simp] theorem T_3 : T 3 = some ⟨.int .i64, 1, 8, .int .i64 0⟩ := rfl
@[simp] theorem T_4 : T 4 = some ⟨.bool, 1, 1, .bool false⟩ := rfl
@[simp] theorem T_5 : T 5 = some ⟨.int .u8, 1, 1, .int .u8 0⟩ := rfl
@[simp] theorem T_6 : T 6 = some ⟨.int .u8, 1, 1, .int .u8 0⟩ := rfl
@[simp] theorem T_7 : T 7 = some ⟨.struct [(0, 2), (1, 3), (2, 4), (3, 6)], 4, 24, .agg [.int .i64 0, .int .i64 0, .bool false, .int .u8 0]⟩ := rfl
@[simp] theorem T_8 : T 8 = some ⟨.struct [(0, 2), (1, 3), (2, 4), (3, 6)], 4, 24, .agg [.int .i64 0, .int .i64 0, .bool false, .int .u8 0]⟩ := rfl
@[simp] theorem T_9 : T 9 = some ⟨.string, 1, 16, .str ⟨#[]⟩⟩ := rfl
@[simp] theorem T_10 : T 10 = some ⟨.string, 1, 16, .str ⟨#[]⟩⟩ := rfl
@[simp] theorem T_11 : T 11 = some ⟨.string, 1, 16, .str ⟨#[]⟩⟩ := rfl
@[simp] theorem T_12 : T 12 = some ⟨.int .u64, 1, 8, .int .u64 0⟩ := rfl
@[simp] theorem T_15 : T 15 = some ⟨.ptr 117, 1, 8, .nilp⟩ := rfl
@[simp] theorem T_16 : T 16 = some ⟨.ptr 120, 1, 8, .nilp⟩ := rfl
@[simp] theorem T_17 : T 17 = some ⟨.ptr 128, 1, 8, .nilp⟩ := rfl
@[simp] theorem T_21 : T 21 = some ⟨.int .i32, 1, 4, .int .i32 0⟩ := rfl
@[simp] theorem T_22 : T 22 = some ⟨.slice 36, 1, 24, .nils⟩ := rfl
@[simp] theorem T_23 : T 23 = some ⟨.slice 41, 1, 24, .nils⟩ := rfl
@[simp] theorem T_24 : T 24 = some ⟨.func, 1, 8, .nilf⟩ := rfl
@[simp] theorem T_25 : T 25 = some ⟨.func, 1, 8, .nilf⟩ := rfl
@[simp] theorem T_26 : T 26 = some ⟨.ptr 61, 1, 8, .nilp⟩ := rfl
@[simp] theorem T_27 : T 27 = some ⟨.int .i64, 1, 8, .int .i64 0⟩ := rfl
@[simp] theorem T_29 : T 29 = some ⟨.func, 1, 8, .nilf⟩ := rfl
@[simp] theorem T_30 : T 30 = some ⟨.ptr 64, 1, 8, .nilp⟩ := rfl
@[simp] theorem T_32 : T 32 = some ⟨.func, 1, 8, .nilf⟩ := rfl
@[simp] theorem T_33 : T 33 = some ⟨.slice 34, 1, 24, .nils⟩ := rfl
@[simp] theorem T_34 : T 34 = some ⟨.slice 5, 1, 24, .nils⟩ := rfl
@[simp] theorem T_35 : T 35 = some ⟨.struct [(0, 3), (1, 3), (2, 3), (3, 34)], 4, 48, .agg [.int .i64 0, .int .i64 0, .int .i64 0, .nils]⟩ := rfl
@[simp] theorem T_36 : T 36 = some ⟨.struct [(0, 3), (1, 3), (2, 3), (3, 34)], 4, 48, .agg [.int .i64 0, .int .i64 0, .int .i64 0, .nils]⟩ := rfl
@[simp] theorem T_37 : T 37 = some ⟨.func, 1, 8, .nilf⟩ := rfl
@[simp] theorem T_38 : T 38 = some ⟨.func, 1, 8, .nilf⟩ := rfl
@[simp] theorem T_39 : T 39 = some ⟨.func, 1, 8, .nilf⟩ := rfl
@[simp] theorem T_40 : T 40 = some ⟨.func, 1, 8, .nilf⟩ := rfl
@[simp] theorem T_41 : T 41 = some ⟨.array 2 3, 2, 16, .agg [.int .i64 0, .int .i64 0]⟩ := rfl
@[simp] theorem T_42 : T 42 = some ⟨.func, 1, 8, .nilf⟩ := rfl
@[simp] theorem T_43 : T 43 = some ⟨.func, 1, 8, .nilf⟩ := rfl
@[simp] theorem T_44 : T 44 = some ⟨.func, 1, 8, .nilf⟩ := rfl
@[simp] theorem T_45 : T 45 = some ⟨.func, 1, 8, .nilf⟩ := rfl
@[simp] theorem T_46 : T 46 = some ⟨.func, 1, 8, .nilf⟩ := rfl
@[simp] theorem T_47 : T 47 = some ⟨.func, 1, 8, .nilf⟩ := rfl
@[simp] theorem T_48 : T 48 = some ⟨.ptr 82, 1, 8, .nilp⟩ := rfl
@[simp] theorem T_50 : T 50 = some ⟨.func, 1, 8, .nilf⟩ := rfl
@[simp] theorem T_51 : T 51 = some ⟨.ptr 85, 1, 8, .nilp⟩ := rfl
@[simp] theorem T_53 : T 53 = some ⟨.func, 1, 8, .nilf⟩ := rfl
@[simp] theorem T_54 : T 54 = some ⟨.func, 1, 8, .nilf⟩ := rfl
@[simp] theorem T_55 : T 55 = some ⟨.func, 1, 8, .nilf⟩ := rfl
@[simp] theorem T_56 : T 56 = some ⟨.func, 1, 8, .nilf⟩ := rfl
@[simp] theorem T_58 : T 58 = some ⟨.func, 1, 8, .nilf⟩ := rfl
@[simp] theorem T_59 : T 59 = some ⟨.slice 93, 1, 24, .nils⟩ := rfl
@[simp] theorem T_60 : T 60 = some ⟨.struct [(0, 59), (1, 4), (2, 3), (3, 3), (4, 3)], 5, 56, .agg [.nils, .bool false, .int .i64 0, .int .i64 0, .int .i64 0]⟩ := rfl
@[simp] theorem T_61 : T 61 = some ⟨.struct [(0, 59), (1, 4), (2, 3), (3, 3), (4, 3)], 5, 56, .agg [.nils, .bool false, .int .i64 0, .int .i64 0, .int .i64 0]⟩ := rfl
@[simp] theorem T_62 : T 62 = some ⟨.int .u32, 1, 4, .int .u32 0⟩ := rfl
@[simp] theorem T_63 : T 63 = some ⟨.struct [(0, 26), (1, 3), (2, 62), (3, 33), (4, 3), (5, 4)], 6, 64, .agg [.nilp, .int .i64 0, .int .u32 0, .nils, .int .i64 0, .bool false]⟩ := rfl
@[simp] theorem T_64 : T 64 = some ⟨.struct [(0, 26), (1, 3), (2, 62), (3, 33), (4, 3), (5, 4)], 6, 64, .agg [.nilp, .int .i64 0, .int .u32 0, .nils, .int .i64 0, .bool false]⟩ := rfl
@[simp] theorem T_65 : T 65 = some ⟨.func, 1, 8, .nilf⟩ := rfl
@[simp] theorem T_66 : T 66 = some ⟨.func, 1, 8, .nilf⟩ := rfl
@[simp] theorem T_67 : T 67 = some ⟨.func, 1, 8, .nilf⟩ := rfl
@[simp] theorem T_68 : T 68 = some ⟨.func, 1, 8, .nilf⟩ := rfl
@[simp] theorem T_69 : T 69 = some ⟨.func, 1, 8, .nilf⟩ := rfl
@[simp] theorem T_70 : T 70 = some ⟨.func, 1, 8, .nilf⟩ := rfl
@[simp] theorem T_71 : T 71 = some ⟨.func, 1, 8, .nilf⟩ := rfl
@[simp] theorem T_72 : T 72 = some ⟨.func, 1, 8, .nilf⟩ := rfl
@[simp] theorem T_73 : T 73 = some ⟨.func, 1, 8, .nilf⟩ := rfl
@[simp] theorem T_74 : T 74 = some ⟨.slice 33, 1, 24, .nils⟩ := rfl
@[simp] theorem T_75 : T 75 = some ⟨.func, 1, 8, .nilf⟩ := rfl
@[simp] theorem T_76 : T 76 = some ⟨.func, 1, 8, .nilf⟩ := rfl
@[simp] theorem T_77 : T 77 = some ⟨.func, 1, 8, .nilf⟩ := rfl
@[simp] theorem T_78 : T 78 = some ⟨.func, 1, 8, .nilf⟩ := rfl
@[simp] theorem T_79 : T 79 = some ⟨.func, 1, 8, .nilf⟩ := rfl
@[simp] theorem T_80 : T 80 = some ⟨.func, 1, 8, .nilf⟩ := rfl
@[simp] theorem T_81 : T 81 = some ⟨.struct [(0, 34), (1, 4), (2, 3), (3, 3), (4, 3)], 5, 56, .agg [.nils, .bool false, .int .i64 0, .int .i64 0, .int .i64 0]⟩ := rfl
@[simp] theorem T_82 : T 82 = some ⟨.struct [(0, 34), (1, 4), (2, 3), (3, 3), (4, 3)], 5, 56, .agg [.nils, .bool false, .int .i64 0, .int .i64 0, .int .i64 0]⟩ := rfl
@[simp] theorem T_83 : T 83 = some ⟨.func, 1, 8, .nilf⟩ := rfl
@[simp] theorem T_84 : T 84 = some ⟨.struct [(0, 48), (1, 3), (2, 3), (3, 33), (4, 3), (5, 4)], 6, 64, .agg [.nilp, .int .i64 0, .int .i64 0, .nils, .int .i64 0, .bool false]⟩ := rfl
@[simp] theorem T_85 : T 85 = some ⟨.struct [(0, 48), (1, 3), (2, 3), (3, 33), (4, 3), (5, 4)], 6, 64, .agg [.nilp, .int .i64 0, .int .i64 0, .nils, .int .i64 0, .bool false]⟩ := rfl
@[simp] theorem T_86 : T 86 = some ⟨.func, 1, 8, .nilf⟩ := rfl
@[simp] theorem T_87 : T 87 = some ⟨.func, 1, 8, .nilf⟩ := rfl
@[simp] theorem T_88 : T 88 = some ⟨.func, 1, 8, .nilf⟩ := rfl
@[simp] theorem T_90 : T 90 = some ⟨.func, 1, 8, .nilf⟩ := rfl
@[simp] theorem T_91 : T 91 = some ⟨.func, 1, 8, .nilf⟩ := rfl
@[simp] theorem T_92 : T 92 = some ⟨.array 32 5, 32, 32, .agg (List.replicate 32 (.int .u8 0))⟩ := rfl
@[simp] theorem T_93 : T 93 = some ⟨.array 32 5, 32, 32, .agg (List.replicate 32 (.int .u8 0))⟩ := rfl
@[simp] theorem T_94 : T 94 = some ⟨.func, 1, 8, .nilf⟩ := rfl
@[simp] theorem T_95 : T 95 = some ⟨.func, 1, 8, .nilf⟩ := rfl
@[simp] theorem T_96 : T 96 = some ⟨.func, 1, 8, .nilf⟩ := rfl
@[simp] theorem T_97 : T 97 = some ⟨.func, 1, 8, .nilf⟩ := rfl
@[simp] theorem T_98 : T 98 = some ⟨.func, 1, 8, .nilf⟩ := rfl
@[simp] theorem T_99 : T 99 = some ⟨.func, 1, 8, .nilf⟩ := rfl
@[simp] theorem T_100 : T 100 = some ⟨.func, 1, 8, .nilf⟩ := rfl
@[simp] theorem T_101 : T 101 = some ⟨.func, 1, 8, .nilf⟩ := rfl
@[simp] theorem T_102 : T 102 = some ⟨.func, 1, 8, .nilf⟩ := rfl
@[simp] theorem T_103 : T 103 = some ⟨.func, 1, 8, .nilf⟩ := rfl
@[simp] theorem T_104 : T 104 = some ⟨.func, 1, 8, .nilf⟩ := rfl
@[simp] theorem T_105 : T 105 = some ⟨.func, 1, 8, .nilf⟩ := rfl
@[simp] theorem T_106 : T 106 = some ⟨.func, 1, 8, .nilf⟩ := rfl
@[simp] theorem T_107 : T 107 = some ⟨.int .u64, 1, 8, .int .u64 0⟩ := rfl
@[simp] theorem T_108 : T 108 = some ⟨.func, 1, 8, .nilf⟩ := rfl
@[simp] theorem T_109 : T 109 = some ⟨.func, 1, 8, .nilf⟩ := rfl
@[simp] theorem T_110 : T 110 = some ⟨.func, 1, 8, .nilf⟩ := rfl
@[simp] theorem T_111 : T 111 = some ⟨.array 256 62, 256, 1024, .agg (List.replicate 256 (.int .u32 0))⟩ := rfl
@[simp] theorem T_112 : T 112 = some ⟨.func, 1, 8, .nilf⟩ := rfl
@[simp] theorem T_113 : T 113 = some ⟨.func, 1, 8, .nilf⟩ := rfl
@[simp] theorem T_114 : T 114 = some ⟨.func, 1, 8, .nilf⟩ := rfl
@[simp] theorem T_115 : T 115 = some ⟨.func, 1, 8, .nilf⟩ := rfl
@[simp] theorem T_121 : T 121 = some ⟨.int .u8, 1, 1, .int .u8 0⟩ := rfl
@[simp] theorem T_122 : T 122 = some ⟨.int .u8, 1, 1, .int .u8 0⟩ := rfl
@[simp] theorem T_123 : T 123 = some ⟨.func, 1, 8, .nilf⟩ := rfl
@[simp] theorem T_124 : T 124 = some ⟨.ptr 5, 1, 8, .nilp⟩ := rfl
@[simp] theorem T_125 : T 125 = some ⟨.int .i32, 1, 4, .int .i32 0⟩ := rfl
@[simp] theorem T_126 : T 126 = some ⟨.int .i32, 1, 4, .int .i32 0⟩ := rfl

abbrev TRow (t : Nat) (i : TI) : Prop := ∃ info d z, Try.prog.info? t = some info ∧ Try.prog.underlying t = some d ∧ kindOf d = i.k ∧ info.size = i.size ∧ info.bytes = i.bytes ∧ info.zero = some z ∧ vconst z = i.zero ∧ i.zero.known = true ∧ i.zero.cells.length = i.size
theorem row_1 : TRow 1 ⟨.func, 1, 8, .nilf⟩ := ⟨Try.t1, _, _, by kernel_rfl, Try.underlying1, rfl, rfl, rfl, rfl, rfl, rfl, rfl⟩
theorem row_2 : TRow 2 ⟨.int .i64, 1, 8, .int .i64 0⟩ := ⟨Try.t2, _, _, by kernel_rfl, Try.underlying2, rfl, rfl, rfl, rfl, rfl, rfl, rfl⟩
theorem row_3 : TRow 3 ⟨.int .i64, 1, 8, .int .i64 0⟩ := ⟨Try.t3, _, _, by kernel_rfl, Try.underlying3, rfl, rfl, rfl, rfl, rfl, rfl, rfl⟩
theorem row_4 : TRow 4 ⟨.bool, 1, 1, .bool false⟩ := ⟨Try.t4, _, _, by kernel_rfl, Try.underlying4, rfl, rfl, rfl, rfl, rfl, rfl, rfl⟩
theorem row_5 : TRow 5 ⟨.int .u8, 1, 1, .int .u8 0⟩ := ⟨Try.t5, _, _, by kernel_rfl, Try.underlying5, rfl, rfl, rfl, rfl, rfl, rfl, rfl⟩
theorem row_6 : TRow 6 ⟨.int .u8, 1, 1, .int .u8 0⟩ := ⟨Try.t6, _, _, by kernel_rfl, Try.underlying6, rfl, rfl, rfl, rfl, rfl, rfl, rfl⟩
theorem row_7 : TRow 7 ⟨.struct [(0, 2), (1, 3), (2, 4), (3, 6)], 4, 24, .agg [.int .i64 0, .int .i64 0, .bool false, .int .u8 0]⟩ := ⟨Try.t7, _, _, by kernel_rfl, Try.underlying7, rfl, rfl, rfl, rfl, rfl, rfl, rfl⟩
theorem row_8 : TRow 8 ⟨.struct [(0, 2), (1, 3), (2, 4), (3, 6)], 4, 24, .agg [.int .i64 0, .int .i64 0, .bool false, .int .u8 0]⟩ := ⟨Try.t8, _, _, by kernel_rfl, Try.underlying8, rfl, rfl, rfl, rfl, rfl, rfl, rfl⟩
theorem row_9 : TRow 9 ⟨.string, 1, 16, .str ⟨#[]⟩⟩ := ⟨Try.t9, _, _, by kernel_rfl, Try.underlying9, rfl, rfl, rfl, rfl, rfl, rfl, rfl⟩
theorem row_10 : TRow 10 ⟨.string, 1, 16, .str ⟨#[]⟩⟩ := ⟨Try.t10, _, _, by kernel_rfl, Try.underlying10, rfl, rfl, rfl, rfl, rfl, rfl, rfl⟩
theorem row_11 : TRow 11 ⟨.string, 1, 16, .str ⟨#[]⟩⟩ := ⟨Try.t11, _, _, by kernel_rfl, Try.underlying11, rfl, rfl, rfl, rfl, rfl, rfl, rfl⟩
theorem row_12 : TRow 12 ⟨.int .u64, 1, 8, .int .u64 0⟩ := ⟨Try.t12, _, _, by kernel_rfl, Try.underlying12, rfl, rfl, rfl, rfl, rfl, rfl, rfl⟩
theorem row_15 : TRow 15 ⟨.ptr 117, 1, 8, .nilp⟩ := ⟨Try.t15, _, _, by kernel_rfl, Try.underlying15, rfl, rfl, rfl, rfl, rfl, rfl, rfl⟩
theorem row_16 : TRow 16 ⟨.ptr 120, 1, 8, .nilp⟩ := ⟨Try.t16, _, _, by kernel_rfl, Try.underlying16, rfl, rfl, rfl, rfl, rfl, rfl, rfl⟩
theorem row_17 : TRow 17 ⟨.ptr 128, 1, 8, .nilp⟩ := ⟨Try.t17, _, _, by kernel_rfl, Try.underlying17, rfl, rfl, rfl, rfl, rfl, rfl, rfl⟩
theorem row_21 : TRow 21 ⟨.int .i32, 1, 4, .int .i32 0⟩ := ⟨Try.t21, _, _, by kernel_rfl, Try.underlying21, rfl, rfl, rfl, rfl, rfl, rfl, rfl⟩
theorem row_22 : TRow 22 ⟨.slice 36, 1, 24, .nils⟩ := ⟨Try.t22, _, _, by kernel_rfl, Try.underlying22, rfl, rfl, rfl, rfl, rfl, rfl, rfl⟩
theorem row_23 : TRow 23 ⟨.slice 41, 1, 24, .nils⟩ := ⟨Try.t23, _, _, by kernel_rfl, Try.underlying23, rfl, rfl, rfl, rfl, rfl, rfl, rfl⟩
theorem row_24 : TRow 24 ⟨.func, 1, 8, .nilf⟩ := ⟨Try.t24, _, _, by kernel_rfl, Try.underlying24, rfl, rfl, rfl, rfl, rfl, rfl, rfl⟩
theorem row_25 : TRow 25 ⟨.func, 1, 8, .nilf⟩ := ⟨Try.t25, _, _, by kernel_rfl, Try.underlying25, rfl, rfl, rfl, rfl, rfl, rfl, rfl⟩
theorem row_26 : TRow 26 ⟨.ptr 61, 1, 8, .nilp⟩ := ⟨Try.t26, _, _, by kernel_rfl, Try.underlying26, rfl, rfl, rfl, rfl, rfl, rfl, rfl⟩
theorem row_27 : TRow 27 ⟨.int .i64, 1, 8, .int .i64 0⟩ := ⟨Try.t27, _, _, by kernel_rfl, Try.underlying27, rfl, rfl, rfl, rfl, rfl, rfl, rfl⟩
theorem row_29 : TRow 29 ⟨.func, 1, 8, .nilf⟩ := ⟨Try.t29, _, _, by kernel_rfl, Try.underlying29, rfl, rfl, rfl, rfl, rfl, rfl, rfl⟩
theorem row_30 : TRow 30 ⟨.ptr 64, 1, 8, .nilp⟩ := ⟨Try.t30, _, _, by kernel_rfl, Try.underlying30, rfl, rfl, rfl, rfl, rfl, rfl, rfl⟩
theorem row_32 : TRow 32 ⟨.func, 1, 8, .nilf⟩ := ⟨Try.t32, _, _, by kernel_rfl, Try.underlying32, rfl, rfl, rfl, rfl, rfl, rfl, rfl⟩
theorem row_33 : TRow 33 ⟨.slice 34, 1, 24, .nils⟩ := ⟨Try.t33, _, _, by kernel_rfl, Try.underlying33, rfl, rfl, rfl, rfl, rfl, rfl, rfl⟩
theorem row_34 : TRow 34 ⟨.slice 5, 1, 24, .nils⟩ := ⟨Try.t34, _, _, by kernel_rfl, Try.underlying34, rfl, rfl, rfl, rfl, rfl, rfl, rfl⟩
theorem row_35 : TRow 35 ⟨.struct [(0, 3), (1, 3), (2, 3), (3, 34)], 4, 48, .agg [.int .i64 0, .int .i64 0, .int .i64 0, .nils]⟩ := ⟨Try.t35, _, _, by kernel_rfl, Try.underlying35, rfl, rfl, rfl, rfl, rfl, rfl, rfl⟩
theorem row_36 : TRow 36 ⟨.struct [(0, 3), (1, 3), (2, 3), (3, 34)], 4, 48, .agg [.int .i64 0, .int .i64 0, .int .i64 0, .nils]⟩ := ⟨Try.t36, _, _, by kernel_rfl, Try.underlying36, rfl, rfl, rfl, rfl, rfl, rfl, rfl⟩
theorem row_37 : TRow 37 ⟨.func, 1, 8, .nilf⟩ := ⟨Try.t37, _, _, by kernel_rfl, Try.underlying37, rfl, rfl, rfl, rfl, rfl, rfl, rfl⟩
theorem row_38 : TRow 38 ⟨.func, 1, 8, .nilf⟩ := ⟨Try.t38, _, _, by kernel_rfl, Try.underlying38, rfl, rfl, rfl, rfl, rfl, rfl, rfl⟩
theorem row_39 : TRow 39 ⟨.func, 1, 8, .nilf⟩ := ⟨Try.t39, _, _, by kernel_rfl, Try.underlying39, rfl, rfl, rfl, rfl, rfl, rfl, rfl⟩
theorem row_40 : TRow 40 ⟨.func, 1, 8, .nilf⟩ := ⟨Try.t40, _, _, by kernel_rfl, Try.underlying40, rfl, rfl, rfl, rfl, rfl, rfl, rfl⟩
theorem row_41 : TRow 41 ⟨.array 2 3, 2, 16, .agg [.int .i64 0, .int .i64 0]⟩ := ⟨Try.t41, _, _, by kernel_rfl, Try.underlying41, rfl, rfl, rfl, rfl, rfl, rfl, rfl⟩
theorem row_42 : TRow 42 ⟨.func, 1, 8, .nilf⟩ := ⟨Try.t42, _, _, by kernel_rfl, Try.underlying42, rfl, rfl, rfl, rfl, rfl, rfl, rfl⟩
theorem row_43 : TRow 43 ⟨.func, 1, 8, .nilf⟩ := ⟨Try.t43, _, _, by kernel_rfl, Try.underlying43, rfl, rfl, rfl, rfl, rfl, rfl, rfl⟩
theorem row_44 : TRow 44 ⟨.func, 1, 8, .nilf⟩ := ⟨Try.t44, _, _, by kernel_rfl, Try.underlying44, rfl, rfl, rfl, rfl, rfl, rfl, rfl⟩
theorem row_45 : TRow 45 ⟨.func, 1, 8, .nilf⟩ := ⟨Try.t45, _, _, by kernel_rfl, Try.underlying45, rfl, rfl, rfl, rfl, rfl, rfl, rfl⟩
theorem row_46 : TRow 46 ⟨.func, 1, 8, .nilf⟩ := ⟨Try.t46, _, _, by kernel_rfl, Try.underlying46, rfl, rfl, rfl, rfl, rfl, rfl, rfl⟩
theorem row_47 : TRow 47 ⟨.func, 1, 8, .nilf⟩ := ⟨Try.t47, _, _, by kernel_rfl, Try.underlying47, rfl, rfl, rfl, rfl, rfl, rfl, rfl⟩
theorem row_48 : TRow 48 ⟨.ptr 82, 1, 8, .nilp⟩ := ⟨Try.t48, _, _, by kernel_rfl, Try.underlying48, rfl, rfl, rfl, rfl, rfl, rfl, rfl⟩
theorem row_50 : TRow 50 ⟨.func, 1, 8, .nilf⟩ := ⟨Try.t50, _, _, by kernel_rfl, Try.underlying50, rfl, rfl, rfl, rfl, rfl, rfl, rfl⟩
theorem row_51 : TRow 51 ⟨.ptr 85, 1, 8, .nilp⟩ := ⟨Try.t51, _, _, by kernel_rfl, Try.underlying51, rfl, rfl, rfl, rfl, rfl, rfl, rfl⟩
theorem row_53 : TRow 53 ⟨.func, 1, 8, .nilf⟩ := ⟨Try.t53, _, _, by kernel_rfl, Try.underlying53, rfl, rfl, rfl, rfl, rfl, rfl, rfl⟩
theorem row_54 : TRow 54 ⟨.func, 1, 8, .nilf⟩ := ⟨Try.t54, _, _, by kernel_rfl, Try.underlying54, rfl, rfl, rfl, rfl, rfl, rfl, rfl⟩
theorem row_55 : TRow 55 ⟨.func, 1, 8, .nilf⟩ := ⟨Try.t55, _, _, by kernel_rfl, Try.underlying55, rfl, rfl, rfl, rfl, rfl, rfl, rfl⟩
theorem row_56 : TRow 56 ⟨.func, 1, 8, .nilf⟩ := ⟨Try.t56, _, _, by kernel_rfl, Try.underlying56, rfl, rfl, rfl, rfl, rfl, rfl, rfl⟩
theorem row_58 : TRow 58 ⟨.func, 1, 8, .nilf⟩ := ⟨Try.t58, _, _, by kernel_rfl, Try.underlying58, rfl, rfl, rfl, rfl, rfl, rfl, rfl⟩
theorem row_59 : TRow 59 ⟨.slice 93, 1, 24, .nils⟩ := ⟨Try.t59, _, _, by kernel_rfl, Try.underlying59, rfl, rfl, rfl, rfl, rfl, rfl, rfl⟩
theorem row_60 : TRow 60 ⟨.struct [(0, 59), (1, 4), (2, 3), (3, 3), (4, 3)], 5, 56, .agg [.nils, .bool false, .int .i64 0, .int .i64 0, .int .i64 0]⟩ := ⟨Try.t60, _, _, by kernel_rfl, Try.underlying60, rfl, rfl, rfl, rfl, rfl, rfl, rfl⟩
theorem row_61 : TRow 61 ⟨.struct [(0, 59), (1, 4), (2, 3), (3, 3), (4, 3)], 5, 56, .agg [.nils, .bool false, .int .i64 0, .int .i64 0, .int .i64 0]⟩ := ⟨Try.t61, _, _, by kernel_rfl, Try.underlying61, rfl, rfl, rfl, rfl, rfl, rfl, rfl⟩
theorem row_62 : TRow 62 ⟨.int .u32, 1, 4, .int .u32 0⟩ := ⟨Try.t62, _, _, by kernel_rfl, Try.underlying62, rfl, rfl, rfl, rfl, rfl, rfl, rfl⟩
theorem row_63 : TRow 63 ⟨.struct [(0, 26), (1, 3), (2, 62), (3, 33), (4, 3), (5, 4)], 6, 64, .agg [.nilp, .int .i64 0, .int .u32 0, .nils, .int .i64 0, .bool false]⟩ := ⟨Try.t63, _, _, by kernel_rfl, Try.underlying63, rfl, rfl, rfl, rfl, rfl, rfl, rfl⟩
theorem row_64 : TRow 64 ⟨.struct [(0, 26), (1, 3), (2, 62), (3, 33), (4, 3), (5, 4)], 6, 64, .agg [.nilp, .int .i64 0, .int .u32 0, .nils, .int .i64 0, .bool false]⟩ := ⟨Try.t64, _, _, by kernel_rfl, Try.underlying64, rfl, rfl, rfl, rfl, rfl, rfl, rfl⟩
theorem row_65 : TRow 65 ⟨.func, 1, 8, .nilf⟩ := ⟨Try.t65, _, _, by kernel_rfl, Try.underlying65, rfl, rfl, rfl, rfl, rfl, rfl, rfl⟩
theorem row_66 : TRow 66 ⟨.func, 1, 8, .nilf⟩ := ⟨Try.t66, _, _, by kernel_rfl, Try.underlying66, rfl, rfl, rfl, rfl, rfl, rfl, rfl⟩
theorem row_67 : TRow 67 ⟨.func, 1, 8, .nilf⟩ := ⟨Try.t67, _, _, by kernel_rfl, Try.underlying67, rfl, rfl, rfl, rfl, rfl, rfl, rfl⟩
theorem row_68 : TRow 68 ⟨.func, 1, 8, .nilf⟩ := ⟨Try.t68, _, _, by kernel_rfl, Try.underlying68, rfl, rfl, rfl, rfl, rfl, rfl, rfl⟩
theorem row_69 : TRow 69 ⟨.func, 1, 8, .nilf⟩ := ⟨Try.t69, _, _, by kernel_rfl, Try.underlying69, rfl, rfl, rfl, rfl, rfl, rfl, rfl⟩
theorem row_70 : TRow 70 ⟨.func, 1, 8, .nilf⟩ := ⟨Try.t70, _, _, by kernel_rfl, Try.underlying70, rfl, rfl, rfl, rfl, rfl, rfl, rfl⟩
theorem row_71 : TRow 71 ⟨.func, 1, 8, .nilf⟩ := ⟨Try.t71, _, _, by kernel_rfl, Try.underlying71, rfl, rfl, rfl, rfl, rfl, rfl, rfl⟩
theorem row_72 : TRow 72 ⟨.func, 1, 8, .nilf⟩ := ⟨Try.t72, _, _, by kernel_rfl, Try.underlying72, rfl, rfl, rfl, rfl, rfl, rfl, rfl⟩
theorem row_73 : TRow 73 ⟨.func, 1, 8, .nilf⟩ := ⟨Try.t73, _, _, by kernel_rfl, Try.underlying73, rfl, rfl, rfl, rfl, rfl, rfl, rfl⟩
theorem row_74 : TRow 74 ⟨.slice 33, 1, 24, .nils⟩ := ⟨Try.t74, _, _, by kernel_rfl, Try.underlying74, rfl, rfl, rfl, rfl, rfl, rfl, rfl⟩
theorem row_75 : TRow 75 ⟨.func, 1, 8, .nilf⟩ := ⟨Try.t75, _, _, by kernel_rfl, Try.underlying75, rfl, rfl, rfl, rfl, rfl, rfl, rfl⟩
theorem row_76 : TRow 76 ⟨.func, 1, 8, .nilf⟩ := ⟨Try.t76, _, _, by kernel_rfl, Try.underlying76, rfl, rfl, rfl, rfl, rfl, rfl, rfl⟩
theorem row_77 : TRow 77 ⟨.func, 1, 8, .nilf⟩ := ⟨Try.t77, _, _, by kernel_rfl, Try.underlying77, rfl, rfl, rfl, rfl, rfl, rfl, rfl⟩
theorem row_78 : TRow 78 ⟨.func, 1, 8, .nilf⟩ := ⟨Try.t78, _, _, by kernel_rfl, Try.underlying78, rfl, rfl, rfl, rfl, rfl, rfl, rfl⟩
theorem row_79 : TRow 79 ⟨.func, 1, 8, .nilf⟩ := ⟨Try.t79, _, _, by kernel_rfl, Try.underlying79, rfl, rfl, rfl, rfl, rfl, rfl, rfl⟩
theorem row_80 : TRow 80 ⟨.func, 1, 8, .nilf⟩ := ⟨Try.t80, _, _, by kernel_rfl, Try.underlying80, rfl, rfl, rfl, rfl, rfl, rfl, rfl⟩
theorem row_81 : TRow 81 ⟨.struct [(0, 34), (1, 4), (2, 3), (3, 3), (4, 3)], 5, 56, .agg [.nils, .bool false, .int .i64 0, .int .i64 0, .int .i64 0]⟩ := ⟨Try.t81, _, _, by kernel_rfl, Try.underlying81, rfl, rfl, rfl, rfl, rfl, rfl, rfl⟩
theorem row_82 : TRow 82 ⟨.struct [(0, 34), (1, 4), (2, 3), (3, 3), (4, 3)], 5, 56, .agg [.nils, .bool false, .int .i64 0, .int .i64 0, .int .i64 0]⟩ := ⟨Try.t82, _, _, by kernel_rfl, Try.underlying82, rfl, rfl, rfl, rfl, rfl, rfl, rfl⟩
theorem row_83 : TRow 83 ⟨.func, 1, 8, .nilf⟩ := ⟨Try.t83, _, _, by kernel_rfl, Try.underlying83, rfl, rfl, rfl, rfl, rfl, rfl, rfl⟩
theorem row_84 : TRow 84 ⟨.struct [(0, 48), (1, 3), (2, 3), (3, 33), (4, 3), (5, 4)], 6, 64, .agg [.nilp, .int .i64 0, .int .i64 0, .nils, .int .i64 0, .bool false]⟩ := ⟨Try.t84, _, _, by kernel_rfl, Try.underlying84, rfl, rfl, rfl, rfl, rfl, rfl, rfl⟩
theorem row_85 : TRow 85 ⟨.struct [(0, 48), (1, 3), (2, 3), (3, 33), (4, 3), (5, 4)], 6, 64, .agg [.nilp, .int .i64 0, .int .i64 0, .nils, .int .i64 0, .bool false]⟩ := ⟨Try.t85, _, _, by kernel_rfl, Try.underlying85, rfl, rfl, rfl, rfl, rfl, rfl, rfl⟩
theorem row_86 : TRow 86 ⟨.func, 1, 8, .nilf⟩ := ⟨Try.t86, _, _, by kernel_rfl, Try.underlying86, rfl, rfl, rfl, rfl, rfl, rfl, rfl⟩
theorem row_87 : TRow 87 ⟨.func, 1, 8, .nilf⟩ := ⟨Try.t87, _, _, by kernel_rfl, Try.underlying87, rfl, rfl, rfl, rfl, rfl, rfl, rfl⟩
theorem row_88 : TRow 88 ⟨.func, 1, 8, .nilf⟩ := ⟨Try.t88, _, _, by kernel_rfl, Try.underlying88, rfl, rfl, rfl, rfl, rfl, rfl, rfl⟩
theorem row_90 : TRow 90 ⟨.func, 1, 8, .nilf⟩ := ⟨Try.t90, _, _, by kernel_rfl, Try.underlying90, rfl, rfl, rfl, rfl, rfl, rfl, rfl⟩
theorem row_91 : TRow 91 ⟨.func, 1, 8, .nilf⟩ := ⟨Try.t91, _, _, by kernel_rfl, Try.underlying91, rfl, rfl, rfl, rfl, rfl, rfl, rfl⟩
theorem row_92 : TRow 92 ⟨.array 32 5, 32, 32, .agg (List.replicate 32 (.int .u8 0))⟩ := ⟨Try.t92, _, _, by kernel_rfl, Try.underlying92, rfl, rfl, rfl, rfl, rfl, rfl, rfl⟩
theorem row_93 : TRow 93 ⟨.array 32 5, 32, 32, .agg (List.replicate 32 (.int .u8 0))⟩ := ⟨Try.t93, _, _, by kernel_rfl, Try.underlying93, rfl, rfl, rfl, rfl, rfl, rfl, rfl⟩
theorem row_94 : TRow 94 ⟨.func, 1, 8, .nilf⟩ := ⟨Try.t94, _, _, by kernel_rfl, Try.underlying94, rfl, rfl, rfl, rfl, rfl, rfl, rfl⟩
theorem row_95 : TRow 95 ⟨.func, 1, 8, .nilf⟩ := ⟨Try.t95, _, _, by kernel_rfl, Try.underlying95, rfl, rfl, rfl, rfl, rfl, rfl, rfl⟩
theorem row_96 : TRow 96 ⟨.func, 1, 8, .nilf⟩ := ⟨Try.t96, _, _, by kernel_rfl, Try.underlying96, rfl, rfl, rfl, rfl, rfl, rfl, rfl⟩
theorem row_97 : TRow 97 ⟨.func, 1, 8, .nilf⟩ := ⟨Try.t97, _, _, by kernel_rfl, Try.underlying97, rfl, rfl, rfl, rfl, rfl, rfl, rfl⟩
theorem row_98 : TRow 98 ⟨.func, 1, 8, .nilf⟩ := ⟨Try.t98, _, _, by kernel_rfl, Try.underlying98, rfl, rfl, rfl, rfl, rfl, rfl, rfl⟩
theorem row_99 : TRow 99 ⟨.func, 1, 8, .nilf⟩ := ⟨Try.t99, _, _, by kernel_rfl, Try.underlying99, rfl, rfl, rfl, rfl, rfl, rfl, rfl⟩
theorem row_100 : TRow 100 ⟨.func, 1, 8, .nilf⟩ := ⟨Try.t100, _, _, by kernel_rfl, Try.underlying100, rfl, rfl, rfl, rfl, rfl, rfl, rfl⟩
theorem row_101 : TRow 101 ⟨.func, 1, 8, .nilf⟩ := ⟨Try.t101, _, _, by kernel_rfl, Try.underlying101, rfl, rfl, rfl, rfl, rfl, rfl, rfl⟩
theorem row_102 : TRow 102 ⟨.func, 1, 8, .nilf⟩ := ⟨Try.t102, _, _, by kernel_rfl, Try.underlying102, rfl, rfl, rfl, rfl, rfl, rfl, rfl⟩
theorem row_103 : TRow 103 ⟨.func, 1, 8, .nilf⟩ := ⟨Try.t103, _, _, by kernel_rfl, Try.underlying103, rfl, rfl, rfl, rfl, rfl, rfl, rfl⟩
theorem row_104 : TRow 104 ⟨.func, 1, 8, .nilf⟩ := ⟨Try.t104, _, _, by kernel_rfl, Try.underlying104, rfl, rfl, rfl, rfl, rfl, rfl, rfl⟩
theorem row_105 : TRow 105 ⟨.func, 1, 8, .nilf⟩ := ⟨Try.t105, _, _, by kernel_rfl, Try.underlying105, rfl, rfl, rfl, rfl, rfl, rfl, rfl⟩
theorem row_106 : TRow 106 ⟨.func, 1, 8, .nilf⟩ := ⟨Try.t106, _, _, by kernel_rfl, Try.underlying106, rfl, rfl, rfl, rfl, rfl, rfl, rfl⟩
theorem row_107 : TRow 107 ⟨.int .u64, 1, 8, .int .u64 0⟩ := ⟨Try.t107, _, _, by kernel_rfl, Try.underlying107, rfl, rfl, rfl, rfl, rfl, rfl, rfl⟩
theorem row_108 : TRow 108 ⟨.func, 1, 8, .nilf⟩ := ⟨Try.t108, _, _, by kernel_rfl, Try.underlying108, rfl, rfl, rfl, rfl, rfl, rfl, rfl⟩
theorem row_109 : TRow 109 ⟨.func, 1, 8, .nilf⟩ := ⟨Try.t109, _, _, by kernel_rfl, Try.underlying109, rfl, rfl, rfl, rfl, rfl, rfl, rfl⟩
theorem row_110 : TRow 110 ⟨.func, 1, 8, .nilf⟩ := ⟨Try.t110, _, _, by kernel_rfl, Try.underlying110, rfl, rfl, rfl, rfl, rfl, rfl, rfl⟩
theorem row_111 : TRow 111 ⟨.array 256 62, 256, 1024, .agg (List.replicate 256 (.int .u32 0))⟩ := ⟨Try.t111, _, _, by kernel_rfl, Try.underlying111, rfl, rfl, rfl, rfl, rfl, rfl, rfl⟩
theorem row_112 : TRow 112 ⟨.func, 1, 8, .nilf⟩ := ⟨Try.t112, _, _, by kernel_rfl, Try.underlying112, rfl, rfl, rfl, rfl, rfl, rfl, rfl⟩
theorem row_113 : TRow 113 ⟨.func, 1, 8, .nilf⟩ := ⟨Try.t113, _, _, by kernel_rfl, Try.underlying113, rfl, rfl, rfl, rfl, rfl, rfl, rfl⟩
theorem row_114 : TRow 114 ⟨.func, 1, 8, .nilf⟩ := ⟨Try.t114, _, _, by kernel_rfl, Try.underlying114, rfl, rfl, rfl, rfl, rfl, rfl, rfl⟩
theorem row_115 : TRow 115 ⟨.func, 1, 8, .nilf⟩ := ⟨Try.t115, _, _, by kernel_rfl, Try.underlying115, rfl, rfl, rfl, rfl, rfl, rfl, rfl⟩
theorem row_121 : TRow 121 ⟨.int .u8, 1, 1, .int .u8 0⟩ := ⟨Try.t121, _, _, by kernel_rfl, Try.underlying121, rfl, rfl, rfl, rfl, rfl, rfl, rfl⟩
theorem row_122 : TRow 122 ⟨.int .u8, 1, 1, .int .u8 0⟩ := ⟨Try.t122, _, _, by kernel_rfl, Try.underlying122, rfl, rfl, rfl, rfl, rfl, rfl, rfl⟩
theorem row_123 : TRow 123 ⟨.func, 1, 8, .nilf⟩ := ⟨Try.t123, _, _, by kernel_rfl, Try.underlying123, rfl, rfl, rfl, rfl, rfl, rfl, rfl⟩
theorem row_124 : TRow 124 ⟨.ptr 5, 1, 8, .nilp⟩ := ⟨Try.t124, _, _, by kernel_rfl, Try.underlying124, rfl, rfl, rfl, rfl, rfl, rfl, rfl⟩
theorem row_125 : TRow 125 ⟨.int .i32, 1, 4, .int .i32 0⟩ := ⟨Try.t125, _, _, by kernel_rfl, Try.underlying125, rfl, rfl, rfl, rfl, rfl, rfl, rfl⟩
theorem row_126 : TRow 126 ⟨.int .i32, 1, 4, .int .i32 0⟩ := ⟨Try.t126, _, _, by kernel_rfl, Try.underlying126, rfl, rfl, rfl, rfl, rfl, rfl, rfl⟩
theorem hTt : ∀ t i, T t = some i → TRow t i := by
  intro t i h
  unfold T at h
  split at h
  · obtain rfl := Option.some.inj h; exact row_1
  · obtain rfl := Option.some.inj h; exact row_2
  · obtain rfl := Option.some.inj h; exact row_3
  · obtain rfl := Option.some.inj h; exact row_4
  · obtain rfl := Option.some.inj h; exact row_5
  · obtain rfl := Option.some.inj h; exact row_6
  · obtain rfl := Option.some.inj h; exact row_7
  · obtain rfl := Option.some.inj h; exact row_8
  · obtain rfl := Option.some.inj h; exact row_9
  · obtain rfl := Option.some.inj h; exact row_10
  · obtain rfl := Option.some.inj h; exact row_11
  · obtain rfl := Option.some.inj h; exact row_12
  · obtain rfl := Option.some.inj h; exact row_15
  · obtain rfl := Option.some.inj h; exact row_16
  · obtain rfl := Option.some.inj h; exact row_17
  · obtain rfl := Option.some.inj h; exact row_21
  · obtain rfl := Option.some.inj h; exact row_22
  · obtain rfl := Option.some.inj h; exact row_23
  · obtain rfl := Option.some.inj h; exact row_24
  · obtain rfl := Option.some.inj h; exact row_25
  · obtain rfl := Option.some.inj h; exact row_26
  · obtain rfl := Option.some.inj h; exact row_27
  · obtain rfl := Option.some.inj h; exact row_29
  · obtain rfl := Option.some.inj h; exact row_30
  · obtain rfl := Option.some.inj h; exact row_32
  · obtain rfl := Option.some.inj h; exact row_33
  · obtain rfl := Option.some.inj h; exact row_34
  · obtain rfl := Option.some.inj h; exact row_35
  · obtain rfl := Option.some.inj h; exact row_36
  · obtain rfl := Option.some.inj h; exact row_37
  · obtain rfl := Option.some.inj h; exact row_38
  · obtain rfl := Option.some.inj h; exact row_39
  · obtain rfl := Option.some.inj h; exact row_40
  · obtain rfl := Option.some.inj h; exact row_41
  · obtain rfl := Option.some.inj h; exact row_42
  · obtain rfl := Option.some.inj h; exact row_43
  · obtain rfl := Option.some.inj h; exact row_44
  · obtain rfl := Option.some.inj h; exact row_45
  · obtain rfl := Option.some.inj h; exact row_46
  · obtain rfl := Option.some.inj h; exact row_47
  · obtain rfl := Option.some.inj h; exact row_48
  · obtain rfl := Option.some.inj h; exact row_50
  · obtain rfl := Option.some.inj h; exact row_51
  · obtain rfl := Option.some.inj h; exact row_53
  · obtain rfl := Option.some.inj h; exact row_54
  · obtain rfl := Option.some.inj h; exact row_55
  · obtain rfl := Option.some.inj h; exact row_56
  · obtain rfl := Option.some.inj h; exact row_58
  · obtain rfl := Option.some.inj h; exact row_59
  · obtain rfl := Option.some.inj h; exact row_60
  · obtain rfl := Option.some.inj h; exact row_61
  · obtain rfl := Option.some.inj h; exact row_62
  · obtain rfl := Option.some.inj h; exact row_63
  · obtain rfl := Option.some.inj h; exact row_64
  · obtain rfl := Option.some.inj h; exact row_65
  · obtain rfl := Option.some.inj h; exact row_66
  · obtain rfl := Option.some.inj h; exact row_67
  · obtain rfl := Option.some.inj h; exact row_68
  · obtain rfl := Option.some.inj h; exact row_69
  · obtain rfl := Option.some.inj h; exact row_70
  · obtain rfl := Option.some.inj h; exact row_71
  · obtain rfl := Option.some.inj h; exact row_72
  · obtain rfl := Option.some.inj h; exact row_73
  · obtain rfl := Option.some.inj h; exact row_74
  · obtain rfl := Option.some.inj h; exact row_75
  · obtain rfl := Option.some.inj h; exact row_76
  · obtain rfl := Option.some.inj h; exact row_77
  · obtain rfl := Option.some.inj h; exact row_78
  · obtain rfl := Option.some.inj h; exact row_79
  · obtain rfl := Option.some.inj h; exact row_80
  · obtain rfl := Option.some.inj h; exact row_81
  · obtain rfl := Option.some.inj h; exact row_82
  · obtain rfl := Option.some.inj h; exact row_83
  · obtain rfl := Option.some.inj h; exact row_84
  · obtain rfl := Option.some.inj h; exact row_85
  · obtain rfl := Option.some.inj h; exact row_86
  · obtain rfl := Option.some.inj h; exact row_87
  · obtain rfl := Option.some.inj h; exact row_88
  · obtain rfl := Option.some.inj h; exact row_90
  · obtain rfl := Option.some.inj h; exact row_91
  · obtain rfl := Option.some.inj h; exact row_92
  · obtain rfl := Option.some.inj h; exact row_93
  · obtain rfl := Option.some.inj h; exact row_94
  · obtain rfl := Option.some.inj h; exact row_95
  · obtain rfl := Option.some.inj h; exact row_96
  · obtain rfl := Option.some.inj h; exact row_97
  · obtain rfl := Option.some.inj h; exact row_98
  · obtain rfl := Option.some.inj h; exact row_99
  · obtain rfl := Option.some.inj h; exact row_100
  · obtain rfl := Option.some.inj h; exact row_101
  · obtain rfl := Option.some.inj h; exact row_102
  · obtain rfl := Option.some.inj h; exact row_103
  · obtain rfl := Option.some.inj h; exact row_104
  · obtain rfl := Option.some.inj h; exact row_105
  · obtain rfl := Option.some.inj h; exact row_106
  · obtain rfl := Option.some.inj h; exact row_107
  · obtain rfl := Option.some.inj h; exact row_108
  · obtain rfl := Option.some.inj h; exact row_109
  · obtain rfl := Option.some.inj h; exact row_110
  · obtain rfl := Option.some.inj h; exact row_111
  · obtain rfl := Option.some.inj h; exact row_112
  · obtain rfl := Option.some.inj h; exact row_113
  · obtain rfl := Option.some.inj h; exact row_114
  · obtain rfl := Option.some.inj h; exact row_115
  · obtain rfl := Option.some.inj h; exact row_121
  · obtain rfl := Option.some.inj h; exact row_122
  · obtain rfl := Option.some.inj h; exact row_123
  · obtain rfl := Option.some.inj h; exact row_124
  · obtain rfl := Option.some.inj h; exact row_125
  · obtain rfl := Option.some.inj h; exact row_126
  · cases h

theorem eq_7 : eqOK Try.prog 7 = true := by kernel_rfl
theorem eq_8 : eqOK Try.prog 8 = true := by kernel_rfl
theorem eq_35 : eqOK Try.prog 35 = true := by kernel_rfl
theorem eq_36 : eqOK Try.prog 36 = true := by kernel_rfl
theorem eq_60 : eqOK Try.prog 60 = true := by kernel_rfl
theorem eq_61 : eqOK Try.prog 61 = true := by kernel_rfl
theorem eq_63 : eqOK Try.prog 63 = true := by kernel_rfl
theorem eq_64 : eqOK Try.prog 64 = true := by kernel_rfl
theorem eq_81 : eqOK Try.prog 81 = true := by kernel_rfl
theorem eq_82 : eqOK Try.prog 82 = true := by kernel_rfl
theorem eq_84 : eqOK Try.prog 84 = true := by kernel_rfl
theorem eq_85 : eqOK Try.prog 85 = true := by kernel_rfl
theorem hTe : ∀ t fs s b z, T t = some ⟨.struct fs, s, b, z⟩ → eqOK Try.prog t = true := by
  intro t fs s b z h
  unfold T at h
  split at h
  · cases h
  · cases h
  · cases h
  · cases h
  · cases h
  · cases h
  · exact eq_7
  · exact eq_8
  · cases h
  · cases h
  · cases h
  · cases h
  · cases h
  · cases h
  · cases h
  · cases h
  · cases h
  · cases h
  · cases h
  · cases h
  · cases h
  · cases h
  · cases h
  · cases h
  · cases h
  · cases h
  · cases h
  · exact eq_35
  · exact eq_36
  · cases h
  · cases h
  · cases h
  · cases h
  · cases h
  · cases h
  · cases h
  · cases h
  · cases h
  · cases h
  · cases h
  · cases h
  · cases h
  · cases h
  · cases h
  · cases h
  · cases h
  · cases h
  · cases h
  · cases h
  · exact eq_60
  · exact eq_61
  · cases h
  · exact eq_63
  · exact eq_64
  · cases h
  · cases h
  · cases h
  · cases h
  · cases h
  · cases h
  · cases h
  · cases h
  · cases h
  · cases h
  · cases h
  · cases h
  · cases h
  · cases h
  · cases h
  · cases h
  · exact eq_81
  · exact eq_82
  · cases h
  · exact eq_84
  · exact eq_85
  · cases h
  · cases h
  · cases h
  · cases h
  · cases h
  · cases h
  · cases h
  · cases h
  · cases h
  · cases h
  · cases h
  · cases h
  · cases h
  · cases h
  · cases h
  · cases h
  · cases h
  · cases h
  · cases h
  · cases h
  · cases h
  · cases h
  · cases h
  · cases h
  · cases h
  · cases h
  · cases h
  · cases h
  · cases h
  · cases h
  · cases h
  · cases h
  · cases h
  · cases h
  · cases h
  · cases h
theorem hT : TabOK Try.prog T := ⟨hTt, hTe⟩

theorem ent_3 : Ent Try.prog 3 := by unfold Ent; kernel_rfl
theorem ent_4 : Ent Try.prog 4 := by unfold Ent; kernel_rfl
theorem ent_5 : Ent Try.prog 5 := by unfold Ent; kernel_rfl
theorem ent_6 : Ent Try.prog 6 := by unfold Ent; kernel_rfl
theorem ent_7 : Ent Try.prog 7 := by unfold Ent; kernel_rfl
theorem ent_8 : Ent Try.prog 8 := by unfold Ent; kernel_rfl
theorem ent_9 : Ent Try.prog 9 := by unfold Ent; kernel_rfl
theorem ent_10 : Ent Try.prog 10 := by unfold Ent; kernel_rfl
theorem ent_11 : Ent Try.prog 11 := by unfold Ent; kernel_rfl
theorem ent_12 : Ent Try.prog 12 := by unfold Ent; kernel_rfl
theorem ent_13 : Ent Try.prog 13 := by unfold Ent; kernel_rfl
theorem ent_14 : Ent Try.prog 14 := by unfold Ent; kernel_rfl
theorem ent_15 : Ent Try.prog 15 := by unfold Ent; kernel_rfl
theorem ent_16 : Ent Try.prog 16 := by unfold Ent; kernel_rfl
theorem ent_17 : Ent Try.prog 17 := by unfold Ent; kernel_rfl
theorem ent_18 : Ent Try.prog 18 := by unfold Ent; kernel_rfl
theorem ent_19 : Ent Try.prog 19 := by unfold Ent; kernel_rfl
theorem ent_20 : Ent Try.prog 20 := by unfold Ent; kernel_rfl
theorem ent_21 : Ent Try.prog 21 := by unfold Ent; kernel_rfl
theorem ent_22 : Ent Try.prog 22 := by unfold Ent; kernel_rfl
theorem ent_23 : Ent Try.prog 23 := by unfold Ent; kernel_rfl
theorem ent_24 : Ent Try.prog 24 := by unfold Ent; kernel_rfl
theorem ent_25 : Ent Try.prog 25 := by unfold Ent; kernel_rfl
theorem ent_26 : Ent Try.prog 26 := by unfold Ent; kernel_rfl
theorem ent_27 : Ent Try.prog 27 := by unfold Ent; kernel_rfl
theorem ent_28 : Ent Try.prog 28 := by unfold Ent; kernel_rfl
theorem ent_29 : Ent Try.prog 29 := by unfold Ent; kernel_rfl
theorem ent_30 : Ent Try.prog 30 := by unfold Ent; kernel_rfl
theorem ent_31 : Ent Try.prog 31 := by unfold Ent; kernel_rfl
theorem ent_32 : Ent Try.prog 32 := by unfold Ent; kernel_rfl
theorem ent_33 : Ent Try.prog 33 := by unfold Ent; kernel_rfl
theorem ent_34 : Ent Try.prog 34 := by unfold Ent; kernel_rfl
theorem ent_35 : Ent Try.prog 35 := by unfold Ent; kernel_rfl
theorem ent_36 : Ent Try.prog 36 := by unfold Ent; kernel_rfl
theorem ent_37 : Ent Try.prog 37 := by unfold Ent; kernel_rfl
theorem ent_38 : Ent Try.prog 38 := by unfold Ent; kernel_rfl
theorem ent_39 : Ent Try.prog 39 := by unfold Ent; kernel_rfl
theorem ent_40 : Ent Try.prog 40 := by unfold Ent; kernel_rfl
theorem ent_41 : Ent Try.prog 41 := by unfold Ent; kernel_rfl
theorem ent_42 : Ent Try.prog 42 := by unfold Ent; kernel_rfl
theorem ent_43 : Ent Try.prog 43 := by unfold Ent; kernel_rfl
theorem ent_44 : Ent Try.prog 44 := by unfold Ent; kernel_rfl
theorem ent_45 : Ent Try.prog 45 := by unfold Ent; kernel_rfl
theorem ent_46 : Ent Try.prog 46 := by unfold Ent; kernel_rfl
theorem ent_47 : Ent Try.prog 47 := by unfold Ent; kernel_rfl
theorem ent_48 : Ent Try.prog 48 := by unfold Ent; kernel_rfl
theorem ent_49 : Ent Try.prog 49 := by unfold Ent; kernel_rfl
theorem ent_50 : Ent Try.prog 50 := by unfold Ent; kernel_rfl
theorem ent_51 : Ent Try.prog 51 := by unfold Ent; kernel_rfl
theorem ent_52 : Ent Try.prog 52 := by unfold Ent; kernel_rfl
theorem ent_53 : Ent Try.prog 53 := by unfold Ent; kernel_rfl
theorem ent_54 : Ent Try.prog 54 := by unfold Ent; kernel_rfl
theorem ent_55 : Ent Try.prog 55 := by unfold Ent; kernel_rfl
theorem ent_56 : Ent Try.prog 56 := by unfold Ent; kernel_rfl
theorem ent_57 : Ent Try.prog 57 := by unfold Ent; kernel_rfl
theorem ent_58 : Ent Try.prog 58 := by unfold Ent; kernel_rfl
theorem ent_59 : Ent Try.prog 59 := by unfold Ent; kernel_rfl
theorem ent_60 : Ent Try.prog 60 := by unfold Ent; kernel_rfl
theorem ent_61 : Ent Try.prog 61 := by unfold Ent; kernel_rfl
theorem ent_62 : Ent Try.prog 62 := by unfold Ent; kernel_rfl
theorem ent_63 : Ent Try.prog 63 := by unfold Ent; kernel_rfl
theorem ent_64 : Ent Try.prog 64 := by unfold Ent; kernel_rfl
theorem ent_65 : Ent Try.prog 65 := by unfold Ent; kernel_rfl
theorem ent_66 : Ent Try.prog 66 := by unfold Ent; kernel_rfl
theorem ent_67 : Ent Try.prog 67 := by unfold Ent; kernel_rfl
theorem ent_68 : Ent Try.prog 68 := by unfold Ent; kernel_rfl
theorem ent_69 : Ent Try.prog 69 := by unfold Ent; kernel_rfl
theorem ent_70 : Ent Try.prog 70 := by unfold Ent; kernel_rfl
theorem ent_71 : Ent Try.prog 71 := by unfold Ent; kernel_rfl
theorem ent_72 : Ent Try.prog 72 := by unfold Ent; kernel_rfl
theorem ent_73 : Ent Try.prog 73 := by unfold Ent; kernel_rfl
theorem ent_74 : Ent Try.prog 74 := by unfold Ent; kernel_rfl
theorem ent_75 : Ent Try.prog 75 := by unfold Ent; kernel_rfl
theorem ent_76 : Ent Try.prog 76 := by unfold Ent; kernel_rfl
theorem ent_77 : Ent Try.prog 77 := by unfold Ent; kernel_rfl
theorem ent_78 : Ent Try.prog 78 := by unfold Ent; kernel_rfl
@[simp] theorem res_3 : Try.f3.results.toList = [.tmp 6] := rfl
attribute [simp] Try.ntmps3
@[simp] theorem res_4 : Try.f4.results.toList = [.tmp 6] := rfl
attribute [simp] Try.ntmps4
@[simp] theorem res_5 : Try.f5.results.toList = [.tmp 4] := rfl
attribute [simp] Try.ntmps5
@[simp] theorem res_6 : Try.f6.results.toList = [.tmp 0] := rfl
attribute [simp] Try.ntmps6
@[simp] theorem res_7 : Try.f7.results.toList = [.tmp 2] := rfl
attribute [simp] Try.ntmps7
@[simp] theorem res_8 : Try.f8.results.toList = [.tmp 2, .tmp 3] := rfl
attribute [simp] Try.ntmps8
@[simp] theorem res_9 : Try.f9.results.toList = [.tmp 2, .tmp 3] := rfl
attribute [simp] Try.ntmps9
@[simp] theorem res_10 : Try.f10.results.toList = [.tmp 4] := rfl
attribute [simp] Try.ntmps10
@[simp] theorem res_11 : Try.f11.results.toList = [.tmp 2] := rfl
attribute [simp] Try.ntmps11
@[simp] theorem res_12 : Try.f12.results.toList = [.tmp 4] := rfl
attribute [simp] Try.ntmps12
@[simp] theorem res_13 : Try.f13.results.toList = [] := rfl
attribute [simp] Try.ntmps13
@[simp] theorem res_14 : Try.f14.results.toList = [] := rfl
attribute [simp] Try.ntmps14
@[simp] theorem res_15 : Try.f15.results.toList = [.tmp 4] := rfl
attribute [simp] Try.ntmps15
@[simp] theorem res_16 : Try.f16.results.toList = [.tmp 2] := rfl
attribute [simp] Try.ntmps16
@[simp] theorem res_17 : Try.f17.results.toList = [.tmp 2] := rfl
attribute [simp] Try.ntmps17
@[simp] theorem res_18 : Try.f18.results.toList = [.tmp 2] := rfl
attribute [simp] Try.ntmps18
@[simp] theorem res_19 : Try.f19.results.toList = [.tmp 6] := rfl
attribute [simp] Try.ntmps19
@[simp] theorem res_20 : Try.f20.results.toList = [.tmp 2, .tmp 3] := rfl
attribute [simp] Try.ntmps20
@[simp] theorem res_21 : Try.f21.results.toList = [.tmp 2, .tmp 3] := rfl
attribute [simp] Try.ntmps21
@[simp] theorem res_22 : Try.f22.results.toList = [] := rfl
attribute [simp] Try.ntmps22
@[simp] theorem res_23 : Try.f23.results.toList = [.tmp 6] := rfl
attribute [simp] Try.ntmps23
@[simp] theorem res_24 : Try.f24.results.toList = [.tmp 6] := rfl
attribute [simp] Try.ntmps24
@[simp] theorem res_25 : Try.f25.results.toList = [.tmp 4] := rfl
attribute [simp] Try.ntmps25
@[simp] theorem res_26 : Try.f26.results.toList = [.tmp 4] := rfl
attribute [simp] Try.ntmps26
@[simp] theorem res_27 : Try.f27.results.toList = [] := rfl
attribute [simp] Try.ntmps27
@[simp] theorem res_28 : Try.f28.results.toList = [.tmp 8] := rfl
attribute [simp] Try.ntmps28
@[simp] theorem res_29 : Try.f29.results.toList = [.tmp 4, .tmp 5] := rfl
attribute [simp] Try.ntmps29
@[simp] theorem res_30 : Try.f30.results.toList = [.tmp 2] := rfl
attribute [simp] Try.ntmps30
@[simp] theorem res_31 : Try.f31.results.toList = [.tmp 4] := rfl
attribute [simp] Try.ntmps31
@[simp] theorem res_32 : Try.f32.results.toList = [.tmp 2] := rfl
attribute [simp] Try.ntmps32
@[simp] theorem res_33 : Try.f33.results.toList = [.tmp 6] := rfl
attribute [simp] Try.ntmps33
@[simp] theorem res_34 : Try.f34.results.toList = [.tmp 6] := rfl
attribute [simp] Try.ntmps34
@[simp] theorem res_35 : Try.f35.results.toList = [.tmp 6] := rfl
attribute [simp] Try.ntmps35
@[simp] theorem res_36 : Try.f36.results.toList = [.tmp 8] := rfl
attribute [simp] Try.ntmps36
@[simp] theorem res_37 : Try.f37.results.toList = [.tmp 2] := rfl
attribute [simp] Try.ntmps37
@[simp] theorem res_38 : Try.f38.results.toList = [.tmp 2] := rfl
attribute [simp] Try.ntmps38
@[simp] theorem res_39 : Try.f39.results.toList = [.tmp 8] := rfl
attribute [simp] Try.ntmps39
@[simp] theorem res_40 : Try.f40.results.toList = [.tmp 2] := rfl
attribute [simp] Try.ntmps40
@[simp] theorem res_41 : Try.f41.results.toList = [.tmp 2] := rfl
attribute [simp] Try.ntmps41
@[simp] theorem res_42 : Try.f42.results.toList = [.tmp 4] := rfl
attribute [simp] Try.ntmps42
@[simp] theorem res_43 : Try.f43.results.toList = [.tmp 2] := rfl
attribute [simp] Try.ntmps43
@[simp] theorem res_44 : Try.f44.results.toList = [.tmp 2] := rfl
attribute [simp] Try.ntmps44
@[simp] theorem res_45 : Try.f45.results.toList = [.tmp 2] := rfl
attribute [simp] Try.ntmps45
@[simp] theorem res_46 : Try.f46.results.toList = [.tmp 4] := rfl
attribute [simp] Try.ntmps46
@[simp] theorem res_47 : Try.f47.results.toList = [.tmp 4] := rfl
attribute [simp] Try.ntmps47
@[simp] theorem res_48 : Try.f48.results.toList = [.tmp 2] := rfl
attribute [simp] Try.ntmps48
@[simp] theorem res_49 : Try.f49.results.toList = [.tmp 6] := rfl
attribute [simp] Try.ntmps49
@[simp] theorem res_50 : Try.f50.results.toList = [.tmp 2] := rfl
attribute [simp] Try.ntmps50
@[simp] theorem res_51 : Try.f51.results.toList = [.tmp 4, .tmp 5] := rfl
attribute [simp] Try.ntmps51
@[simp] theorem res_52 : Try.f52.results.toList = [.tmp 6] := rfl
attribute [simp] Try.ntmps52
@[simp] theorem res_53 : Try.f53.results.toList = [.tmp 2] := rfl
attribute [simp] Try.ntmps53
@[simp] theorem res_54 : Try.f54.results.toList = [.tmp 8] := rfl
attribute [simp] Try.ntmps54
@[simp] theorem res_55 : Try.f55.results.toList = [.tmp 2] := rfl
attribute [simp] Try.ntmps55
@[simp] theorem res_56 : Try.f56.results.toList = [.tmp 4] := rfl
attribute [simp] Try.ntmps56
@[simp] theorem res_57 : Try.f57.results.toList = [.tmp 6] := rfl
attribute [simp] Try.ntmps57
@[simp] theorem res_58 : Try.f58.results.toList = [.tmp 2] := rfl
attribute [simp] Try.ntmps58
@[simp] theorem res_59 : Try.f59.results.toList = [.tmp 4] := rfl
attribute [simp] Try.ntmps59
@[simp] theorem res_60 : Try.f60.results.toList = [.tmp 2] := rfl
attribute [simp] Try.ntmps60
@[simp] theorem res_61 : Try.f61.results.toList = [] := rfl
attribute [simp] Try.ntmps61
@[simp] theorem res_62 : Try.f62.results.toList = [.tmp 8] := rfl
attribute [simp] Try.ntmps62
@[simp] theorem res_63 : Try.f63.results.toList = [.tmp 2] := rfl
attribute [simp] Try.ntmps63
@[simp] theorem res_64 : Try.f64.results.toList = [.tmp 4] := rfl
attribute [simp] Try.ntmps64
@[simp] theorem res_65 : Try.f65.results.toList = [.tmp 4] := rfl
attribute [simp] Try.ntmps65
@[simp] theorem res_66 : Try.f66.results.toList = [.tmp 2] := rfl
attribute [simp] Try.ntmps66
@[simp] theorem res_67 : Try.f67.results.toList = [.tmp 2] := rfl
attribute [simp] Try.ntmps67
@[simp] theorem res_68 : Try.f68.results.toList = [.tmp 4] := rfl
attribute [simp] Try.ntmps68
@[simp] theorem res_69 : Try.f69.results.toList = [.tmp 6] := rfl
attribute [simp] Try.ntmps69
@[simp] theorem res_70 : Try.f70.results.toList = [.tmp 4] := rfl
attribute [simp] Try.ntmps70
@[simp] theorem res_71 : Try.f71.results.toList = [.tmp 2] := rfl
attribute [simp] Try.ntmps71
@[simp] theorem res_72 : Try.f72.results.toList = [.tmp 4] := rfl
attribute [simp] Try.ntmps72
@[simp] theorem res_73 : Try.f73.results.toList = [.tmp 2] := rfl
attribute [simp] Try.ntmps73
@[simp] theorem res_74 : Try.f74.results.toList = [.tmp 4] := rfl
attribute [simp] Try.ntmps74
@[simp] theorem res_75 : Try.f75.results.toList = [.cell 0 111] := rfl
attribute [simp] Try.ntmps75
@[simp] theorem res_76 : Try.f76.results.toList = [] := rfl
attribute [simp] Try.ntmps76
@[simp] theorem res_77 : Try.f77.results.toList = [.tmp 2] := rfl
attribute [simp] Try.ntmps77
@[simp] theorem res_78 : Try.f78.results.toList = [.tmp 4] := rfl
attribute [simp] Try.ntmps78
end Go.Proofs.Ytifhbgppjblobaa
