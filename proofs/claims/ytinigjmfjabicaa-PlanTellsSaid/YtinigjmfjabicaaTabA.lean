/- The types of the program, in short, and that they are so. Printed by gen_tab.py. -/
import Derived.Test.YtinigjmfjabicaaVXb
import Derived.Test.YtinigjmfjabicaaProg
import Derived.KernelRfl
namespace Go.Proofs.Ytinigjmfjabicaa
open Go Go.VX
set_option linter.unusedVariables false
set_option maxRecDepth 100000

def T : Nat → Option TI
  | 1 => some ⟨.func, 1, 8, .nilf⟩
  | 2 => some ⟨.int .i64, 1, 8, .int .i64 0⟩
  | 3 => some ⟨.int .i64, 1, 8, .int .i64 0⟩
  | 4 => some ⟨.bool, 1, 1, .bool false⟩
  | 5 => some ⟨.int .u8, 1, 1, .int .u8 0⟩
  | 6 => some ⟨.int .u8, 1, 1, .int .u8 0⟩
  | 7 => some ⟨.struct [(0, 2), (1, 3), (2, 4), (3, 6)], 4, 24, .agg [.int .i64 0, .int .i64 0, .bool false, .int .u8 0]⟩
  | 8 => some ⟨.struct [(0, 2), (1, 3), (2, 4), (3, 6)], 4, 24, .agg [.int .i64 0, .int .i64 0, .bool false, .int .u8 0]⟩
  | 9 => some ⟨.string, 1, 16, .str ⟨#[]⟩⟩
  | 10 => some ⟨.string, 1, 16, .str ⟨#[]⟩⟩
  | 11 => some ⟨.string, 1, 16, .str ⟨#[]⟩⟩
  | 12 => some ⟨.int .u64, 1, 8, .int .u64 0⟩
  | 15 => some ⟨.ptr 182, 1, 8, .nilp⟩
  | 16 => some ⟨.ptr 185, 1, 8, .nilp⟩
  | 17 => some ⟨.ptr 194, 1, 8, .nilp⟩
  | 21 => some ⟨.int .i32, 1, 4, .int .i32 0⟩
  | 22 => some ⟨.slice 2, 1, 24, .nils⟩
  | 23 => some ⟨.struct [(0, 3), (1, 22), (2, 22)], 3, 56, .agg [.int .i64 0, .nils, .nils]⟩
  | 24 => some ⟨.struct [(0, 3), (1, 22), (2, 22)], 3, 56, .agg [.int .i64 0, .nils, .nils]⟩
  | 25 => some ⟨.slice 47, 1, 24, .nils⟩
  | 26 => some ⟨.slice 49, 1, 24, .nils⟩
  | 27 => some ⟨.struct [(0, 24), (3, 25), (4, 26)], 5, 104, .agg [.int .i64 0, .nils, .nils, .nils, .nils]⟩
  | 28 => some ⟨.struct [(0, 24), (3, 25), (4, 26)], 5, 104, .agg [.int .i64 0, .nils, .nils, .nils, .nils]⟩
  | 29 => some ⟨.slice 3, 1, 24, .nils⟩
  | 30 => some ⟨.struct [(0, 29), (1, 22), (2, 2), (3, 2), (4, 2), (5, 2)], 6, 80, .agg [.nils, .nils, .int .i64 0, .int .i64 0, .int .i64 0, .int .i64 0]⟩
  | 31 => some ⟨.struct [(0, 29), (1, 22), (2, 2), (3, 2), (4, 2), (5, 2)], 6, 80, .agg [.nils, .nils, .int .i64 0, .int .i64 0, .int .i64 0, .int .i64 0]⟩
  | 32 => some ⟨.func, 1, 8, .nilf⟩
  | 33 => some ⟨.func, 1, 8, .nilf⟩
  | 34 => some ⟨.int .i64, 1, 8, .int .i64 0⟩
  | 36 => some ⟨.func, 1, 8, .nilf⟩
  | 37 => some ⟨.struct [(0, 29), (1, 22), (2, 2), (3, 2), (4, 2), (5, 2)], 6, 80, .agg [.nils, .nils, .int .i64 0, .int .i64 0, .int .i64 0, .int .i64 0]⟩
  | 39 => some ⟨.func, 1, 8, .nilf⟩
  | 40 => some ⟨.func, 1, 8, .nilf⟩
  | 41 => some ⟨.func, 1, 8, .nilf⟩
  | 42 => some ⟨.func, 1, 8, .nilf⟩
  | 43 => some ⟨.func, 1, 8, .nilf⟩
  | 44 => some ⟨.func, 1, 8, .nilf⟩
  | 45 => some ⟨.map 3 3, 1, 8, .nilm⟩
  | 46 => some ⟨.struct [(0, 3), (1, 3), (2, 3), (3, 2), (4, 2), (5, 2), (6, 2), (7, 2)], 8, 64, .agg [.int .i64 0, .int .i64 0, .int .i64 0, .int .i64 0, .int .i64 0, .int .i64 0, .int .i64 0, .int .i64 0]⟩
  | 47 => some ⟨.struct [(0, 3), (1, 3), (2, 3), (3, 2), (4, 2), (5, 2), (6, 2), (7, 2)], 8, 64, .agg [.int .i64 0, .int .i64 0, .int .i64 0, .int .i64 0, .int .i64 0, .int .i64 0, .int .i64 0, .int .i64 0]⟩
  | 48 => some ⟨.struct [(0, 3), (1, 2), (2, 2), (3, 2), (4, 2), (5, 2), (6, 2)], 7, 56, .agg [.int .i64 0, .int .i64 0, .int .i64 0, .int .i64 0, .int .i64 0, .int .i64 0, .int .i64 0]⟩
  | 49 => some ⟨.struct [(0, 3), (1, 2), (2, 2), (3, 2), (4, 2), (5, 2), (6, 2)], 7, 56, .agg [.int .i64 0, .int .i64 0, .int .i64 0, .int .i64 0, .int .i64 0, .int .i64 0, .int .i64 0]⟩
  | 50 => some ⟨.func, 1, 8, .nilf⟩
  | 51 => some ⟨.slice 64, 1, 24, .nils⟩
  | 52 => some ⟨.struct [(0, 51), (1, 29)], 2, 48, .agg [.nils, .nils]⟩
  | 53 => some ⟨.struct [(0, 51), (1, 29)], 2, 48, .agg [.nils, .nils]⟩
  | 54 => some ⟨.func, 1, 8, .nilf⟩
  | 56 => some ⟨.func, 1, 8, .nilf⟩
  | 57 => some ⟨.func, 1, 8, .nilf⟩
  | 58 => some ⟨.func, 1, 8, .nilf⟩
  | 59 => some ⟨.func, 1, 8, .nilf⟩
  | 60 => some ⟨.func, 1, 8, .nilf⟩
  | 61 => some ⟨.func, 1, 8, .nilf⟩
  | 62 => some ⟨.func, 1, 8, .nilf⟩
  | 63 => some ⟨.struct [(0, 3), (1, 29)], 2, 32, .agg [.int .i64 0, .nils]⟩
  | 64 => some ⟨.struct [(0, 3), (1, 29)], 2, 32, .agg [.int .i64 0, .nils]⟩
  | 65 => some ⟨.slice 150, 1, 24, .nils⟩
  | 66 => some ⟨.struct [(0, 65), (1, 2), (2, 2), (3, 2)], 4, 48, .agg [.nils, .int .i64 0, .int .i64 0, .int .i64 0]⟩
  | 67 => some ⟨.struct [(0, 65), (1, 2), (2, 2), (3, 2)], 4, 48, .agg [.nils, .int .i64 0, .int .i64 0, .int .i64 0]⟩
  | 69 => some ⟨.func, 1, 8, .nilf⟩
  | 70 => some ⟨.func, 1, 8, .nilf⟩
  | 71 => some ⟨.map 3 4, 1, 8, .nilm⟩
  | 72 => some ⟨.func, 1, 8, .nilf⟩
  | 73 => some ⟨.func, 1, 8, .nilf⟩
  | 74 => some ⟨.func, 1, 8, .nilf⟩
  | 75 => some ⟨.func, 1, 8, .nilf⟩
  | 76 => some ⟨.func, 1, 8, .nilf⟩
  | 77 => some ⟨.func, 1, 8, .nilf⟩
  | 78 => some ⟨.func, 1, 8, .nilf⟩
  | 79 => some ⟨.func, 1, 8, .nilf⟩
  | 80 => some ⟨.func, 1, 8, .nilf⟩
  | 81 => some ⟨.func, 1, 8, .nilf⟩
  | 82 => some ⟨.func, 1, 8, .nilf⟩
  | 83 => some ⟨.func, 1, 8, .nilf⟩
  | 84 => some ⟨.func, 1, 8, .nilf⟩
  | 86 => some ⟨.func, 1, 8, .nilf⟩
  | 87 => some ⟨.func, 1, 8, .nilf⟩
  | 88 => some ⟨.func, 1, 8, .nilf⟩
  | 89 => some ⟨.func, 1, 8, .nilf⟩
  | 90 => some ⟨.func, 1, 8, .nilf⟩
  | 91 => some ⟨.func, 1, 8, .nilf⟩
  | 92 => some ⟨.func, 1, 8, .nilf⟩
  | 93 => some ⟨.func, 1, 8, .nilf⟩
  | 94 => some ⟨.func, 1, 8, .nilf⟩
  | 95 => some ⟨.func, 1, 8, .nilf⟩
  | 96 => some ⟨.slice 53, 1, 24, .nils⟩
  | 97 => some ⟨.func, 1, 8, .nilf⟩
  | 98 => some ⟨.func, 1, 8, .nilf⟩
  | 99 => some ⟨.slice 140, 1, 24, .nils⟩
  | 100 => some ⟨.struct [(0, 99), (1, 2), (2, 2), (3, 2)], 4, 48, .agg [.nils, .int .i64 0, .int .i64 0, .int .i64 0]⟩
  | 101 => some ⟨.struct [(0, 99), (1, 2), (2, 2), (3, 2)], 4, 48, .agg [.nils, .int .i64 0, .int .i64 0, .int .i64 0]⟩
  | 103 => some ⟨.func, 1, 8, .nilf⟩
  | 104 => some ⟨.func, 1, 8, .nilf⟩
  | 105 => some ⟨.func, 1, 8, .nilf⟩
  | 107 => some ⟨.func, 1, 8, .nilf⟩
  | 108 => some ⟨.struct [(0, 3), (1, 2)], 2, 16, .agg [.int .i64 0, .int .i64 0]⟩
  | 109 => some ⟨.struct [(0, 3), (1, 2)], 2, 16, .agg [.int .i64 0, .int .i64 0]⟩
  | 111 => some ⟨.func, 1, 8, .nilf⟩
  | 112 => some ⟨.func, 1, 8, .nilf⟩
  | 113 => some ⟨.struct [(0, 3), (1, 2), (2, 2)], 3, 24, .agg [.int .i64 0, .int .i64 0, .int .i64 0]⟩
  | 114 => some ⟨.struct [(0, 3), (1, 2), (2, 2)], 3, 24, .agg [.int .i64 0, .int .i64 0, .int .i64 0]⟩
  | 115 => some ⟨.struct [(0, 114), (3, 65)], 4, 48, .agg [.int .i64 0, .int .i64 0, .int .i64 0, .nils]⟩
  | 116 => some ⟨.struct [(0, 114), (3, 65)], 4, 48, .agg [.int .i64 0, .int .i64 0, .int .i64 0, .nils]⟩
  | 117 => some ⟨.func, 1, 8, .nilf⟩
  | 118 => some ⟨.func, 1, 8, .nilf⟩
  | 119 => some ⟨.func, 1, 8, .nilf⟩
  | 120 => some ⟨.func, 1, 8, .nilf⟩
  | 121 => some ⟨.func, 1, 8, .nilf⟩
  | 122 => some ⟨.func, 1, 8, .nilf⟩
  | 123 => some ⟨.func, 1, 8, .nilf⟩
  | 124 => some ⟨.func, 1, 8, .nilf⟩
  | 125 => some ⟨.func, 1, 8, .nilf⟩
  | 126 => some ⟨.func, 1, 8, .nilf⟩
  | 127 => some ⟨.func, 1, 8, .nilf⟩
  | 128 => some ⟨.array 2 22, 2, 48, .agg [.nils, .nils]⟩
  | 129 => some ⟨.func, 1, 8, .nilf⟩
  | 130 => some ⟨.func, 1, 8, .nilf⟩
  | 131 => some ⟨.func, 1, 8, .nilf⟩
  | 132 => some ⟨.func, 1, 8, .nilf⟩
  | 133 => some ⟨.func, 1, 8, .nilf⟩
  | 134 => some ⟨.func, 1, 8, .nilf⟩
  | 135 => some ⟨.func, 1, 8, .nilf⟩
  | 136 => some ⟨.func, 1, 8, .nilf⟩
  | 137 => some ⟨.func, 1, 8, .nilf⟩
  | 138 => some ⟨.func, 1, 8, .nilf⟩
  | 139 => some ⟨.struct [(0, 3), (1, 2), (2, 2), (3, 2)], 4, 32, .agg [.int .i64 0, .int .i64 0, .int .i64 0, .int .i64 0]⟩
  | 140 => some ⟨.struct [(0, 3), (1, 2), (2, 2), (3, 2)], 4, 32, .agg [.int .i64 0, .int .i64 0, .int .i64 0, .int .i64 0]⟩
  | 141 => some ⟨.func, 1, 8, .nilf⟩
  | 142 => some ⟨.func, 1, 8, .nilf⟩
  | 143 => some ⟨.func, 1, 8, .nilf⟩
  | 144 => some ⟨.int .u64, 1, 8, .int .u64 0⟩
  | 145 => some ⟨.func, 1, 8, .nilf⟩
  | 146 => some ⟨.func, 1, 8, .nilf⟩
  | 147 => some ⟨.func, 1, 8, .nilf⟩
  | 148 => some ⟨.func, 1, 8, .nilf⟩
  | 149 => some ⟨.ptr 116, 1, 8, .nilp⟩
  | 150 => some ⟨.struct [(0, 3), (1, 2), (2, 2), (3, 2)], 4, 32, .agg [.int .i64 0, .int .i64 0, .int .i64 0, .int .i64 0]⟩
  | 151 => some ⟨.ptr 114, 1, 8, .nilp⟩
  | 152 => some ⟨.func, 1, 8, .nilf⟩
  | 153 => some ⟨.func, 1, 8, .nilf⟩
  | 154 => some ⟨.struct [(0, 2), (1, 2), (2, 2)], 3, 24, .agg [.int .i64 0, .int .i64 0, .int .i64 0]⟩
  | 155 => some ⟨.struct [(0, 2), (1, 2), (2, 2)], 3, 24, .agg [.int .i64 0, .int .i64 0, .int .i64 0]⟩
  | 156 => some ⟨.func, 1, 8, .nilf⟩
  | 157 => some ⟨.int .i64, 1, 8, .int .i64 0⟩
  | 159 => some ⟨.func, 1, 8, .nilf⟩
  | 160 => some ⟨.func, 1, 8, .nilf⟩
  | 161 => some ⟨.func, 1, 8, .nilf⟩
  | 162 => some ⟨.func, 1, 8, .nilf⟩
  | 163 => some ⟨.func, 1, 8, .nilf⟩
  | 164 => some ⟨.int .u32, 1, 4, .int .u32 0⟩
  | 165 => some ⟨.func, 1, 8, .nilf⟩
  | 166 => some ⟨.int .u64, 1, 8, .int .u64 0⟩
  | 167 => some ⟨.slice 155, 1, 24, .nils⟩
  | 168 => some ⟨.func, 1, 8, .nilf⟩
  | 169 => some ⟨.func, 1, 8, .nilf⟩
  | 170 => some ⟨.int .u64, 1, 8, .int .u64 0⟩
  | 171 => some ⟨.func, 1, 8, .nilf⟩
  | 172 => some ⟨.func, 1, 8, .nilf⟩
  | 173 => some ⟨.func, 1, 8, .nilf⟩
  | 174 => some ⟨.ptr 3, 1, 8, .nilp⟩
  | 175 => some ⟨.func, 1, 8, .nilf⟩
  | 176 => some ⟨.func, 1, 8, .nilf⟩
  | 177 => some ⟨.ptr 170, 1, 8, .nilp⟩
  | 179 => some ⟨.func, 1, 8, .nilf⟩
  | 180 => some ⟨.func, 1, 8, .nilf⟩
  | 186 => some ⟨.func, 1, 8, .nilf⟩
  | 187 => some ⟨.int .u8, 1, 1, .int .u8 0⟩
  | 188 => some ⟨.int .u8, 1, 1, .int .u8 0⟩
  | 189 => some ⟨.func, 1, 8, .nilf⟩
  | 190 => some ⟨.ptr 5, 1, 8, .nilp⟩
  | 191 => some ⟨.int .i32, 1, 4, .int .i32 0⟩
  | 192 => some ⟨.int .i32, 1, 4, .int .i32 0⟩
  | _ => none

@[simp] theorem T_1 : T 1 = some ⟨.func, 1, 8, .nilf⟩ := rfl
@[simp] theorem T_2 : T 2 = some ⟨.int .i64, 1, 8, .int .i64 0⟩ := rfl
@[simp] theorem T_3 : T 3 = some ⟨.int .i64, 1, 8, .int .i64 0⟩ := rfl
@[simp] theorem T_4 : T 4 = some ⟨.bool, 1, 1, .bool false⟩ := rfl
@[simp] theorem T_5 : T 5 = some ⟨.int .u8, 1, 1, .int .u8 0⟩ := rfl
@[simp] theorem T_6 : T 6 = some ⟨.int .u8, 1, 1, .int .u8 0⟩ := rfl
@[simp] theorem T_7 : T 7 = some ⟨.struct [(0, 2), (1, 3), (2, 4), (3, 6)], 4, 24, .agg [.int .i64 0, .int .i64 0, .bool false, .int .u8 0]⟩ := rfl
@[simp] theorem T_8 : T 8 = some ⟨.struct [(0, 2), (1, 3), (2, 4), (3, 6)], 4, 24, .agg [.int .i64 0, .int .i64 0, .bool false, .int .u8 0]⟩ := rfl
@[simp] theorem T_9 : T 9 = some ⟨.string, 1, 16, .str ⟨#[]⟩⟩ := rfl
@[simp] theorem T_10 : T 10 = some ⟨.string, 1, 16, .str ⟨#[]⟩⟩ := rfl
@[simp] theorem T_11 : T 11 = some ⟨.string, 1, 16, .str ⟨#[]⟩⟩ := rfl
@[simp] theorem T_12 : T 12 = some ⟨.int .u64, 1, 8, .int .u64 0⟩ := rfl
@[simp] theorem T_15 : T 15 = some ⟨.ptr 182, 1, 8, .nilp⟩ := rfl
@[simp] theorem T_16 : T 16 = some ⟨.ptr 185, 1, 8, .nilp⟩ := rfl
@[simp] theorem T_17 : T 17 = some ⟨.ptr 194, 1, 8, .nilp⟩ := rfl
@[simp] theorem T_21 : T 21 = some ⟨.int .i32, 1, 4, .int .i32 0⟩ := rfl
@[simp] theorem T_22 : T 22 = some ⟨.slice 2, 1, 24, .nils⟩ := rfl
@[simp] theorem T_23 : T 23 = some ⟨.struct [(0, 3), (1, 22), (2, 22)], 3, 56, .agg [.int .i64 0, .nils, .nils]⟩ := rfl
@[simp] theorem T_24 : T 24 = some ⟨.struct [(0, 3), (1, 22), (2, 22)], 3, 56, .agg [.int .i64 0, .nils, .nils]⟩ := rfl
@[simp] theorem T_25 : T 25 = some ⟨.slice 47, 1, 24, .nils⟩ := rfl
@[simp] theorem T_26 : T 26 = some ⟨.slice 49, 1, 24, .nils⟩ := rfl
@[simp] theorem T_27 : T 27 = some ⟨.struct [(0, 24), (3, 25), (4, 26)], 5, 104, .agg [.int .i64 0, .nils, .nils, .nils, .nils]⟩ := rfl
@[simp] theorem T_28 : T 28 = some ⟨.struct [(0, 24), (3, 25), (4, 26)], 5, 104, .agg [.int .i64 0, .nils, .nils, .nils, .nils]⟩ := rfl
@[simp] theorem T_29 : T 29 = some ⟨.slice 3, 1, 24, .nils⟩ := rfl
@[simp] theorem T_30 : T 30 = some ⟨.struct [(0, 29), (1, 22), (2, 2), (3, 2), (4, 2), (5, 2)], 6, 80, .agg [.nils, .nils, .int .i64 0, .int .i64 0, .int .i64 0, .int .i64 0]⟩ := rfl
@[simp] theorem T_31 : T 31 = some ⟨.struct [(0, 29), (1, 22), (2, 2), (3, 2), (4, 2), (5, 2)], 6, 80, .agg [.nils, .nils, .int .i64 0, .int .i64 0, .int .i64 0, .int .i64 0]⟩ := rfl
@[simp] theorem T_32 : T 32 = some ⟨.func, 1, 8, .nilf⟩ := rfl
@[simp] theorem T_33 : T 33 = some ⟨.func, 1, 8, .nilf⟩ := rfl
@[simp] theorem T_34 : T 34 = some ⟨.int .i64, 1, 8, .int .i64 0⟩ := rfl
@[simp] theorem T_36 : T 36 = some ⟨.func, 1, 8, .nilf⟩ := rfl
@[simp] theorem T_37 : T 37 = some ⟨.struct [(0, 29), (1, 22), (2, 2), (3, 2), (4, 2), (5, 2)], 6, 80, .agg [.nils, .nils, .int .i64 0, .int .i64 0, .int .i64 0, .int .i64 0]⟩ := rfl
@[simp] theorem T_39 : T 39 = some ⟨.func, 1, 8, .nilf⟩ := rfl
@[simp] theorem T_40 : T 40 = some ⟨.func, 1, 8, .nilf⟩ := rfl
@[simp] theorem T_41 : T 41 = some ⟨.func, 1, 8, .nilf⟩ := rfl
@[simp] theorem T_42 : T 42 = some ⟨.func, 1, 8, .nilf⟩ := rfl
@[simp] theorem T_43 : T 43 = some ⟨.func, 1, 8, .nilf⟩ := rfl
@[simp] theorem T_44 : T 44 = some ⟨.func, 1, 8, .nilf⟩ := rfl
@[simp] theorem T_45 : T 45 = some ⟨.map 3 3, 1, 8, .nilm⟩ := rfl
@[simp] theorem T_46 : T 46 = some ⟨.struct [(0, 3), (1, 3), (2, 3), (3, 2), (4, 2), (5, 2), (6, 2), (7, 2)], 8, 64, .agg [.int .i64 0, .int .i64 0, .int .i64 0, .int .i64 0, .int .i64 0, .int .i64 0, .int .i64 0, .int .i64 0]⟩ := rfl
@[simp] theorem T_47 : T 47 = some ⟨.struct [(0, 3), (1, 3), (2, 3), (3, 2), (4, 2), (5, 2), (6, 2), (7, 2)], 8, 64, .agg [.int .i64 0, .int .i64 0, .int .i64 0, .int .i64 0, .int .i64 0, .int .i64 0, .int .i64 0, .int .i64 0]⟩ := rfl
@[simp] theorem T_48 : T 48 = some ⟨.struct [(0, 3), (1, 2), (2, 2), (3, 2), (4, 2), (5, 2), (6, 2)], 7, 56, .agg [.int .i64 0, .int .i64 0, .int .i64 0, .int .i64 0, .int .i64 0, .int .i64 0, .int .i64 0]⟩ := rfl
@[simp] theorem T_49 : T 49 = some ⟨.struct [(0, 3), (1, 2), (2, 2), (3, 2), (4, 2), (5, 2), (6, 2)], 7, 56, .agg [.int .i64 0, .int .i64 0, .int .i64 0, .int .i64 0, .int .i64 0, .int .i64 0, .int .i64 0]⟩ := rfl
@[simp] theorem T_50 : T 50 = some ⟨.func, 1, 8, .nilf⟩ := rfl
@[simp] theorem T_51 : T 51 = some ⟨.slice 64, 1, 24, .nils⟩ := rfl
@[simp] theorem T_52 : T 52 = some ⟨.struct [(0, 51), (1, 29)], 2, 48, .agg [.nils, .nils]⟩ := rfl
@[simp] theorem T_53 : T 53 = some ⟨.struct [(0, 51), (1, 29)], 2, 48, .agg [.nils, .nils]⟩ := rfl
@[simp] theorem T_54 : T 54 = some ⟨.func, 1, 8, .nilf⟩ := rfl
@[simp] theorem T_56 : T 56 = some ⟨.func, 1, 8, .nilf⟩ := rfl
@[simp] theorem T_57 : T 57 = some ⟨.func, 1, 8, .nilf⟩ := rfl
@[simp] theorem T_58 : T 58 = some ⟨.func, 1, 8, .nilf⟩ := rfl
@[simp] theorem T_59 : T 59 = some ⟨.func, 1, 8, .nilf⟩ := rfl
@[simp] theorem T_60 : T 60 = some ⟨.func, 1, 8, .nilf⟩ := rfl
@[simp] theorem T_61 : T 61 = some ⟨.func, 1, 8, .nilf⟩ := rfl
@[simp] theorem T_62 : T 62 = some ⟨.func, 1, 8, .nilf⟩ := rfl
@[simp] theorem T_63 : T 63 = some ⟨.struct [(0, 3), (1, 29)], 2, 32, .agg [.int .i64 0, .nils]⟩ := rfl
@[simp] theorem T_64 : T 64 = some ⟨.struct [(0, 3), (1, 29)], 2, 32, .agg [.int .i64 0, .nils]⟩ := rfl
@[simp] theorem T_65 : T 65 = some ⟨.slice 150, 1, 24, .nils⟩ := rfl
@[simp] theorem T_66 : T 66 = some ⟨.struct [(0, 65), (1, 2), (2, 2), (3, 2)], 4, 48, .agg [.nils, .int .i64 0, .int .i64 0, .int .i64 0]⟩ := rfl
@[simp] theorem T_67 : T 67 = some ⟨.struct [(0, 65), (1, 2), (2, 2), (3, 2)], 4, 48, .agg [.nils, .int .i64 0, .int .i64 0, .int .i64 0]⟩ := rfl
@[simp] theorem T_69 : T 69 = some ⟨.func, 1, 8, .nilf⟩ := rfl
@[simp] theorem T_70 : T 70 = some ⟨.func, 1, 8, .nilf⟩ := rfl
@[simp] theorem T_71 : T 71 = some ⟨.map 3 4, 1, 8, .nilm⟩ := rfl
@[simp] theorem T_72 : T 72 = some ⟨.func, 1, 8, .nilf⟩ := rfl
@[simp] theorem T_73 : T 73 = some ⟨.func, 1, 8, .nilf⟩ := rfl
@[simp] theorem T_74 : T 74 = some ⟨.func, 1, 8, .nilf⟩ := rfl
@[simp] theorem T_75 : T 75 = some ⟨.func, 1, 8, .nilf⟩ := rfl
@[simp] theorem T_76 : T 76 = some ⟨.func, 1, 8, .nilf⟩ := rfl
@[simp] theorem T_77 : T 77 = some ⟨.func, 1, 8, .nilf⟩ := rfl
@[simp] theorem T_78 : T 78 = some ⟨.func, 1, 8, .nilf⟩ := rfl
@[simp] theorem T_79 : T 79 = some ⟨.func, 1, 8, .nilf⟩ := rfl
@[simp] theorem T_80 : T 80 = some ⟨.func, 1, 8, .nilf⟩ := rfl
@[simp] theorem T_81 : T 81 = some ⟨.func, 1, 8, .nilf⟩ := rfl
@[simp] theorem T_82 : T 82 = some ⟨.func, 1, 8, .nilf⟩ := rfl
@[simp] theorem T_83 : T 83 = some ⟨.func, 1, 8, .nilf⟩ := rfl
@[simp] theorem T_84 : T 84 = some ⟨.func, 1, 8, .nilf⟩ := rfl
@[simp] theorem T_86 : T 86 = some ⟨.func, 1, 8, .nilf⟩ := rfl
@[simp] theorem T_87 : T 87 = some ⟨.func, 1, 8, .nilf⟩ := rfl
@[simp] theorem T_88 : T 88 = some ⟨.func, 1, 8, .nilf⟩ := rfl
@[simp] theorem T_89 : T 89 = some ⟨.func, 1, 8, .nilf⟩ := rfl
@[simp] theorem T_90 : T 90 = some ⟨.func, 1, 8, .nilf⟩ := rfl
@[simp] theorem T_91 : T 91 = some ⟨.func, 1, 8, .nilf⟩ := rfl
@[simp] theorem T_92 : T 92 = some ⟨.func, 1, 8, .nilf⟩ := rfl
@[simp] theorem T_93 : T 93 = some ⟨.func, 1, 8, .nilf⟩ := rfl
@[simp] theorem T_94 : T 94 = some ⟨.func, 1, 8, .nilf⟩ := rfl
@[simp] theorem T_95 : T 95 = some ⟨.func, 1, 8, .nilf⟩ := rfl
@[simp] theorem T_96 : T 96 = some ⟨.slice 53, 1, 24, .nils⟩ := rfl
@[simp] theorem T_97 : T 97 = some ⟨.func, 1, 8, .nilf⟩ := rfl
@[simp] theorem T_98 : T 98 = some ⟨.func, 1, 8, .nilf⟩ := rfl
@[simp] theorem T_99 : T 99 = some ⟨.slice 140, 1, 24, .nils⟩ := rfl
@[simp] theorem T_100 : T 100 = some ⟨.struct [(0, 99), (1, 2), (2, 2), (3, 2)], 4, 48, .agg [.nils, .int .i64 0, .int .i64 0, .int .i64 0]⟩ := rfl
@[simp] theorem T_101 : T 101 = some ⟨.struct [(0, 99), (1, 2), (2, 2), (3, 2)], 4, 48, .agg [.nils, .int .i64 0, .int .i64 0, .int .i64 0]⟩ := rfl
@[simp] theorem T_103 : T 103 = some ⟨.func, 1, 8, .nilf⟩ := rfl
@[simp] theorem T_104 : T 104 = some ⟨.func, 1, 8, .nilf⟩ := rfl
@[simp] theorem T_105 : T 105 = some ⟨.func, 1, 8, .nilf⟩ := rfl
@[simp] theorem T_107 : T 107 = some ⟨.func, 1, 8, .nilf⟩ := rfl
@[simp] theorem T_108 : T 108 = some ⟨.struct [(0, 3), (1, 2)], 2, 16, .agg [.int .i64 0, .int .i64 0]⟩ := rfl
@[simp] theorem T_109 : T 109 = some ⟨.struct [(0, 3), (1, 2)], 2, 16, .agg [.int .i64 0, .int .i64 0]⟩ := rfl
@[simp] theorem T_111 : T 111 = some ⟨.func, 1, 8, .nilf⟩ := rfl
@[simp] theorem T_112 : T 112 = some ⟨.func, 1, 8, .nilf⟩ := rfl
@[simp] theorem T_113 : T 113 = some ⟨.struct [(0, 3), (1, 2), (2, 2)], 3, 24, .agg [.int .i64 0, .int .i64 0, .int .i64 0]⟩ := rfl
@[simp] theorem T_114 : T 114 = some ⟨.struct [(0, 3), (1, 2), (2, 2)], 3, 24, .agg [.int .i64 0, .int .i64 0, .int .i64 0]⟩ := rfl
@[simp] theorem T_115 : T 115 = some ⟨.struct [(0, 114), (3, 65)], 4, 48, .agg [.int .i64 0, .int .i64 0, .int .i64 0, .nils]⟩ := rfl
@[simp] theorem T_116 : T 116 = some ⟨.struct [(0, 114), (3, 65)], 4, 48, .agg [.int .i64 0, .int .i64 0, .int .i64 0, .nils]⟩ := rfl
@[simp] theorem T_117 : T 117 = some ⟨.func, 1, 8, .nilf⟩ := rfl
@[simp] theorem T_118 : T 118 = some ⟨.func, 1, 8, .nilf⟩ := rfl
@[simp] theorem T_119 : T 119 = some ⟨.func, 1, 8, .nilf⟩ := rfl
@[simp] theorem T_120 : T 120 = some ⟨.func, 1, 8, .nilf⟩ := rfl
@[simp] theorem T_121 : T 121 = some ⟨.func, 1, 8, .nilf⟩ := rfl
@[simp] theorem T_122 : T 122 = some ⟨.func, 1, 8, .nilf⟩ := rfl
@[simp] theorem T_123 : T 123 = some ⟨.func, 1, 8, .nilf⟩ := rfl
@[simp] theorem T_124 : T 124 = some ⟨.func, 1, 8, .nilf⟩ := rfl
@[simp] theorem T_125 : T 125 = some ⟨.func, 1, 8, .nilf⟩ := rfl
@[simp] theorem T_126 : T 126 = some ⟨.func, 1, 8, .nilf⟩ := rfl
@[simp] theorem T_127 : T 127 = some ⟨.func, 1, 8, .nilf⟩ := rfl
@[simp] theorem T_128 : T 128 = some ⟨.array 2 22, 2, 48, .agg [.nils, .nils]⟩ := rfl
@[simp] theorem T_129 : T 129 = some ⟨.func, 1, 8, .nilf⟩ := rfl
@[simp] theorem T_130 : T 130 = some ⟨.func, 1, 8, .nilf⟩ := rfl
@[simp] theorem T_131 : T 131 = some ⟨.func, 1, 8, .nilf⟩ := rfl
@[simp] theorem T_132 : T 132 = some ⟨.func, 1, 8, .nilf⟩ := rfl
@[simp] theorem T_133 : T 133 = some ⟨.func, 1, 8, .nilf⟩ := rfl
@[simp] theorem T_134 : T 134 = some ⟨.func, 1, 8, .nilf⟩ := rfl
@[simp] theorem T_135 : T 135 = some ⟨.func, 1, 8, .nilf⟩ := rfl
@[simp] theorem T_136 : T 136 = some ⟨.func, 1, 8, .nilf⟩ := rfl
@[simp] theorem T_137 : T 137 = some ⟨.func, 1, 8, .nilf⟩ := rfl
@[simp] theorem T_138 : T 138 = some ⟨.func, 1, 8, .nilf⟩ := rfl
@[simp] theorem T_139 : T 139 = some ⟨.struct [(0, 3), (1, 2), (2, 2), (3, 2)], 4, 32, .agg [.int .i64 0, .int .i64 0, .int .i64 0, .int .i64 0]⟩ := rfl
@[simp] theorem T_140 : T 140 = some ⟨.struct [(0, 3), (1, 2), (2, 2), (3, 2)], 4, 32, .agg [.int .i64 0, .int .i64 0, .int .i64 0, .int .i64 0]⟩ := rfl
@[simp] theorem T_141 : T 141 = some ⟨.func, 1, 8, .nilf⟩ := rfl
@[simp] theorem T_142 : T 142 = some ⟨.func, 1, 8, .nilf⟩ := rfl
@[simp] theorem T_143 : T 143 = some ⟨.func, 1, 8, .nilf⟩ := rfl
@[simp] theorem T_144 : T 144 = some ⟨.int .u64, 1, 8, .int .u64 0⟩ := rfl
@[simp] theorem T_145 : T 145 = some ⟨.func, 1, 8, .nilf⟩ := rfl
@[simp] theorem T_146 : T 146 = some ⟨.func, 1, 8, .nilf⟩ := rfl
@[simp] theorem T_147 : T 147 = some ⟨.func, 1, 8, .nilf⟩ := rfl
@[simp] theorem T_148 : T 148 = some ⟨.func, 1, 8, .nilf⟩ := rfl
@[simp] theorem T_149 : T 149 = some ⟨.ptr 116, 1, 8, .nilp⟩ := rfl
@[simp] theorem T_150 : T 150 = some ⟨.struct [(0, 3), (1, 2), (2, 2), (3, 2)], 4, 32, .agg [.int .i64 0, .int .i64 0, .int .i64 0, .int .i64 0]⟩ := rfl
@[simp] theorem T_151 : T 151 = some ⟨.ptr 114, 1, 8, .nilp⟩ := rfl
@[simp] theorem T_152 : T 152 = some ⟨.func, 1, 8, .nilf⟩ := rfl
@[simp] theorem T_153 : T 153 = some ⟨.func, 1, 8, .nilf⟩ := rfl
@[simp] theorem T_154 : T 154 = some ⟨.struct [(0, 2), (1, 2), (2, 2)], 3, 24, .agg [.int .i64 0, .int .i64 0, .int .i64 0]⟩ := rfl
@[simp] theorem T_155 : T 155 = some ⟨.struct [(0, 2), (1, 2), (2, 2)], 3, 24, .agg [.int .i64 0, .int .i64 0, .int .i64 0]⟩ := rfl
@[simp] theorem T_156 : T 156 = some ⟨.func, 1, 8, .nilf⟩ := rfl
@[simp] theorem T_157 : T 157 = some ⟨.int .i64, 1, 8, .int .i64 0⟩ := rfl
@[simp] theorem T_159 : T 159 = some ⟨.func, 1, 8, .nilf⟩ := rfl
@[simp] theorem T_160 : T 160 = some ⟨.func, 1, 8, .nilf⟩ := rfl
@[simp] theorem T_161 : T 161 = some ⟨.func, 1, 8, .nilf⟩ := rfl
@[simp] theorem T_162 : T 162 = some ⟨.func, 1, 8, .nilf⟩ := rfl
@[simp] theorem T_163 : T 163 = some ⟨.func, 1, 8, .nilf⟩ := rfl
@[simp] theorem T_164 : T 164 = some ⟨.int .u32, 1, 4, .int .u32 0⟩ := rfl
@[simp] theorem T_165 : T 165 = some ⟨.func, 1, 8, .nilf⟩ := rfl
@[simp] theorem T_166 : T 166 = some ⟨.int .u64, 1, 8, .int .u64 0⟩ := rfl
@[simp] theorem T_167 : T 167 = some ⟨.slice 155, 1, 24, .nils⟩ := rfl
@[simp] theorem T_168 : T 168 = some ⟨.func, 1, 8, .nilf⟩ := rfl
@[simp] theorem T_169 : T 169 = some ⟨.func, 1, 8, .nilf⟩ := rfl
@[simp] theorem T_170 : T 170 = some ⟨.int .u64, 1, 8, .int .u64 0⟩ := rfl
@[simp] theorem T_171 : T 171 = some ⟨.func, 1, 8, .nilf⟩ := rfl
@[simp] theorem T_172 : T 172 = some ⟨.func, 1, 8, .nilf⟩ := rfl
@[simp] theorem T_173 : T 173 = some ⟨.func, 1, 8, .nilf⟩ := rfl
@[simp] theorem T_174 : T 174 = some ⟨.ptr 3, 1, 8, .nilp⟩ := rfl
@[simp] theorem T_175 : T 175 = some ⟨.func, 1, 8, .nilf⟩ := rfl
@[simp] theorem T_176 : T 176 = some ⟨.func, 1, 8, .nilf⟩ := rfl
@[simp] theorem T_177 : T 177 = some ⟨.ptr 170, 1, 8, .nilp⟩ := rfl
@[simp] theorem T_179 : T 179 = some ⟨.func, 1, 8, .nilf⟩ := rfl
@[simp] theorem T_180 : T 180 = some ⟨.func, 1, 8, .nilf⟩ := rfl
@[simp] theorem T_186 : T 186 = some ⟨.func, 1, 8, .nilf⟩ := rfl
@[simp] theorem T_187 : T 187 = some ⟨.int .u8, 1, 1, .int .u8 0⟩ := rfl
@[simp] theorem T_188 : T 188 = some ⟨.int .u8, 1, 1, .int .u8 0⟩ := rfl
@[simp] theorem T_189 : T 189 = some ⟨.func, 1, 8, .nilf⟩ := rfl
@[simp] theorem T_190 : T 190 = some ⟨.ptr 5, 1, 8, .nilp⟩ := rfl
@[simp] theorem T_191 : T 191 = some ⟨.int .i32, 1, 4, .int .i32 0⟩ := rfl
@[simp] theorem T_192 : T 192 = some ⟨.int .i32, 1, 4, .int .i32 0⟩ := rfl

abbrev TRow (t : Nat) (i : TI) : Prop := ∃ info d z, Try.prog.info? t = some info ∧ Try.prog.underlying t = some d ∧ kindOf d = i.k ∧ info.size = i.size ∧ info.bytes = i.bytes ∧ info.zero = some z ∧ vconst z = i.zero ∧ i.zero.known = true ∧ i.zero.cells.length = i.size
theorem row_1 : TRow 1 ⟨.func, 1, 8, .nilf⟩ := ⟨Try.t1, _, _, by kernel_rfl, Try.underlying1, rfl, rfl, rfl, rfl, rfl, rfl, rfl⟩
theorem row_2 : TRow 2 ⟨.int .i64, 1, 8, .int .i64 0⟩ := ⟨Try.t2, _, _, by kernel_rfl, Try.underlying2, rfl, rfl, rfl, rfl, rfl, rfl, rfl⟩
theorem row_3 : TRow 3 ⟨.int .i64, 1, 8, .int .i64 0⟩ := ⟨Try.t3, _, _, by kernel_rfl, Try.underlying3, rfl, rfl, rfl, rfl, rfl, rfl, rfl⟩
theorem row_4 : TRow 4 ⟨.bool, 1, 1, .bool false⟩ := ⟨Try.t4, _, _, by kernel_rfl, Try.underlying4, rfl, rfl, rfl, rfl, rfl, rfl, rfl⟩
theorem row_5 : TRow 5 ⟨.int .u8, 1, 1, .int .u8 0⟩ := ⟨Try.t5, _, _, by kernel_rfl, Try.underlying5, rfl, rfl, rfl, rfl, rfl, rfl, rfl⟩
theorem row_6 : TRow 6 ⟨.int .u8, 1, 1, .int .u8 0⟩ := ⟨Try.t6, _, _, by kernel_rfl, Try.underlying6, rfl, rfl, rfl, rfl, rfl, rfl, rfl⟩
theorem row_7 : TRow 7 ⟨.struct [(0, 2), (1, 3), (2, 4), (3, 6)], 4, 24, .agg [.int .i64 0, .int .i64 0, .bool false, .int .u8 0]⟩ := ⟨Try.t7, _, _, by kernel_rfl, Try.underlying7, rfl, rfl, rfl, rfl, rfl, rfl, rfl⟩
theorem row_8 : TRow 8 ⟨.struct [(0, 2), (1, 3), (2, 4), (3, 6)], 4, 24, .agg [.int .i64 0, .int .i64 0, .bool false, .int .u8 0]⟩ := ⟨Try.t8, _, _, by kernel_rfl, Try.underlying8, rfl, rfl, rfl, rfl, rfl, rfl, rfl⟩
theorem row_9 : TRow 9 ⟨.string, 1, 16, .str ⟨#[]⟩⟩ := ⟨Try.t9, _, _, by kernel_rfl, Try.underlying9, rfl, rfl, rfl, rfl, rfl, rfl, rfl⟩
theorem row_10 : TRow 10 ⟨.string, 1, 16, .str ⟨#[]⟩⟩ := ⟨Try.t10, _, _, by kernel_rfl, Try.underlying10, rfl, rfl, rfl, rfl, rfl, rfl, rfl⟩
theorem row_11 : TRow 11 ⟨.string, 1, 16, .str ⟨#[]⟩⟩ := ⟨Try.t11, _, _, by kernel_rfl, Try.underlying11, rfl, rfl, rfl, rfl, rfl, rfl, rfl⟩
theorem row_12 : TRow 12 ⟨.int .u64, 1, 8, .int .u64 0⟩ := ⟨Try.t12, _, _, by kernel_rfl, Try.underlying12, rfl, rfl, rfl, rfl, rfl, rfl, rfl⟩
theorem row_15 : TRow 15 ⟨.ptr 182, 1, 8, .nilp⟩ := ⟨Try.t15, _, _, by kernel_rfl, Try.underlying15, rfl, rfl, rfl, rfl, rfl, rfl, rfl⟩
theorem row_16 : TRow 16 ⟨.ptr 185, 1, 8, .nilp⟩ := ⟨Try.t16, _, _, by kernel_rfl, Try.underlying16, rfl, rfl, rfl, rfl, rfl, rfl, rfl⟩
theorem row_17 : TRow 17 ⟨.ptr 194, 1, 8, .nilp⟩ := ⟨Try.t17, _, _, by kernel_rfl, Try.underlying17, rfl, rfl, rfl, rfl, rfl, rfl, rfl⟩
theorem row_21 : TRow 21 ⟨.int .i32, 1, 4, .int .i32 0⟩ := ⟨Try.t21, _, _, by kernel_rfl, Try.underlying21, rfl, rfl, rfl, rfl, rfl, rfl, rfl⟩
theorem row_22 : TRow 22 ⟨.slice 2, 1, 24, .nils⟩ := ⟨Try.t22, _, _, by kernel_rfl, Try.underlying22, rfl, rfl, rfl, rfl, rfl, rfl, rfl⟩
theorem row_23 : TRow 23 ⟨.struct [(0, 3), (1, 22), (2, 22)], 3, 56, .agg [.int .i64 0, .nils, .nils]⟩ := ⟨Try.t23, _, _, by kernel_rfl, Try.underlying23, rfl, rfl, rfl, rfl, rfl, rfl, rfl⟩
theorem row_24 : TRow 24 ⟨.struct [(0, 3), (1, 22), (2, 22)], 3, 56, .agg [.int .i64 0, .nils, .nils]⟩ := ⟨Try.t24, _, _, by kernel_rfl, Try.underlying24, rfl, rfl, rfl, rfl, rfl, rfl, rfl⟩
theorem row_25 : TRow 25 ⟨.slice 47, 1, 24, .nils⟩ := ⟨Try.t25, _, _, by kernel_rfl, Try.underlying25, rfl, rfl, rfl, rfl, rfl, rfl, rfl⟩
theorem row_26 : TRow 26 ⟨.slice 49, 1, 24, .nils⟩ := ⟨Try.t26, _, _, by kernel_rfl, Try.underlying26, rfl, rfl, rfl, rfl, rfl, rfl, rfl⟩
theorem row_27 : TRow 27 ⟨.struct [(0, 24), (3, 25), (4, 26)], 5, 104, .agg [.int .i64 0, .nils, .nils, .nils, .nils]⟩ := ⟨Try.t27, _, _, by kernel_rfl, Try.underlying27, rfl, rfl, rfl, rfl, rfl, rfl, rfl⟩
theorem row_28 : TRow 28 ⟨.struct [(0, 24), (3, 25), (4, 26)], 5, 104, .agg [.int .i64 0, .nils, .nils, .nils, .nils]⟩ := ⟨Try.t28, _, _, by kernel_rfl, Try.underlying28, rfl, rfl, rfl, rfl, rfl, rfl, rfl⟩
theorem row_29 : TRow 29 ⟨.slice 3, 1, 24, .nils⟩ := ⟨Try.t29, _, _, by kernel_rfl, Try.underlying29, rfl, rfl, rfl, rfl, rfl, rfl, rfl⟩
theorem row_30 : TRow 30 ⟨.struct [(0, 29), (1, 22), (2, 2), (3, 2), (4, 2), (5, 2)], 6, 80, .agg [.nils, .nils, .int .i64 0, .int .i64 0, .int .i64 0, .int .i64 0]⟩ := ⟨Try.t30, _, _, by kernel_rfl, Try.underlying30, rfl, rfl, rfl, rfl, rfl, rfl, rfl⟩
theorem row_31 : TRow 31 ⟨.struct [(0, 29), (1, 22), (2, 2), (3, 2), (4, 2), (5, 2)], 6, 80, .agg [.nils, .nils, .int .i64 0, .int .i64 0, .int .i64 0, .int .i64 0]⟩ := ⟨Try.t31, _, _, by kernel_rfl, Try.underlying31, rfl, rfl, rfl, rfl, rfl, rfl, rfl⟩
theorem row_32 : TRow 32 ⟨.func, 1, 8, .nilf⟩ := ⟨Try.t32, _, _, by kernel_rfl, Try.underlying32, rfl, rfl, rfl, rfl, rfl, rfl, rfl⟩
theorem row_33 : TRow 33 ⟨.func, 1, 8, .nilf⟩ := ⟨Try.t33, _, _, by kernel_rfl, Try.underlying33, rfl, rfl, rfl, rfl, rfl, rfl, rfl⟩
theorem row_34 : TRow 34 ⟨.int .i64, 1, 8, .int .i64 0⟩ := ⟨Try.t34, _, _, by kernel_rfl, Try.underlying34, rfl, rfl, rfl, rfl, rfl, rfl, rfl⟩
theorem row_36 : TRow 36 ⟨.func, 1, 8, .nilf⟩ := ⟨Try.t36, _, _, by kernel_rfl, Try.underlying36, rfl, rfl, rfl, rfl, rfl, rfl, rfl⟩
theorem row_37 : TRow 37 ⟨.struct [(0, 29), (1, 22), (2, 2), (3, 2), (4, 2), (5, 2)], 6, 80, .agg [.nils, .nils, .int .i64 0, .int .i64 0, .int .i64 0, .int .i64 0]⟩ := ⟨Try.t37, _, _, by kernel_rfl, Try.underlying37, rfl, rfl, rfl, rfl, rfl, rfl, rfl⟩
theorem row_39 : TRow 39 ⟨.func, 1, 8, .nilf⟩ := ⟨Try.t39, _, _, by kernel_rfl, Try.underlying39, rfl, rfl, rfl, rfl, rfl, rfl, rfl⟩
theorem row_40 : TRow 40 ⟨.func, 1, 8, .nilf⟩ := ⟨Try.t40, _, _, by kernel_rfl, Try.underlying40, rfl, rfl, rfl, rfl, rfl, rfl, rfl⟩
theorem row_41 : TRow 41 ⟨.func, 1, 8, .nilf⟩ := ⟨Try.t41, _, _, by kernel_rfl, Try.underlying41, rfl, rfl, rfl, rfl, rfl, rfl, rfl⟩
theorem row_42 : TRow 42 ⟨.func, 1, 8, .nilf⟩ := ⟨Try.t42, _, _, by kernel_rfl, Try.underlying42, rfl, rfl, rfl, rfl, rfl, rfl, rfl⟩
theorem row_43 : TRow 43 ⟨.func, 1, 8, .nilf⟩ := ⟨Try.t43, _, _, by kernel_rfl, Try.underlying43, rfl, rfl, rfl, rfl, rfl, rfl, rfl⟩
theorem row_44 : TRow 44 ⟨.func, 1, 8, .nilf⟩ := ⟨Try.t44, _, _, by kernel_rfl, Try.underlying44, rfl, rfl, rfl, rfl, rfl, rfl, rfl⟩
theorem row_45 : TRow 45 ⟨.map 3 3, 1, 8, .nilm⟩ := ⟨Try.t45, _, _, by kernel_rfl, Try.underlying45, rfl, rfl, rfl, rfl, rfl, rfl, rfl⟩
theorem row_46 : TRow 46 ⟨.struct [(0, 3), (1, 3), (2, 3), (3, 2), (4, 2), (5, 2), (6, 2), (7, 2)], 8, 64, .agg [.int .i64 0, .int .i64 0, .int .i64 0, .int .i64 0, .int .i64 0, .int .i64 0, .int .i64 0, .int .i64 0]⟩ := ⟨Try.t46, _, _, by kernel_rfl, Try.underlying46, rfl, rfl, rfl, rfl, rfl, rfl, rfl⟩
theorem row_47 : TRow 47 ⟨.struct [(0, 3), (1, 3), (2, 3), (3, 2), (4, 2), (5, 2), (6, 2), (7, 2)], 8, 64, .agg [.int .i64 0, .int .i64 0, .int .i64 0, .int .i64 0, .int .i64 0, .int .i64 0, .int .i64 0, .int .i64 0]⟩ := ⟨Try.t47, _, _, by kernel_rfl, Try.underlying47, rfl, rfl, rfl, rfl, rfl, rfl, rfl⟩
theorem row_48 : TRow 48 ⟨.struct [(0, 3), (1, 2), (2, 2), (3, 2), (4, 2), (5, 2), (6, 2)], 7, 56, .agg [.int .i64 0, .int .i64 0, .int .i64 0, .int .i64 0, .int .i64 0, .int .i64 0, .int .i64 0]⟩ := ⟨Try.t48, _, _, by kernel_rfl, Try.underlying48, rfl, rfl, rfl, rfl, rfl, rfl, rfl⟩
theorem row_49 : TRow 49 ⟨.struct [(0, 3), (1, 2), (2, 2), (3, 2), (4, 2), (5, 2), (6, 2)], 7, 56, .agg [.int .i64 0, .int .i64 0, .int .i64 0, .int .i64 0, .int .i64 0, .int .i64 0, .int .i64 0]⟩ := ⟨Try.t49, _, _, by kernel_rfl, Try.underlying49, rfl, rfl, rfl, rfl, rfl, rfl, rfl⟩
theorem row_50 : TRow 50 ⟨.func, 1, 8, .nilf⟩ := ⟨Try.t50, _, _, by kernel_rfl, Try.underlying50, rfl, rfl, rfl, rfl, rfl, rfl, rfl⟩
theorem row_51 : TRow 51 ⟨.slice 64, 1, 24, .nils⟩ := ⟨Try.t51, _, _, by kernel_rfl, Try.underlying51, rfl, rfl, rfl, rfl, rfl, rfl, rfl⟩
theorem row_52 : TRow 52 ⟨.struct [(0, 51), (1, 29)], 2, 48, .agg [.nils, .nils]⟩ := ⟨Try.t52, _, _, by kernel_rfl, Try.underlying52, rfl, rfl, rfl, rfl, rfl, rfl, rfl⟩
theorem row_53 : TRow 53 ⟨.struct [(0, 51), (1, 29)], 2, 48, .agg [.nils, .nils]⟩ := ⟨Try.t53, _, _, by kernel_rfl, Try.underlying53, rfl, rfl, rfl, rfl, rfl, rfl, rfl⟩
theorem row_54 : TRow 54 ⟨.func, 1, 8, .nilf⟩ := ⟨Try.t54, _, _, by kernel_rfl, Try.underlying54, rfl, rfl, rfl, rfl, rfl, rfl, rfl⟩
theorem row_56 : TRow 56 ⟨.func, 1, 8, .nilf⟩ := ⟨Try.t56, _, _, by kernel_rfl, Try.underlying56, rfl, rfl, rfl, rfl, rfl, rfl, rfl⟩
theorem row_57 : TRow 57 ⟨.func, 1, 8, .nilf⟩ := ⟨Try.t57, _, _, by kernel_rfl, Try.underlying57, rfl, rfl, rfl, rfl, rfl, rfl, rfl⟩
theorem row_58 : TRow 58 ⟨.func, 1, 8, .nilf⟩ := ⟨Try.t58, _, _, by kernel_rfl, Try.underlying58, rfl, rfl, rfl, rfl, rfl, rfl, rfl⟩
theorem row_59 : TRow 59 ⟨.func, 1, 8, .nilf⟩ := ⟨Try.t59, _, _, by kernel_rfl, Try.underlying59, rfl, rfl, rfl, rfl, rfl, rfl, rfl⟩
theorem row_60 : TRow 60 ⟨.func, 1, 8, .nilf⟩ := ⟨Try.t60, _, _, by kernel_rfl, Try.underlying60, rfl, rfl, rfl, rfl, rfl, rfl, rfl⟩
theorem row_61 : TRow 61 ⟨.func, 1, 8, .nilf⟩ := ⟨Try.t61, _, _, by kernel_rfl, Try.underlying61, rfl, rfl, rfl, rfl, rfl, rfl, rfl⟩
theorem row_62 : TRow 62 ⟨.func, 1, 8, .nilf⟩ := ⟨Try.t62, _, _, by kernel_rfl, Try.underlying62, rfl, rfl, rfl, rfl, rfl, rfl, rfl⟩
theorem row_63 : TRow 63 ⟨.struct [(0, 3), (1, 29)], 2, 32, .agg [.int .i64 0, .nils]⟩ := ⟨Try.t63, _, _, by kernel_rfl, Try.underlying63, rfl, rfl, rfl, rfl, rfl, rfl, rfl⟩
theorem row_64 : TRow 64 ⟨.struct [(0, 3), (1, 29)], 2, 32, .agg [.int .i64 0, .nils]⟩ := ⟨Try.t64, _, _, by kernel_rfl, Try.underlying64, rfl, rfl, rfl, rfl, rfl, rfl, rfl⟩
theorem row_65 : TRow 65 ⟨.slice 150, 1, 24, .nils⟩ := ⟨Try.t65, _, _, by kernel_rfl, Try.underlying65, rfl, rfl, rfl, rfl, rfl, rfl, rfl⟩
theorem row_66 : TRow 66 ⟨.struct [(0, 65), (1, 2), (2, 2), (3, 2)], 4, 48, .agg [.nils, .int .i64 0, .int .i64 0, .int .i64 0]⟩ := ⟨Try.t66, _, _, by kernel_rfl, Try.underlying66, rfl, rfl, rfl, rfl, rfl, rfl, rfl⟩
theorem row_67 : TRow 67 ⟨.struct [(0, 65), (1, 2), (2, 2), (3, 2)], 4, 48, .agg [.nils, .int .i64 0, .int .i64 0, .int .i64 0]⟩ := ⟨Try.t67, _, _, by kernel_rfl, Try.underlying67, rfl, rfl, rfl, rfl, rfl, rfl, rfl⟩
theorem row_69 : TRow 69 ⟨.func, 1, 8, .nilf⟩ := ⟨Try.t69, _, _, by kernel_rfl, Try.underlying69, rfl, rfl, rfl, rfl, rfl, rfl, rfl⟩
theorem row_70 : TRow 70 ⟨.func, 1, 8, .nilf⟩ := ⟨Try.t70, _, _, by kernel_rfl, Try.underlying70, rfl, rfl, rfl, rfl, rfl, rfl, rfl⟩
theorem row_71 : TRow 71 ⟨.map 3 4, 1, 8, .nilm⟩ := ⟨Try.t71, _, _, by kernel_rfl, Try.underlying71, rfl, rfl, rfl, rfl, rfl, rfl, rfl⟩
theorem row_72 : TRow 72 ⟨.func, 1, 8, .nilf⟩ := ⟨Try.t72, _, _, by kernel_rfl, Try.underlying72, rfl, rfl, rfl, rfl, rfl, rfl, rfl⟩
theorem row_73 : TRow 73 ⟨.func, 1, 8, .nilf⟩ := ⟨Try.t73, _, _, by kernel_rfl, Try.underlying73, rfl, rfl, rfl, rfl, rfl, rfl, rfl⟩
theorem row_74 : TRow 74 ⟨.func, 1, 8, .nilf⟩ := ⟨Try.t74, _, _, by kernel_rfl, Try.underlying74, rfl, rfl, rfl, rfl, rfl, rfl, rfl⟩
theorem row_75 : TRow 75 ⟨.func, 1, 8, .nilf⟩ := ⟨Try.t75, _, _, by kernel_rfl, Try.underlying75, rfl, rfl, rfl, rfl, rfl, rfl, rfl⟩
theorem row_76 : TRow 76 ⟨.func, 1, 8, .nilf⟩ := ⟨Try.t76, _, _, by kernel_rfl, Try.underlying76, rfl, rfl, rfl, rfl, rfl, rfl, rfl⟩
theorem row_77 : TRow 77 ⟨.func, 1, 8, .nilf⟩ := ⟨Try.t77, _, _, by kernel_rfl, Try.underlying77, rfl, rfl, rfl, rfl, rfl, rfl, rfl⟩
theorem row_78 : TRow 78 ⟨.func, 1, 8, .nilf⟩ := ⟨Try.t78, _, _, by kernel_rfl, Try.underlying78, rfl, rfl, rfl, rfl, rfl, rfl, rfl⟩
theorem row_79 : TRow 79 ⟨.func, 1, 8, .nilf⟩ := ⟨Try.t79, _, _, by kernel_rfl, Try.underlying79, rfl, rfl, rfl, rfl, rfl, rfl, rfl⟩
theorem row_80 : TRow 80 ⟨.func, 1, 8, .nilf⟩ := ⟨Try.t80, _, _, by kernel_rfl, Try.underlying80, rfl, rfl, rfl, rfl, rfl, rfl, rfl⟩
theorem row_81 : TRow 81 ⟨.func, 1, 8, .nilf⟩ := ⟨Try.t81, _, _, by kernel_rfl, Try.underlying81, rfl, rfl, rfl, rfl, rfl, rfl, rfl⟩
theorem row_82 : TRow 82 ⟨.func, 1, 8, .nilf⟩ := ⟨Try.t82, _, _, by kernel_rfl, Try.underlying82, rfl, rfl, rfl, rfl, rfl, rfl, rfl⟩
theorem row_83 : TRow 83 ⟨.func, 1, 8, .nilf⟩ := ⟨Try.t83, _, _, by kernel_rfl, Try.underlying83, rfl, rfl, rfl, rfl, rfl, rfl, rfl⟩
theorem row_84 : TRow 84 ⟨.func, 1, 8, .nilf⟩ := ⟨Try.t84, _, _, by kernel_rfl, Try.underlying84, rfl, rfl, rfl, rfl, rfl, rfl, rfl⟩
theorem row_86 : TRow 86 ⟨.func, 1, 8, .nilf⟩ := ⟨Try.t86, _, _, by kernel_rfl, Try.underlying86, rfl, rfl, rfl, rfl, rfl, rfl, rfl⟩
theorem row_87 : TRow 87 ⟨.func, 1, 8, .nilf⟩ := ⟨Try.t87, _, _, by kernel_rfl, Try.underlying87, rfl, rfl, rfl, rfl, rfl, rfl, rfl⟩
theorem row_88 : TRow 88 ⟨.func, 1, 8, .nilf⟩ := ⟨Try.t88, _, _, by kernel_rfl, Try.underlying88, rfl, rfl, rfl, rfl, rfl, rfl, rfl⟩
theorem row_89 : TRow 89 ⟨.func, 1, 8, .nilf⟩ := ⟨Try.t89, _, _, by kernel_rfl, Try.underlying89, rfl, rfl, rfl, rfl, rfl, rfl, rfl⟩
theorem row_90 : TRow 90 ⟨.func, 1, 8, .nilf⟩ := ⟨Try.t90, _, _, by kernel_rfl, Try.underlying90, rfl, rfl, rfl, rfl, rfl, rfl, rfl⟩
theorem row_91 : TRow 91 ⟨.func, 1, 8, .nilf⟩ := ⟨Try.t91, _, _, by kernel_rfl, Try.underlying91, rfl, rfl, rfl, rfl, rfl, rfl, rfl⟩
theorem row_92 : TRow 92 ⟨.func, 1, 8, .nilf⟩ := ⟨Try.t92, _, _, by kernel_rfl, Try.underlying92, rfl, rfl, rfl, rfl, rfl, rfl, rfl⟩
theorem row_93 : TRow 93 ⟨.func, 1, 8, .nilf⟩ := ⟨Try.t93, _, _, by kernel_rfl, Try.underlying93, rfl, rfl, rfl, rfl, rfl, rfl, rfl⟩
theorem row_94 : TRow 94 ⟨.func, 1, 8, .nilf⟩ := ⟨Try.t94, _, _, by kernel_rfl, Try.underlying94, rfl, rfl, rfl, rfl, rfl, rfl, rfl⟩
theorem row_95 : TRow 95 ⟨.func, 1, 8, .nilf⟩ := ⟨Try.t95, _, _, by kernel_rfl, Try.underlying95, rfl, rfl, rfl, rfl, rfl, rfl, rfl⟩
theorem row_96 : TRow 96 ⟨.slice 53, 1, 24, .nils⟩ := ⟨Try.t96, _, _, by kernel_rfl, Try.underlying96, rfl, rfl, rfl, rfl, rfl, rfl, rfl⟩
theorem row_97 : TRow 97 ⟨.func, 1, 8, .nilf⟩ := ⟨Try.t97, _, _, by kernel_rfl, Try.underlying97, rfl, rfl, rfl, rfl, rfl, rfl, rfl⟩
theorem row_98 : TRow 98 ⟨.func, 1, 8, .nilf⟩ := ⟨Try.t98, _, _, by kernel_rfl, Try.underlying98, rfl, rfl, rfl, rfl, rfl, rfl, rfl⟩
theorem row_99 : TRow 99 ⟨.slice 140, 1, 24, .nils⟩ := ⟨Try.t99, _, _, by kernel_rfl, Try.underlying99, rfl, rfl, rfl, rfl, rfl, rfl, rfl⟩
theorem row_100 : TRow 100 ⟨.struct [(0, 99), (1, 2), (2, 2), (3, 2)], 4, 48, .agg [.nils, .int .i64 0, .int .i64 0, .int .i64 0]⟩ := ⟨Try.t100, _, _, by kernel_rfl, Try.underlying100, rfl, rfl, rfl, rfl, rfl, rfl, rfl⟩
theorem row_101 : TRow 101 ⟨.struct [(0, 99), (1, 2), (2, 2), (3, 2)], 4, 48, .agg [.nils, .int .i64 0, .int .i64 0, .int .i64 0]⟩ := ⟨Try.t101, _, _, by kernel_rfl, Try.underlying101, rfl, rfl, rfl, rfl, rfl, rfl, rfl⟩
theorem row_103 : TRow 103 ⟨.func, 1, 8, .nilf⟩ := ⟨Try.t103, _, _, by kernel_rfl, Try.underlying103, rfl, rfl, rfl, rfl, rfl, rfl, rfl⟩
theorem row_104 : TRow 104 ⟨.func, 1, 8, .nilf⟩ := ⟨Try.t104, _, _, by kernel_rfl, Try.underlying104, rfl, rfl, rfl, rfl, rfl, rfl, rfl⟩
theorem row_105 : TRow 105 ⟨.func, 1, 8, .nilf⟩ := ⟨Try.t105, _, _, by kernel_rfl, Try.underlying105, rfl, rfl, rfl, rfl, rfl, rfl, rfl⟩
theorem row_107 : TRow 107 ⟨.func, 1, 8, .nilf⟩ := ⟨Try.t107, _, _, by kernel_rfl, Try.underlying107, rfl, rfl, rfl, rfl, rfl, rfl, rfl⟩
theorem row_108 : TRow 108 ⟨.struct [(0, 3), (1, 2)], 2, 16, .agg [.int .i64 0, .int .i64 0]⟩ := ⟨Try.t108, _, _, by kernel_rfl, Try.underlying108, rfl, rfl, rfl, rfl, rfl, rfl, rfl⟩
theorem row_109 : TRow 109 ⟨.struct [(0, 3), (1, 2)], 2, 16, .agg [.int .i64 0, .int .i64 0]⟩ := ⟨Try.t109, _, _, by kernel_rfl, Try.underlying109, rfl, rfl, rfl, rfl, rfl, rfl, rfl⟩
theorem row_111 : TRow 111 ⟨.func, 1, 8, .nilf⟩ := ⟨Try.t111, _, _, by kernel_rfl, Try.underlying111, rfl, rfl, rfl, rfl, rfl, rfl, rfl⟩
theorem row_112 : TRow 112 ⟨.func, 1, 8, .nilf⟩ := ⟨Try.t112, _, _, by kernel_rfl, Try.underlying112, rfl, rfl, rfl, rfl, rfl, rfl, rfl⟩
theorem row_113 : TRow 113 ⟨.struct [(0, 3), (1, 2), (2, 2)], 3, 24, .agg [.int .i64 0, .int .i64 0, .int .i64 0]⟩ := ⟨Try.t113, _, _, by kernel_rfl, Try.underlying113, rfl, rfl, rfl, rfl, rfl, rfl, rfl⟩
theorem row_114 : TRow 114 ⟨.struct [(0, 3), (1, 2), (2, 2)], 3, 24, .agg [.int .i64 0, .int .i64 0, .int .i64 0]⟩ := ⟨Try.t114, _, _, by kernel_rfl, Try.underlying114, rfl, rfl, rfl, rfl, rfl, rfl, rfl⟩
theorem row_115 : TRow 115 ⟨.struct [(0, 114), (3, 65)], 4, 48, .agg [.int .i64 0, .int .i64 0, .int .i64 0, .nils]⟩ := ⟨Try.t115, _, _, by kernel_rfl, Try.underlying115, rfl, rfl, rfl, rfl, rfl, rfl, rfl⟩
theorem row_116 : TRow 116 ⟨.struct [(0, 114), (3, 65)], 4, 48, .agg [.int .i64 0, .int .i64 0, .int .i64 0, .nils]⟩ := ⟨Try.t116, _, _, by kernel_rfl, Try.underlying116, rfl, rfl, rfl, rfl, rfl, rfl, rfl⟩
theorem row_117 : TRow 117 ⟨.func, 1, 8, .nilf⟩ := ⟨Try.t117, _, _, by kernel_rfl, Try.underlying117, rfl, rfl, rfl, rfl, rfl, rfl, rfl⟩
theorem row_118 : TRow 118 ⟨.func, 1, 8, .nilf⟩ := ⟨Try.t118, _, _, by kernel_rfl, Try.underlying118, rfl, rfl, rfl, rfl, rfl, rfl, rfl⟩
theorem row_119 : TRow 119 ⟨.func, 1, 8, .nilf⟩ := ⟨Try.t119, _, _, by kernel_rfl, Try.underlying119, rfl, rfl, rfl, rfl, rfl, rfl, rfl⟩
theorem row_120 : TRow 120 ⟨.func, 1, 8, .nilf⟩ := ⟨Try.t120, _, _, by kernel_rfl, Try.underlying120, rfl, rfl, rfl, rfl, rfl, rfl, rfl⟩
theorem row_121 : TRow 121 ⟨.func, 1, 8, .nilf⟩ := ⟨Try.t121, _, _, by kernel_rfl, Try.underlying121, rfl, rfl, rfl, rfl, rfl, rfl, rfl⟩
theorem row_122 : TRow 122 ⟨.func, 1, 8, .nilf⟩ := ⟨Try.t122, _, _, by kernel_rfl, Try.underlying122, rfl, rfl, rfl, rfl, rfl, rfl, rfl⟩
theorem row_123 : TRow 123 ⟨.func, 1, 8, .nilf⟩ := ⟨Try.t123, _, _, by kernel_rfl, Try.underlying123, rfl, rfl, rfl, rfl, rfl, rfl, rfl⟩
theorem row_124 : TRow 124 ⟨.func, 1, 8, .nilf⟩ := ⟨Try.t124, _, _, by kernel_rfl, Try.underlying124, rfl, rfl, rfl, rfl, rfl, rfl, rfl⟩
theorem row_125 : TRow 125 ⟨.func, 1, 8, .nilf⟩ := ⟨Try.t125, _, _, by kernel_rfl, Try.underlying125, rfl, rfl, rfl, rfl, rfl, rfl, rfl⟩
theorem row_126 : TRow 126 ⟨.func, 1, 8, .nilf⟩ := ⟨Try.t126, _, _, by kernel_rfl, Try.underlying126, rfl, rfl, rfl, rfl, rfl, rfl, rfl⟩
theorem row_127 : TRow 127 ⟨.func, 1, 8, .nilf⟩ := ⟨Try.t127, _, _, by kernel_rfl, Try.underlying127, rfl, rfl, rfl, rfl, rfl, rfl, rfl⟩
theorem row_128 : TRow 128 ⟨.array 2 22, 2, 48, .agg [.nils, .nils]⟩ := ⟨Try.t128, _, _, by kernel_rfl, Try.underlying128, rfl, rfl, rfl, rfl, rfl, rfl, rfl⟩
theorem row_129 : TRow 129 ⟨.func, 1, 8, .nilf⟩ := ⟨Try.t129, _, _, by kernel_rfl, Try.underlying129, rfl, rfl, rfl, rfl, rfl, rfl, rfl⟩
theorem row_130 : TRow 130 ⟨.func, 1, 8, .nilf⟩ := ⟨Try.t130, _, _, by kernel_rfl, Try.underlying130, rfl, rfl, rfl, rfl, rfl, rfl, rfl⟩
theorem row_131 : TRow 131 ⟨.func, 1, 8, .nilf⟩ := ⟨Try.t131, _, _, by kernel_rfl, Try.underlying131, rfl, rfl, rfl, rfl, rfl, rfl, rfl⟩
theorem row_132 : TRow 132 ⟨.func, 1, 8, .nilf⟩ := ⟨Try.t132, _, _, by kernel_rfl, Try.underlying132, rfl, rfl, rfl, rfl, rfl, rfl, rfl⟩
theorem row_133 : TRow 133 ⟨.func, 1, 8, .nilf⟩ := ⟨Try.t133, _, _, by kernel_rfl, Try.underlying133, rfl, rfl, rfl, rfl, rfl, rfl, rfl⟩
theorem row_134 : TRow 134 ⟨.func, 1, 8, .nilf⟩ := ⟨Try.t134, _, _, by kernel_rfl, Try.underlying134, rfl, rfl, rfl, rfl, rfl, rfl, rfl⟩
theorem row_135 : TRow 135 ⟨.func, 1, 8, .nilf⟩ := ⟨Try.t135, _, _, by kernel_rfl, Try.underlying135, rfl, rfl, rfl, rfl, rfl, rfl, rfl⟩
theorem row_136 : TRow 136 ⟨.func, 1, 8, .nilf⟩ := ⟨Try.t136, _, _, by kernel_rfl, Try.underlying136, rfl, rfl, rfl, rfl, rfl, rfl, rfl⟩
theorem row_137 : TRow 137 ⟨.func, 1, 8, .nilf⟩ := ⟨Try.t137, _, _, by kernel_rfl, Try.underlying137, rfl, rfl, rfl, rfl, rfl, rfl, rfl⟩
theorem row_138 : TRow 138 ⟨.func, 1, 8, .nilf⟩ := ⟨Try.t138, _, _, by kernel_rfl, Try.underlying138, rfl, rfl, rfl, rfl, rfl, rfl, rfl⟩
theorem row_139 : TRow 139 ⟨.struct [(0, 3), (1, 2), (2, 2), (3, 2)], 4, 32, .agg [.int .i64 0, .int .i64 0, .int .i64 0, .int .i64 0]⟩ := ⟨Try.t139, _, _, by kernel_rfl, Try.underlying139, rfl, rfl, rfl, rfl, rfl, rfl, rfl⟩
theorem row_140 : TRow 140 ⟨.struct [(0, 3), (1, 2), (2, 2), (3, 2)], 4, 32, .agg [.int .i64 0, .int .i64 0, .int .i64 0, .int .i64 0]⟩ := ⟨Try.t140, _, _, by kernel_rfl, Try.underlying140, rfl, rfl, rfl, rfl, rfl, rfl, rfl⟩
theorem row_141 : TRow 141 ⟨.func, 1, 8, .nilf⟩ := ⟨Try.t141, _, _, by kernel_rfl, Try.underlying141, rfl, rfl, rfl, rfl, rfl, rfl, rfl⟩
theorem row_142 : TRow 142 ⟨.func, 1, 8, .nilf⟩ := ⟨Try.t142, _, _, by kernel_rfl, Try.underlying142, rfl, rfl, rfl, rfl, rfl, rfl, rfl⟩
theorem row_143 : TRow 143 ⟨.func, 1, 8, .nilf⟩ := ⟨Try.t143, _, _, by kernel_rfl, Try.underlying143, rfl, rfl, rfl, rfl, rfl, rfl, rfl⟩
theorem row_144 : TRow 144 ⟨.int .u64, 1, 8, .int .u64 0⟩ := ⟨Try.t144, _, _, by kernel_rfl, Try.underlying144, rfl, rfl, rfl, rfl, rfl, rfl, rfl⟩
theorem row_145 : TRow 145 ⟨.func, 1, 8, .nilf⟩ := ⟨Try.t145, _, _, by kernel_rfl, Try.underlying145, rfl, rfl, rfl, rfl, rfl, rfl, rfl⟩
theorem row_146 : TRow 146 ⟨.func, 1, 8, .nilf⟩ := ⟨Try.t146, _, _, by kernel_rfl, Try.underlying146, rfl, rfl, rfl, rfl, rfl, rfl, rfl⟩
theorem row_147 : TRow 147 ⟨.func, 1, 8, .nilf⟩ := ⟨Try.t147, _, _, by kernel_rfl, Try.underlying147, rfl, rfl, rfl, rfl, rfl, rfl, rfl⟩
theorem row_148 : TRow 148 ⟨.func, 1, 8, .nilf⟩ := ⟨Try.t148, _, _, by kernel_rfl, Try.underlying148, rfl, rfl, rfl, rfl, rfl, rfl, rfl⟩
theorem row_149 : TRow 149 ⟨.ptr 116, 1, 8, .nilp⟩ := ⟨Try.t149, _, _, by kernel_rfl, Try.underlying149, rfl, rfl, rfl, rfl, rfl, rfl, rfl⟩
theorem row_150 : TRow 150 ⟨.struct [(0, 3), (1, 2), (2, 2), (3, 2)], 4, 32, .agg [.int .i64 0, .int .i64 0, .int .i64 0, .int .i64 0]⟩ := ⟨Try.t150, _, _, by kernel_rfl, Try.underlying150, rfl, rfl, rfl, rfl, rfl, rfl, rfl⟩
theorem row_151 : TRow 151 ⟨.ptr 114, 1, 8, .nilp⟩ := ⟨Try.t151, _, _, by kernel_rfl, Try.underlying151, rfl, rfl, rfl, rfl, rfl, rfl, rfl⟩
theorem row_152 : TRow 152 ⟨.func, 1, 8, .nilf⟩ := ⟨Try.t152, _, _, by kernel_rfl, Try.underlying152, rfl, rfl, rfl, rfl, rfl, rfl, rfl⟩
theorem row_153 : TRow 153 ⟨.func, 1, 8, .nilf⟩ := ⟨Try.t153, _, _, by kernel_rfl, Try.underlying153, rfl, rfl, rfl, rfl, rfl, rfl, rfl⟩
theorem row_154 : TRow 154 ⟨.struct [(0, 2), (1, 2), (2, 2)], 3, 24, .agg [.int .i64 0, .int .i64 0, .int .i64 0]⟩ := ⟨Try.t154, _, _, by kernel_rfl, Try.underlying154, rfl, rfl, rfl, rfl, rfl, rfl, rfl⟩
theorem row_155 : TRow 155 ⟨.struct [(0, 2), (1, 2), (2, 2)], 3, 24, .agg [.int .i64 0, .int .i64 0, .int .i64 0]⟩ := ⟨Try.t155, _, _, by kernel_rfl, Try.underlying155, rfl, rfl, rfl, rfl, rfl, rfl, rfl⟩
theorem row_156 : TRow 156 ⟨.func, 1, 8, .nilf⟩ := ⟨Try.t156, _, _, by kernel_rfl, Try.underlying156, rfl, rfl, rfl, rfl, rfl, rfl, rfl⟩
theorem row_157 : TRow 157 ⟨.int .i64, 1, 8, .int .i64 0⟩ := ⟨Try.t157, _, _, by kernel_rfl, Try.underlying157, rfl, rfl, rfl, rfl, rfl, rfl, rfl⟩
theorem row_159 : TRow 159 ⟨.func, 1, 8, .nilf⟩ := ⟨Try.t159, _, _, by kernel_rfl, Try.underlying159, rfl, rfl, rfl, rfl, rfl, rfl, rfl⟩
theorem row_160 : TRow 160 ⟨.func, 1, 8, .nilf⟩ := ⟨Try.t160, _, _, by kernel_rfl, Try.underlying160, rfl, rfl, rfl, rfl, rfl, rfl, rfl⟩
theorem row_161 : TRow 161 ⟨.func, 1, 8, .nilf⟩ := ⟨Try.t161, _, _, by kernel_rfl, Try.underlying161, rfl, rfl, rfl, rfl, rfl, rfl, rfl⟩
theorem row_162 : TRow 162 ⟨.func, 1, 8, .nilf⟩ := ⟨Try.t162, _, _, by kernel_rfl, Try.underlying162, rfl, rfl, rfl, rfl, rfl, rfl, rfl⟩
theorem row_163 : TRow 163 ⟨.func, 1, 8, .nilf⟩ := ⟨Try.t163, _, _, by kernel_rfl, Try.underlying163, rfl, rfl, rfl, rfl, rfl, rfl, rfl⟩
theorem row_164 : TRow 164 ⟨.int .u32, 1, 4, .int .u32 0⟩ := ⟨Try.t164, _, _, by kernel_rfl, Try.underlying164, rfl, rfl, rfl, rfl, rfl, rfl, rfl⟩
theorem row_165 : TRow 165 ⟨.func, 1, 8, .nilf⟩ := ⟨Try.t165, _, _, by kernel_rfl, Try.underlying165, rfl, rfl, rfl, rfl, rfl, rfl, rfl⟩
theorem row_166 : TRow 166 ⟨.int .u64, 1, 8, .int .u64 0⟩ := ⟨Try.t166, _, _, by kernel_rfl, Try.underlying166, rfl, rfl, rfl, rfl, rfl, rfl, rfl⟩
theorem row_167 : TRow 167 ⟨.slice 155, 1, 24, .nils⟩ := ⟨Try.t167, _, _, by kernel_rfl, Try.underlying167, rfl, rfl, rfl, rfl, rfl, rfl, rfl⟩
theorem row_168 : TRow 168 ⟨.func, 1, 8, .nilf⟩ := ⟨Try.t168, _, _, by kernel_rfl, Try.underlying168, rfl, rfl, rfl, rfl, rfl, rfl, rfl⟩
theorem row_169 : TRow 169 ⟨.func, 1, 8, .nilf⟩ := ⟨Try.t169, _, _, by kernel_rfl, Try.underlying169, rfl, rfl, rfl, rfl, rfl, rfl, rfl⟩
theorem row_170 : TRow 170 ⟨.int .u64, 1, 8, .int .u64 0⟩ := ⟨Try.t170, _, _, by kernel_rfl, Try.underlying170, rfl, rfl, rfl, rfl, rfl, rfl, rfl⟩
theorem row_171 : TRow 171 ⟨.func, 1, 8, .nilf⟩ := ⟨Try.t171, _, _, by kernel_rfl, Try.underlying171, rfl, rfl, rfl, rfl, rfl, rfl, rfl⟩
theorem row_172 : TRow 172 ⟨.func, 1, 8, .nilf⟩ := ⟨Try.t172, _, _, by kernel_rfl, Try.underlying172, rfl, rfl, rfl, rfl, rfl, rfl, rfl⟩
theorem row_173 : TRow 173 ⟨.func, 1, 8, .nilf⟩ := ⟨Try.t173, _, _, by kernel_rfl, Try.underlying173, rfl, rfl, rfl, rfl, rfl, rfl, rfl⟩
theorem row_174 : TRow 174 ⟨.ptr 3, 1, 8, .nilp⟩ := ⟨Try.t174, _, _, by kernel_rfl, Try.underlying174, rfl, rfl, rfl, rfl, rfl, rfl, rfl⟩
theorem row_175 : TRow 175 ⟨.func, 1, 8, .nilf⟩ := ⟨Try.t175, _, _, by kernel_rfl, Try.underlying175, rfl, rfl, rfl, rfl, rfl, rfl, rfl⟩
theorem row_176 : TRow 176 ⟨.func, 1, 8, .nilf⟩ := ⟨Try.t176, _, _, by kernel_rfl, Try.underlying176, rfl, rfl, rfl, rfl, rfl, rfl, rfl⟩
theorem row_177 : TRow 177 ⟨.ptr 170, 1, 8, .nilp⟩ := ⟨Try.t177, _, _, by kernel_rfl, Try.underlying177, rfl, rfl, rfl, rfl, rfl, rfl, rfl⟩
theorem row_179 : TRow 179 ⟨.func, 1, 8, .nilf⟩ := ⟨Try.t179, _, _, by kernel_rfl, Try.underlying179, rfl, rfl, rfl, rfl, rfl, rfl, rfl⟩
theorem row_180 : TRow 180 ⟨.func, 1, 8, .nilf⟩ := ⟨Try.t180, _, _, by kernel_rfl, Try.underlying180, rfl, rfl, rfl, rfl, rfl, rfl, rfl⟩
theorem row_186 : TRow 186 ⟨.func, 1, 8, .nilf⟩ := ⟨Try.t186, _, _, by kernel_rfl, Try.underlying186, rfl, rfl, rfl, rfl, rfl, rfl, rfl⟩
theorem row_187 : TRow 187 ⟨.int .u8, 1, 1, .int .u8 0⟩ := ⟨Try.t187, _, _, by kernel_rfl, Try.underlying187, rfl, rfl, rfl, rfl, rfl, rfl, rfl⟩
theorem row_188 : TRow 188 ⟨.int .u8, 1, 1, .int .u8 0⟩ := ⟨Try.t188, _, _, by kernel_rfl, Try.underlying188, rfl, rfl, rfl, rfl, rfl, rfl, rfl⟩
theorem row_189 : TRow 189 ⟨.func, 1, 8, .nilf⟩ := ⟨Try.t189, _, _, by kernel_rfl, Try.underlying189, rfl, rfl, rfl, rfl, rfl, rfl, rfl⟩
theorem row_190 : TRow 190 ⟨.ptr 5, 1, 8, .nilp⟩ := ⟨Try.t190, _, _, by kernel_rfl, Try.underlying190, rfl, rfl, rfl, rfl, rfl, rfl, rfl⟩
theorem row_191 : TRow 191 ⟨.int .i32, 1, 4, .int .i32 0⟩ := ⟨Try.t191, _, _, by kernel_rfl, Try.underlying191, rfl, rfl, rfl, rfl, rfl, rfl, rfl⟩
theorem row_192 : TRow 192 ⟨.int .i32, 1, 4, .int .i32 0⟩ := ⟨Try.t192, _, _, by kernel_rfl, Try.underlying192, rfl, rfl, rfl, rfl, rfl, rfl, rfl⟩
theorem hTt : ∀ t i, T t = some i → TRow t i := by
  intro t i h
  unfold T at h
  split at h
  · obtain rfl := Option.some.inj h; exact row_1
  · obtain rfl := Option.some.inj h; exact row_2
  · obtain rfl := Option.some.inj h; exact row_3
  · obtain rfl := Option.some.inj h; exact row_4
  · obtain rfl := Option.some.inj h; exact row_5
  · obtain rfl := Option.some.inj h; exact row_6
  · obtain rfl := Option.some.inj h; exact row_7
  · obtain rfl := Option.some.inj h; exact row_8
  · obtain rfl := Option.some.inj h; exact row_9
  · obtain rfl := Option.some.inj h; exact row_10
  · obtain rfl := Option.some.inj h; exact row_11
  · obtain rfl := Option.some.inj h; exact row_12
  · obtain rfl := Option.some.inj h; exact row_15
  · obtain rfl := Option.some.inj h; exact row_16
  · obtain rfl := Option.some.inj h; exact row_17
  · obtain rfl := Option.some.inj h; exact row_21
  · obtain rfl := Option.some.inj h; exact row_22
  · obtain rfl := Option.some.inj h; exact row_23
  · obtain rfl := Option.some.inj h; exact row_24
  · obtain rfl := Option.some.inj h; exact row_25
  · obtain rfl := Option.some.inj h; exact row_26
  · obtain rfl := Option.some.inj h; exact row_27
  · obtain rfl := Option.some.inj h; exact row_28
  · obtain rfl := Option.some.inj h; exact row_29
  · obtain rfl := Option.some.inj h; exact row_30
  · obtain rfl := Option.some.inj h; exact row_31
  · obtain rfl := Option.some.inj h; exact row_32
  · obtain rfl := Option.some.inj h; exact row_33
  · obtain rfl := Option.some.inj h; exact row_34
  · obtain rfl := Option.some.inj h; exact row_36
  · obtain rfl := Option.some.inj h; exact row_37
  · obtain rfl := Option.some.inj h; exact row_39
  · obtain rfl := Option.some.inj h; exact row_40
  · obtain rfl := Option.some.inj h; exact row_41
  · obtain rfl := Option.some.inj h; exact row_42
  · obtain rfl := Option.some.inj h; exact row_43
  · obtain rfl := Option.some.inj h; exact row_44
  · obtain rfl := Option.some.inj h; exact row_45
  · obtain rfl := Option.some.inj h; exact row_46
  · obtain rfl := Option.some.inj h; exact row_47
  · obtain rfl := Option.some.inj h; exact row_48
  · obtain rfl := Option.some.inj h; exact row_49
  · obtain rfl := Option.some.inj h; exact row_50
  · obtain rfl := Option.some.inj h; exact row_51
  · obtain rfl := Option.some.inj h; exact row_52
  · obtain rfl := Option.some.inj h; exact row_53
  · obtain rfl := Option.some.inj h; exact row_54
  · obtain rfl := Option.some.inj h; exact row_56
  · obtain rfl := Option.some.inj h; exact row_57
  · obtain rfl := Option.some.inj h; exact row_58
  · obtain rfl := Option.some.inj h; exact row_59
  · obtain rfl := Option.some.inj h; exact row_60
  · obtain rfl := Option.some.inj h; exact row_61
  · obtain rfl := Option.some.inj h; exact row_62
  · obtain rfl := Option.some.inj h; exact row_63
  · obtain rfl := Option.some.inj h; exact row_64
  · obtain rfl := Option.some.inj h; exact row_65
  · obtain rfl := Option.some.inj h; exact row_66
  · obtain rfl := Option.some.inj h; exact row_67
  · obtain rfl := Option.some.inj h; exact row_69
  · obtain rfl := Option.some.inj h; exact row_70
  · obtain rfl := Option.some.inj h; exact row_71
  · obtain rfl := Option.some.inj h; exact row_72
  · obtain rfl := Option.some.inj h; exact row_73
  · obtain rfl := Option.some.inj h; exact row_74
  · obtain rfl := Option.some.inj h; exact row_75
  · obtain rfl := Option.some.inj h; exact row_76
  · obtain rfl := Option.some.inj h; exact row_77
  · obtain rfl := Option.some.inj h; exact row_78
  · obtain rfl := Option.some.inj h; exact row_79
  · obtain rfl := Option.some.inj h; exact row_80
  · obtain rfl := Option.some.inj h; exact row_81
  · obtain rfl := Option.some.inj h; exact row_82
  · obtain rfl := Option.some.inj h; exact row_83
  · obtain rfl := Option.some.inj h; exact row_84
  · obtain rfl := Option.some.inj h; exact row_86
  · obtain rfl := Option.some.inj h; exact row_87
  · obtain rfl := Option.some.inj h; exact row_88
  · obtain rfl := Option.some.inj h; exact row_89
  · obtain rfl := Option.some.inj h; exact row_90
  · obtain rfl := Option.some.inj h; exact row_91
  · obtain rfl := Option.some.inj h; exact row_92
  · obtain rfl := Option.some.inj h; exact row_93
  · obtain rfl := Option.some.inj h; exact row_94
  · obtain rfl := Option.some.inj h; exact row_95
  · obtain rfl := Option.some.inj h; exact row_96
  · obtain rfl := Option.some.inj h; exact row_97
  · obtain rfl := Option.some.inj h; exact row_98
  · obtain rfl := Option.some.inj h; exact row_99
  · obtain rfl := Option.some.inj h; exact row_100
  · obtain rfl := Option.some.inj h; exact row_101
  · obtain rfl := Option.some.inj h; exact row_103
  · obtain rfl := Option.some.inj h; exact row_104
  · obtain rfl := Option.some.inj h; exact row_105
  · obtain rfl := Option.some.inj h; exact row_107
  · obtain rfl := Option.some.inj h; exact row_108
  · obtain rfl := Option.some.inj h; exact row_109
  · obtain rfl := Option.some.inj h; exact row_111
  · obtain rfl := Option.some.inj h; exact row_112
  · obtain rfl := Option.some.inj h; exact row_113
  · obtain rfl := Option.some.inj h; exact row_114
  · obtain rfl := Option.some.inj h; exact row_115
  · obtain rfl := Option.some.inj h; exact row_116
  · obtain rfl := Option.some.inj h; exact row_117
  · obtain rfl := Option.some.inj h; exact row_118
  · obtain rfl := Option.some.inj h; exact row_119
  · obtain rfl := Option.some.inj h; exact row_120
  · obtain rfl := Option.some.inj h; exact row_121
  · obtain rfl := Option.some.inj h; exact row_122
  · obtain rfl := Option.some.inj h; exact row_123
  · obtain rfl := Option.some.inj h; exact row_124
  · obtain rfl := Option.some.inj h; exact row_125
  · obtain rfl := Option.some.inj h; exact row_126
  · obtain rfl := Option.some.inj h; exact row_127
  · obtain rfl := Option.some.inj h; exact row_128
  · obtain rfl := Option.some.inj h; exact row_129
  · obtain rfl := Option.some.inj h; exact row_130
  · obtain rfl := Option.some.inj h; exact row_131
  · obtain rfl := Option.some.inj h; exact row_132
  · obtain rfl := Option.some.inj h; exact row_133
  · obtain rfl := Option.some.inj h; exact row_134
  · obtain rfl := Option.some.inj h; exact row_135
  · obtain rfl := Option.some.inj h; exact row_136
  · obtain rfl := Option.some.inj h; exact row_137
  · obtain rfl := Option.some.inj h; exact row_138
  · obtain rfl := Option.some.inj h; exact row_139
  · obtain rfl := Option.some.inj h; exact row_140
  · obtain rfl := Option.some.inj h; exact row_141
  · obtain rfl := Option.some.inj h; exact row_142
  · obtain rfl := Option.some.inj h; exact row_143
  · obtain rfl := Option.some.inj h; exact row_144
  · obtain rfl := Option.some.inj h; exact row_145
  · obtain rfl := Option.some.inj h; exact row_146
  · obtain rfl := Option.some.inj h; exact row_147
  · obtain rfl := Option.some.inj h; exact row_148
  · obtain rfl := Option.some.inj h; exact row_149
  · obtain rfl := Option.some.inj h; exact row_150
  · obtain rfl := Option.some.inj h; exact row_151
  · obtain rfl := Option.some.inj h; exact row_152
  · obtain rfl := Option.some.inj h; exact row_153
  · obtain rfl := Option.some.inj h; exact row_154
  · obtain rfl := Option.some.inj h; exact row_155
  · obtain rfl := Option.some.inj h; exact row_156
  · obtain rfl := Option.some.inj h; exact row_157
  · obtain rfl := Option.some.inj h; exact row_159
  · obtain rfl := Option.some.inj h; exact row_160
  · obtain rfl := Option.some.inj h; exact row_161
  · obtain rfl := Option.some.inj h; exact row_162
  · obtain rfl := Option.some.inj h; exact row_163
  · obtain rfl := Option.some.inj h; exact row_164
  · obtain rfl := Option.some.inj h; exact row_165
  · obtain rfl := Option.some.inj h; exact row_166
  · obtain rfl := Option.some.inj h; exact row_167
  · obtain rfl := Option.some.inj h; exact row_168
  · obtain rfl := Option.some.inj h; exact row_169
  · obtain rfl := Option.some.inj h; exact row_170
  · obtain rfl := Option.some.inj h; exact row_171
  · obtain rfl := Option.some.inj h; exact row_172
  · obtain rfl := Option.some.inj h; exact row_173
  · obtain rfl := Option.some.inj h; exact row_174
  · obtain rfl := Option.some.inj h; exact row_175
  · obtain rfl := Option.some.inj h; exact row_176
  · obtain rfl := Option.some.inj h; exact row_177
  · obtain rfl := Option.some.inj h; exact row_179
  · obtain rfl := Option.some.inj h; exact row_180
  · obtain rfl := Option.some.inj h; exact row_186
  · obtain rfl := Option.some.inj h; exact row_187
  · obtain rfl := Option.some.inj h; exact row_188
  · obtain rfl := Option.some.inj h; exact row_189
  · obtain rfl := Option.some.inj h; exact row_190
  · obtain rfl := Option.some.inj h; exact row_191
  · obtain rfl := Option.some.inj h; exact row_192
  · cases h

theorem eq_7 : eqOK Try.prog 7 = true := by kernel_rfl
theorem eq_8 : eqOK Try.prog 8 = true := by kernel_rfl
theorem eq_23 : eqOK Try.prog 23 = true := by kernel_rfl
theorem eq_24 : eqOK Try.prog 24 = true := by kernel_rfl
theorem eq_27 : eqOK Try.prog 27 = true := by kernel_rfl
theorem eq_28 : eqOK Try.prog 28 = true := by kernel_rfl
theorem eq_30 : eqOK Try.prog 30 = true := by kernel_rfl
theorem eq_31 : eqOK Try.prog 31 = true := by kernel_rfl
theorem eq_37 : eqOK Try.prog 37 = true := by kernel_rfl
theorem eq_46 : eqOK Try.prog 46 = true := by kernel_rfl
theorem eq_47 : eqOK Try.prog 47 = true := by kernel_rfl
theorem eq_48 : eqOK Try.prog 48 = true := by kernel_rfl
theorem eq_49 : eqOK Try.prog 49 = true := by kernel_rfl
theorem eq_52 : eqOK Try.prog 52 = true := by kernel_rfl
theorem eq_53 : eqOK Try.prog 53 = true := by kernel_rfl
theorem eq_63 : eqOK Try.prog 63 = true := by kernel_rfl
theorem eq_64 : eqOK Try.prog 64 = true := by kernel_rfl
theorem eq_66 : eqOK Try.prog 66 = true := by kernel_rfl
theorem eq_67 : eqOK Try.prog 67 = true := by kernel_rfl
theorem eq_100 : eqOK Try.prog 100 = true := by kernel_rfl
theorem eq_101 : eqOK Try.prog 101 = true := by kernel_rfl
theorem eq_108 : eqOK Try.prog 108 = true := by kernel_rfl
theorem eq_109 : eqOK Try.prog 109 = true := by kernel_rfl
theorem eq_113 : eqOK Try.prog 113 = true := by kernel_rfl
theorem eq_114 : eqOK Try.prog 114 = true := by kernel_rfl
theorem eq_115 : eqOK Try.prog 115 = true := by kernel_rfl
theorem eq_116 : eqOK Try.prog 116 = true := by kernel_rfl
theorem eq_139 : eqOK Try.prog 139 = true := by kernel_rfl
theorem eq_140 : eqOK Try.prog 140 = true := by kernel_rfl
theorem eq_150 : eqOK Try.prog 150 = true := by kernel_rfl
theorem eq_154 : eqOK Try.prog 154 = true := by kernel_rfl
theorem eq_155 : eqOK Try.prog 155 = true := by kernel_rfl
theorem hTe : ∀ t fs s b z, T t = some ⟨.struct fs, s, b, z⟩ → eqOK Try.prog t = true := by
  intro t fs s b z h
  unfold T at h
  split at h
  · cases h
  · cases h
  · cases h
  · cases h
  · cases h
  · cases h
  · exact eq_7
  · exact eq_8
  · cases h
  · cases h
  · cases h
  · cases h
  · cases h
  · cases h
  · cases h
  · cases h
  · cases h
  · exact eq_23
  · exact eq_24
  · cases h
  · cases h
  · exact eq_27
  · exact eq_28
  · cases h
  · exact eq_30
  · exact eq_31
  · cases h
  · cases h
  · cases h
  · cases h
  · exact eq_37
  · cases h
  · cases h
  · cases h
  · cases h
  · cases h
  · cases h
  · cases h
  · exact eq_46
  · exact eq_47
  · exact eq_48
  · exact eq_49
  · cases h
  · cases h
  · exact eq_52
  · exact eq_53
  · cases h
  · cases h
  · cases h
  · cases h
  · cases h
  · cases h
  · cases h
  · cases h
  · exact eq_63
  · exact eq_64
  · cases h
  · exact eq_66
  · exact eq_67
  · cases h
  · cases h
  · cases h
  · cases h
  · cases h
  · cases h
  · cases h
  · cases h
  · cases h
  · cases h
  · cases h
  · cases h
  · cases h
  · cases h
  · cases h
  · cases h
  · cases h
  · cases h
  · cases h
  · cases h
  · cases h
  · cases h
  · cases h
  · cases h
  · cases h
  · cases h
  · cases h
  · cases h
  · cases h
  · cases h
  · exact eq_100
  · exact eq_101
  · cases h
  · cases h
  · cases h
  · cases h
  · exact eq_108
  · exact eq_109
  · cases h
  · cases h
  · exact eq_113
  · exact eq_114
  · exact eq_115
  · exact eq_116
  · cases h
  · cases h
  · cases h
  · cases h
  · cases h
  · cases h
  · cases h
  · cases h
  · cases h
  · cases h
  · cases h
  · cases h
  · cases h
  · cases h
  · cases h
  · cases h
  · cases h
  · cases h
  · cases h
  · cases h
  · cases h
  · cases h
  · exact eq_139
  · exact eq_140
  · cases h
  · cases h
  · cases h
  · cases h
  · cases h
  · cases h
  · cases h
  · cases h
  · cases h
  · exact eq_150
  · cases h
  · cases h
  · cases h
  · exact eq_154
  · exact eq_155
  · cases h
  · cases h
  · cases h
  · cases h
  · cases h
  · cases h
  · cases h
  · cases h
  · cases h
  · cases h
  · cases h
  · cases h
  · cases h
  · cases h
  · cases h
  · cases h
  · cases h
  · cases h
  · cases h
  · cases h
  · cases h
  · cases h
  · cases h
  · cases h
  · cases h
  · cases h
  · cases h
  · cases h
  · cases h
  · cases h
  · cases h
theorem hT : TabOK Try.prog T := ⟨hTt, hTe⟩

theorem ent_3 : Ent Try.prog 3 := by unfold Ent; kernel_rfl
theorem ent_4 : Ent Try.prog 4 := by unfold Ent; kernel_rfl
theorem ent_5 : Ent Try.prog 5 := by unfold Ent; kernel_rfl
theorem ent_6 : Ent Try.prog 6 := by unfold Ent; kernel_rfl
theorem ent_7 : Ent Try.prog 7 := by unfold Ent; kernel_rfl
theorem ent_8 : Ent Try.prog 8 := by unfold Ent; kernel_rfl
theorem ent_9 : Ent Try.prog 9 := by unfold Ent; kernel_rfl
theorem ent_10 : Ent Try.prog 10 := by unfold Ent; kernel_rfl
theorem ent_11 : Ent Try.prog 11 := by unfold Ent; kernel_rfl
theorem ent_12 : Ent Try.prog 12 := by unfold Ent; kernel_rfl
theorem ent_13 : Ent Try.prog 13 := by unfold Ent; kernel_rfl
theorem ent_14 : Ent Try.prog 14 := by unfold Ent; kernel_rfl
theorem ent_15 : Ent Try.prog 15 := by unfold Ent; kernel_rfl
theorem ent_16 : Ent Try.prog 16 := by unfold Ent; kernel_rfl
theorem ent_17 : Ent Try.prog 17 := by unfold Ent; kernel_rfl
theorem ent_18 : Ent Try.prog 18 := by unfold Ent; kernel_rfl
theorem ent_19 : Ent Try.prog 19 := by unfold Ent; kernel_rfl
theorem ent_20 : Ent Try.prog 20 := by unfold Ent; kernel_rfl
theorem ent_21 : Ent Try.prog 21 := by unfold Ent; kernel_rfl
theorem ent_22 : Ent Try.prog 22 := by unfold Ent; kernel_rfl
theorem ent_23 : Ent Try.prog 23 := by unfold Ent; kernel_rfl
theorem ent_24 : Ent Try.prog 24 := by unfold Ent; kernel_rfl
theorem ent_25 : Ent Try.prog 25 := by unfold Ent; kernel_rfl
theorem ent_26 : Ent Try.prog 26 := by unfold Ent; kernel_rfl
theorem ent_27 : Ent Try.prog 27 := by unfold Ent; kernel_rfl
theorem ent_28 : Ent Try.prog 28 := by unfold Ent; kernel_rfl
theorem ent_29 : Ent Try.prog 29 := by unfold Ent; kernel_rfl
theorem ent_30 : Ent Try.prog 30 := by unfold Ent; kernel_rfl
theorem ent_31 : Ent Try.prog 31 := by unfold Ent; kernel_rfl
theorem ent_32 : Ent Try.prog 32 := by unfold Ent; kernel_rfl
theorem ent_33 : Ent Try.prog 33 := by unfold Ent; kernel_rfl
theorem ent_34 : Ent Try.prog 34 := by unfold Ent; kernel_rfl
theorem ent_35 : Ent Try.prog 35 := by unfold Ent; kernel_rfl
theorem ent_36 : Ent Try.prog 36 := by unfold Ent; kernel_rfl
theorem ent_37 : Ent Try.prog 37 := by unfold Ent; kernel_rfl
theorem ent_38 : Ent Try.prog 38 := by unfold Ent; kernel_rfl
theorem ent_39 : Ent Try.prog 39 := by unfold Ent; kernel_rfl
theorem ent_40 : Ent Try.prog 40 := by unfold Ent; kernel_rfl
theorem ent_41 : Ent Try.prog 41 := by unfold Ent; kernel_rfl
theorem ent_42 : Ent Try.prog 42 := by unfold Ent; kernel_rfl
theorem ent_43 : Ent Try.prog 43 := by unfold Ent; kernel_rfl
theorem ent_44 : Ent Try.prog 44 := by unfold Ent; kernel_rfl
theorem ent_45 : Ent Try.prog 45 := by unfold Ent; kernel_rfl
theorem ent_46 : Ent Try.prog 46 := by unfold Ent; kernel_rfl
theorem ent_47 : Ent Try.prog 47 := by unfold Ent; kernel_rfl
theorem ent_48 : Ent Try.prog 48 := by unfold Ent; kernel_rfl
theorem ent_49 : Ent Try.prog 49 := by unfold Ent; kernel_rfl
theorem ent_50 : Ent Try.prog 50 := by unfold Ent; kernel_rfl
theorem ent_51 : Ent Try.prog 51 := by unfold Ent; kernel_rfl
theorem ent_52 : Ent Try.prog 52 := by unfold Ent; kernel_rfl
theorem ent_53 : Ent Try.prog 53 := by unfold Ent; kernel_rfl
theorem ent_54 : Ent Try.prog 54 := by unfold Ent; kernel_rfl
theorem ent_55 : Ent Try.prog 55 := by unfold Ent; kernel_rfl
theorem ent_56 : Ent Try.prog 56 := by unfold Ent; kernel_rfl
theorem ent_57 : Ent Try.prog 57 := by unfold Ent; kernel_rfl
theorem ent_58 : Ent Try.prog 58 := by unfold Ent; kernel_rfl
theorem ent_59 : Ent Try.prog 59 := by unfold Ent; kernel_rfl
theorem ent_60 : Ent Try.prog 60 := by unfold Ent; kernel_rfl
theorem ent_61 : Ent Try.prog 61 := by unfold Ent; kernel_rfl
theorem ent_62 : Ent Try.prog 62 := by unfold Ent; kernel_rfl
theorem ent_63 : Ent Try.prog 63 := by unfold Ent; kernel_rfl
theorem ent_64 : Ent Try.prog 64 := by unfold Ent; kernel_rfl
theorem ent_65 : Ent Try.prog 65 := by unfold Ent; kernel_rfl
theorem ent_66 : Ent Try.prog 66 := by unfold Ent; kernel_rfl
theorem ent_67 : Ent Try.prog 67 := by unfold Ent; kernel_rfl
theorem ent_68 : Ent Try.prog 68 := by unfold Ent; kernel_rfl
theorem ent_69 : Ent Try.prog 69 := by unfold Ent; kernel_rfl
theorem ent_70 : Ent Try.prog 70 := by unfold Ent; kernel_rfl
theorem ent_71 : Ent Try.prog 71 := by unfold Ent; kernel_rfl
theorem ent_72 : Ent Try.prog 72 := by unfold Ent; kernel_rfl
theorem ent_73 : Ent Try.prog 73 := by unfold Ent; kernel_rfl
theorem ent_74 : Ent Try.prog 74 := by unfold Ent; kernel_rfl
theorem ent_75 : Ent Try.prog 75 := by unfold Ent; kernel_rfl
theorem ent_76 : Ent Try.prog 76 := by unfold Ent; kernel_rfl
theorem ent_77 : Ent Try.prog 77 := by unfold Ent; kernel_rfl
theorem ent_78 : Ent Try.prog 78 := by unfold Ent; kernel_rfl
theorem ent_79 : Ent Try.prog 79 := by unfold Ent; kernel_rfl
theorem ent_80 : Ent Try.prog 80 := by unfold Ent; kernel_rfl
theorem ent_81 : Ent Try.prog 81 := by unfold Ent; kernel_rfl
theorem ent_82 : Ent Try.prog 82 := by unfold Ent; kernel_rfl
theorem ent_83 : Ent Try.prog 83 := by unfold Ent; kernel_rfl
theorem ent_84 : Ent Try.prog 84 := by unfold Ent; kernel_rfl
theorem ent_85 : Ent Try.prog 85 := by unfold Ent; kernel_rfl
theorem ent_86 : Ent Try.prog 86 := by unfold Ent; kernel_rfl
theorem ent_87 : Ent Try.prog 87 := by unfold Ent; kernel_rfl
theorem ent_88 : Ent Try.prog 88 := by unfold Ent; kernel_rfl
theorem ent_89 : Ent Try.prog 89 := by unfold Ent; kernel_rfl
theorem ent_90 : Ent Try.prog 90 := by unfold Ent; kernel_rfl
theorem ent_91 : Ent Try.prog 91 := by unfold Ent; kernel_rfl
theorem ent_92 : Ent Try.prog 92 := by unfold Ent; kernel_rfl
theorem ent_93 : Ent Try.prog 93 := by unfold Ent; kernel_rfl
theorem ent_94 : Ent Try.prog 94 := by unfold Ent; kernel_rfl
theorem ent_95 : Ent Try.prog 95 := by unfold Ent; kernel_rfl
theorem ent_96 : Ent Try.prog 96 := by unfold Ent; kernel_rfl
theorem ent_97 : Ent Try.prog 97 := by unfold Ent; kernel_rfl
theorem ent_98 : Ent Try.prog 98 := by unfold Ent; kernel_rfl
theorem ent_99 : Ent Try.prog 99 := by unfold Ent; kernel_rfl
theorem ent_100 : Ent Try.prog 100 := by unfold Ent; kernel_rfl
theorem ent_101 : Ent Try.prog 101 := by unfold Ent; kernel_rfl
theorem ent_102 : Ent Try.prog 102 := by unfold Ent; kernel_rfl
theorem ent_103 : Ent Try.prog 103 := by unfold Ent; kernel_rfl
theorem ent_104 : Ent Try.prog 104 := by unfold Ent; kernel_rfl
theorem ent_105 : Ent Try.prog 105 := by unfold Ent; kernel_rfl
theorem ent_106 : Ent Try.prog 106 := by unfold Ent; kernel_rfl
theorem ent_107 : Ent Try.prog 107 := by unfold Ent; kernel_rfl
theorem ent_108 : Ent Try.prog 108 := by unfold Ent; kernel_rfl
theorem ent_109 : Ent Try.prog 109 := by unfold Ent; kernel_rfl
theorem ent_110 : Ent Try.prog 110 := by unfold Ent; kernel_rfl
theorem ent_111 : Ent Try.prog 111 := by unfold Ent; kernel_rfl
theorem ent_112 : Ent Try.prog 112 := by unfold Ent; kernel_rfl
theorem ent_113 : Ent Try.prog 113 := by unfold Ent; kernel_rfl
theorem ent_114 : Ent Try.prog 114 := by unfold Ent; kernel_rfl
theorem ent_115 : Ent Try.prog 115 := by unfold Ent; kernel_rfl
theorem ent_116 : Ent Try.prog 116 := by unfold Ent; kernel_rfl
theorem ent_117 : Ent Try.prog 117 := by unfold Ent; kernel_rfl
theorem ent_118 : Ent Try.prog 118 := by unfold Ent; kernel_rfl
theorem ent_119 : Ent Try.prog 119 := by unfold Ent; kernel_rfl
theorem ent_120 : Ent Try.prog 120 := by unfold Ent; kernel_rfl
theorem ent_121 : Ent Try.prog 121 := by unfold Ent; kernel_rfl
theorem ent_122 : Ent Try.prog 122 := by unfold Ent; kernel_rfl
theorem ent_123 : Ent Try.prog 123 := by unfold Ent; kernel_rfl
theorem ent_124 : Ent Try.prog 124 := by unfold Ent; kernel_rfl
theorem ent_125 : Ent Try.prog 125 := by unfold Ent; kernel_rfl
theorem ent_126 : Ent Try.prog 126 := by unfold Ent; kernel_rfl
theorem ent_127 : Ent Try.prog 127 := by unfold Ent; kernel_rfl
theorem ent_128 : Ent Try.prog 128 := by unfold Ent; kernel_rfl
theorem ent_129 : Ent Try.prog 129 := by unfold Ent; kernel_rfl
theorem ent_130 : Ent Try.prog 130 := by unfold Ent; kernel_rfl
@[simp] theorem res_3 : Try.f3.results.toList = [.tmp 6] := rfl
attribute [simp] Try.ntmps3
@[simp] theorem res_4 : Try.f4.results.toList = [.tmp 6] := rfl
attribute [simp] Try.ntmps4
@[simp] theorem res_5 : Try.f5.results.toList = [.tmp 6] := rfl
attribute [simp] Try.ntmps5
@[simp] theorem res_6 : Try.f6.results.toList = [.tmp 6] := rfl
attribute [simp] Try.ntmps6
@[simp] theorem res_7 : Try.f7.results.toList = [.tmp 4] := rfl
attribute [simp] Try.ntmps7
@[simp] theorem res_8 : Try.f8.results.toList = [.tmp 8] := rfl
attribute [simp] Try.ntmps8
@[simp] theorem res_9 : Try.f9.results.toList = [.tmp 6] := rfl
attribute [simp] Try.ntmps9
@[simp] theorem res_10 : Try.f10.results.toList = [.tmp 6] := rfl
attribute [simp] Try.ntmps10
@[simp] theorem res_11 : Try.f11.results.toList = [.tmp 0] := rfl
attribute [simp] Try.ntmps11
@[simp] theorem res_12 : Try.f12.results.toList = [.tmp 4] := rfl
attribute [simp] Try.ntmps12
@[simp] theorem res_13 : Try.f13.results.toList = [.cell 4 31, .tmp 5] := rfl
attribute [simp] Try.ntmps13
@[simp] theorem res_14 : Try.f14.results.toList = [.cell 4 37, .tmp 5] := rfl
attribute [simp] Try.ntmps14
@[simp] theorem res_15 : Try.f15.results.toList = [.tmp 4] := rfl
attribute [simp] Try.ntmps15
@[simp] theorem res_16 : Try.f16.results.toList = [.tmp 4] := rfl
attribute [simp] Try.ntmps16
@[simp] theorem res_17 : Try.f17.results.toList = [.tmp 4] := rfl
attribute [simp] Try.ntmps17
@[simp] theorem res_18 : Try.f18.results.toList = [.tmp 4] := rfl
attribute [simp] Try.ntmps18
@[simp] theorem res_19 : Try.f19.results.toList = [.tmp 2] := rfl
attribute [simp] Try.ntmps19
@[simp] theorem res_20 : Try.f20.results.toList = [.tmp 0] := rfl
attribute [simp] Try.ntmps20
@[simp] theorem res_21 : Try.f21.results.toList = [.tmp 4] := rfl
attribute [simp] Try.ntmps21
@[simp] theorem res_22 : Try.f22.results.toList = [.tmp 4, .tmp 5] := rfl
attribute [simp] Try.ntmps22
@[simp] theorem res_23 : Try.f23.results.toList = [.tmp 4, .tmp 5] := rfl
attribute [simp] Try.ntmps23
@[simp] theorem res_24 : Try.f24.results.toList = [.cell 2 53] := rfl
attribute [simp] Try.ntmps24
@[simp] theorem res_25 : Try.f25.results.toList = [.tmp 4] := rfl
attribute [simp] Try.ntmps25
@[simp] theorem res_26 : Try.f26.results.toList = [.tmp 2] := rfl
attribute [simp] Try.ntmps26
@[simp] theorem res_27 : Try.f27.results.toList = [.tmp 2] := rfl
attribute [simp] Try.ntmps27
@[simp] theorem res_28 : Try.f28.results.toList = [.tmp 4] := rfl
attribute [simp] Try.ntmps28
@[simp] theorem res_29 : Try.f29.results.toList = [.tmp 4] := rfl
attribute [simp] Try.ntmps29
@[simp] theorem res_30 : Try.f30.results.toList = [.tmp 6] := rfl
attribute [simp] Try.ntmps30
@[simp] theorem res_31 : Try.f31.results.toList = [.tmp 6] := rfl
attribute [simp] Try.ntmps31
@[simp] theorem res_32 : Try.f32.results.toList = [.tmp 4] := rfl
attribute [simp] Try.ntmps32
@[simp] theorem res_33 : Try.f33.results.toList = [.cell 4 67, .tmp 5] := rfl
attribute [simp] Try.ntmps33
@[simp] theorem res_34 : Try.f34.results.toList = [.tmp 2] := rfl
attribute [simp] Try.ntmps34
@[simp] theorem res_35 : Try.f35.results.toList = [.tmp 2] := rfl
attribute [simp] Try.ntmps35
@[simp] theorem res_36 : Try.f36.results.toList = [.tmp 2] := rfl
attribute [simp] Try.ntmps36
@[simp] theorem res_37 : Try.f37.results.toList = [.tmp 2] := rfl
attribute [simp] Try.ntmps37
@[simp] theorem res_38 : Try.f38.results.toList = [.tmp 2] := rfl
attribute [simp] Try.ntmps38
@[simp] theorem res_39 : Try.f39.results.toList = [.tmp 4] := rfl
attribute [simp] Try.ntmps39
@[simp] theorem res_40 : Try.f40.results.toList = [.tmp 6] := rfl
attribute [simp] Try.ntmps40
@[simp] theorem res_41 : Try.f41.results.toList = [.tmp 4] := rfl
attribute [simp] Try.ntmps41
@[simp] theorem res_42 : Try.f42.results.toList = [.tmp 3] := rfl
attribute [simp] Try.ntmps42
@[simp] theorem res_43 : Try.f43.results.toList = [.tmp 6, .tmp 7, .tmp 8] := rfl
attribute [simp] Try.ntmps43
@[simp] theorem res_44 : Try.f44.results.toList = [.tmp 4] := rfl
attribute [simp] Try.ntmps44
@[simp] theorem res_45 : Try.f45.results.toList = [.tmp 2] := rfl
attribute [simp] Try.ntmps45
@[simp] theorem res_46 : Try.f46.results.toList = [.tmp 2] := rfl
attribute [simp] Try.ntmps46
@[simp] theorem res_47 : Try.f47.results.toList = [.tmp 2] := rfl
attribute [simp] Try.ntmps47
@[simp] theorem res_48 : Try.f48.results.toList = [.tmp 2] := rfl
attribute [simp] Try.ntmps48
@[simp] theorem res_49 : Try.f49.results.toList = [.tmp 2] := rfl
attribute [simp] Try.ntmps49
@[simp] theorem res_50 : Try.f50.results.toList = [.tmp 4] := rfl
attribute [simp] Try.ntmps50
@[simp] theorem res_51 : Try.f51.results.toList = [.tmp 4] := rfl
attribute [simp] Try.ntmps51
@[simp] theorem res_52 : Try.f52.results.toList = [.tmp 6, .tmp 7, .tmp 8] := rfl
attribute [simp] Try.ntmps52
@[simp] theorem res_53 : Try.f53.results.toList = [.tmp 4] := rfl
attribute [simp] Try.ntmps53
@[simp] theorem res_54 : Try.f54.results.toList = [.tmp 4] := rfl
attribute [simp] Try.ntmps54
@[simp] theorem res_55 : Try.f55.results.toList = [.tmp 4] := rfl
attribute [simp] Try.ntmps55
@[simp] theorem res_56 : Try.f56.results.toList = [.tmp 2] := rfl
attribute [simp] Try.ntmps56
@[simp] theorem res_57 : Try.f57.results.toList = [.tmp 2] := rfl
attribute [simp] Try.ntmps57
@[simp] theorem res_58 : Try.f58.results.toList = [.tmp 2] := rfl
attribute [simp] Try.ntmps58
@[simp] theorem res_59 : Try.f59.results.toList = [.tmp 2, .tmp 3] := rfl
attribute [simp] Try.ntmps59
@[simp] theorem res_60 : Try.f60.results.toList = [.cell 4 101, .tmp 5] := rfl
attribute [simp] Try.ntmps60
@[simp] theorem res_61 : Try.f61.results.toList = [.tmp 4] := rfl
attribute [simp] Try.ntmps61
@[simp] theorem res_62 : Try.f62.results.toList = [] := rfl
attribute [simp] Try.ntmps62
@[simp] theorem res_63 : Try.f63.results.toList = [.tmp 4, .tmp 5] := rfl
attribute [simp] Try.ntmps63
@[simp] theorem res_64 : Try.f64.results.toList = [.tmp 4] := rfl
attribute [simp] Try.ntmps64
@[simp] theorem res_65 : Try.f65.results.toList = [.tmp 4, .tmp 5] := rfl
attribute [simp] Try.ntmps65
@[simp] theorem res_66 : Try.f66.results.toList = [.tmp 4] := rfl
attribute [simp] Try.ntmps66
@[simp] theorem res_67 : Try.f67.results.toList = [.tmp 6] := rfl
attribute [simp] Try.ntmps67
@[simp] theorem res_68 : Try.f68.results.toList = [] := rfl
attribute [simp] Try.ntmps68
@[simp] theorem res_69 : Try.f69.results.toList = [.tmp 2] := rfl
attribute [simp] Try.ntmps69
@[simp] theorem res_70 : Try.f70.results.toList = [] := rfl
attribute [simp] Try.ntmps70
@[simp] theorem res_71 : Try.f71.results.toList = [.tmp 4] := rfl
attribute [simp] Try.ntmps71
@[simp] theorem res_72 : Try.f72.results.toList = [.tmp 3] := rfl
attribute [simp] Try.ntmps72
@[simp] theorem res_73 : Try.f73.results.toList = [.tmp 4] := rfl
attribute [simp] Try.ntmps73
@[simp] theorem res_74 : Try.f74.results.toList = [.tmp 5] := rfl
attribute [simp] Try.ntmps74
@[simp] theorem res_75 : Try.f75.results.toList = [.tmp 4] := rfl
attribute [simp] Try.ntmps75
@[simp] theorem res_76 : Try.f76.results.toList = [.tmp 2] := rfl
attribute [simp] Try.ntmps76
@[simp] theorem res_77 : Try.f77.results.toList = [.tmp 4, .tmp 5] := rfl
attribute [simp] Try.ntmps77
@[simp] theorem res_78 : Try.f78.results.toList = [.tmp 4, .tmp 5] := rfl
attribute [simp] Try.ntmps78
@[simp] theorem res_79 : Try.f79.results.toList = [.tmp 2] := rfl
attribute [simp] Try.ntmps79
@[simp] theorem res_80 : Try.f80.results.toList = [.tmp 2] := rfl
attribute [simp] Try.ntmps80
@[simp] theorem res_81 : Try.f81.results.toList = [.tmp 4] := rfl
attribute [simp] Try.ntmps81
@[simp] theorem res_82 : Try.f82.results.toList = [.tmp 4] := rfl
attribute [simp] Try.ntmps82
@[simp] theorem res_83 : Try.f83.results.toList = [.tmp 4] := rfl
attribute [simp] Try.ntmps83
@[simp] theorem res_84 : Try.f84.results.toList = [.tmp 3] := rfl
attribute [simp] Try.ntmps84
@[simp] theorem res_85 : Try.f85.results.toList = [.tmp 4] := rfl
attribute [simp] Try.ntmps85
@[simp] theorem res_86 : Try.f86.results.toList = [.tmp 4] := rfl
attribute [simp] Try.ntmps86
@[simp] theorem res_87 : Try.f87.results.toList = [.tmp 2] := rfl
attribute [simp] Try.ntmps87
@[simp] theorem res_88 : Try.f88.results.toList = [.tmp 4] := rfl
attribute [simp] Try.ntmps88
@[simp] theorem res_89 : Try.f89.results.toList = [.tmp 2] := rfl
attribute [simp] Try.ntmps89
@[simp] theorem res_90 : Try.f90.results.toList = [.tmp 4] := rfl
attribute [simp] Try.ntmps90
@[simp] theorem res_91 : Try.f91.results.toList = [.tmp 2] := rfl
attribute [simp] Try.ntmps91
@[simp] theorem res_92 : Try.f92.results.toList = [.tmp 2] := rfl
attribute [simp] Try.ntmps92
@[simp] theorem res_93 : Try.f93.results.toList = [.tmp 4] := rfl
attribute [simp] Try.ntmps93
@[simp] theorem res_94 : Try.f94.results.toList = [.tmp 4] := rfl
attribute [simp] Try.ntmps94
@[simp] theorem res_95 : Try.f95.results.toList = [.tmp 4, .tmp 5, .tmp 6] := rfl
attribute [simp] Try.ntmps95
@[simp] theorem res_96 : Try.f96.results.toList = [] := rfl
attribute [simp] Try.ntmps96
@[simp] theorem res_97 : Try.f97.results.toList = [.tmp 2] := rfl
attribute [simp] Try.ntmps97
@[simp] theorem res_98 : Try.f98.results.toList = [.tmp 4] := rfl
attribute [simp] Try.ntmps98
@[simp] theorem res_99 : Try.f99.results.toList = [.tmp 2] := rfl
attribute [simp] Try.ntmps99
@[simp] theorem res_100 : Try.f100.results.toList = [.tmp 4] := rfl
attribute [simp] Try.ntmps100
@[simp] theorem res_101 : Try.f101.results.toList = [.tmp 3] := rfl
attribute [simp] Try.ntmps101
@[simp] theorem res_102 : Try.f102.results.toList = [.tmp 2, .tmp 3, .tmp 4] := rfl
attribute [simp] Try.ntmps102
@[simp] theorem res_103 : Try.f103.results.toList = [.tmp 4] := rfl
attribute [simp] Try.ntmps103
@[simp] theorem res_104 : Try.f104.results.toList = [.tmp 4] := rfl
attribute [simp] Try.ntmps104
@[simp] theorem res_105 : Try.f105.results.toList = [.tmp 2] := rfl
attribute [simp] Try.ntmps105
@[simp] theorem res_106 : Try.f106.results.toList = [.tmp 2] := rfl
attribute [simp] Try.ntmps106
@[simp] theorem res_107 : Try.f107.results.toList = [.tmp 2, .tmp 3, .tmp 4] := rfl
attribute [simp] Try.ntmps107
@[simp] theorem res_108 : Try.f108.results.toList = [] := rfl
attribute [simp] Try.ntmps108
@[simp] theorem res_109 : Try.f109.results.toList = [] := rfl
attribute [simp] Try.ntmps109
@[simp] theorem res_110 : Try.f110.results.toList = [] := rfl
attribute [simp] Try.ntmps110
@[simp] theorem res_111 : Try.f111.results.toList = [.tmp 6, .tmp 7] := rfl
attribute [simp] Try.ntmps111
@[simp] theorem res_112 : Try.f112.results.toList = [] := rfl
attribute [simp] Try.ntmps112
@[simp] theorem res_113 : Try.f113.results.toList = [.tmp 6] := rfl
attribute [simp] Try.ntmps113
@[simp] theorem res_114 : Try.f114.results.toList = [.tmp 8] := rfl
attribute [simp] Try.ntmps114
@[simp] theorem res_115 : Try.f115.results.toList = [.tmp 8, .tmp 9] := rfl
attribute [simp] Try.ntmps115
@[simp] theorem res_116 : Try.f116.results.toList = [.tmp 2] := rfl
attribute [simp] Try.ntmps116
@[simp] theorem res_117 : Try.f117.results.toList = [.tmp 2] := rfl
attribute [simp] Try.ntmps117
@[simp] theorem res_118 : Try.f118.results.toList = [.tmp 2] := rfl
attribute [simp] Try.ntmps118
@[simp] theorem res_119 : Try.f119.results.toList = [.tmp 4] := rfl
attribute [simp] Try.ntmps119
@[simp] theorem res_120 : Try.f120.results.toList = [.tmp 2] := rfl
attribute [simp] Try.ntmps120
@[simp] theorem res_121 : Try.f121.results.toList = [.tmp 2, .tmp 3] := rfl
attribute [simp] Try.ntmps121
@[simp] theorem res_122 : Try.f122.results.toList = [] := rfl
attribute [simp] Try.ntmps122
@[simp] theorem res_123 : Try.f123.results.toList = [.tmp 2] := rfl
attribute [simp] Try.ntmps123
@[simp] theorem res_124 : Try.f124.results.toList = [.tmp 2] := rfl
attribute [simp] Try.ntmps124
@[simp] theorem res_125 : Try.f125.results.toList = [.tmp 6] := rfl
attribute [simp] Try.ntmps125
@[simp] theorem res_126 : Try.f126.results.toList = [.tmp 10] := rfl
attribute [simp] Try.ntmps126
@[simp] theorem res_127 : Try.f127.results.toList = [.tmp 4] := rfl
attribute [simp] Try.ntmps127
@[simp] theorem res_128 : Try.f128.results.toList = [.tmp 2] := rfl
attribute [simp] Try.ntmps128
@[simp] theorem res_129 : Try.f129.results.toList = [.tmp 4, .tmp 5] := rfl
attribute [simp] Try.ntmps129
@[simp] theorem res_130 : Try.f130.results.toList = [.tmp 8, .tmp 9] := rfl
attribute [simp] Try.ntmps130
end Go.Proofs.Ytinigjmfjabicaa
