/- A disk, in short: its bytes, in a row, and what is to be known of it; what each of its functions makes of it. -/
import Derived.Test.YtifhbgppjblobaaBase
namespace Go.Proofs.Ytifhbgppjblobaa
open Go Go.VX Go.RowKit
set_option linter.unusedVariables false

abbrev bts (l : List Int) : List V := l.map (V.int .u8)

structure Dk where
  B : List Int
  down : Bool
  fuse : Int
  torn : Int
  writes : Int

/-- .. as the program holds it: sectors in a row; .. and as the document's answer holds it. -/
def Dk.obs (d : Dk) (n : Nat) : List Ob := [.live [.sl 1 d.B.length 32 0 n, .bool d.down, .int .i64 d.fuse, .int .i64 d.torn, .int .i64 d.writes], .live (bts d.B)]
def Dk.robs (d : Dk) : List Ob := [.live [.sl 1 d.B.length 1 0 d.B.length, .bool d.down, .int .i64 d.fuse, .int .i64 d.torn, .int .i64 d.writes], .live (bts d.B)]

structure Dk.ok (d : Dk) (n : Nat) : Prop where
  len : d.B.length = 32 * n
  t0 : 0 ≤ d.torn
  t1 : d.torn ≤ 32
  f : -1 ≤ d.fuse
  n2 : 2 ≤ n
  n4 : n ≤ 4096
  f2 : d.fuse ≤ 9223372036854775807

def pad (b : List Int) : List Int := b ++ List.replicate (32 - b.length) 0
theorem pad_length {b : List Int} (h : b.length ≤ 32) : (pad b).length = 32 := by simp [pad]; omega
theorem spl_pad {b : List Int} (h : b.length ≤ 32) : spl (List.replicate 32 (V.int .u8 0)) 0 (List.take (min b.length 32) (bts b)) = bts (pad b) := by
  rw [List.take_of_length_le (by simp; omega)]
  rw [spl_eq (by simp; omega)]
  simp [pad, -List.reduceReplicate]
  
def Dk.new (n : Nat) : Dk := ⟨List.replicate (32 * n) 0, false, -1, 0, 0⟩
def Dk.write (d : Dk) (n : Nat) (a : Int) (b : List Int) : Int × Dk :=
  if 0 ≤ a ∧ a < n then
    if 32 < b.length then (1, d)
    else if d.down = true then (7, d)
    else if d.fuse = 0 then (7, { d with B := splI d.B (a.toNat * 32) ((pad b).take d.torn.toNat), down := true })
    else (0, { d with B := splI d.B (a.toNat * 32) (pad b), fuse := if d.fuse = -1 then -1 else IntKind.i64.wrap (d.fuse - 1), writes := IntKind.i64.wrap (d.writes + 1) })
  else (5, d)
def Dk.sector (d : Dk) (a : Nat) : List Int := (d.B.drop (a * 32)).take 32
def Dk.fused (d : Dk) (a c : Int) : Dk := { d with fuse := max a (-1), torn := min (max c 0) 32 }
def Dk.crashed (d : Dk) : Dk := { d with down := false, fuse := -1 }
def bxor (a b : Int) : Int := ibits .xor .u8 a b
def Dk.turned (d : Dk) (a : Int) (c : Int) : Int × Dk :=
  if 0 ≤ a ∧ a < d.B.length then (0, { d with B := d.B.set a.toNat (bxor (d.B.getD a.toNat 0) c) }) else (5, d)
end Go.Proofs.Ytifhbgppjblobaa
