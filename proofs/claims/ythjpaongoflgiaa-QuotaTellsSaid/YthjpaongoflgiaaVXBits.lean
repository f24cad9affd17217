/- Bits of numbers. -/
import Derived.Test.YthjpaongoflgiaaVXKit
namespace Go.VX
set_option linter.unusedVariables false

theorem ofInt_toNat {x : Int} (h : 0 ≤ x) (h2 : x < 18446744073709551616) : (BitVec.ofInt 64 x).toNat = x.toNat := by
  rw [BitVec.toNat_ofInt]; simp only [Nat.reducePow]; rw [Int.emod_eq_of_lt h (by omega)]
theorem and64 {x y : Int} (hx : 0 ≤ x) (hx2 : x ≤ 9223372036854775807) (hy : 0 ≤ y) (hy2 : y ≤ 9223372036854775807) : ibits .and .i64 x y = ((x.toNat &&& y.toNat : Nat) : Int) := by
  unfold ibits
  show IntKind.i64.wrap _ = _
  simp only [BitVec.toNat_and]
  have e1 : IntKind.i64.bits = 64 := rfl
  rw [e1, ofInt_toNat hx (by omega), ofInt_toNat hy (by omega)]
  have := Nat.and_le_left (n := x.toNat) (m := y.toNat)
  exact w64 (by omega) (by omega)
theorem or64 {x y : Int} (hx : 0 ≤ x) (hx2 : x ≤ 9223372036854775807) (hy : 0 ≤ y) (hy2 : y ≤ 9223372036854775807) : ibits .or .i64 x y = ((x.toNat ||| y.toNat : Nat) : Int) := by
  unfold ibits
  show IntKind.i64.wrap _ = _
  simp only [BitVec.toNat_or]
  have e1 : IntKind.i64.bits = 64 := rfl
  rw [e1, ofInt_toNat hx (by omega), ofInt_toNat hy (by omega)]
  have : x.toNat ||| y.toNat < 2 ^ 63 := Nat.or_lt_two_pow (by omega) (by omega)
  exact w64 (by omega) (by omega)
theorem and1 {x : Int} (hx : 0 ≤ x) (hx2 : x ≤ 9223372036854775807) : ibits .and .i64 x 1 = x % 2 := by
  rw [and64 hx hx2 (by omega) (by omega)]
  have : (1 : Int).toNat = 1 := rfl
  rw [this, Nat.and_one_is_mod]
  omega
end Go.VX
