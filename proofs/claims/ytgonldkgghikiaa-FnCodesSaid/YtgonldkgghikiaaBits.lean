/- The bitwise operations on small whole numbers, as the walk spells them. -/
import Derived.Test.YtgonldkgghikiaaBase
namespace Go.Proofs.Ytgonldkgghikiaa
set_option linter.unusedSimpArgs false
set_option linter.unusedVariables false
set_option linter.unnecessarySimpa false
set_option maxRecDepth 200000
open Go.ChangeShapes Go.WideShapes Go.ChangeAt Go.RowKit

theorem toNat_i64 (x : Int) (h0 : 0 ≤ x) (h1 : x < 9223372036854775808) : (BitVec.ofInt 64 x).toNat = x.toNat := by
  obtain ⟨n, rfl⟩ := Int.eq_ofNat_of_zero_le h0
  rw [BitVec.ofInt_natCast, BitVec.toNat_ofNat, Int.toNat_natCast]
  exact Nat.mod_eq_of_lt (by omega)
theorem wrap_i64_nat (n : Nat) (h : n < 9223372036854775808) : IntKind.i64.wrap (n : Int) = (n : Int) := IntWalk.i64_in _ (by omega)
theorem xor_lt63 (a b : Nat) (ha : a < 9223372036854775808) (hb : b < 9223372036854775808) : a ^^^ b < 9223372036854775808 := Nat.xor_lt_two_pow (n := 63) ha hb
theorem bits_xor (x y : Nat) (hx : x < 9223372036854775808) (hy : y < 9223372036854775808) : bits .xor .i64 (x : Int) (y : Int) = ((x ^^^ y : Nat) : Int) := by
  show IntKind.i64.wrap ((BitVec.ofInt 64 (x : Int) ^^^ BitVec.ofInt 64 (y : Int)).toNat : Int) = _
  rw [BitVec.toNat_xor, toNat_i64 _ (by omega) (by omega), toNat_i64 _ (by omega) (by omega), Int.toNat_natCast, Int.toNat_natCast]
  exact wrap_i64_nat _ (xor_lt63 x y hx hy)
theorem bits_and (x y : Nat) (hx : x < 9223372036854775808) (hy : y < 9223372036854775808) : bits .and .i64 (x : Int) (y : Int) = ((x &&& y : Nat) : Int) := by
  show IntKind.i64.wrap ((BitVec.ofInt 64 (x : Int) &&& BitVec.ofInt 64 (y : Int)).toNat : Int) = _
  rw [BitVec.toNat_and, toNat_i64 _ (by omega) (by omega), toNat_i64 _ (by omega) (by omega), Int.toNat_natCast, Int.toNat_natCast]
  exact wrap_i64_nat _ (Nat.lt_of_le_of_lt Nat.and_le_left hx)
theorem bits_or (x y : Nat) (hx : x < 9223372036854775808) (hy : y < 9223372036854775808) : bits .or .i64 (x : Int) (y : Int) = ((x ||| y : Nat) : Int) := by
  show IntKind.i64.wrap ((BitVec.ofInt 64 (x : Int) ||| BitVec.ofInt 64 (y : Int)).toNat : Int) = _
  rw [BitVec.toNat_or, toNat_i64 _ (by omega) (by omega), toNat_i64 _ (by omega) (by omega), Int.toNat_natCast, Int.toNat_natCast]
  exact wrap_i64_nat _ (Nat.or_lt_two_pow (n := 63) hx hy)
theorem bits_and1 (x : Int) (h0 : -9223372036854775808 ≤ x) (h1 : x ≤ 9223372036854775807) : bits .and .i64 x 1 = x % 2 := by
  show IntKind.i64.wrap ((BitVec.ofInt 64 x &&& BitVec.ofInt 64 1).toNat : Int) = _
  have e : (BitVec.ofInt 64 x &&& BitVec.ofInt 64 1).toNat = (x % 2).toNat := by
    rw [BitVec.toNat_and]
    have h2 : (BitVec.ofInt 64 (1 : Int)).toNat = 1 := by decide
    rw [h2, Nat.and_one_is_mod, BitVec.toNat_ofInt]
    have h3 : ((2 ^ 64 : Nat) : Int) = 18446744073709551616 := by decide
    rw [h3]
    omega
  rw [e]
  exact IntWalk.i64_in _ (by omega) |>.trans (by omega)
theorem bit_test (y k : Nat) (h : y < 9223372036854775808) : (bits .and .i64 ((y : Int) / 2 ^ k) 1 == 1) = y.testBit k := by
  have e : ((y : Int) / 2 ^ k) = ((y / 2 ^ k : Nat) : Int) := by simp
  have hle : y / 2 ^ k ≤ y := Nat.div_le_self _ _
  rw [e, Nat.testBit, Nat.one_and_eq_mod_two, Nat.shiftRight_eq_div_pow]
  generalize y / 2 ^ k = q at hle
  rw [bits_and1 _ (by omega) (by omega), Bool.eq_iff_iff]
  have h2 : q % 2 = 0 ∨ q % 2 = 1 := by omega
  have e3 : ((q : Int) % 2) = ((q % 2 : Nat) : Int) := by simp
  rw [e3]
  rcases h2 with h2 | h2 <;> rw [h2] <;> simp
end Go.Proofs.Ytgonldkgghikiaa
