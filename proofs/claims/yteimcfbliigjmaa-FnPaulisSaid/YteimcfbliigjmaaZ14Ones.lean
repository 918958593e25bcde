/- The library's count of one bits, at numbers below 2^32. -/
import Derived.Test.YteimcfbliigjmaaZ11Pop
namespace Go.Proofs.Yteimcfbliigjmaa
set_option linter.unusedSimpArgs false
set_option linter.unusedVariables false
set_option linter.unnecessarySimpa false
set_option maxRecDepth 200000
open Go.ChangeShapes Go.WideShapes Go.ChangeAt Go.RowKit

theorem toNat_u64 (x : Nat) (h1 : x < 18446744073709551616) : (BitVec.ofInt 64 (x : Int)).toNat = x := by
  rw [BitVec.ofInt_natCast, BitVec.toNat_ofNat]
  exact Nat.mod_eq_of_lt (by omega)
theorem bits_andU (x y : Nat) (hx : x < 9223372036854775808) (hy : y < 9223372036854775808) : bits .and .u64 (x : Int) (y : Int) = ((x &&& y : Nat) : Int) := by
  show IntKind.u64.wrap ((BitVec.ofInt 64 (x : Int) &&& BitVec.ofInt 64 (y : Int)).toNat : Int) = _
  rw [BitVec.toNat_and, toNat_u64 _ (by omega), toNat_u64 _ (by omega)]
  have : x &&& y ≤ x := Nat.and_le_left
  exact IntWalk.u64_in _ (by omega)
theorem and_127 (y : Nat) (hy : y < 9223372036854775808) : bits .and .i64 (y : Int) 127 = ((y % 128 : Nat) : Int) := by
  have h := bits_and y 127 hy (by omega)
  have e : y &&& 127 = y % 128 := Nat.and_two_pow_sub_one_eq_mod y 7
  rw [e] at h; exact h
theorem S1_le (k x : Nat) : S1 k x ≤ x / 2 + x := by unfold S1; have := @Nat.and_le_left (x / 2) (repB 85 k); have := @Nat.and_le_left x (repB 85 k); omega
theorem OnesCount64_any (x : Nat) (w : World) (hx : x < 4294967296) :
    Calls Try.prog 56 #[.int .u64 (x : Int)] w fun e w' => e = .returned (.int .i64 (pop x : Int)) ∧ w = w' := by
  obtain ⟨a1, h1⟩ : ∃ a, a = x / 2 &&& repB 85 8 := ⟨_, rfl⟩
  obtain ⟨a2, h2⟩ : ∃ a, a = x &&& repB 85 8 := ⟨_, rfl⟩
  have l1 : a1 ≤ x / 2 := h1 ▸ Nat.and_le_left
  have l2 : a2 ≤ x := h2 ▸ Nat.and_le_left
  obtain ⟨b1, h3⟩ : ∃ b, b = (a1 + a2) / 4 &&& repB 51 8 := ⟨_, rfl⟩
  obtain ⟨b2, h4⟩ : ∃ b, b = (a1 + a2) &&& repB 51 8 := ⟨_, rfl⟩
  have l3 : b1 ≤ (a1 + a2) / 4 := h3 ▸ Nat.and_le_left
  have l4 : b2 ≤ a1 + a2 := h4 ▸ Nat.and_le_left
  obtain ⟨y, h5⟩ : ∃ y, y = ((b1 + b2) / 16 + (b1 + b2)) &&& repB 15 8 := ⟨_, rfl⟩
  have l5 : y ≤ (b1 + b2) / 16 + (b1 + b2) := h5 ▸ Nat.and_le_left
  have m0 : repB 85 8 = 6148914691236517205 := by decide
  have m1 : repB 51 8 = 3689348814741910323 := by decide
  have m2 : repB 15 8 = 1085102592571150095 := by decide
  have e1 : bits .and .u64 ((x : Int) / 2) 6148914691236517205 = (a1 : Int) := by
    have := bits_andU (x / 2) 6148914691236517205 (by omega) (by omega); rw [h1, m0, ← this]; simp
  have e2 : bits .and .u64 (x : Int) 6148914691236517205 = (a2 : Int) := by
    have := bits_andU x 6148914691236517205 (by omega) (by omega); rw [h2, m0, ← this]; simp
  have e3 : bits .and .u64 (((a1 : Int) + (a2 : Int)) / 4) 3689348814741910323 = (b1 : Int) := by
    have := bits_andU ((a1 + a2) / 4) 3689348814741910323 (by omega) (by omega); rw [h3, m1, ← this]; simp
  have e4 : bits .and .u64 ((a1 : Int) + (a2 : Int)) 3689348814741910323 = (b2 : Int) := by
    have := bits_andU (a1 + a2) 3689348814741910323 (by omega) (by omega); rw [h4, m1, ← this]; simp
  have e5 : bits .and .u64 (((b1 : Int) + (b2 : Int)) / 16 + ((b1 : Int) + (b2 : Int))) 1085102592571150095 = (y : Int) := by
    have := bits_andU ((b1 + b2) / 16 + (b1 + b2)) 1085102592571150095 (by omega) (by omega); rw [h5, m2, ← this]; simp
  obtain ⟨y1, h6⟩ : ∃ y1, y1 = y + y / 256 := ⟨_, rfl⟩
  obtain ⟨y2, h7⟩ : ∃ y2, y2 = y1 + y1 / 65536 := ⟨_, rfl⟩
  obtain ⟨y3, h8⟩ : ∃ y3, y3 = y2 + y2 / 4294967296 := ⟨_, rfl⟩
  obtain ⟨r1, r2⟩ := pop_sum x y y1 y2 y3 (by rw [h5, show b1 + b2 = S2 8 (a1 + a2) from by rw [h3, h4]; rfl, show a1 + a2 = S1 8 x from by rw [h1, h2]; rfl]; rfl) h6 h7 h8
  have e8 : bits .and .i64 (y3 : Int) 127 = (pop x : Int) := by rw [and_127 _ r1, r2]
  have s6 : ((y : Int) + (y : Int) / 256) = (y1 : Int) := by omega
  have s7 : ((y1 : Int) + (y1 : Int) / 65536) = (y2 : Int) := by omega
  have s8 : ((y2 : Int) + (y2 : Int) / 4294967296) = (y3 : Int) := by omega
  have k1 : y ≤ 8589934592 := by omega
  have k2 : y1 ≤ 17179869184 := by omega
  have k3 : y2 ≤ 34359738368 := by omega
  have k4 : a1 ≤ 2147483648 := by omega
  have k5 : a2 ≤ 4294967296 := by omega
  have k6 : b1 ≤ 4294967296 := by omega
  have k7 : b2 ≤ 8589934592 := by omega
  have k8 : y3 ≤ 34359738368 + 8 := by omega
  clear h1 h2 h3 h4 h5 h6 h7 h8 m0 m1 m2 r2 l1 l2 l3 l4 l5
  go_enter Try.func56, Try.ntmps56
  go_wp2_with fail
  go_ret
  exact ⟨rfl, rfl⟩
theorem OnesCount_any (x : Nat) (w : World) (hx : x < 4294967296) :
    Calls Try.prog 38 #[.int .u64 (x : Int)] w fun e w' => e = .returned (.int .i64 (pop x : Int)) ∧ w = w' := by
  go_enter Try.func38, Try.ntmps38
  go_wp2_with fail
  refine (OnesCount64_any x _ hx).mono ?_; rintro e w' ⟨rfl, rfl⟩
  go_wp2_with fail
  go_ret
  exact ⟨rfl, rfl⟩
end Go.Proofs.Yteimcfbliigjmaa
