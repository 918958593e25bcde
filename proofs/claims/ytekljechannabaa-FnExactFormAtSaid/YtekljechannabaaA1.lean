/- The two range tests of the program and of the reference answer by comparison. -/
import Derived.Test.YtekljechannabaaOpen1
namespace Go.Proofs.Ytekljechannabaa
set_option linter.unusedSimpArgs false
set_option linter.unusedVariables false
open Go.ChangeShapes Go.WideShapes Go.ChangeAt Go.RowKit

def inB (n lo hi : Int) : Bool := decide (lo ≤ n) && decide (n ≤ hi)

theorem within_any (n lo hi : Int) (w : World) :
    Calls Try.prog 37 #[.int .i64 n, .int .i64 lo, .int .i64 hi] w fun e w' => e = .returned (.bool (inB n lo hi)) ∧ w = w' := by
  by_cases h1 : lo ≤ n
  · go_enter Try.func37, Try.ntmps37
    go_wp2
    go_ret
    exact ⟨by simp [inB, h1], rfl⟩
  · go_enter Try.func37, Try.ntmps37
    go_wp2
    go_ret
    exact ⟨by simp [inB]; omega, rfl⟩

theorem l1In_any (n lo hi : Int) (w : World) :
    Calls Try.prog 35 #[.int .i64 n, .int .i64 lo, .int .i64 hi] w fun e w' => e = .returned (.bool (inB n lo hi)) ∧ w = w' := by
  by_cases h1 : lo ≤ n
  · go_enter Try.func35, Try.ntmps35
    go_wp2
    go_ret
    exact ⟨by simp [inB, h1], rfl⟩
  · go_enter Try.func35, Try.ntmps35
    go_wp2
    go_ret
    exact ⟨by simp [inB]; omega, rfl⟩

theorem count_wrap (n : Int) (h0 : 0 ≤ n) (h1 : n ≤ 20) : wrap64 (72 * 2 ^ (n.toNat - 1)) = 72 * 2 ^ (n.toNat - 1) := by
  obtain ⟨k, rfl⟩ := Int.eq_ofNat_of_zero_le h0
  rw [Int.toNat_natCast]
  have h : ∀ k : Nat, k < 21 → wrap64 (72 * 2 ^ (k - 1)) = 72 * 2 ^ (k - 1) := by decide +kernel
  exact h k (by omega)

def countF (n : Int) : Int := if n = 0 then 24 else 72 * 2 ^ (n.toNat - 1)
theorem l10Count_any (n : Int) (w : World) (h0 : 0 ≤ n) (h1 : n ≤ 20) :
    Calls Try.prog 36 #[.int .i64 n] w fun e w' => e = .returned (.int .i64 (countF n)) ∧ w = w' := by
  by_cases h2 : n = 0
  · subst h2
    go_enter Try.func36, Try.ntmps36
    go_wp2
    go_ret
    exact ⟨rfl, rfl⟩
  · have h3 : (n == 0) = false := by simpa using h2
    go_enter Try.func36, Try.ntmps36
    go_wp2
    go_ret
    exact ⟨ret_int ((count_wrap n h0 h1).trans (if_neg h2).symm), rfl⟩

theorem specCountForms_any (n : Int) (w : World) :
    Calls Try.prog 10 #[.int .i64 n] w fun e w' => e = .returned (if inB n 0 20 then .tuple #[.int .i64 (countF n), .bool true] else .tuple #[.int .i64 0, .bool false]) ∧ w = w' := by
  cases hb : inB n 0 20
  · have Hb := Lib.hid hb; clear hb
    go_enter Try.func10, Try.ntmps10
    go_wp2_with fail
    refine (l1In_any _ _ _ _).mono ?_; rintro e w' ⟨rfl, rfl⟩
    rw [Hb.out]
    go_wp2_with fail
    go_ret2
    exact ⟨rfl, rfl⟩
  · have Hb := Lib.hid hb; clear hb
    have h : 0 ≤ n ∧ n ≤ 20 := by simpa [inB] using Hb.out
    obtain ⟨h0, h1⟩ := h
    go_enter Try.func10, Try.ntmps10
    go_wp2_with fail
    refine (l1In_any _ _ _ _).mono ?_; rintro e w' ⟨rfl, rfl⟩
    rw [Hb.out]
    go_wp2_with fail
    refine (l10Count_any _ _ h0 h1).mono ?_; rintro e w' ⟨rfl, rfl⟩
    go_wp2_with fail
    go_ret2
    exact ⟨rfl, rfl⟩

theorem implCountForms_any (n : Int) (w : World) :
    Calls Try.prog 11 #[.int .i64 n] w fun e w' => e = .returned (if inB n 0 20 then .tuple #[.int .i64 (countF n), .bool true] else .tuple #[.int .i64 0, .bool false]) ∧ w = w' := by
  cases hb : inB n 0 20
  · have Hb := Lib.hid hb; clear hb
    go_enter Try.func11, Try.ntmps11
    go_wp2_with fail
    refine (within_any _ _ _ _).mono ?_; rintro e w' ⟨rfl, rfl⟩
    rw [Hb.out]
    go_wp2_with fail
    go_ret2
    exact ⟨rfl, rfl⟩
  · have Hb := Lib.hid hb; clear hb
    have h : 0 ≤ n ∧ n ≤ 20 := by simpa [inB] using Hb.out
    obtain ⟨h0, h1⟩ := h
    by_cases h2 : n = 0
    · subst h2
      go_enter Try.func11, Try.ntmps11
      go_wp2_with fail
      refine (within_any _ _ _ _).mono ?_; rintro e w' ⟨rfl, rfl⟩
      rw [Hb.out]
      go_wp2_with fail
      go_ret2
      exact ⟨rfl, rfl⟩
    · have h3 : (n == 0) = false := by simpa using h2
      have h4 : 1 ≤ n := by omega
      go_enter Try.func11, Try.ntmps11
      go_wp2_with fail
      refine (within_any _ _ _ _).mono ?_; rintro e w' ⟨rfl, rfl⟩
      rw [Hb.out]
      go_wp2_with fail
      go_ret2
      refine ⟨?_, rfl⟩
      rw [count_wrap n h0 h1]; simp [countF, h2]

end Go.Proofs.Ytekljechannabaa
