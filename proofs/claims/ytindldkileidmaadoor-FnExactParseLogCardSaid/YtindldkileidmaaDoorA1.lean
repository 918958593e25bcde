/- The two range tests of the program and of the reference answer by comparison. -/
import Derived.Test.YtindldkileidmaaDoorOpen1
namespace Go.Proofs.YtindldkileidmaaDoor
set_option linter.unusedSimpArgs false
set_option linter.unusedVariables false
set_option linter.unnecessarySimpa false
set_option maxRecDepth 200000
open Go.ChangeShapes Go.WideShapes Go.ChangeAt Go.RowKit

def inB (n lo hi : Int) : Bool := decide (lo ≤ n) && decide (n ≤ hi)

theorem within_any (n lo hi : Int) (w : World) :
    Calls Tryd.prog 32 #[.int .i64 n, .int .i64 lo, .int .i64 hi] w fun e w' => e = .returned (.bool (inB n lo hi)) ∧ w = w' := by
  by_cases h1 : lo ≤ n
  · go_enter Tryd.func32, Tryd.ntmps32
    go_wp2
    go_ret
    exact ⟨by simp [inB, h1], rfl⟩
  · go_enter Tryd.func32, Tryd.ntmps32
    go_wp2
    go_ret
    exact ⟨by simp [inB]; omega, rfl⟩

theorem l1In_any (n lo hi : Int) (w : World) :
    Calls Tryd.prog 26 #[.int .i64 n, .int .i64 lo, .int .i64 hi] w fun e w' => e = .returned (.bool (inB n lo hi)) ∧ w = w' := by
  by_cases h1 : lo ≤ n
  · go_enter Tryd.func26, Tryd.ntmps26
    go_wp2
    go_ret
    exact ⟨by simp [inB, h1], rfl⟩
  · go_enter Tryd.func26, Tryd.ntmps26
    go_wp2
    go_ret
    exact ⟨by simp [inB]; omega, rfl⟩

theorem count_wrap (n : Int) (h0 : 0 ≤ n) (h1 : n ≤ 20) : wrap64 (72 * 2 ^ (n.toNat - 1)) = 72 * 2 ^ (n.toNat - 1) := by
  obtain ⟨k, rfl⟩ := Int.eq_ofNat_of_zero_le h0
  rw [Int.toNat_natCast]
  have h : ∀ k : Nat, k < 21 → wrap64 (72 * 2 ^ (k - 1)) = 72 * 2 ^ (k - 1) := by decide +kernel
  exact h k (by omega)

def countF (n : Int) : Int := if n = 0 then 24 else 72 * 2 ^ (n.toNat - 1)
end Go.Proofs.YtindldkileidmaaDoor
