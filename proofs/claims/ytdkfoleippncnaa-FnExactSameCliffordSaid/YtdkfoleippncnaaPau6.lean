/- A valid operator, a valid image: the program's tests and the reference's. -/
import Derived.Test.YtdkfoleippncnaaPau5
namespace Go.Proofs.Ytdkfoleippncnaa
set_option linter.unusedSimpArgs false
set_option linter.unusedVariables false
set_option linter.unnecessarySimpa false
set_option maxRecDepth 200000
open Go.ChangeShapes Go.WideShapes Go.ChangeAt Go.RowKit

theorem within_is {x lo hi : Int} {b : Bool} (h : inB x lo hi = b) (w : World) :
    Calls Try.prog 83 #[.int .i64 x, .int .i64 lo, .int .i64 hi] w fun e w' => e = .returned (.bool b) ∧ w = w' := by
  rw [← h]; exact within_any x lo hi w
theorem l1In_is {x lo hi : Int} {b : Bool} (h : inB x lo hi = b) (w : World) :
    Calls Try.prog 97 #[.int .i64 x, .int .i64 lo, .int .i64 hi] w fun e w' => e = .returned (.bool b) ∧ w = w' := by
  rw [← h]; exact l1In_any x lo hi w
theorem pauB_eq {m : Nat} {g : E3} (h0 : 1 ≤ m) (h1 : m ≤ 5) : pauB (m : Int) g = (inB g.a 0 3 && (inB g.b 0 (2 ^ m - 1) && inB g.c 0 (2 ^ m - 1))) := by
  unfold pauB PauOk
  rw [Bool.eq_iff_iff]
  simp only [decide_eq_true_eq, Bool.and_eq_true, inB, Int.toNat_natCast]
  constructor
  · rintro ⟨_, a, b, c⟩; exact ⟨a, b, c⟩
  · rintro ⟨a, b, c⟩; exact ⟨by omega, a, b, c⟩
theorem pauB_n {n : Int} {g : E3} (h : ¬ (1 ≤ n ∧ n ≤ 5)) : pauB n g = false := decide_eq_false fun k => h k.1
theorem pow_small5 {m : Nat} (h : m ≤ 5) : (2 : Int) ^ m ≤ 32 ∧ 1 ≤ (2 : Int) ^ m := by
  obtain rfl | rfl | rfl | rfl | rfl | rfl : m = 0 ∨ m = 1 ∨ m = 2 ∨ m = 3 ∨ m = 4 ∨ m = 5 := by omega
  all_goals decide
def imB (n : Int) (g : E3) : Bool := decide ((1 ≤ n ∧ n ≤ 5) ∧ ImOk n g)
theorem imB_eq {n : Int} {g : E3} : imB n g = (pauB n g && (g.a % 2 == 0)) := by
  unfold imB pauB ImOk
  rw [Bool.eq_iff_iff]
  simp [and_assoc]
theorem pauB_a {n : Int} {g : E3} (h : pauB n g = true) : 0 ≤ g.a ∧ g.a ≤ 3 := (of_decide_eq_true h).2.1
end Go.Proofs.Ytdkfoleippncnaa
