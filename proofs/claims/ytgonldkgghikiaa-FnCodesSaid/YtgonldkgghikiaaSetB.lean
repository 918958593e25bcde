/- The places of a number's one bits, plain. -/
import Derived.Test.YtgonldkgghikiaaBits
import Derived.Test.YtgonldkgghikiaaSpan2
namespace Go.Proofs.Ytgonldkgghikiaa
set_option linter.unusedSimpArgs false
set_option linter.unusedVariables false
set_option linter.unnecessarySimpa false
set_option maxRecDepth 200000
open Go.ChangeShapes Go.WideShapes Go.ChangeAt Go.RowKit

def setB (y k : Nat) : List Nat := (List.range k).filter y.testBit
theorem setB_succ (y k : Nat) : setB y (k + 1) = if y.testBit k = true then setB y k ++ [k] else setB y k := by
  simp only [setB, List.range_succ, List.filter_append]
  cases h : y.testBit k <;> simp [h]
theorem setB_len (y k : Nat) : (setB y k).length ≤ k := by
  have := List.length_filter_le y.testBit (List.range k); simpa [setB] using this
theorem setB_mem {y k j : Nat} (h : j ∈ setB y k) : j < k ∧ y.testBit j = true := by simpa [setB] using h
theorem testBit_big {y k j : Nat} (h : y < 2 ^ k) (hj : k ≤ j) : y.testBit j = false := Nat.testBit_lt_two_pow (Nat.lt_of_lt_of_le h (Nat.pow_le_pow_right (by decide) hj))
theorem setB_eq {y k m : Nat} (h : y < 2 ^ k) (hm : y < 2 ^ m) : setB y k = setB y m := by
  have key : ∀ d a, y < 2 ^ a → setB y (a + d) = setB y a := by
    intro d
    induction d with
    | zero => intro a _; rfl
    | succ d ih =>
      intro a ha
      rw [← Nat.add_assoc, setB_succ, testBit_big ha (by omega)]
      simp [ih a ha]
  rcases Nat.le_total k m with hk | hk
  · rw [show m = k + (m - k) from by omega, key _ _ h]
  · rw [show k = m + (k - m) from by omega, key _ _ hm]
/-- All places. -/
def bitsOf (y : Nat) : List Nat := setB y 10
end Go.Proofs.Ytgonldkgghikiaa
