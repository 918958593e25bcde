/- The tests of a two-level operator, in the program and in the reference, answer by the same plain function. -/
import Derived.Test.YtindldkileidmaaDoorA1
import Derived.Deep.Light
namespace Go.Proofs.YtindldkileidmaaDoor
set_option linter.unusedSimpArgs false
set_option linter.unusedVariables false
set_option linter.unnecessarySimpa false
set_option maxRecDepth 200000
open Go.ChangeShapes Go.WideShapes Go.ChangeAt Go.RowKit

theorem within_p (n lo hi : Int) (w : World) :
    Calls Tryd.prog 32 #[.int .i64 n, .int .i64 lo, .int .i64 hi] w fun e w' => e = .returned (.bool (decide (lo ≤ n ∧ n ≤ hi))) ∧ w = w' :=
  (within_any n lo hi w).mono fun _ _ ⟨h, h'⟩ => ⟨by rw [h]; simp [inB], h'⟩
theorem l1In_p (n lo hi : Int) (w : World) :
    Calls Tryd.prog 26 #[.int .i64 n, .int .i64 lo, .int .i64 hi] w fun e w' => e = .returned (.bool (decide (lo ≤ n ∧ n ≤ hi))) ∧ w = w' :=
  (l1In_any n lo hi w).mono fun _ _ ⟨h, h'⟩ => ⟨by rw [h]; simp [inB], h'⟩

def IsDim (n : Int) : Prop := n = 2 ∨ n = 4 ∨ n = 8
instance (n : Int) : Decidable (IsDim n) := by unfold IsDim; infer_instance
def TLok (n k i j m : Int) : Prop := IsDim n ∧ 0 ≤ i ∧ i ≤ n - 1 ∧ 0 ≤ j ∧ j ≤ n - 1 ∧ ((k = 1 ∧ j = 0 ∧ 1 ≤ m ∧ m ≤ 7) ∨ (k = 2 ∧ i < j ∧ m = 0) ∨ (k = 3 ∧ i < j ∧ 0 ≤ m ∧ m ≤ 7))
instance (n k i j m : Int) : Decidable (TLok n k i j m) := by unfold TLok; infer_instance


theorem tl_dim {n k i j m : Int} (h : ¬ IsDim n) : false = decide (TLok n k i j m) := by simp [TLok, h]
theorem dim_range {n : Int} (h : IsDim n) : 1 ≤ n ∧ n ≤ 8 := by unfold IsDim at h; omega

end Go.Proofs.YtindldkileidmaaDoor
