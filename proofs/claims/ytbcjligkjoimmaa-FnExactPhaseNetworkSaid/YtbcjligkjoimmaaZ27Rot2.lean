/- RotationGates in the program and in the reference. -/
import Derived.Test.YtbcjligkjoimmaaZ23M
import Derived.Test.YtbcjligkjoimmaaZ01M
namespace Go.Proofs.Ytbcjligkjoimmaa
set_option linter.unusedSimpArgs false
set_option linter.unusedVariables false
set_option linter.unnecessarySimpa false
set_option maxRecDepth 200000
open Go.ChangeShapes Go.WideShapes Go.ChangeAt Go.RowKit

theorem spec_l13Rotation_any (q c : Int) (w : World) (h0 : 0 ≤ c) (h1 : c ≤ 7) :
    Calls Try.prog 55 #[.int .i64 q, .int .i64 c] w fun e w' => ∃ v, e = .returned v ∧ OwnE w' w.heap.size 58 v E3.cs 3 (rotF q c) ∧ Below w.heap.size w w' := by
  have hc : c = 0 ∨ c = 1 ∨ c = 2 ∨ c = 3 ∨ c = 4 ∨ c = 5 ∨ c = 6 ∨ c = 7 := by omega
  rcases hc with rfl | rfl | rfl | rfl | rfl | rfl | rfl | rfl
  · exact spec_l13Rotation_0 q w
  · exact spec_l13Rotation_1 q w
  · exact spec_l13Rotation_2 q w
  · exact spec_l13Rotation_3 q w
  · exact spec_l13Rotation_4 q w
  · exact spec_l13Rotation_5 q w
  · exact spec_l13Rotation_6 q w
  · exact spec_l13Rotation_7 q w
theorem impl_rotation_any (q c : Int) (w : World) (h0 : 0 ≤ c) (h1 : c ≤ 7) :
    Calls Try.prog 75 #[.int .i64 q, .int .i64 c] w fun e w' => ∃ v, e = .returned v ∧ OwnE w' w.heap.size 58 v E3.cs 3 (rotF q c) ∧ Below w.heap.size w w' := by
  have hc : c = 0 ∨ c = 1 ∨ c = 2 ∨ c = 3 ∨ c = 4 ∨ c = 5 ∨ c = 6 ∨ c = 7 := by omega
  rcases hc with rfl | rfl | rfl | rfl | rfl | rfl | rfl | rfl
  · exact impl_rotation_0 q w
  · exact impl_rotation_1 q w
  · exact impl_rotation_2 q w
  · exact impl_rotation_3 q w
  · exact impl_rotation_4 q w
  · exact impl_rotation_5 q w
  · exact impl_rotation_6 q w
  · exact impl_rotation_7 q w

def rotG (q c : Int) : Option (List E3) := if 0 ≤ q ∧ q ≤ 4 ∧ 0 ≤ c ∧ c ≤ 7 then some (rotF q c) else none
theorem rotG_len (q c : Int) : ((rotG q c).getD []).length ≤ 1000000 := by
  unfold rotG; split
  · simp only [Option.getD_some, rotF, List.length_map, rotKinds]; repeat (first | split | decide)
  · simp
theorem rotG_none {q c : Int} (h : ¬ (0 ≤ q ∧ q ≤ 4 ∧ 0 ≤ c ∧ c ≤ 7)) : rotG q c = none := if_neg h
theorem rotG_some {q c : Int} (h : 0 ≤ q ∧ q ≤ 4 ∧ 0 ≤ c ∧ c ≤ 7) : rotG q c = some (rotF q c) := if_pos h
end Go.Proofs.Ytbcjligkjoimmaa
