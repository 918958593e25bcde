/- The text of a log: the reference's loops. -/
import Derived.Test.YtliophgfgmjhiaaGreatDoorZ10Lg1
import Derived.Test.YtliophgfgmjhiaaGreatDoorZ04Brk
import Derived.BigRegion
import Derived.BigQuiet
namespace Go.Proofs.YtliophgfgmjhiaaGreatDoor
set_option linter.unusedSimpArgs false
set_option linter.unusedVariables false
set_option linter.unnecessarySimpa false
set_option maxRecDepth 200000
open Go.ChangeShapes Go.WideShapes Go.ChangeAt Go.RowKit

def allTo (xs : List E3) (k : Nat) : Bool := (xs.take k).all okStep
theorem allTo_succ {xs : List E3} {k : Nat} (h : k < xs.length) : allTo xs (k + 1) = (allTo xs k && okStep (xs.getD k ⟨0, 0, 0⟩)) := by
  unfold allTo
  rw [List.take_succ_eq_append_getElem h, List.all_append]
  simp [List.getD, h]
theorem allTo_all {xs : List E3} {k : Nat} (h : xs.length ≤ k) : allTo xs k = xs.all okStep := by unfold allTo; rw [List.take_of_length_le h]
theorem all_no {xs : List E3} {k : Nat} (h : k < xs.length) (hx : okStep (xs.getD k ⟨0, 0, 0⟩) = false) : logB xs = false := by
  have e : xs.getD k ⟨0, 0, 0⟩ = xs[k] := by simp [List.getD, h]
  rw [e] at hx
  unfold logB
  have : xs.all okStep = false := by rw [List.all_eq_false]; exact ⟨xs[k], List.getElem_mem h, by simp [hx]⟩
  rw [this]; rfl
end Go.Proofs.YtliophgfgmjhiaaGreatDoor
