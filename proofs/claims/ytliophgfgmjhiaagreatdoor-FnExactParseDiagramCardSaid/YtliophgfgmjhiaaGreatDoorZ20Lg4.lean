/- FormatLog: the reference. -/
import Derived.Test.YtliophgfgmjhiaaGreatDoorZ12Lg3
namespace Go.Proofs.YtliophgfgmjhiaaGreatDoor
set_option linter.unusedSimpArgs false
set_option linter.unusedVariables false
set_option linter.unnecessarySimpa false
set_option maxRecDepth 200000
open Go.ChangeShapes Go.WideShapes Go.ChangeAt Go.RowKit

theorem logStr_no {xs : List E3} (h : logB xs = false) : logStr xs = ⟨#[]⟩ := by unfold logStr; rw [h]; rfl
theorem logStr_yes {xs : List E3} (h : logB xs = true) : logStr xs = logText xs := by unfold logStr; rw [h]; rfl
theorem logB_parts {xs : List E3} (h : logB xs = true) : xs.all okStep = true ∧ xs.length ≤ 60 := by
  unfold logB at h
  rw [Bool.and_eq_true] at h
  exact ⟨h.1, of_decide_eq_true h.2⟩
end Go.Proofs.YtliophgfgmjhiaaGreatDoor
