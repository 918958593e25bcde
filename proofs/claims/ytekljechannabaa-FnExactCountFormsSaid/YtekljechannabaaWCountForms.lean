/- The walk through the law FnExactCountForms. -/
import Derived.Test.YtekljechannabaaA1
import Derived.Test.YtekljechannabaaOpen1
namespace Go.Proofs.Ytekljechannabaa
set_option linter.unusedSimpArgs false
set_option linter.unusedVariables false
open Go.ChangeShapes Go.WideShapes Go.ChangeAt Go.RowKit

theorem walk_FnExactCountForms (v0 : Value) (w : World) (h0 : IsInt v0) :
    Calls Try.prog 3 #[v0] w fun e w' => e = .returned (.bool true) ∧ Below w.heap.size w w' := by
  obtain ⟨n, rfl, hl, hh⟩ := h0
  cases hb : inB n 0 20
  all_goals
    have Hb := Lib.hid hb; clear hb
    go_enter Try.func3, Try.ntmps3
    go_wp2_with fail
    refine (specCountForms_any _ _).mono ?_; rintro e w' ⟨rfl, rfl⟩
    rw [Hb.out]
    go_wp2_with fail
    refine (implCountForms_any _ _).mono ?_; rintro e w' ⟨rfl, rfl⟩
    rw [Hb.out]
    go_wp2_with fail
    go_ret
    exact ⟨rfl, (by repeat (first | exact Below.refl _ _ | assumption | refine Below.drew ?_ | refine below_drewN ?_ _ | refine Below.alloc ?_ (by simp <;> omega) _ | refine Below.setCell ?_ (by simp <;> omega) _ | refine Below.trans ?_ (Below.mono (by assumption) (by simp <;> omega))))⟩

end Go.Proofs.Ytekljechannabaa
