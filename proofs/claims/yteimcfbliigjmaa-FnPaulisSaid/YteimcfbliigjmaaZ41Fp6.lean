/- The letter of a qubit in the program. -/
import Derived.Test.YteimcfbliigjmaaZ40Fp4
import Derived.BigRegion
namespace Go.Proofs.Yteimcfbliigjmaa
set_option linter.unusedSimpArgs false
set_option linter.unusedVariables false
set_option linter.unnecessarySimpa false
set_option maxRecDepth 200000
open Go.ChangeShapes Go.WideShapes Go.ChangeAt Go.RowKit

/-- The letter's byte: I, X, Z, Y. -/
def letB (l : Nat) : Nat := if l = 0 then 73 else if l = 1 then 88 else if l = 2 then 90 else 89
set_option maxHeartbeats 4000000 in
theorem impl_letterOf_any (a : PN) (q : Nat) (w : World) (ha : PNok a) (hq : q ≤ 60) :
    Calls Try.prog 21 #[.agg #[.int .i64 ((a).p : Int), .int .i64 ((a).x : Int), .int .i64 ((a).z : Int)], .int .i64 (q : Int)] w fun e w' => e = .returned (.int .u8 ((letB (ltr a q) : Nat) : Int)) ∧ Below w.heap.size w w' := by
  obtain ⟨p, x, z⟩ := a
  obtain ⟨hp, hx, hz⟩ := ha
  dsimp only at *
  have b1 := bit_one x q (by omega)
  have b2 := bit_one z q (by omega)
  have l1 := bt_le x q; have l2 := bt_le z q
  unfold ltr
  dsimp only
  have h1 : bt x q = 0 ∨ bt x q = 1 := by omega
  have h2 : bt z q = 0 ∨ bt z q = 1 := by omega
  clear l1 l2
  rcases h1 with h1 | h1 <;> rcases h2 with h2 | h2
  all_goals
    rw [h1] at b1 ⊢
    rw [h2] at b2 ⊢
    simp only [Int.natCast_zero, Int.natCast_one] at b1 b2
    clear h1 h2
    go_enter Try.func21, Try.ntmps21
    go_wp2_with fail
    go_region
    go_wp2_with fail
    go_ret
    exact ⟨rfl, (by repeat (first | exact Below.refl _ _ | assumption | refine Below.drew ?_ | refine below_drewN ?_ _ | refine Below.alloc ?_ (by first | omega | (simp <;> omega)) _ | refine Below.setCell ?_ (by first | omega | (simp <;> omega)) _ | refine Below.trans ?_ (Below.mono (by assumption) (by first | omega | (simp <;> omega)))))⟩
end Go.Proofs.Yteimcfbliigjmaa
