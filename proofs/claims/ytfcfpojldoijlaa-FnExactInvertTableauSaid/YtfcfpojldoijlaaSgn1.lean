/- SignOnly in the program. -/
import Derived.Test.YtfcfpojldoijlaaComp3
import Derived.Test.YtfcfpojldoijlaaBrk
import Derived.BigQuiet
import Derived.Deep.QuietTactic
namespace Go.Proofs.Ytfcfpojldoijlaa
set_option linter.unusedSimpArgs false
set_option linter.unusedVariables false
set_option linter.unnecessarySimpa false
set_option maxRecDepth 200000
open Go.ChangeShapes Go.WideShapes Go.ChangeAt Go.RowKit

/-- The images of a qubit are the generators, up to sign. -/
def sgnQ (X Z : List PN) (q : Nat) : Bool :=
  ((X.getD q ⟨0, 0, 0⟩).x == 2 ^ q && (X.getD q ⟨0, 0, 0⟩).z == 0) && ((Z.getD q ⟨0, 0, 0⟩).x == 0 && (Z.getD q ⟨0, 0, 0⟩).z == 2 ^ q)
def sgnAll (X Z : List PN) (n : Nat) : Bool := (List.range n).all (sgnQ X Z)
def SgnTo (X Z : List PN) (k : Nat) : Prop := ∀ q, q < k → sgnQ X Z q = true
theorem sgn_yes {X Z : List PN} {n k : Nat} (h : SgnTo X Z k) (hk : n ≤ k) : true = sgnAll X Z n := by
  symm; unfold sgnAll; rw [List.all_eq_true]
  intro q hq
  exact h q (by have := List.mem_range.1 hq; omega)
theorem sgn_no {X Z : List PN} {n k : Nat} (hk : k < n) (h : sgnQ X Z k = false) : false = sgnAll X Z n := by
  symm; unfold sgnAll; rw [List.all_eq_false]
  exact ⟨k, List.mem_range.2 hk, by simp [h]⟩
theorem SgnTo.next {X Z : List PN} {k : Nat} (h : SgnTo X Z k) (h2 : sgnQ X Z k = true) : SgnTo X Z (k + 1) := by
  intro q hq
  by_cases e : q = k
  · subst e; exact h2
  · exact h q (by omega)
noncomputable def sgnG (d : Tab) : Option Bool := if TabOk d then some (sgnAll (d.xs.map tn) (d.zs.map tn) d.n.toNat) else none
theorem ne_pow (x k : Nat) : ((x : Int) != (2 : Int) ^ k) = !(x == 2 ^ k) := by
  rw [show (2 : Int) ^ k = ((2 ^ k : Nat) : Int) from by simp]
  generalize 2 ^ k = y
  rw [Bool.eq_iff_iff]
  simp
  omega
theorem ne_zero (x : Nat) : ((x : Int) != 0) = !(x == 0) := by
  rw [Bool.eq_iff_iff]; simp
theorem quad (a b c d : Bool) : a = false ∨ (a = true ∧ b = false) ∨ (a = true ∧ b = true ∧ c = false) ∨ (a = true ∧ b = true ∧ c = true ∧ d = false) ∨ (a = true ∧ b = true ∧ c = true ∧ d = true) := by
  cases a <;> cases b <;> cases c <;> cases d <;> simp
theorem ret_two {a b : Bool} (h : a = b) : Ending.returned (.tuple #[.bool a, .bool true]) = .returned (.tuple #[.bool ((some b).getD false), .bool (some b).isSome]) := by rw [h]; rfl
end Go.Proofs.Ytfcfpojldoijlaa
