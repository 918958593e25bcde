/- The product of the matrices of two operators. -/
import Derived.Test.YtnckabohlakbgaaGreatZ28Dy17
import Derived.Test.YtnckabohlakbgaaGreatZ03M
import Derived.BigRegion
import Derived.BigQuiet
namespace Go.Proofs.YtnckabohlakbgaaGreat
set_option linter.unusedSimpArgs false
set_option linter.unusedVariables false
set_option linter.unnecessarySimpa false
set_option maxRecDepth 200000
open Go.ChangeShapes Go.WideShapes Go.ChangeAt Go.RowKit

theorem PNn.of {n : Nat} {g : E3} (h : pauB (n : Int) g = true) : PNn n (tn g) := by
  have h2 := of_decide_eq_true h
  have h3 := h2.2
  obtain ⟨e, o⟩ := pauB_nat h
  have hx : g.b = ((tn g).x : Int) := congrArg E3.b e
  have hz : g.c = ((tn g).z : Int) := congrArg E3.c e
  have hb := pauB_eq (m := n) (g := g) (by have := h2.1.1; omega) (by have := h2.1.2; omega)
  rw [h] at hb
  have hb2 := hb.symm
  simp only [Bool.and_eq_true, inB, decide_eq_true_eq] at hb2
  have hp : ((2 : Int) ^ n) = ((2 ^ n : Nat) : Int) := by push_cast; rfl
  refine ⟨o.p, ?_, ?_⟩
  · have := hb2.2.1.2; rw [hp] at this; omega
  · have := hb2.2.2.2; rw [hp] at this; omega
end Go.Proofs.YtnckabohlakbgaaGreat
