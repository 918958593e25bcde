/- IsValidPhasePoly in the program and in the reference. -/
import Derived.Test.YtgonldkgghikiaaPp1
namespace Go.Proofs.Ytgonldkgghikiaa
set_option linter.unusedSimpArgs false
set_option linter.unusedVariables false
set_option linter.unnecessarySimpa false
set_option maxRecDepth 200000
open Go.ChangeShapes Go.WideShapes Go.ChangeAt Go.RowKit

theorem pp_1 {p : PP} (h : ¬ (1 ≤ p.n ∧ p.n ≤ 5)) : false = ppB p := (ppB_false fun k => h k.1).symm
theorem pp_2 {p : PP} (h : ¬ (0 ≤ p.ph ∧ p.ph ≤ 7)) : false = ppB p := (ppB_false fun k => h k.2.1).symm
theorem pp_3 {p : PP} (h : ¬ (p.out.length : Int) = p.n) : false = ppB p := (ppB_false fun k => h k.2.2.1).symm
theorem pp_4 {p : PP} (h : ¬ LinOk p.out) : false = ppB p := (ppB_false fun k => h k.2.2.2.1).symm
theorem pp_5 {p : PP} (h : ¬ TermsOk p.n p.ts) : false = ppB p := (ppB_false fun k => h k.2.2.2.2).symm
theorem pp_ok {p : PP} (h1 : 1 ≤ p.n ∧ p.n ≤ 5) (h2 : 0 ≤ p.ph ∧ p.ph ≤ 7) (h3 : (p.out.length : Int) = p.n) (h4 : LinOk p.out) (h5 : TermsOk p.n p.ts) : true = ppB p := (ppB_true ⟨h1, h2, h3, h4, h5⟩).symm
end Go.Proofs.Ytgonldkgghikiaa
