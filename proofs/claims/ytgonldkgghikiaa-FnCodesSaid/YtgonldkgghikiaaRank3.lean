/- RankOf in the program and in the reference. -/
import Derived.Test.YtgonldkgghikiaaRank
import Derived.Test.YtgonldkgghikiaaRank2
namespace Go.Proofs.Ytgonldkgghikiaa
set_option linter.unusedSimpArgs false
set_option linter.unusedVariables false
set_option linter.unnecessarySimpa false
set_option maxRecDepth 200000
open Go.ChangeShapes Go.WideShapes Go.ChangeAt Go.RowKit

/-- The rank of rows of whole numbers. -/
noncomputable def rkI (zs : List Int) : Nat := rk (zs.map Int.toNat)
/-- What RankOf answers. -/
noncomputable def rankA (zs : List Int) : Int × Bool := if zs.length ≤ 64 ∧ allIn zs 0 1023 = true then ((rkI zs : Int), true) else (0, false)
theorem allIn_iff {zs : List Int} {lo hi : Int} : allIn zs lo hi = true ↔ ∀ z ∈ zs, lo ≤ z ∧ z ≤ hi := by simp [allIn]
theorem any_not {zs : List Int} {lo hi : Int} : zs.any (fun z => !decide (lo ≤ z ∧ z ≤ hi)) = !allIn zs lo hi := by
  simp [allIn, List.any_eq_not_all_not]
end Go.Proofs.Ytgonldkgghikiaa
