/- InvertLinear in the program. -/
import Derived.Test.YtfcfpojldoijlaaRed3
import Derived.BigRegion
namespace Go.Proofs.Ytfcfpojldoijlaa
set_option linter.unusedSimpArgs false
set_option linter.unusedVariables false
set_option linter.unnecessarySimpa false
set_option maxRecDepth 200000
open Go.ChangeShapes Go.WideShapes Go.ChangeAt Go.RowKit

theorem Mid.ownN {w w' : World} {lo hi base g n cap : Nat} {M : List Nat} (h : Mid lo hi w w') (ho : OwnN w base g n cap M) (hb : g < lo ∨ hi ≤ g) : OwnN w' base g n cap M :=
  Mid.own h ho (fun k hk => by injection hk with hk; subst hk; exact hb)
end Go.Proofs.Ytfcfpojldoijlaa
