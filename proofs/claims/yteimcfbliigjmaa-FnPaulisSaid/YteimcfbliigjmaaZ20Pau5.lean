/- Commuting in the reference; a valid operator in both. -/
import Derived.Test.YteimcfbliigjmaaZ19Pau4
import Derived.Deep.RegionHeld3
namespace Go.Proofs.Yteimcfbliigjmaa
set_option linter.unusedSimpArgs false
set_option linter.unusedVariables false
set_option linter.unnecessarySimpa false
set_option maxRecDepth 200000
open Go.ChangeShapes Go.WideShapes Go.ChangeAt Go.RowKit

end Go.Proofs.Yteimcfbliigjmaa
