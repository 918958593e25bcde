/- Commuting in the reference; a valid operator in both. -/
import Derived.Test.YtdkfoleippncnaaPau4
import Derived.Deep.RegionHeld3
namespace Go.Proofs.Ytdkfoleippncnaa
set_option linter.unusedSimpArgs false
set_option linter.unusedVariables false
set_option linter.unnecessarySimpa false
set_option maxRecDepth 200000
open Go.ChangeShapes Go.WideShapes Go.ChangeAt Go.RowKit

end Go.Proofs.Ytdkfoleippncnaa
