/- The rank over GF(2), in the reference. -/
import Derived.Test.YtgonldkgghikiaaDel
import Derived.Test.YtgonldkgghikiaaSpan2
import Derived.Test.YtgonldkgghikiaaBits
namespace Go.Proofs.Ytgonldkgghikiaa
set_option linter.unusedSimpArgs false
set_option linter.unusedVariables false
set_option linter.unnecessarySimpa false
set_option maxRecDepth 200000
open Go.ChangeShapes Go.WideShapes Go.ChangeAt Go.RowKit

end Go.Proofs.Ytgonldkgghikiaa
