/- Linear: the laws' helpers. -/
import Derived.Test.YtgonldkgghikiaaArg1
import Derived.Test.YtgonldkgghikiaaDat
namespace Go.Proofs.Ytgonldkgghikiaa
set_option linter.unusedSimpArgs false
set_option linter.unusedVariables false
set_option linter.unnecessarySimpa false
set_option maxRecDepth 200000
open Go.ChangeShapes Go.WideShapes Go.ChangeAt Go.RowKit

end Go.Proofs.Ytgonldkgghikiaa
