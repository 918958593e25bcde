/- Term: the laws' helpers: equal, marked, held. -/
import Derived.Test.YtgonldkgghikiaaSlice1
import Derived.Test.YtgonldkgghikiaaInt1
namespace Go.Proofs.Ytgonldkgghikiaa
set_option linter.unusedSimpArgs false
set_option linter.unusedVariables false
set_option linter.unnecessarySimpa false
set_option maxRecDepth 200000
open Go.ChangeShapes Go.WideShapes Go.ChangeAt Go.RowKit

end Go.Proofs.Ytgonldkgghikiaa
