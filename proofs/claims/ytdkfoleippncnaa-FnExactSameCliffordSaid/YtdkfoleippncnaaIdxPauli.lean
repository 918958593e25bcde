/- slices.IndexFunc and slices.ContainsFunc over Pauli. -/
import Derived.Test.YtdkfoleippncnaaElPauli
import Derived.Test.YtdkfoleippncnaaSl
import Derived.Deep.LoopGhost
import Derived.Shelf.Abstract
namespace Go.Proofs.Ytdkfoleippncnaa
set_option linter.unusedSimpArgs false
set_option linter.unusedVariables false
set_option linter.unnecessarySimpa false
set_option maxRecDepth 200000
open Go.ChangeShapes Go.WideShapes Go.ChangeAt Go.RowKit

def encPauli (x : E3) : Value := .agg #[.int .i64 x.a, .int .i64 x.b, .int .i64 x.c]
end Go.Proofs.Ytdkfoleippncnaa
