/- The places of a number's one bits, as the reference lists them. -/
import Derived.Test.YtfcmakabejnicabDel
import Derived.Test.YtfcmakabejnicabSetB
import Derived.Test.YtfcmakabejnicabBits
import Derived.Test.YtfcmakabejnicabSpan2
import Derived.Deep.RegionLaw
namespace Go.Proofs.Ytfcmakabejnicab
set_option linter.unusedSimpArgs false
set_option linter.unusedVariables false
set_option linter.unnecessarySimpa false
set_option maxRecDepth 200000
open Go.ChangeShapes Go.WideShapes Go.ChangeAt Go.RowKit

theorem div_pos_iff (y k : Nat) : (0 < y / 2 ^ k) ↔ 2 ^ k ≤ y := by
  rw [Nat.div_pos_iff]; exact ⟨fun h => h.2, fun h => ⟨Nat.pow_pos (by decide), h⟩⟩
end Go.Proofs.Ytfcmakabejnicab
