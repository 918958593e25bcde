/- What both sides of ParseDiagram answer. -/
import Derived.Test.YtliophgfgmjhiaaGreatDoorZ28Zy7
namespace Go.Proofs.YtliophgfgmjhiaaGreatDoor
set_option linter.unusedSimpArgs false
set_option linter.unusedVariables false
set_option linter.unnecessarySimpa false
set_option maxRecDepth 200000
open Go.ChangeShapes Go.WideShapes Go.ChangeAt Go.RowKit

def ParseRes (s : ByteArray) (w : World) (e : Ending) (w' : World) : Prop := ∃ (d : Dia) (v0 v1 : Value) (q : Bool), e = .returned (.tuple #[.agg #[.int .i64 d.n, v0, v1, .int .i64 d.turn, .int .i64 d.root], .bool q]) ∧ DiaIn w' w.heap.size d v0 v1 ∧ Parsed s d q ∧ Below w.heap.size w w'
theorem ParseRes.of {s : ByteArray} {w w' : World} {e : Ending} (h : ∃ (d : Dia) (v0 v1 : Value) (q : Bool), e = .returned (.tuple #[.agg #[.int .i64 d.n, v0, v1, .int .i64 d.turn, .int .i64 d.root], .bool q]) ∧ DiaIn w' w.heap.size d v0 v1 ∧ Parsed s d q ∧ Below w.heap.size w w') : ParseRes s w e w' := h
theorem ParseRes.out {s : ByteArray} {w w' : World} {e : Ending} (h : ParseRes s w e w') : ∃ (d : Dia) (v0 v1 : Value) (q : Bool), e = .returned (.tuple #[.agg #[.int .i64 d.n, v0, v1, .int .i64 d.turn, .int .i64 d.root], .bool q]) ∧ DiaIn w' w.heap.size d v0 v1 ∧ Parsed s d q ∧ Below w.heap.size w w' := h
end Go.Proofs.YtliophgfgmjhiaaGreatDoor
