/- slices.Concat of two slices over Gate. -/
import Derived.Test.YtjdffjnennodaaaZ29M
import Derived.Test.YtjdffjnennodaaaZ15Words
import Derived.Test.YtjdffjnennodaaaZ07M
import Derived.Lib.AppendZeros
import Derived.Deep.LoopGhost
namespace Go.Proofs.Ytjdffjnennodaaa
set_option linter.unusedSimpArgs false
set_option linter.unusedVariables false
set_option linter.unnecessarySimpa false
set_option maxRecDepth 200000
open Go.ChangeShapes Go.WideShapes Go.ChangeAt Go.RowKit

theorem zeroCells_len (z : Array Value) (n : Nat) : (Builtin.zeroCells z n).size = n * z.size := by simp [Builtin.zeroCells]
/-- A row of zeros that has just been made, cut to no element, is owned. -/
theorem own_grow {w : World} {base size n : Nat} {e : TypeId} {z : Value} (hzs : z.cells.size = size) (hn : n ≤ maxLen) (hb : base ≤ w.heap.size) :
    (w.drew.alloc (.cells (Builtin.zeroCells z.cells n ++ Builtin.zeroCells z.cells (grownCap w n 0 e - n)) e)).ownsRow base e size (.slice (some ⟨w.heap.size, 0, none⟩) 0 (grownCap w n 0 e)) 0 [] := by
  refine ⟨by simp, .inr ⟨w.heap.size, _, Builtin.zeroCells z.cells n ++ Builtin.zeroCells z.cells (grownCap w n 0 e - n), rfl, hb, ?_, Nat.zero_le _, grownCap_le_maxLen w n 0 e hn, ?_, by simp⟩⟩
  · show (w.drew.heap.push _)[w.heap.size]? = _
    have : w.drew.heap = w.heap := rfl
    rw [this]; simp
  · have := grownCap_ge w n 0 e
    rw [Array.size_append, zeroCells_len, zeroCells_len, hzs, ← Nat.add_mul]
    congr 1; omega
end Go.Proofs.Ytjdffjnennodaaa
