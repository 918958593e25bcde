/- The identity of n qubits as rows of bits, in the program and in the reference. -/
import Derived.Test.YtgonldkgghikiaaDoorInt1
import Derived.Deep.RegionLaw
import Derived.Deep.RegionHeld3
import Derived.Deep.AppendLies
import Derived.Deep.DrawnRows
import Derived.Deep.DeepFit
import Derived.Deep.DeepMust
namespace Go.Proofs.YtgonldkgghikiaaDoor
set_option linter.unusedSimpArgs false
set_option linter.unusedVariables false
set_option linter.unnecessarySimpa false
set_option maxRecDepth 200000
open Go.ChangeShapes Go.WideShapes Go.ChangeAt Go.RowKit

theorem info_int : (Tryd.prog.info? 3).map (fun i => (i.zero, i.size, i.bytes)) = some (some (.int .i64 0), 1, 8) := by kernel_rfl
/-- A slice of whole numbers that the call itself has made. -/
def OwnI (w : World) (base : Nat) (v : Value) (zs : List Int) : Prop := w.ownsRow base 3 1 v zs.length (zs.map (Value.int .i64))
theorem OwnI.rd {w : World} {base : Nat} {v : Value} {zs : List Int} (h : OwnI w base v zs) : RdI w v zs := Rd.of_own h
def idRows (n : Nat) : List Int := (List.range n).map fun i : Nat => (2 : Int) ^ i
theorem idRows_len (n : Nat) : (idRows n).length = n := by simp [idRows]
theorem idRows_succ (n : Nat) : idRows (n + 1) = idRows n ++ [(2 : Int) ^ n] := by simp [idRows, List.range_succ]
theorem pow_small (k : Nat) (h : k ≤ 61) : (2 : Int) ^ k ≤ 2305843009213693952 ∧ 1 ≤ (2 : Int) ^ k := by
  have h1 : (2 : Nat) ^ k ≤ 2 ^ 61 := Nat.pow_le_pow_right (by decide) h
  have h2 : 0 < (2 : Nat) ^ k := Nat.pow_pos (by decide)
  have e : ((2 : Int) ^ k) = ((2 ^ k : Nat) : Int) := by simp
  rw [e]
  constructor
  · exact Int.ofNat_le.2 h1
  · omega

attribute [local go_sem ↓] Go.wp_at_zero Go.wp_at_succ
end Go.Proofs.YtgonldkgghikiaaDoor
