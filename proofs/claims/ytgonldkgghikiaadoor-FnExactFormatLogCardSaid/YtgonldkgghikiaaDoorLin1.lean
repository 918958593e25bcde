/- Linear maps in the laws' helpers (equal, mark, held), and the identity map as the program and the reference return it. -/
import Derived.Test.YtgonldkgghikiaaDoorLin0
namespace Go.Proofs.YtgonldkgghikiaaDoor
set_option linter.unusedSimpArgs false
set_option linter.unusedVariables false
set_option linter.unnecessarySimpa false
set_option maxRecDepth 200000
open Go.ChangeShapes Go.WideShapes Go.ChangeAt Go.RowKit

theorem grown_trans {a b c : World} {row : Option Nat} (h1 : a.grownBy b row) (h2 : b.grownBy c row) : a.grownBy c row :=
  ⟨h2.os.trans h1.os, h2.tape.trans h1.tape, h2.output.trans h1.output, Nat.le_trans h1.size h2.size, fun i hi hn => (h2.block i (Nat.lt_of_lt_of_le hi h1.size) hn).trans (h1.block i hi hn)⟩

/-- What a function that answers a linear map and 'ok' leaves: the rows in a block of its own. -/
def LinPost (w : World) (r : Option (List Int)) (e : Ending) (w' : World) : Prop :=
  ∃ v, e = .returned (.tuple #[.agg #[v], .bool r.isSome]) ∧ OwnI w' w.heap.size v (r.getD []) ∧ Below w.heap.size w w'
theorem own_nil (w : World) (base : Nat) : OwnI w base (.slice none 0 0) [] := World.ownsRow_nil _ _ _ _
theorem OwnI.forms {w : World} {base : Nat} {v : Value} {zs : List Int} (h : OwnI w base v zs) : ∃ a cap, v = .slice a zs.length cap := by
  rcases Go.Joins.ownsRow_forms h with ⟨rfl, h0⟩ | ⟨g, cap, rfl⟩
  · exact ⟨none, 0, by rw [h0]⟩
  · exact ⟨_, _, rfl⟩
theorem OwnI.below {w w' : World} {base B : Nat} {v : Value} {zs : List Int} (h : OwnI w base v zs) (hb : Below B w w') (hB : B = w.heap.size) : OwnI w' base v zs := own_below h hb hB
theorem OwnI.set {w : World} {base : Nat} {v : Value} {zs : List Int} (h : OwnI w base v zs) {a : Addr} (ha : a.block < base) (u : Value) : OwnI (w.setCell a u) base v zs := ownsRow_setCell_below h ha u
theorem OwnI.le {w : World} {base base' : Nat} {v : Value} {zs : List Int} (h : OwnI w base v zs) (hb : base' ≤ base) : OwnI w base' v zs := own_le h hb

def idLin (n : Int) : Option (List Int) := if inB n 1 5 then some (idRows n.toNat) else none
theorem idLin_len (n : Int) : ((idLin n).getD []).length ≤ 1000000 := by
  unfold idLin; split
  · simp [idRows_len]; have h2 : 1 ≤ n ∧ n ≤ 5 := by simpa [inB] using (by assumption : inB n 1 5 = true)
    omega
  · simp
theorem OwnI.lt {w : World} {base : Nat} {v : Value} {zs : List Int} (h : OwnI w base v zs) : ∀ k, v.ownBlock = some k → base ≤ k ∧ k < w.heap.size := World.ownsRow.lt h
end Go.Proofs.YtgonldkgghikiaaDoor
