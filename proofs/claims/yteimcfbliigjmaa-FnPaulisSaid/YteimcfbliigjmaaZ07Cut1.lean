/- Small words for cuts around regions that draw their order. -/
import Derived.Test.YteimcfbliigjmaaZ00Base
namespace Go.Proofs.Yteimcfbliigjmaa
set_option linter.unusedSimpArgs false
set_option linter.unusedVariables false
set_option linter.unnecessarySimpa false
set_option maxRecDepth 200000
open Go.ChangeShapes Go.WideShapes Go.ChangeAt Go.RowKit
theorem cell_drew {w : World} {a : Addr} {u : Value} (h : w.cell? a = some u) : w.drew.cell? a = some u := h
theorem frz_drew {w : World} {a : Addr} (h : w.frozen? a = false) : w.drew.frozen? a = false := h
theorem cell_set_far {w : World} {b nb o o2 : Nat} {u v : Value} (hne : b ≠ nb) (h : w.cell? ⟨b, o, none⟩ = some u) : (w.setCell ⟨nb, o2, none⟩ v).cell? ⟨b, o, none⟩ = some u :=
  (World.cell?_setCell_other _ _ _ _ (fun e => hne (by injection e with e1; exact e1.symm))).trans h
theorem calls_below {f : FuncId} {args : Array Value} {w : World} {Q : Ending → Prop} (h : Calls Try.prog f args w fun e w' => Q e ∧ w = w') : Calls Try.prog f args w fun e w' => Q e ∧ Below w.heap.size w w' :=
  h.mono fun _ _ ⟨h1, h2⟩ => ⟨h1, h2 ▸ Below.refl _ _⟩
theorem new_cell (W : World) (cs : Array Value) (t : TypeId) (j : Nat) (v : Value) (h : cs[j]? = some v) : (W.alloc (.cells cs t)).cell? ⟨W.heap.size, j, none⟩ = some v := by
  rw [World.cell?_alloc_at _ _ _ _ rfl]; exact h
theorem new_frz (W : World) (cs : Array Value) (t : TypeId) (j : Nat) : (W.alloc (.cells cs t)).frozen? ⟨W.heap.size, j, none⟩ = false := World.frozen?_alloc_at _ _ _ _ rfl
end Go.Proofs.Yteimcfbliigjmaa
