/- AppendCX in the program and in the reference. -/
import Derived.Test.YtgonldkgghikiaaLin3
import Derived.Test.YtgonldkgghikiaaGate1
namespace Go.Proofs.Ytgonldkgghikiaa
set_option linter.unusedSimpArgs false
set_option linter.unusedVariables false
set_option linter.unnecessarySimpa false
set_option maxRecDepth 200000
open Go.ChangeShapes Go.WideShapes Go.ChangeAt Go.RowKit

def AddOk (zs : List Int) (a b : Int) : Prop := (0 ≤ a ∧ a ≤ (zs.length : Int) - 1) ∧ (0 ≤ b ∧ b ≤ (zs.length : Int) - 1) ∧ a ≠ b
instance (zs : List Int) (a b : Int) : Decidable (AddOk zs a b) := by unfold AddOk; infer_instance
noncomputable def addG (zs : List Int) (a b : Int) : Option (List Int) := if LinOk zs ∧ AddOk zs a b then some (ints (cxN (zs.map Int.toNat) a.toNat b.toNat)) else none
theorem addG_none {zs : List Int} {a b : Int} (h : LinOk zs → ¬ AddOk zs a b) : addG zs a b = none := if_neg fun k => h k.1 k.2
theorem addG_some {zs : List Int} {a b : Int} (h : LinOk zs) (k : AddOk zs a b) : addG zs a b = some (ints (cxN (zs.map Int.toNat) a.toNat b.toNat)) := if_pos ⟨h, k⟩
theorem addG_len (zs : List Int) (a b : Int) : ((addG zs a b).getD []).length ≤ 1000000 := by
  unfold addG
  split
  · next h => simp [ints_len, cxN_len]; have := h.1.1; omega
  · simp
theorem LinPost.none {w w' : World} {r : Option (List Int)} (hr : r = none) (hb : Below w.heap.size w w') : LinPost w r (.returned (.tuple #[.agg #[.slice none 0 0], .bool false])) w' := by
  subst hr; exact ⟨_, rfl, own_nil _ _, hb⟩
theorem LinPost.some {w w' : World} {r : Option (List Int)} {v : Value} {zs : List Int} (hr : r = some zs) (ho : OwnI w' w.heap.size v zs) (hb : Below w.heap.size w w') : LinPost w r (.returned (.tuple #[.agg #[v], .bool true])) w' := by
  subst hr; exact ⟨_, rfl, ho, hb⟩
theorem LinOk.nat {zs : List Int} (h : LinOk zs) : zs = ints (zs.map Int.toNat) ∧ Small (zs.map Int.toNat) := by
  refine ⟨nat_of_ints fun z hz => (h.small.2 z hz).1, fun x hx => ?_⟩
  obtain ⟨z, hz, rfl⟩ := List.mem_map.1 hx
  have := h.small.2 z hz; omega
theorem linB_true {zs : List Int} (h : LinOk zs) : linB zs = true := decide_eq_true h
theorem linB_false {zs : List Int} (h : ¬ LinOk zs) : linB zs = false := decide_eq_false h
theorem gate_add {zs : List Int} {a b : Int} (h : 1 ≤ zs.length ∧ zs.length ≤ 5) : GateOk (zs.length : Int) ⟨9, a, b⟩ ↔ AddOk zs a b := by
  unfold GateOk AddOk
  dsimp only
  omega
end Go.Proofs.Ytgonldkgghikiaa
