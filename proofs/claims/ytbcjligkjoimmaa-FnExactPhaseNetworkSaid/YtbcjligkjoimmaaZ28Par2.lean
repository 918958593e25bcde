/- ParitiesOf in the program and in the reference. -/
import Derived.Test.YtbcjligkjoimmaaZ22Par1
import Derived.BigRegion
namespace Go.Proofs.Ytbcjligkjoimmaa
set_option linter.unusedSimpArgs false
set_option linter.unusedVariables false
set_option linter.unnecessarySimpa false
set_option maxRecDepth 200000
open Go.ChangeShapes Go.WideShapes Go.ChangeAt Go.RowKit

def ParPost (w : World) (r : Option (List Int)) (e : Ending) (w' : World) : Prop := ∃ v, e = .returned (.tuple #[v, .bool r.isSome]) ∧ OwnI w' w.heap.size v (r.getD []) ∧ Below w.heap.size w w'
theorem ParPost.none {w w' : World} {r : Option (List Int)} (hr : r = none) (hb : Below w.heap.size w w') : ParPost w r (.returned (.tuple #[.slice none 0 0, .bool false])) w' := by
  subst hr; exact ⟨_, rfl, own_nil _ _, hb⟩
theorem ParPost.some {w w' : World} {r : Option (List Int)} {v : Value} {zs : List Int} (hr : r = some zs) (ho : OwnI w' w.heap.size v zs) (hb : Below w.heap.size w w') : ParPost w r (.returned (.tuple #[v, .bool true])) w' := by
  subst hr; exact ⟨_, rfl, ho, hb⟩
noncomputable def parG (d : Circ) : Option (List Int) := if netB d = true then some (ints (parTo d.n.toNat d.gs d.gs.length).2) else none
theorem parG_len (d : Circ) : ((parG d).getD []).length ≤ 1000000 := by
  unfold parG
  split
  · next h =>
    obtain ⟨n1, n2, n3⟩ := net_n h
    have := (parTo_ok (n := d.n.toNat) (by omega) (by omega) d.gs d.gs.length).few
    simp [ints_len]; omega
  · simp
theorem own_set_ne {w : World} {base sz n : Nat} {e : TypeId} {v : Value} {xs : List Value} {p : Addr} (ho : w.ownsRow base e sz v n xs) (h : ∀ g, v.ownBlock = some g → g ≠ p.block) (u : Value) : (w.setCell p u).ownsRow base e sz v n xs := by
  refine ⟨ho.1, ?_⟩
  rcases ho.2 with h0 | ⟨g, cap, cur, rfl, hb, hg, r⟩
  · exact .inl h0
  · exact .inr ⟨g, cap, cur, rfl, hb, by rw [Below.heap_setCell w p u g (h g rfl)]; exact hg, r⟩
theorem ne_step {v v2 : Value} {H gC : Nat} (hat : v2.ownBlock = v.ownBlock ∨ v2.ownBlock = some H) (h : ∀ g, v.ownBlock = some g → g ≠ gC) (hH : gC < H) : ∀ g, v2.ownBlock = some g → g ≠ gC := by
  intro g hg
  rcases hat with e | e
  · exact h g (e ▸ hg)
  · rw [e] at hg; injection hg with hg; omega
end Go.Proofs.Ytbcjligkjoimmaa
