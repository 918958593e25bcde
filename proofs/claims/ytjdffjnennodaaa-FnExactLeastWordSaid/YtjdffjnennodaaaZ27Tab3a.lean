/- What the tableau functions leave; IdentityTableau in the reference. -/
import Derived.Test.YtjdffjnennodaaaZ26Tab1
import Derived.Test.YtjdffjnennodaaaZ05M
namespace Go.Proofs.Ytjdffjnennodaaa
set_option linter.unusedSimpArgs false
set_option linter.unusedVariables false
set_option linter.unnecessarySimpa false
set_option maxRecDepth 200000
open Go.ChangeShapes Go.WideShapes Go.ChangeAt Go.RowKit

/-- What a function that answers a tableau and 'ok' leaves. -/
def TabPost (w : World) (r : Option Tab) (e : Ending) (w' : World) : Prop :=
  ∃ u0 u1, e = .returned (.tuple #[.agg #[.int .i64 (r.getD Tab.zero).n, u0, u1], .bool r.isSome]) ∧ OwnE w' w.heap.size 62 u0 E3.cs 3 (r.getD Tab.zero).xs ∧ OwnE w' w.heap.size 62 u1 E3.cs 3 (r.getD Tab.zero).zs ∧ Apart u0 u1 ∧ Below w.heap.size w w'
def idTab (n : Int) : Option Tab := if inB n 1 5 then some (idT n) else none
theorem idTab_len (n : Int) : ((idTab n).getD Tab.zero).xs.length ≤ 1000000 ∧ ((idTab n).getD Tab.zero).zs.length ≤ 1000000 := by
  unfold idTab; split
  · next h =>
    have h2 : 1 ≤ n ∧ n ≤ 5 := by simpa [inB] using h
    simp [idT, idX_len, idZ_len]; omega
  · simp [Tab.zero]
theorem ownE_nil (w : World) (base : Nat) (t : TypeId) : OwnE w base t (.slice none 0 0) E3.cs 3 [] := World.ownsRow_nil _ _ _ _
theorem TabPost.none {w w' : World} {r : Option Tab} (hr : r = none) (hb : Below w.heap.size w w') : TabPost w r (.returned (.tuple #[.agg #[.int .i64 0, .slice none 0 0, .slice none 0 0], .bool false])) w' := by
  subst hr; exact ⟨_, _, rfl, ownE_nil _ _ _, ownE_nil _ _ _, apart_nil _, hb⟩
theorem TabPost.some {w w' : World} {r : Option Tab} {t : Tab} {u0 u1 : Value} (hr : r = some t) (h0 : OwnE w' w.heap.size 62 u0 E3.cs 3 t.xs) (h1 : OwnE w' w.heap.size 62 u1 E3.cs 3 t.zs) (ha : Apart u0 u1) (hb : Below w.heap.size w w') : TabPost w r (.returned (.tuple #[.agg #[.int .i64 t.n, u0, u1], .bool true])) w' := by
  subst hr; exact ⟨_, _, rfl, h0, h1, ha, hb⟩
end Go.Proofs.Ytjdffjnennodaaa
