/- A valid tableau: the reference's test. -/
import Derived.Test.YtdkfoleippncnaaPau7
import Derived.Test.YtdkfoleippncnaaBrk
namespace Go.Proofs.Ytdkfoleippncnaa
set_option linter.unusedSimpArgs false
set_option linter.unusedVariables false
set_option linter.unnecessarySimpa false
set_option maxRecDepth 200000
open Go.ChangeShapes Go.WideShapes Go.ChangeAt Go.RowKit

theorem grown_old0 {w w' : World} {v u : Value} {sz n b o : Nat} {e : TypeId} {xs : List Value} (hown : w.ownsRow (b + 1) e sz v n xs) (hg : w.grownBy w' v.ownBlock) (hc : w.cell? ⟨b, o, none⟩ = some u) : w'.cell? ⟨b, o, none⟩ = some u :=
  (grown_old hown hg (Nat.lt_succ_self b) (World.block_lt_of_cell? w ⟨b, o, none⟩ hc)).1.trans hc
theorem tab_bad {d : Tab} {i : Nat} (hi : i < d.xs.length + d.zs.length) (h : ¬ ImOk d.n ((d.xs ++ d.zs).getD i ⟨0, 0, 0⟩)) : false = tabB d :=
  (decide_eq_false fun k => h (k.2.2.2.1 i hi)).symm
def ImsTo (n : Int) (L : List E3) (k : Nat) : Prop := ∀ i, i < k → ImOk n (L.getD i ⟨0, 0, 0⟩)
theorem ImsTo.next {n : Int} {L : List E3} {k : Nat} (h : ImsTo n L k) (h2 : ImOk n (L.getD k ⟨0, 0, 0⟩)) : ImsTo n L (k + 1) := by
  intro i hi
  by_cases e : i = k
  · subst e; exact h2
  · exact h i (by omega)
theorem pauB_ok {n : Int} {g : E3} (h : pauB n g = true) : PauOk n g := (of_decide_eq_true h).2
end Go.Proofs.Ytdkfoleippncnaa
