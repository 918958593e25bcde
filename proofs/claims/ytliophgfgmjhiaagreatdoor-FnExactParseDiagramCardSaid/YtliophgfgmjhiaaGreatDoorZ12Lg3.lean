/- The text of a log: the reference's text. -/
import Derived.Test.YtliophgfgmjhiaaGreatDoorZ11Lg2
import Derived.Test.YtliophgfgmjhiaaGreatDoorZ04Brk
import Derived.BigRegion
import Derived.BigQuiet
import Derived.Deep.DeepCutAuto
namespace Go.Proofs.YtliophgfgmjhiaaGreatDoor
set_option linter.unusedSimpArgs false
set_option linter.unusedVariables false
set_option linter.unnecessarySimpa false
set_option maxRecDepth 200000
open Go.ChangeShapes Go.WideShapes Go.ChangeAt Go.RowKit

theorem text_pos {xs : List E3} (h : xs.length ≠ 0) : (textTo xs xs.length).size ≠ 0 := by
  obtain ⟨n, hn⟩ : ∃ n, xs.length = n + 1 := ⟨xs.length - 1, by omega⟩
  rw [hn]
  show (textStep (textTo xs n) n _).size ≠ 0
  rw [textStep_eq, ByteArray.size_append]
  have h1 : (ByteArray.mk #[32]).size = 1 := by decide
  have : 1 ≤ (stepW (xs.getD n ⟨0, 0, 0⟩)).size := by
    unfold stepW headT
    split
    · rw [ByteArray.size_append, ByteArray.size_append, ByteArray.size_append]; omega
    · rw [ByteArray.size_append, ByteArray.size_append]; omega
  omega
theorem bel_at {w w' : World} {b o : Nat} {u : Value} (hb : Below w.heap.size w w') (hc : w.cell? ⟨b, o, none⟩ = some u) : w'.cell? ⟨b, o, none⟩ = some u :=
  (hb.cell (World.block_lt_of_cell? _ _ hc)).trans hc
theorem text_0 {xs : List E3} {k : Nat} (hk : k = 0) : textTo xs k = ⟨#[]⟩ := by subst hk; rfl
theorem step_two {xs : List E3} {k : Nat} {T : ByteArray} {x : E3} (hT : T = textTo xs k) (hx : x = xs.getD k ⟨0, 0, 0⟩) (h : twoR x = true) : textTo xs (k + 1) = sepT T k ++ headT x ++ (⟨#[32]⟩ ++ numB x.c.toNat) := by
  subst hT hx
  show textStep _ _ _ = _
  unfold textStep; rw [if_pos h]
theorem step_one {xs : List E3} {k : Nat} {T : ByteArray} {x : E3} (hT : T = textTo xs k) (hx : x = xs.getD k ⟨0, 0, 0⟩) (h : twoR x = false) : textTo xs (k + 1) = sepT T k ++ headT x := by
  subst hT hx
  show textStep _ _ _ = _
  unfold textStep; rw [if_neg (by rw [h]; exact Bool.false_ne_true)]
end Go.Proofs.YtliophgfgmjhiaaGreatDoor
