/- ParseLog: the index of a rule's word in the program's table. -/
import Derived.Test.YtindldkileidmaaDoorPl0
import Derived.Test.YtindldkileidmaaDoorLg5
import Derived.Test.YtindldkileidmaaDoorPf10
import Derived.Lib.SlicesS
namespace Go.Proofs.YtindldkileidmaaDoor
set_option linter.unusedSimpArgs false
set_option linter.unusedVariables false
set_option linter.unnecessarySimpa false
set_option maxRecDepth 200000
open Go.ChangeShapes Go.WideShapes Go.ChangeAt Go.RowKit

def ruleZs : List ByteArray := [wordOf 1, wordOf 2, wordOf 3, wordOf 4, wordOf 5]
theorem word_apart : ∀ i : Nat, 1 ≤ i → i ≤ 5 → ∀ j : Nat, 1 ≤ j → j ≤ 5 → wordOf i = wordOf j → i = j := fun i h1 h2 j h3 h4 h => by
  have e1 := rule_word i h1 h2
  have e2 := rule_word j h3 h4
  rw [h] at e1
  omega
theorem idx_rule (x : ByteArray) : Lib.idxOfS ruleZs x = (ruleTo x 5 : Nat) - 1 := by
  unfold Lib.idxOfS ruleZs ruleTo ruleTo ruleTo ruleTo ruleTo ruleTo
  by_cases h1 : wordOf 1 = x
  · subst h1; decide
  by_cases h2 : wordOf 2 = x
  · subst h2; decide
  by_cases h3 : wordOf 3 = x
  · subst h3; decide
  by_cases h4 : wordOf 4 = x
  · subst h4; decide
  by_cases h5 : wordOf 5 = x
  · subst h5; decide
  simp [Lib.idxFromS, h1, h2, h3, h4, h5]
theorem index_rule (x : ByteArray) (w : World) (ht : Table w) :
    Calls Tryd.prog 19 #[.slice (some ⟨0, 1, none⟩) 5 5, .string x] w fun e w' => e = .returned (.int .i64 ((ruleTo x 5 : Nat) - 1)) ∧ w' = w := by
  rw [← idx_rule]
  refine Tryd.slices_Index_string 0 1 5 5 ruleZs x w (by decide) (by decide) (fun j hj => ?_)
  have hj : j < 5 := hj
  have := ht (1 + j) (by omega) (by omega)
  rw [this]
  have : j = 0 ∨ j = 1 ∨ j = 2 ∨ j = 3 ∨ j = 4 := by omega
  rcases this with rfl | rfl | rfl | rfl | rfl <;> rfl
theorem cell_other {w w' : World} {r : Option Nat} {b i : Nat} {u : Value} (hg : w.grownBy w' r) (hr : r ≠ some b) (hc : w.cell? ⟨b, i, none⟩ = some u) : w'.cell? ⟨b, i, none⟩ = some u := by
  have hb := hg.block b (World.block_lt_of_cell? _ _ hc) (fun h => hr h.symm)
  rw [World.cell?_of_block (w := w) (w' := w') (a := ⟨b, i, none⟩) hb]; exact hc
theorem blk_app {w : World} {vO v' : Value} (hat : v'.ownBlock = vO.ownBlock ∨ v'.ownBlock = some w.heap.size) {b : Nat} (hb : b < w.heap.size) (h : vO.ownBlock ≠ some b) : v'.ownBlock ≠ some b := by
  rcases hat with e | e
  · rw [e]; exact h
  · rw [e]; intro e2; injection e2 with e2; omega
theorem words_cells (w : World) (ws : List ByteArray) (i : Nat) (h : i < ws.length) : (w.alloc (.cells (ws.map Value.string).toArray 9)).cell? ⟨w.heap.size, i, none⟩ = some (.string (ws.getD i ⟨#[]⟩)) := by
  have := news_cells w (ws.map Value.string) 9 i (.string (ws.getD i ⟨#[]⟩)) (by simp [List.getD, h])
  rwa [Addr.add_lit, Nat.zero_add] at this
end Go.Proofs.YtindldkileidmaaDoor
