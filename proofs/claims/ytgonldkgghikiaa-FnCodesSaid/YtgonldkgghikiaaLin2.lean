/- A valid linear map: the test in the program and in the reference. -/
import Derived.Test.YtgonldkgghikiaaRank3
import Derived.Deep.DrawnRows
import Derived.Deep.RegionHeld3
import Derived.Deep.RegionWith
namespace Go.Proofs.Ytgonldkgghikiaa
set_option linter.unusedSimpArgs false
set_option linter.unusedVariables false
set_option linter.unnecessarySimpa false
set_option maxRecDepth 200000
open Go.ChangeShapes Go.WideShapes Go.ChangeAt Go.RowKit

/-- A list of rows is a valid linear map. -/
def LinOk (zs : List Int) : Prop := (1 ≤ zs.length ∧ zs.length ≤ 5) ∧ allIn zs 0 (2 ^ zs.length - 1) = true ∧ rkI zs = zs.length
noncomputable instance (zs : List Int) : Decidable (LinOk zs) := Classical.propDecidable _
noncomputable def linB (zs : List Int) : Bool := decide (LinOk zs)
theorem pow_len {n : Nat} (h : n ≤ 5) : (2 : Int) ^ n ≤ 32 ∧ 1 ≤ (2 : Int) ^ n := by
  have : n = 0 ∨ n = 1 ∨ n = 2 ∨ n = 3 ∨ n = 4 ∨ n = 5 := by omega
  rcases this with rfl | rfl | rfl | rfl | rfl | rfl <;> decide
theorem linB_1 {zs : List Int} (h : ¬ (1 ≤ zs.length ∧ zs.length ≤ 5)) : linB zs = false := decide_eq_false fun hh => h hh.1
theorem linB_2 {zs : List Int} (h : allIn zs 0 (2 ^ zs.length - 1) = false) : linB zs = false := decide_eq_false fun hh => by have := hh.2.1; rw [h] at this; cases this
theorem linB_3 {zs : List Int} (h1 : 1 ≤ zs.length ∧ zs.length ≤ 5) (h2 : allIn zs 0 (2 ^ zs.length - 1) = true) : linB zs = decide ((rkI zs : Int) = (zs.length : Int)) := by
  have e : LinOk zs ↔ (rkI zs : Int) = (zs.length : Int) := ⟨fun h => by rw [h.2.2], fun h => ⟨h1, h2, by omega⟩⟩
  unfold linB
  by_cases hh : LinOk zs
  · rw [decide_eq_true hh, decide_eq_true (e.1 hh)]
  · rw [decide_eq_false hh, decide_eq_false (fun h => hh (e.2 h))]
theorem LinOk.small {zs : List Int} (h : LinOk zs) : (1 ≤ zs.length ∧ zs.length ≤ 5) ∧ ∀ z ∈ zs, 0 ≤ z ∧ z ≤ 31 := by
  refine ⟨h.1, fun z hz => ?_⟩
  have h1 := allIn_iff.1 h.2.1 z hz
  have := (pow_len h.1.2).1
  omega
theorem all_small {zs : List Int} (h1 : zs.length ≤ 5) (h2 : allIn zs 0 (2 ^ zs.length - 1) = true) : ∀ z ∈ zs, 0 ≤ z ∧ z ≤ 1023 := fun z hz => by
  have h3 := allIn_iff.1 h2 z hz
  have := (pow_len h1).1
  omega
end Go.Proofs.Ytgonldkgghikiaa
