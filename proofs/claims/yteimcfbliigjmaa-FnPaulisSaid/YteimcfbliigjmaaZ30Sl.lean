/- Copies of slices of whole numbers: the reference's l1Own and the library's slices.Clone. -/
import Derived.Test.YteimcfbliigjmaaZ04Words
import Derived.Test.YteimcfbliigjmaaZ05M
import Derived.WalkSpells
import Derived.Deep.LoopGhost
import Derived.Shelf.Abstract
namespace Go.Proofs.Yteimcfbliigjmaa
set_option linter.unusedSimpArgs false
set_option linter.unusedVariables false
set_option linter.unnecessarySimpa false
set_option maxRecDepth 200000
open Go.ChangeShapes Go.WideShapes Go.ChangeAt Go.RowKit

/-- A function value, g bound to lb, that answers p: it may lay blocks of its own. -/
def PredB {α : Type} (g : Nat) (lb : Array Value) (enc : α → Value) (p : α → Bool) (zs : List α) (w : World) : Prop :=
  ∀ (W : World) (x : α), x ∈ zs → Below w.heap.size w W → Calls Try.prog g (#[enc x] ++ lb) W fun e w' => e = .returned (.bool (p x)) ∧ Below W.heap.size W w'
/-- The first place at which p holds. -/
def idxI {α : Type} (p : α → Bool) (zs : List α) : Int := match zs.findIdx? p with | some i => i | none => -1
theorem idx_hit {α : Type} {p : α → Bool} {zs : List α} {k : Nat} (hk : k < zs.length) (h0 : Hid (∀ j (h : j < zs.length), j < k → p zs[j] = false)) (h1 : p zs[k] = true) : (k : Int) = idxI p zs := by
  have e : zs.findIdx? p = some k := by
    rw [List.findIdx?_eq_some_iff_getElem]
    exact ⟨hk, h1, fun j hj => by simp [h0.out j (by omega) hj]⟩
  simp [idxI, e]
theorem idx_miss {α : Type} {p : α → Bool} {zs : List α} {k : Nat} (hk : zs.length ≤ k) (h0 : Hid (∀ j (h : j < zs.length), j < k → p zs[j] = false)) : (-1 : Int) = idxI p zs := by
  have e : zs.findIdx? p = none := by
    rw [List.findIdx?_eq_none_iff]
    intro x hx
    obtain ⟨j, hj, rfl⟩ := List.mem_iff_getElem.1 hx
    exact h0.out j hj (by omega)
  simp [idxI, e]
theorem idx_next {α : Type} {p : α → Bool} {zs : List α} {k : Nat} (hk : k < zs.length) (h0 : Hid (∀ j (h : j < zs.length), j < k → p zs[j] = false)) (h1 : p zs[k] = false) : Hid (∀ j (h : j < zs.length), j < k + 1 → p zs[j] = false) := by
  show ∀ j (h : j < zs.length), j < k + 1 → p zs[j] = false
  intro j h hj
  by_cases e : j = k
  · subst e; exact h1
  · exact h0.out j h (by omega)
theorem idxI_ge {α : Type} (p : α → Bool) (zs : List α) : (0 ≤ idxI p zs) ↔ zs.any p = true := by
  unfold idxI
  cases h : zs.findIdx? p with
  | none =>
    rw [List.findIdx?_eq_none_iff] at h
    simp only [List.any_eq_true]
    constructor
    · intro h0; omega
    · rintro ⟨x, hx, hp⟩; rw [h x hx] at hp; cases hp
  | some i =>
    rw [List.findIdx?_eq_some_iff_getElem] at h
    obtain ⟨hi, h1, _⟩ := h
    simp only [List.any_eq_true]
    exact ⟨fun _ => ⟨_, List.getElem_mem hi, h1⟩, fun _ => by omega⟩
theorem idxI_cases {α : Type} (p : α → Bool) (zs : List α) : (idxI p zs = -1 ∧ ∀ x ∈ zs, p x = false) ∨ ∃ j : Nat, idxI p zs = (j : Int) ∧ ∃ h : j < zs.length, p zs[j] = true ∧ ∀ t (h : t < zs.length), t < j → p zs[t] = false := by
  unfold idxI
  cases h : zs.findIdx? p with
  | none => rw [List.findIdx?_eq_none_iff] at h; exact .inl ⟨rfl, fun x hx => by simpa using h x hx⟩
  | some i =>
    rw [List.findIdx?_eq_some_iff_getElem] at h
    obtain ⟨hi, h1, h2⟩ := h
    exact .inr ⟨i, rfl, hi, h1, fun t ht htj => by simpa using h2 t htj⟩
end Go.Proofs.Yteimcfbliigjmaa
