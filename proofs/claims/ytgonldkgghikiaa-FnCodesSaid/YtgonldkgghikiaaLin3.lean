/- A row added to another row: the reference's l12CX and the program's method added. -/
import Derived.Test.YtgonldkgghikiaaLin2
import Derived.BigRegion
namespace Go.Proofs.Ytgonldkgghikiaa
set_option linter.unusedSimpArgs false
set_option linter.unusedVariables false
set_option linter.unnecessarySimpa false
set_option maxRecDepth 200000
open Go.ChangeShapes Go.WideShapes Go.ChangeAt Go.RowKit

def cxN (L : List Nat) (a b : Nat) : List Nat := L.set b (L.getD b 0 ^^^ L.getD a 0)
theorem cxN_len (L : List Nat) (a b : Nat) : (cxN L a b).length = L.length := by simp [cxN]
def Small (L : List Nat) : Prop := ∀ x ∈ L, x ≤ 31
theorem Small.get {L : List Nat} (h : Small L) (i : Nat) : L.getD i 0 ≤ 31 := by
  by_cases hi : i < L.length
  · rw [getD_lt hi]; exact h _ (List.getElem_mem hi)
  · simp [List.getD, hi]
theorem xor_31 {x y : Nat} (hx : x ≤ 31) (hy : y ≤ 31) : x ^^^ y ≤ 31 := by
  have := Nat.xor_lt_two_pow (x := x) (y := y) (n := 5) (by omega) (by omega); omega
theorem Small.cx {L : List Nat} (h : Small L) (a b : Nat) : Small (cxN L a b) := by
  intro z hz
  rcases List.mem_or_eq_of_mem_set hz with h1 | rfl
  · exact h z h1
  · exact xor_31 (h.get _) (h.get _)
theorem OwnN.own {w : World} {base g n cap : Nat} {M : List Nat} (h : OwnN w base g n cap M) : OwnI w base (.slice (some ⟨g, 0, none⟩) n cap) (ints M) := by
  have hl := h.len; subst hl
  unfold OwnI; rw [ints_len]; exact h
end Go.Proofs.Ytgonldkgghikiaa
