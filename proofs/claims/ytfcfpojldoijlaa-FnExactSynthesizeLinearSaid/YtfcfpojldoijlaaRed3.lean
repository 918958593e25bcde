/- InvertLinear in the program and in the reference. -/
import Derived.Test.YtfcfpojldoijlaaRed2
import Derived.Test.YtfcfpojldoijlaaLin4
namespace Go.Proofs.Ytfcfpojldoijlaa
set_option linter.unusedSimpArgs false
set_option linter.unusedVariables false
set_option linter.unnecessarySimpa false
set_option maxRecDepth 200000
open Go.ChangeShapes Go.WideShapes Go.ChangeAt Go.RowKit

theorem Mid.setc {w w' : World} {lo hi : Nat} (h : Mid lo hi w w') {b o : Nat} (hb : lo ≤ b ∧ b < hi) (u : Value) : Mid lo hi w (w'.setCell ⟨b, o, none⟩ u) :=
  have q := Below.setCell (p := ⟨b, o, none⟩) (Below.refl 0 w') (Nat.zero_le _) u
  ⟨q.os.trans h.os, q.tape.trans h.tape, q.output.trans h.output, Nat.le_trans h.size q.size, fun k hk hkk => by rw [Below.heap_setCell w' ⟨b, o, none⟩ u k (by dsimp only; omega)]; exact h.block k hk hkk⟩
theorem Mid.drew {w w' : World} {lo hi : Nat} (h : Mid lo hi w w') : Mid lo hi w w'.drew := h.trans (.of_below (show Below w'.heap.size w' w'.drew from (by repeat (first | exact Below.refl _ _ | assumption | refine Below.drew ?_ | refine below_drewN ?_ _ | refine Below.alloc ?_ (by first | omega | (simp <;> omega)) _ | refine Below.setCell ?_ (by first | omega | (simp <;> omega)) _ | refine Below.trans ?_ (Below.mono (by assumption) (by first | omega | (simp <;> omega)))))) rfl)
theorem Mid.call {w w' w'' : World} {lo hi : Nat} (h : Mid lo hi w w') (hb : Below w'.heap.size w' w'') : Mid lo hi w w'' := h.trans (.of_below hb rfl)
/-- What InvertLinear answers. -/
noncomputable def invLG (zs : List Int) : Option (List Int) := if LinOk zs then some (ints (cxs (idN zs.length) (redG (zs.map Int.toNat)))) else none
theorem invLG_len (zs : List Int) : ((invLG zs).getD []).length ≤ 1000000 := by
  unfold invLG; split
  · next h =>
    obtain ⟨⟨_, h5⟩, _⟩ := h
    simp [ints_len, cxs_len, idN_len]; omega
  · simp
theorem red_gate {L : List Nat} (h : Small L) {k : Nat} (hk : k < (redG L).length) : ∃ a b : Nat, (redG L).getD k ⟨0, 0, 0⟩ = ⟨9, (a : Int), (b : Int)⟩ ∧ a < L.length ∧ b < L.length ∧ a ≠ b := by
  have e : (redG L).getD k ⟨0, 0, 0⟩ = (redG L)[k] := by simp [List.getD, hk]
  have hg := (redG_ok h).gates (redG L)[k] (List.getElem_mem hk)
  rw [e]
  generalize (redG L)[k] = g at hg ⊢
  obtain ⟨x, y, z⟩ := g
  dsimp only at hg
  obtain ⟨rfl, h1, h2, h3, h4, h5⟩ := hg
  obtain ⟨a, rfl⟩ := Int.eq_ofNat_of_zero_le h1
  obtain ⟨b, rfl⟩ := Int.eq_ofNat_of_zero_le h3
  exact ⟨a, b, rfl, by omega, by omega, fun e => h5 (by rw [e])⟩
theorem red_few {L : List Nat} (h : Small L) (h5 : L.length ≤ 5) : (redG L).length ≤ 50 := by
  have h1 : (redG L).length ≤ L.length * (2 * L.length) := (redG_ok h).few
  have h2 : L.length * (2 * L.length) ≤ 5 * (2 * 5) := Nat.mul_le_mul h5 (by omega)
  omega
theorem cxs_next {L gs : List E3} {M : List Nat} {k a b : Nat} (h : k < gs.length) (hg : gs.getD k ⟨0, 0, 0⟩ = ⟨9, (a : Int), (b : Int)⟩) : cxs M (gs.take (k + 1)) = cxN (cxs M (gs.take k)) a b := by
  rw [cxs_take h]
  have e : gs[k] = ⟨9, (a : Int), (b : Int)⟩ := by rw [← hg]; simp [List.getD, h]
  rw [e]; simp
end Go.Proofs.Ytfcfpojldoijlaa
