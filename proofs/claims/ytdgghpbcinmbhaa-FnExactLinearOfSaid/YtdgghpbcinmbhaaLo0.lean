/- LinearOf, plain: the rows behind a circuit of controlled NOTs and swaps. -/
import Derived.Test.YtdgghpbcinmbhaaPar1
namespace Go.Proofs.Ytdgghpbcinmbhaa
set_option linter.unusedSimpArgs false
set_option linter.unusedVariables false
set_option linter.unnecessarySimpa false
set_option maxRecDepth 200000
open Go.ChangeShapes Go.WideShapes Go.ChangeAt Go.RowKit

def swapN (L : List Nat) (a b : Nat) : List Nat := (L.set a (L.getD b 0)).set b (L.getD a 0)
theorem xor_back (a b : Nat) : a ^^^ (a ^^^ b) = b := by rw [← Nat.xor_assoc, Nat.xor_self, Nat.zero_xor]
theorem xor_mid (a b : Nat) : a ^^^ (b ^^^ a) = b := by rw [Nat.xor_comm b a, xor_back]
theorem swap_cx {L : List Nat} {a b : Nat} (ha : a < L.length) (hb : b < L.length) (hab : a ≠ b) : cxN (cxN (cxN L a b) b a) a b = swapN L a b := by
  unfold cxN swapN
  apply List.ext_getElem
  · simp
  · intro i h1 h2
    simp only [List.getElem_set, List.getD_eq_getElem?_getD, List.getElem?_set, List.length_set, ha, hb, if_true, Ne.symm hab, hab, if_false, Option.getD_some]
    by_cases e1 : b = i
    · subst e1
      simp [hab, ha, hb, Nat.xor_assoc, Nat.xor_comm, xor_back, xor_mid]
    · by_cases e2 : a = i
      · subst e2
        simp [e1, ha, hb, Nat.xor_assoc, Nat.xor_comm, xor_back, xor_mid]
      · simp [e1, e2]
theorem swapN_len (L : List Nat) (a b : Nat) : (swapN L a b).length = L.length := by simp [swapN]
theorem Small.swap {L : List Nat} (h : Small L) (a b : Nat) : Small (swapN L a b) := by
  intro x hx
  rcases List.mem_or_eq_of_mem_set hx with hx | rfl
  · rcases List.mem_or_eq_of_mem_set hx with hx | rfl
    · exact h x hx
    · exact h.get _
  · exact h.get _
def loF (s : Option (List Nat)) (g : E3) : Option (List Nat) :=
  match s with
  | none => none
  | some L => if g.a = 9 then some (cxN L g.b.toNat g.c.toNat) else if g.a = 11 then some (swapN L g.b.toNat g.c.toNat) else none
def loTo (n : Nat) (gs : List E3) (k : Nat) : Option (List Nat) := (gs.take k).foldl loF (some (idN n))
theorem loF_none (gs : List E3) : gs.foldl loF none = none := by
  induction gs with
  | nil => rfl
  | cons g gs ih => exact ih
theorem loTo_succ {n : Nat} {gs : List E3} {k : Nat} (h : k < gs.length) : loTo n gs (k + 1) = loF (loTo n gs k) (gs.getD k ⟨0, 0, 0⟩) := by
  unfold loTo
  rw [List.take_succ_eq_append_getElem h, List.foldl_append]
  simp [List.getD, h]
theorem loTo_bad {n : Nat} {gs : List E3} {k : Nat} (h : loTo n gs k = none) (hk : k ≤ gs.length) : loTo n gs gs.length = none := by
  unfold loTo at h ⊢
  rw [List.take_length]
  conv => lhs; rw [← List.take_append_drop k gs, List.foldl_append, h]
  exact loF_none _
noncomputable def loG (d : Circ) : Option (List Int) := if circB d = true then (loTo d.n.toNat d.gs d.gs.length).map ints else none
theorem loTo_ok {n : Nat} (h1 : 1 ≤ n) (h2 : n ≤ 5) (gs : List E3) : ∀ k L, loTo n gs k = some L → L.length = n ∧ Small L
  | 0, L, h => by injection h with h; subst h; exact ⟨idN_len n, idN_small h2⟩
  | k + 1, L, h => by
    by_cases hk : k < gs.length
    · rw [loTo_succ hk] at h
      cases e : loTo n gs k with
      | none => rw [e] at h; cases h
      | some M =>
        have ih := loTo_ok h1 h2 gs k M e
        rw [e] at h
        unfold loF at h
        dsimp only at h
        split at h
        · injection h with h; subst h; exact ⟨by rw [cxN_len]; exact ih.1, ih.2.cx _ _⟩
        · split at h
          · injection h with h; subst h; exact ⟨by rw [swapN_len]; exact ih.1, ih.2.swap _ _⟩
          · cases h
    · have e : loTo n gs (k + 1) = loTo n gs k := by unfold loTo; rw [List.take_of_length_le (by omega), List.take_of_length_le (by omega)]
      rw [e] at h
      exact loTo_ok h1 h2 gs k L h
end Go.Proofs.Ytdgghpbcinmbhaa
