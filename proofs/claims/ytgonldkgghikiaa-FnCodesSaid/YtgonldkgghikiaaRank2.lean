/- The rank over GF(2), in the program. -/
import Derived.Test.YtgonldkgghikiaaDel
import Derived.Test.YtgonldkgghikiaaSpan2
import Derived.Test.YtgonldkgghikiaaBits
import Derived.Shelf.Abstract
namespace Go.Proofs.Ytgonldkgghikiaa
set_option linter.unusedSimpArgs false
set_option linter.unusedVariables false
set_option linter.unnecessarySimpa false
set_option maxRecDepth 200000
open Go.ChangeShapes Go.WideShapes Go.ChangeAt Go.RowKit

def bitP (k : Nat) (z : Int) : Bool := z.toNat.testBit k
def elimP (k y : Nat) (M : List Nat) (n : Nat) : List Nat := M.mapIdx fun i x => if i < n then piv k y x else x
theorem elimP_len (k y : Nat) (M : List Nat) (n : Nat) : (elimP k y M n).length = M.length := by simp [elimP]
theorem elimP_zero (k y : Nat) (M : List Nat) : elimP k y M 0 = M := by apply List.ext_getElem <;> simp [elimP]
theorem elimP_end {k y : Nat} {M : List Nat} {n : Nat} (h : M.length ≤ n) : elimP k y M n = M.map (piv k y) := by
  apply List.ext_getElem
  · simp [elimP]
  · intro i h1 h2
    simp [elimP] at h1
    simp [elimP]
    intro hh; omega
theorem elimP_get {k y : Nat} {M : List Nat} {n : Nat} (h : n < M.length) : (elimP k y M n).getD n 0 = M.getD n 0 := by simp [elimP, List.getD, h]
theorem elimP_succ {k y : Nat} {M : List Nat} {n : Nat} (h : n < M.length) : elimP k y M (n + 1) = (elimP k y M n).set n (piv k y (M.getD n 0)) := by
  apply List.ext_getElem
  · simp [elimP]
  · intro i h1 h2
    simp [elimP] at h1
    rw [List.getElem_set]
    by_cases e : n = i
    · subst e; simp [elimP, List.getD, h]
    · simp [elimP, e]
      by_cases h3 : i < n
      · rw [if_pos (by omega), if_pos h3]
      · rw [if_neg (by omega), if_neg h3]
theorem elimP_same {k y : Nat} {M : List Nat} {n : Nat} (h : n < M.length) (hc : (M.getD n 0).testBit k = false) : elimP k y M (n + 1) = elimP k y M n := by
  rw [elimP_succ h, piv_of hc, ← elimP_get (k := k) (y := y) h]
  apply List.ext_getElem
  · simp
  · intro i h1 h2
    rw [List.getElem_set]
    split
    · next e2 => subst e2; simp [List.getD, h2]
    · rfl
theorem piv_bd {k y x : Nat} (hy : y ≤ 1023) (hx : x ≤ 1023) : piv k y x ≤ 1023 := by
  unfold piv
  split
  · have := Nat.xor_lt_two_pow (x := x) (y := y) (n := 10) (by omega) (by omega); omega
  · exact hx
theorem erase_mem {M : List Nat} {j : Nat} (hj : j < M.length) (x : Nat) : x ∈ M ↔ x = M.getD j 0 ∨ x ∈ M.eraseIdx j := by
  rw [getD_lt hj]
  constructor
  · intro h
    by_cases e : x = M[j]
    · exact .inl e
    · right
      obtain ⟨i, hi, rfl⟩ := List.mem_iff_getElem.1 h
      rw [List.mem_eraseIdx_iff_getElem]
      exact ⟨i, hi, fun e2 => e (by subst e2; rfl), rfl⟩
  · rintro (rfl | h)
    · exact List.getElem_mem _
    · exact List.mem_of_mem_eraseIdx h
/-- The rank of rows. -/
noncomputable def rk (L : List Nat) : Nat := Classical.choose (Left.start L)
theorem rk_eq {L : List Nat} {N : Nat} (h : Left N 0 10 0 L) : N = rk L := by
  have h2 := Classical.choose_spec (Left.start L)
  obtain ⟨n, hn, rfl⟩ := h
  obtain ⟨m, hm, e⟩ := h2
  rw [show rk L = Classical.choose (Left.start L) from rfl, e, hn.uniq hm]
theorem rk_nil : rk [] = 0 := by
  have h : ∀ f b, Rank f b [] 0 := by
    intro f
    induction f with
    | zero => intro b; exact .nil
    | succ f ih => intro b; exact .skip (by simp) (ih (b + 1))
  exact (rk_eq ⟨0, h 10 0, rfl⟩).symm
theorem nat_of_ints {zs : List Int} (h : ∀ z ∈ zs, 0 ≤ z) : zs = ints (zs.map Int.toNat) := by
  apply List.ext_getElem
  · simp [ints]
  · intro i h1 h2
    simp [ints]
    have := h zs[i] (List.getElem_mem h1)
    omega
end Go.Proofs.Ytgonldkgghikiaa
