/- The reference's elimination: swap the pivot to its place, clear its bit in all other rows. No program in sight. -/
import Derived.Test.YtgonldkgghikiaaSpan
namespace Go.Proofs.Ytgonldkgghikiaa
set_option linter.unusedSimpArgs false
set_option linter.unusedVariables false
set_option linter.unnecessarySimpa false
set_option maxRecDepth 200000

def swp (M : List Nat) (r j : Nat) : List Nat := (M.set j (M.getD r 0)).set r (M.getD j 0)
theorem swp_len (M : List Nat) (r j : Nat) : (swp M r j).length = M.length := by simp [swp]
theorem getD_lt {M : List Nat} {i : Nat} (h : i < M.length) : M.getD i 0 = M[i] := by simp [List.getD, h]
theorem swp_get {M : List Nat} {r j t : Nat} (hr : r ≤ j) (hj : j < M.length) (ht : t < M.length) : (swp M r j)[t]'(by rw [swp_len]; exact ht) = if t = r then M[j] else if t = j then M[r] else M[t] := by
  simp only [swp, List.getElem_set, getD_lt hj, getD_lt (show r < M.length by omega)]
  by_cases h1 : t = r
  · subst h1; simp
  · by_cases h2 : t = j
    · subst h2; simp [h1, Ne.symm h1]
    · simp [h1, h2, Ne.symm h1, Ne.symm h2]
theorem swp_mem {M : List Nat} {r j : Nat} (hr : r ≤ j) (hj : j < M.length) (x : Nat) : x ∈ M.drop r ↔ x = M.getD j 0 ∨ x ∈ (swp M r j).drop (r + 1) := by
  rw [getD_lt hj]
  constructor
  · intro h
    obtain ⟨i, hi, rfl⟩ := List.mem_iff_getElem.1 h
    simp only [List.length_drop] at hi
    simp only [List.getElem_drop]
    by_cases h1 : r + i = j
    · left; simp [h1]
    · right
      by_cases h2 : i = 0
      · subst h2
        refine List.mem_iff_getElem.2 ⟨j - (r + 1), by simp [swp_len]; omega, ?_⟩
        simp only [List.getElem_drop]
        rw [swp_get hr hj (by omega)]
        have e : r + 1 + (j - (r + 1)) = j := by omega
        simp [e]; omega
      · refine List.mem_iff_getElem.2 ⟨i - 1, by simp [swp_len]; omega, ?_⟩
        simp only [List.getElem_drop]
        rw [swp_get hr hj (by omega)]
        have e : r + 1 + (i - 1) = r + i := by omega
        simp [e, h1, h2]
  · rintro (rfl | h)
    · exact List.mem_iff_getElem.2 ⟨j - r, by simp; omega, by simp only [List.getElem_drop]; congr 1; omega⟩
    · obtain ⟨i, hi, rfl⟩ := List.mem_iff_getElem.1 h
      simp only [List.length_drop, swp_len] at hi
      simp only [List.getElem_drop]
      rw [swp_get hr hj (by omega)]
      by_cases h1 : r + 1 + i = j
      · refine List.mem_iff_getElem.2 ⟨0, by simp; omega, ?_⟩
        simp [h1]; omega
      · refine List.mem_iff_getElem.2 ⟨1 + i, by simp; omega, ?_⟩
        simp only [List.getElem_drop]
        rw [if_neg (by omega), if_neg h1]
        congr 1; omega
def clr (r k y i x : Nat) : Nat := if i ≠ r ∧ x.testBit k = true then x ^^^ y else x
def clrTo (M : List Nat) (r k y n : Nat) : List Nat := M.mapIdx fun i x => if i < n then clr r k y i x else x
theorem clrTo_len (M : List Nat) (r k y n : Nat) : (clrTo M r k y n).length = M.length := by simp [clrTo]
theorem clrTo_zero (M : List Nat) (r k y : Nat) : clrTo M r k y 0 = M := by
  apply List.ext_getElem <;> simp [clrTo]
theorem clrTo_get {M : List Nat} {r k y n : Nat} (h : n < M.length) : (clrTo M r k y n).getD n 0 = M.getD n 0 := by
  simp [clrTo, List.getD, h]
theorem clrTo_succ {M : List Nat} {r k y n : Nat} (h : n < M.length) : clrTo M r k y (n + 1) = (clrTo M r k y n).set n (clr r k y n (M.getD n 0)) := by
  apply List.ext_getElem
  · simp [clrTo]
  · intro i h1 h2
    simp [clrTo] at h1
    rw [List.getElem_set]
    by_cases e : n = i
    · subst e; simp [clrTo, List.getD, h]
    · simp [clrTo, e]
      by_cases h3 : i < n
      · rw [if_pos (by omega), if_pos h3]
      · rw [if_neg (by omega), if_neg h3]
theorem clrTo_same {M : List Nat} {r k y n : Nat} (h : n < M.length) (hc : ¬ (n ≠ r ∧ (M.getD n 0).testBit k = true)) : clrTo M r k y (n + 1) = clrTo M r k y n := by
  rw [clrTo_succ h]
  have e : clr r k y n (M.getD n 0) = (clrTo M r k y n).getD n 0 := by rw [clrTo_get h]; simp only [clr]; rw [if_neg hc]
  rw [e]
  apply List.ext_getElem
  · simp
  · intro i h1 h2
    rw [List.getElem_set]
    split
    · next e2 => subst e2; simp [List.getD, h2]
    · rfl
theorem clrTo_drop {M : List Nat} {r k y n : Nat} (h : M.length ≤ n) : (clrTo M r k y n).drop (r + 1) = (M.drop (r + 1)).map (piv k y) := by
  apply List.ext_getElem
  · simp [clrTo]
  · intro i h1 h2
    simp [clrTo] at h1
    simp only [List.getElem_drop, List.getElem_map, clrTo, List.getElem_mapIdx]
    rw [if_pos (by omega)]
    unfold clr piv
    by_cases hb : (M[r + 1 + i]).testBit k = true
    · rw [if_pos ⟨by omega, hb⟩, if_pos hb]
    · rw [if_neg (fun hh => hb hh.2), if_neg hb]
theorem clr_bd {r k y i x : Nat} (hy : y ≤ 1023) (hx : x ≤ 1023) : clr r k y i x ≤ 1023 := by
  unfold clr
  split
  · have := Nat.xor_lt_two_pow (x := x) (y := y) (n := 10) (by omega) (by omega); omega
  · exact hx
theorem set_bd {M : List Nat} {i x : Nat} (h : ∀ z ∈ M, z ≤ 1023) (hx : x ≤ 1023) : ∀ z ∈ M.set i x, z ≤ 1023 := by
  intro z hz
  rcases List.mem_or_eq_of_mem_set hz with h1 | rfl
  · exact h z h1
  · exact hx
theorem getD_bd {M : List Nat} {i : Nat} (h : ∀ z ∈ M, z ≤ 1023) : M.getD i 0 ≤ 1023 := by
  by_cases hi : i < M.length
  · rw [getD_lt hi]; exact h _ (List.getElem_mem hi)
  · simp [List.getD, hi]
theorem swp_bd {M : List Nat} {r j : Nat} (h : ∀ z ∈ M, z ≤ 1023) : ∀ z ∈ swp M r j, z ≤ 1023 := set_bd (set_bd h (getD_bd h)) (getD_bd h)
theorem clrTo_bd {M : List Nat} {r k y : Nat} (hy : y ≤ 1023) (h : ∀ z ∈ M, z ≤ 1023) (n : Nat) : ∀ z ∈ clrTo M r k y n, z ≤ 1023 := by
  intro z hz
  obtain ⟨i, hi, rfl⟩ := List.mem_iff_getElem.1 hz
  simp [clrTo] at hi ⊢
  split
  · exact clr_bd hy (h _ (List.getElem_mem _))
  · exact h _ (List.getElem_mem _)
/-- The round of the reference's elimination with a pivot at j. -/
theorem Left.swap {N r k j : Nat} {M : List Nat} (h : Left N r (10 - k) k (M.drop r)) (hk : k < 10) (hr : r ≤ j) (hj : j < M.length) (hb : (M.getD j 0).testBit k = true) (n : Nat) (hn : M.length ≤ n) :
    Left N (r + 1) (10 - (k + 1)) (k + 1) ((clrTo (swp M r j) r k (M.getD j 0) n).drop (r + 1)) := by
  rw [clrTo_drop (by rw [swp_len]; exact hn)]
  rw [show 10 - k = (10 - (k + 1)) + 1 from by omega] at h
  exact Left.take h hb (swp_mem hr hj)
theorem Left.none {N r k : Nat} {M : List Nat} (h : Left N r (10 - k) k (M.drop r)) (hk : k < 10) (h0 : ∀ t, r ≤ t → t < M.length → (M.getD t 0).testBit k = false) : Left N r (10 - (k + 1)) (k + 1) (M.drop r) := by
  rw [show 10 - k = (10 - (k + 1)) + 1 from by omega] at h
  refine Left.skip h (fun x hx => ?_)
  obtain ⟨i, hi, rfl⟩ := List.mem_iff_getElem.1 hx
  simp only [List.length_drop] at hi
  simp only [List.getElem_drop]
  rw [← getD_lt (show r + i < M.length by omega)]
  exact h0 _ (by omega) (by omega)
end Go.Proofs.Ytgonldkgghikiaa
