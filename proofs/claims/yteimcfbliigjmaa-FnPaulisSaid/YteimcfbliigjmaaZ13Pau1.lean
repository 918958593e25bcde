/- Tableaux of Pauli operators, plain: valid ones, images, products of tableaux. -/
import Derived.Test.YteimcfbliigjmaaZ12Pau0
import Derived.Test.YteimcfbliigjmaaZ06Dat
namespace Go.Proofs.Yteimcfbliigjmaa
set_option linter.unusedSimpArgs false
set_option linter.unusedVariables false
set_option linter.unnecessarySimpa false
set_option maxRecDepth 200000
open Go.ChangeShapes Go.WideShapes Go.ChangeAt Go.RowKit

def tn (g : E3) : PN := ⟨g.a.toNat, g.b.toNat, g.c.toNat⟩
/-- A valid operator on n qubits. -/
def PauOk (n : Int) (g : E3) : Prop := (0 ≤ g.a ∧ g.a ≤ 3) ∧ (0 ≤ g.b ∧ g.b ≤ 2 ^ n.toNat - 1) ∧ (0 ≤ g.c ∧ g.c ≤ 2 ^ n.toNat - 1)
instance (n : Int) (g : E3) : Decidable (PauOk n g) := by unfold PauOk; infer_instance
/-- A valid image. -/
def ImOk (n : Int) (g : E3) : Prop := PauOk n g ∧ g.a % 2 = 0
instance (n : Int) (g : E3) : Decidable (ImOk n g) := by unfold ImOk; infer_instance
def pauB (n : Int) (g : E3) : Bool := decide ((1 ≤ n ∧ n ≤ 5) ∧ PauOk n g)
theorem pow_5 {n : Int} (h0 : 1 ≤ n) (h1 : n ≤ 5) : (2 : Int) ^ n.toNat ≤ 32 ∧ 2 ≤ (2 : Int) ^ n.toNat := by
  obtain h | h | h | h | h : n = 1 ∨ n = 2 ∨ n = 3 ∨ n = 4 ∨ n = 5 := by omega
  all_goals subst h; decide
theorem PauOk.nat {n : Int} {g : E3} (h0 : 1 ≤ n) (h1 : n ≤ 5) (h : PauOk n g) : g = (tn g).e ∧ PNok (tn g) := by
  obtain ⟨⟨a0, a1⟩, ⟨b0, b1⟩, ⟨c0, c1⟩⟩ := h
  have hp := (pow_5 h0 h1).1
  obtain ⟨a, b, c⟩ := g
  dsimp only at *
  refine ⟨?_, ⟨?_, ?_, ?_⟩⟩
  · unfold tn PN.e; dsimp only; congr 1 <;> omega
  all_goals (unfold tn; dsimp only; omega)
theorem tn_e (a : PN) : tn a.e = a := by unfold tn PN.e; simp
/-- Two images stand as those of a tableau: they commute unless they are of one qubit. -/
def pairB (n : Int) (L : List E3) (i j : Nat) : Bool := commN (tn (L.getD i ⟨0, 0, 0⟩)) (tn (L.getD j ⟨0, 0, 0⟩)) != decide ((i : Int) = (j : Int) + n)
def TabOk (d : Tab) : Prop :=
  (1 ≤ d.n ∧ d.n ≤ 5) ∧ (d.xs.length : Int) = d.n ∧ (d.zs.length : Int) = d.n ∧ (∀ i, i < d.xs.length + d.zs.length → ImOk d.n ((d.xs ++ d.zs).getD i ⟨0, 0, 0⟩)) ∧
    ∀ i, i < d.xs.length + d.zs.length → ∀ j, j < i → pairB d.n (d.xs ++ d.zs) i j = true
noncomputable instance (d : Tab) : Decidable (TabOk d) := Classical.propDecidable _
noncomputable def tabB (d : Tab) : Bool := decide (TabOk d)
/-- The image of an operator, as the program makes it: after k qubits. -/
def imgN (xs zs : List PN) (p : PN) : Nat → PN
  | 0 => ⟨(p.p + pop (p.x &&& p.z)) % 4, 0, 0⟩
  | k + 1 =>
    let s1 := if p.x.testBit k = true then mulN (imgN xs zs p k) (xs.getD k ⟨0, 0, 0⟩) else imgN xs zs p k
    if p.z.testBit k = true then mulN s1 (zs.getD k ⟨0, 0, 0⟩) else s1
/-- The same, as the reference makes it. -/
def imgS (xs zs : List PN) (p : PN) : Nat → PN
  | 0 => ⟨p.p, 0, 0⟩
  | k + 1 =>
    let s1 := if p.x.testBit k = true then mulN (imgS xs zs p k) (xs.getD k ⟨0, 0, 0⟩) else imgS xs zs p k
    let s2 := if p.z.testBit k = true then mulN s1 (zs.getD k ⟨0, 0, 0⟩) else s1
    if p.x.testBit k = true ∧ p.z.testBit k = true then ⟨(s2.p + 1) % 4, s2.x, s2.z⟩ else s2
def cb (m k : Nat) : Nat := (setB m k).length
theorem cb_succ (m k : Nat) : cb m (k + 1) = cb m k + bt m k := by
  unfold cb bt; rw [setB_succ]
  cases h : m.testBit k <;> simp
def Shift (s t : PN) (u : Nat) : Prop := s.x = t.x ∧ s.z = t.z ∧ s.p ≤ 3 ∧ t.p ≤ 3 ∧ s.p % 4 = (t.p + u) % 4
theorem Shift.mul {s t : PN} {u : Nat} (h : Shift s t u) (b : PN) : Shift (mulN s b) (mulN t b) u := by
  obtain ⟨h1, h2, h3, h4, h5⟩ := h
  refine ⟨by unfold mulN; dsimp only; rw [h1], by unfold mulN; dsimp only; rw [h2], ?_, ?_, ?_⟩
  · unfold mulN; dsimp only; omega
  · unfold mulN; dsimp only; omega
  · unfold mulN; dsimp only; rw [h1, h2]; omega
theorem img_shift (xs zs : List PN) (p : PN) (hp : p.p ≤ 3) : ∀ k, Shift (imgN xs zs p k) (imgS xs zs p k) (pop (p.x &&& p.z) + 3 * cb (p.x &&& p.z) k)
  | 0 => by
    refine ⟨rfl, rfl, by unfold imgN; dsimp only; omega, by unfold imgS; dsimp only; omega, ?_⟩
    unfold imgN imgS cb setB; simp
  | k + 1 => by
    have ih := img_shift xs zs p hp k
    have hb : bt (p.x &&& p.z) k = (p.x.testBit k && p.z.testBit k).toNat := by unfold bt; rw [Nat.testBit_and]
    rw [cb_succ, hb]
    unfold imgN imgS
    cases h1 : p.x.testBit k <;> cases h2 : p.z.testBit k
    · simpa using ih
    · simpa using ih.mul _
    · simpa using ih.mul _
    · have i2 := (ih.mul (xs.getD k ⟨0, 0, 0⟩)).mul (zs.getD k ⟨0, 0, 0⟩)
      obtain ⟨a1, a2, a3, a4, a5⟩ := i2
      simp only [if_true, and_self, Bool.and_self, Bool.toNat_true]
      refine ⟨a1, a2, a3, by dsimp only; omega, by dsimp only; omega⟩
theorem PN.eq_of {s t : PN} (h0 : s.p = t.p) (h1 : s.x = t.x) (h2 : s.z = t.z) : s = t := by
  cases s; cases t; dsimp only at *; rw [h0, h1, h2]
theorem cb_all {m n : Nat} (h : m < 2 ^ n) (hn : n ≤ 64) : cb m n = pop m := by
  unfold cb pop
  rw [setB_eq h (Nat.lt_of_lt_of_le h (Nat.pow_le_pow_right (by omega) hn))]
theorem img_same (xs zs : List PN) {p : PN} {n : Nat} (hp : p.p ≤ 3) (hx : p.x < 2 ^ n) (hn : n ≤ 64) : imgS xs zs p n = imgN xs zs p n := by
  obtain ⟨h1, h2, h3, h4, h5⟩ := img_shift xs zs p hp n
  have hlt : p.x &&& p.z < 2 ^ n := Nat.lt_of_le_of_lt Nat.and_le_left hx
  rw [cb_all hlt hn] at h5
  exact PN.eq_of (by omega) h1.symm h2.symm
structure PLok (L : List PN) : Prop where
  all : ∀ a ∈ L, PNok a
theorem PLok.get {L : List PN} (h : PLok L) (i : Nat) : PNok (L.getD i ⟨0, 0, 0⟩) := by
  by_cases hi : i < L.length
  · have e : L.getD i ⟨0, 0, 0⟩ = L[i] := by simp [List.getD, hi]
    rw [e]; exact h.all _ (List.getElem_mem hi)
  · have e : L.getD i ⟨0, 0, 0⟩ = ⟨0, 0, 0⟩ := by simp [List.getD, hi]
    rw [e]; exact ⟨by decide, by decide, by decide⟩
theorem imgN_ok {xs zs : List PN} {p : PN} (hx : PLok xs) (hz : PLok zs) : ∀ k, PNok (imgN xs zs p k)
  | 0 => ⟨by unfold imgN; dsimp only; omega, by simp [imgN], by simp [imgN]⟩
  | k + 1 => by
    have ih := imgN_ok (p := p) hx hz k
    unfold imgN
    dsimp only
    split
    · split
      · exact mulN_ok (mulN_ok ih (hx.get k)) (hz.get k)
      · exact mulN_ok ih (hz.get k)
    · split
      · exact mulN_ok ih (hx.get k)
      · exact ih
theorem imgS_ok {xs zs : List PN} {p : PN} (hp : p.p ≤ 3) (hx : PLok xs) (hz : PLok zs) : ∀ k, PNok (imgS xs zs p k)
  | 0 => ⟨hp, by simp [imgS], by simp [imgS]⟩
  | k + 1 => by
    have ih := imgS_ok (p := p) hp hx hz k
    have h1 : PNok (if p.x.testBit k = true then mulN (imgS xs zs p k) (xs.getD k ⟨0, 0, 0⟩) else imgS xs zs p k) := by
      split
      · exact mulN_ok ih (hx.get k)
      · exact ih
    have h2 : PNok (if p.z.testBit k = true then mulN (if p.x.testBit k = true then mulN (imgS xs zs p k) (xs.getD k ⟨0, 0, 0⟩) else imgS xs zs p k) (zs.getD k ⟨0, 0, 0⟩) else (if p.x.testBit k = true then mulN (imgS xs zs p k) (xs.getD k ⟨0, 0, 0⟩) else imgS xs zs p k)) := by
      split
      · exact mulN_ok h1 (hz.get k)
      · exact h1
    unfold imgS
    dsimp only
    split
    · exact ⟨by dsimp only; omega, h2.x, h2.z⟩
    · exact h2
end Go.Proofs.Yteimcfbliigjmaa
