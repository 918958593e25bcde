/- Products of Pauli operators, plain: the phase by sums of one bits, and by a table of letters. -/
import Derived.Test.YtjdffjnennodaaaZ01M
import Derived.Test.YtjdffjnennodaaaZ03Slice1
namespace Go.Proofs.Ytjdffjnennodaaa
set_option linter.unusedSimpArgs false
set_option linter.unusedVariables false
set_option linter.unnecessarySimpa false
set_option maxRecDepth 200000
open Go.ChangeShapes Go.WideShapes Go.ChangeAt Go.RowKit

structure PN where (p x z : Nat)
deriving DecidableEq
def PN.e (a : PN) : E3 := ⟨(a.p : Int), (a.x : Int), (a.z : Int)⟩
structure PNok (a : PN) : Prop where
  p : a.p ≤ 3
  x : a.x ≤ 31
  z : a.z ≤ 31
def bt (x q : Nat) : Nat := (x.testBit q).toNat
def pop5 (x : Nat) : Nat := bt x 0 + bt x 1 + bt x 2 + bt x 3 + bt x 4
theorem pop_5 {x : Nat} (h : x ≤ 31) : pop x = pop5 x :=
  Nat.eq_of_beq_eq_true (of_natAll (n := 32) (p := fun x => Nat.beq (pop x) (pop5 x)) (by decide +kernel) x (by omega))
theorem xor31 {x y : Nat} (hx : x ≤ 31) (hy : y ≤ 31) : x ^^^ y ≤ 31 := by
  have := Nat.xor_lt_two_pow (x := x) (y := y) (n := 5) (by omega) (by omega); omega
theorem and31 {x y : Nat} (hx : x ≤ 31) : x &&& y ≤ 31 := by
  have : x &&& y ≤ x := Nat.and_le_left
  omega
/-- The product, its phase by sums of one bits. -/
def mulN (a b : PN) : PN :=
  ⟨(a.p + b.p + pop (a.x &&& a.z) + pop (b.x &&& b.z) + 2 * pop (a.z &&& b.x) + 3 * pop ((a.x ^^^ b.x) &&& (a.z ^^^ b.z))) % 4, a.x ^^^ b.x, a.z ^^^ b.z⟩
theorem mulN_ok {a b : PN} (ha : PNok a) (hb : PNok b) : PNok (mulN a b) := by
  refine ⟨?_, xor31 ha.x hb.x, xor31 ha.z hb.z⟩
  unfold mulN; dsimp only; omega
def ltr (a : PN) (q : Nat) : Nat := bt a.x q + 2 * bt a.z q
/-- The table of signs. -/
def sgT (x y : Nat) : Nat :=
  if x = 1 ∧ y = 2 ∨ x = 2 ∧ y = 3 ∨ x = 3 ∧ y = 1 then 3 else if x = 1 ∧ y = 3 ∨ x = 2 ∧ y = 1 ∨ x = 3 ∧ y = 2 then 1 else 0
def sgTo (a b : PN) : Nat → Nat
  | 0 => 0
  | k + 1 => sgTo a b k + sgT (ltr a k) (ltr b k)
theorem sgT_le (x y : Nat) : sgT x y ≤ 3 := by unfold sgT; split <;> (try split) <;> omega
theorem sgTo_le (a b : PN) : ∀ k, sgTo a b k ≤ 3 * k
  | 0 => Nat.le_refl _
  | k + 1 => by have := sgTo_le a b k; have := sgT_le (ltr a k) (ltr b k); unfold sgTo; omega
theorem sg_bit : ∀ ax az bx bz : Bool, (sgT (ax.toNat + 2 * az.toNat) (bx.toNat + 2 * bz.toNat)) % 4 = ((ax && az).toNat + (bx && bz).toNat + 2 * (az && bx).toNat + 3 * ((ax ^^ bx) && (az ^^ bz)).toNat) % 4 := by decide
theorem sg_q (a b : PN) (q : Nat) : (sgT (ltr a q) (ltr b q)) % 4 = (bt (a.x &&& a.z) q + bt (b.x &&& b.z) q + 2 * bt (a.z &&& b.x) q + 3 * bt ((a.x ^^^ b.x) &&& (a.z ^^^ b.z)) q) % 4 := by
  have h := sg_bit (a.x.testBit q) (a.z.testBit q) (b.x.testBit q) (b.z.testBit q)
  unfold ltr bt
  rw [Nat.testBit_and, Nat.testBit_and, Nat.testBit_and, Nat.testBit_and, Nat.testBit_xor, Nat.testBit_xor]
  exact h
theorem mul_sg {a b : PN} (ha : PNok a) (hb : PNok b) : (a.p + b.p + sgTo a b 5) % 4 = (mulN a b).p := by
  unfold mulN; dsimp only
  rw [pop_5 (and31 ha.x), pop_5 (and31 hb.x), pop_5 (and31 ha.z), pop_5 (and31 (xor31 ha.x hb.x))]
  have h0 := sg_q a b 0; have h1 := sg_q a b 1; have h2 := sg_q a b 2; have h3 := sg_q a b 3; have h4 := sg_q a b 4
  simp only [sgTo, pop5]
  omega
/-- Two operators commute. -/
def commN (a b : PN) : Bool := (pop (a.x &&& b.z) + pop (a.z &&& b.x)) % 2 == 0
theorem comm_iff (a b : PN) : (mulN a b = mulN b a) ↔ commN a b = true := by
  unfold mulN commN
  rw [Nat.xor_comm b.x a.x, Nat.xor_comm b.z a.z, Nat.and_comm b.z a.x, beq_iff_eq]
  constructor
  · intro h; injection h with h _ _; omega
  · intro h
    have e : ∀ S u v : Nat, (u + v) % 2 = 0 → (S + 2 * u) % 4 = (S + 2 * v) % 4 := by intro S u v h; omega
    congr 1
    omega
theorem mulN_e (a b : PN) : (mulN a b).e = (mulN b a).e ↔ commN a b = true := by
  rw [← comm_iff]
  constructor
  · intro h
    unfold PN.e at h
    injection h with h1 h2 h3
    have e1 : (mulN a b).p = (mulN b a).p := by omega
    have e2 : (mulN a b).x = (mulN b a).x := by omega
    have e3 : (mulN a b).z = (mulN b a).z := by omega
    cases hx : mulN a b; cases hy : mulN b a
    rw [hx, hy] at e1 e2 e3
    dsimp only at e1 e2 e3
    rw [e1, e2, e3]
  · intro h; rw [h]
/-- A phase carried through a product. -/
theorem mulN_shift (p s x z : Nat) (b : PN) : mulN ⟨(p + s) % 4, x, z⟩ b = ⟨((mulN ⟨p, x, z⟩ b).p + s) % 4, (mulN ⟨p, x, z⟩ b).x, (mulN ⟨p, x, z⟩ b).z⟩ := by
  unfold mulN
  dsimp only
  congr 1
  omega
end Go.Proofs.Ytjdffjnennodaaa
