/- Matrices of Pauli operators, plain: a cell is zero (4) or a power of i (0 to 3). -/
import Derived.Test.YteimcfbliigjmaaZ12Pau0
namespace Go.Proofs.Yteimcfbliigjmaa
set_option linter.unusedSimpArgs false
set_option linter.unusedVariables false
set_option linter.unnecessarySimpa false
set_option maxRecDepth 200000
open Go.ChangeShapes Go.WideShapes Go.ChangeAt Go.RowKit

/-- The product of two codes. -/
def mulU (a b : Nat) : Nat := if a = 4 ∨ b = 4 then 4 else (a + b) % 4
theorem mulU_le : ∀ a b : Nat, a ≤ 4 → b ≤ 4 → mulU a b ≤ 4 := by intro a b _ _; unfold mulU; split <;> omega
theorem mulU_ne {a b : Nat} (h : mulU a b ≠ 4) : a ≠ 4 ∧ b ≠ 4 := by
  constructor <;> intro h2 <;> exact h (by unfold mulU; simp [h2])
theorem mulU_swap {a b c d : Nat} (ha : a ≤ 4) (hb : b ≤ 4) (hc : c ≤ 4) (hd : d ≤ 4) : mulU (mulU a b) (mulU c d) = mulU (mulU a c) (mulU b d) := by
  have h : ∀ a : Fin 5, ∀ b : Fin 5, ∀ c : Fin 5, ∀ d : Fin 5, mulU (mulU a b) (mulU c d) = mulU (mulU a c) (mulU b d) := by decide +kernel
  exact h ⟨a, by omega⟩ ⟨b, by omega⟩ ⟨c, by omega⟩ ⟨d, by omega⟩
theorem mulU_assoc {a b c : Nat} (ha : a ≤ 4) (hb : b ≤ 4) (hc : c ≤ 4) : mulU (mulU a b) c = mulU a (mulU b c) := by
  have h : ∀ a : Fin 5, ∀ b : Fin 5, ∀ c : Fin 5, mulU (mulU a b) c = mulU a (mulU b c) := by decide +kernel
  exact h ⟨a, by omega⟩ ⟨b, by omega⟩ ⟨c, by omega⟩
theorem mulU_comm (a b : Nat) : mulU a b = mulU b a := by
  unfold mulU
  by_cases h : a = 4 <;> by_cases h2 : b = 4 <;> simp [h, h2, Nat.add_comm]
/-- The factor of a letter (0 to 3: I, X, Z, Y) for two bits. -/
def facU (l i j : Nat) : Nat :=
  if l = 0 then (if i = j then 0 else 4) else if l = 1 then (if i = j then 4 else 0) else if l = 2 then (if i = j then 2 * i else 4) else if i = j then 4 else 1 + 2 * j
theorem facU_le (l i j : Nat) (hi : i ≤ 1) (hj : j ≤ 1) : facU l i j ≤ 4 := by unfold facU; (repeat' split) <;> omega
/-- The bit of a qubit in a state of n qubits. -/
def qb (n i q : Nat) : Nat := bt i (n - 1 - q)
theorem qb_le (n i q : Nat) : qb n i q ≤ 1 := by unfold qb bt; cases i.testBit (n - 1 - q) <;> decide
/-- The cell of an operator at row i and column j, over the first k qubits. -/
def cellU (n : Nat) (p : PN) (i j : Nat) : Nat → Nat
  | 0 => p.p
  | k + 1 => mulU (cellU n p i j k) (facU (ltr p k) (qb n i k) (qb n j k))
theorem cellU_le (n : Nat) (p : PN) (i j : Nat) (hp : p.p ≤ 3) : ∀ k, cellU n p i j k ≤ 4
  | 0 => by unfold cellU; omega
  | k + 1 => mulU_le _ _ (cellU_le n p i j hp k) (facU_le _ _ _ (qb_le _ _ _) (qb_le _ _ _))
theorem fac_mul : ∀ xa za xb zb i j : Bool,
    mulU (facU (xa.toNat + 2 * za.toNat) i.toNat (i ^^ xa).toNat) (facU (xb.toNat + 2 * zb.toNat) (i ^^ xa).toNat j.toNat) = mulU (sgT (xa.toNat + 2 * za.toNat) (xb.toNat + 2 * zb.toNat)) (facU ((xa ^^ xb).toNat + 2 * (za ^^ zb).toNat) i.toNat j.toNat) := by decide +kernel
/-- Column k is the one where row i of an operator is not zero. -/
def Hits (n x i k : Nat) : Prop := ∀ q, q < n → k.testBit (n - 1 - q) = (i.testBit (n - 1 - q) ^^ x.testBit q)
theorem fac_zero : ∀ xa za i k : Bool, facU (xa.toNat + 2 * za.toNat) i.toNat k.toNat ≠ 4 → k = (i ^^ xa) := by decide +kernel
theorem cellU_hits {n : Nat} {p : PN} {i k : Nat} : ∀ m, cellU n p i k m ≠ 4 → ∀ q, q < m → k.testBit (n - 1 - q) = (i.testBit (n - 1 - q) ^^ p.x.testBit q)
  | 0, _, q, hq => by omega
  | m + 1, h, q, hq => by
    obtain ⟨h1, h2⟩ := mulU_ne h
    by_cases e : q = m
    · subst e; exact fac_zero _ (p.z.testBit q) _ _ h2
    · exact cellU_hits m h1 q (by omega)
theorem sgTo_le4 (x y : Nat) : sgT x y ≤ 4 := Nat.le_trans (sgT_le x y) (by omega)
theorem cell_mul {n : Nat} {a b : PN} {i j k : Nat} (ha : a.p ≤ 3) (hb : b.p ≤ 3) (h : Hits n a.x i k) : ∀ m, m ≤ n →
    mulU (cellU n a i k m) (cellU n b k j m) = cellU n ⟨(a.p + b.p + sgTo a b m) % 4, a.x ^^^ b.x, a.z ^^^ b.z⟩ i j m
  | 0, _ => by
    show mulU a.p b.p = (a.p + b.p + 0) % 4
    unfold mulU
    rw [if_neg (show ¬ (a.p = 4 ∨ b.p = 4) by omega)]; rfl
  | m + 1, hm => by
    have ih := cell_mul (j := j) ha hb h m (by omega)
    have hq := h m (by omega)
    simp only [cellU]
    have f := fac_mul (a.x.testBit m) (a.z.testBit m) (b.x.testBit m) (b.z.testBit m) (i.testBit (n - 1 - m)) (j.testBit (n - 1 - m))
    rw [← hq] at f
    rw [mulU_swap (cellU_le _ _ _ _ ha _) (facU_le _ _ _ (qb_le _ _ _) (qb_le _ _ _)) (cellU_le _ _ _ _ hb _) (facU_le _ _ _ (qb_le _ _ _) (qb_le _ _ _)), ih]
    have f2 : mulU (facU (ltr a m) (qb n i m) (qb n k m)) (facU (ltr b m) (qb n k m) (qb n j m)) = mulU (sgT (ltr a m) (ltr b m)) (facU (ltr ⟨(a.p + b.p + sgTo a b (m + 1)) % 4, a.x ^^^ b.x, a.z ^^^ b.z⟩ m) (qb n i m) (qb n j m)) := by
      unfold ltr qb bt
      dsimp only
      rw [Nat.testBit_xor, Nat.testBit_xor]
      exact f
    rw [f2, ← mulU_assoc (cellU_le _ _ _ _ (by dsimp only; omega) _) (sgTo_le4 _ _) (facU_le _ _ _ (qb_le _ _ _) (qb_le _ _ _))]
    congr 1
    have sh : ∀ (p s : Nat) (x z : Nat), s ≤ 3 → ∀ m, mulU (cellU n ⟨p % 4, x, z⟩ i j m) s = cellU n ⟨(p + s) % 4, x, z⟩ i j m := by
      intro p s x z hs m
      induction m with
      | zero => show mulU (p % 4) s = (p + s) % 4; unfold mulU; rw [if_neg (show ¬ (p % 4 = 4 ∨ s = 4) by omega)]; omega
      | succ m ih =>
        simp only [cellU]
        have e1 : ltr ⟨p % 4, x, z⟩ m = ltr ⟨(p + s) % 4, x, z⟩ m := rfl
        rw [mulU_assoc (cellU_le _ _ _ _ (by dsimp only; omega) _) (facU_le _ _ _ (qb_le _ _ _) (qb_le _ _ _)) (by omega), mulU_comm _ s,
          ← mulU_assoc (cellU_le _ _ _ _ (by dsimp only; omega) _) (by omega) (facU_le _ _ _ (qb_le _ _ _) (qb_le _ _ _)), ih, e1]
    rw [sh _ _ _ _ (sgT_le _ _), show sgTo a b (m + 1) = sgTo a b m + sgT (ltr a m) (ltr b m) from rfl, ← Nat.add_assoc]
theorem bt_high {x n q : Nat} (h : x < 2 ^ n) (hq : n ≤ q) : bt x q = 0 := by
  unfold bt
  rw [Nat.testBit_lt_two_pow (Nat.lt_of_lt_of_le h (Nat.pow_le_pow_right (by omega) hq))]; rfl
theorem sgTo_high {n : Nat} {a b : PN} (hx : a.x < 2 ^ n) (hz : a.z < 2 ^ n) : ∀ d, sgTo a b (n + d) = sgTo a b n
  | 0 => rfl
  | d + 1 => by
    have ih := sgTo_high (b := b) hx hz d
    have e : ltr a (n + d) = 0 := by unfold ltr; rw [bt_high hx (by omega), bt_high hz (by omega)]
    show sgTo a b (n + d) + sgT (ltr a (n + d)) (ltr b (n + d)) = _
    rw [ih, e]
    unfold sgT; simp
/-- The column that row i of an operator hits. -/
def hitN (n x i : Nat) : Nat := i ^^^ ((List.range n).foldl (fun r q => r + 2 ^ (n - 1 - q) * bt x q) 0)
theorem hit_iff : ∀ n : Fin 4, ∀ x : Fin 8, ∀ i : Fin 8, x.val < 2 ^ n.val → i.val < 2 ^ n.val → (hitN n x i < 2 ^ n.val ∧ (∀ q : Fin 3, q.val < n.val → (hitN n x i).testBit (n.val - 1 - q.val) = (i.val.testBit (n.val - 1 - q.val) ^^ x.val.testBit q.val))) := by decide +kernel
theorem bits_eq : ∀ n : Fin 4, ∀ k : Fin 8, ∀ l : Fin 8, k.val < 2 ^ n.val → l.val < 2 ^ n.val → (∀ q : Fin 3, q.val < n.val → k.val.testBit (n.val - 1 - q.val) = l.val.testBit (n.val - 1 - q.val)) → k = l := by decide +kernel
theorem pow3 {n : Nat} (h : n ≤ 3) : 2 ^ n ≤ 8 := Nat.pow_le_pow_right (by omega) h (n := 2)
theorem hit_lt {n x i : Nat} (hn : n ≤ 3) (hx : x < 2 ^ n) (hi : i < 2 ^ n) : hitN n x i < 2 ^ n := by
  have := pow3 hn
  exact (hit_iff ⟨n, by omega⟩ ⟨x, by omega⟩ ⟨i, by omega⟩ hx hi).1
theorem hit_hits {n x i : Nat} (hn : n ≤ 3) (hx : x < 2 ^ n) (hi : i < 2 ^ n) : Hits n x i (hitN n x i) := fun q hq => by
  have := pow3 hn
  exact (hit_iff ⟨n, by omega⟩ ⟨x, by omega⟩ ⟨i, by omega⟩ hx hi).2 ⟨q, by omega⟩ hq
theorem hits_eq {n x i k : Nat} (hn : n ≤ 3) (hx : x < 2 ^ n) (hi : i < 2 ^ n) (hk : k < 2 ^ n) (h : Hits n x i k) : k = hitN n x i := by
  have h8 := pow3 hn
  have h2 := hit_hits hn hx hi
  have h3 := hit_lt hn hx hi
  have := bits_eq ⟨n, by omega⟩ ⟨k, by omega⟩ ⟨hitN n x i, by omega⟩ hk h3 (fun q hq => by
    have := h q hq; have h4 := h2 q hq; dsimp only; rw [this, h4])
  injection this
/-- A valid operator on n qubits. -/
structure PNn (n : Nat) (a : PN) : Prop where
  p : a.p ≤ 3
  x : a.x < 2 ^ n
  z : a.z < 2 ^ n
theorem PNn.ok {n : Nat} {a : PN} (hn : n ≤ 5) (h : PNn n a) : PNok a := by
  have : 2 ^ n ≤ 32 := Nat.pow_le_pow_right (by omega) hn (n := 2)
  have := h.x; have := h.z
  exact ⟨h.p, by omega, by omega⟩
/-- The sum of a row with a column, over the first m states. -/
def addU (a b : Nat) : Nat := if a = 4 then b else a
def sumU (n : Nat) (a b : PN) (i j : Nat) : Nat → Nat
  | 0 => 4
  | m + 1 => addU (sumU n a b i j m) (mulU (cellU n a i m n) (cellU n b m j n))
theorem sumU_is {n : Nat} {a b : PN} {i j : Nat} (hn : n ≤ 3) (ha : PNn n a) (hi : i < 2 ^ n) : ∀ m, m ≤ 2 ^ n →
    sumU n a b i j m = if m ≤ hitN n a.x i then 4 else mulU (cellU n a i (hitN n a.x i) n) (cellU n b (hitN n a.x i) j n)
  | 0, _ => by simp [sumU]
  | m + 1, hm => by
    have ih := sumU_is (b := b) (j := j) hn ha hi m (by omega)
    have hz : m ≠ hitN n a.x i → mulU (cellU n a i m n) (cellU n b m j n) = 4 := fun hne => by
      by_cases h : mulU (cellU n a i m n) (cellU n b m j n) = 4
      · exact h
      · exact absurd (hits_eq hn ha.x hi (by omega) (cellU_hits n (mulU_ne h).1)) hne
    simp only [sumU]
    rw [ih]
    by_cases h1 : m ≤ hitN n a.x i
    · rw [if_pos h1]
      by_cases h2 : m = hitN n a.x i
      · rw [if_neg (by omega), ← h2]; simp [addU]
      · rw [if_pos (by omega), hz h2]; rfl
    · rw [if_neg h1, if_neg (by omega), hz (by omega)]
      unfold addU; split
      · rename_i e; exact e.symm
      · rfl
/-- One of the two summands is zero. -/
theorem sumU_one {n : Nat} {a b : PN} {i j m : Nat} (hn : n ≤ 3) (ha : PNn n a) (hi : i < 2 ^ n) (hm : m < 2 ^ n) :
    sumU n a b i j m = 4 ∨ mulU (cellU n a i m n) (cellU n b m j n) = 4 := by
  rw [sumU_is hn ha hi m (by omega)]
  by_cases h1 : m ≤ hitN n a.x i
  · rw [if_pos h1]; exact .inl rfl
  · refine .inr ?_
    by_cases h : mulU (cellU n a i m n) (cellU n b m j n) = 4
    · exact h
    · have := hits_eq hn ha.x hi (by omega) (cellU_hits n (mulU_ne h).1); omega
/-- The matrix of the product is the product of the matrices. -/
theorem sumU_mul {n : Nat} {a b : PN} {i j : Nat} (hn : n ≤ 3) (ha : PNn n a) (hb : PNn n b) (hi : i < 2 ^ n) : sumU n a b i j (2 ^ n) = cellU n (mulN a b) i j n := by
  rw [sumU_is hn ha hi _ (Nat.le_refl _), if_neg (Nat.not_le.2 (hit_lt hn ha.x hi)), cell_mul ha.p hb.p (hit_hits hn ha.x hi) n (Nat.le_refl _)]
  have e := mul_sg (ha.ok (by omega)) (hb.ok (by omega))
  have e2 := sgTo_high (b := b) ha.x ha.z (5 - n)
  rw [show n + (5 - n) = 5 by omega] at e2
  rw [e2] at e
  rw [e]
  rfl
theorem mulN_n {n : Nat} {a b : PN} (ha : PNn n a) (hb : PNn n b) : PNn n (mulN a b) := by
  refine ⟨?_, Nat.xor_lt_two_pow ha.x hb.x, Nat.xor_lt_two_pow ha.z hb.z⟩
  unfold mulN; dsimp only; omega
end Go.Proofs.Yteimcfbliigjmaa
