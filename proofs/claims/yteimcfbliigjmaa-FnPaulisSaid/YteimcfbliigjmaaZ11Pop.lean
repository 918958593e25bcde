/- The number of one bits of a word, by the library's sums of fields: plain. -/
import Derived.Test.YteimcfbliigjmaaZ10M
namespace Go.Proofs.Yteimcfbliigjmaa
set_option linter.unusedSimpArgs false
set_option linter.unusedVariables false
set_option linter.unnecessarySimpa false
set_option maxRecDepth 200000
open Go.ChangeShapes Go.WideShapes Go.ChangeAt Go.RowKit

theorem tb_cut (q b j : Nat) (hb : b < 256) : (256 * q + b).testBit j = if j < 8 then b.testBit j else q.testBit (j - 8) :=
  Nat.testBit_two_pow_mul_add (i := 8) q hb j
theorem and256 (a b c d : Nat) (hb : b < 256) (hd : d < 256) : (256 * a + b) &&& (256 * c + d) = 256 * (a &&& c) + (b &&& d) := by
  apply Nat.eq_of_testBit_eq
  intro j
  have hbd : b &&& d < 256 := Nat.lt_of_le_of_lt Nat.and_le_left hb
  rw [Nat.testBit_and, tb_cut a b j hb, tb_cut c d j hd, tb_cut _ _ j hbd]
  split <;> simp
def repB (c : Nat) : Nat → Nat
  | 0 => 0
  | k + 1 => 256 * repB c k + c
def g1 (b : Nat) : Nat := (b / 2 &&& 85) + (b &&& 85)
def g2 (b : Nat) : Nat := (b / 4 &&& 51) + (b &&& 51)
def g3 (b : Nat) : Nat := (b / 16 + b) &&& 15
def S1 (k x : Nat) : Nat := (x / 2 &&& repB 85 k) + (x &&& repB 85 k)
def S2 (k x : Nat) : Nat := (x / 4 &&& repB 51 k) + (x &&& repB 51 k)
def S3 (k x : Nat) : Nat := (x / 16 + x) &&& repB 15 k
theorem g1_lt : ∀ b, b < 256 → g1 b < 256 := by decide +kernel
theorem g21_lt : ∀ b, b < 256 → g2 (g1 b) ≤ 68 ∧ g2 (g1 b) % 16 ≤ 4 := by decide +kernel
theorem low1 : ∀ r, r < 2 → ∀ b, b < 256 → (128 * r + b / 2) &&& 85 = (b / 2) &&& 85 := by decide +kernel
theorem low2 : ∀ r, r < 4 → ∀ b, b < 256 → (64 * r + b / 4) &&& 51 = (b / 4) &&& 51 := by decide +kernel
theorem low3 : ∀ r, r < 5 → ∀ b, b < 69 → (16 * r + (b / 16 + b)) &&& 15 = (b / 16 + b) &&& 15 := by decide +kernel
theorem S1_cut (k q b : Nat) (hb : b < 256) : S1 (k + 1) (256 * q + b) = 256 * S1 k q + g1 b := by
  unfold S1 g1
  rw [show repB 85 (k + 1) = 256 * repB 85 k + 85 from rfl]
  have e : (256 * q + b) / 2 = 256 * (q / 2) + (128 * (q % 2) + b / 2) := by omega
  rw [e, and256 _ _ _ _ (by omega) (by omega), and256 _ _ _ _ hb (by omega), low1 _ (by omega) _ hb]
  omega
theorem S2_cut (k q b : Nat) (hb : b < 256) : S2 (k + 1) (256 * q + b) = 256 * S2 k q + g2 b := by
  unfold S2 g2
  rw [show repB 51 (k + 1) = 256 * repB 51 k + 51 from rfl]
  have e : (256 * q + b) / 4 = 256 * (q / 4) + (64 * (q % 4) + b / 4) := by omega
  rw [e, and256 _ _ _ _ (by omega) (by omega), and256 _ _ _ _ hb (by omega), low2 _ (by omega) _ hb]
  omega
theorem S3_cut (k q b : Nat) (hb : b ≤ 68) (hq : q % 16 ≤ 4) : S3 (k + 1) (256 * q + b) = 256 * S3 k q + g3 b := by
  unfold S3 g3
  rw [show repB 15 (k + 1) = 256 * repB 15 k + 15 from rfl]
  have e : (256 * q + b) / 16 + (256 * q + b) = 256 * (q / 16 + q) + (16 * (q % 16) + (b / 16 + b)) := by omega
  rw [e, and256 _ _ _ _ (by omega) (by omega), low3 _ (by omega) _ (by omega)]
def fB (b : Nat) : Nat := g3 (g2 (g1 b))
def bySum : Nat → Nat → Nat
  | 0, _ => 0
  | k + 1, x => 256 * bySum k (x / 256) + fB (x % 256)
theorem S21_low (k x : Nat) : S2 k (S1 k x) % 16 ≤ 4 := by
  cases k with
  | zero => simp [S1, S2, repB]
  | succ k =>
    have e : x = 256 * (x / 256) + x % 256 := by omega
    rw [e, S1_cut _ _ _ (by omega), S2_cut _ _ _ (g1_lt _ (by omega))]
    have := (g21_lt (x % 256) (by omega)).2
    omega
theorem S321 : ∀ k x, S3 k (S2 k (S1 k x)) = bySum k x
  | 0, x => by simp [S3, repB, bySum]
  | k + 1, x => by
    have e : x = 256 * (x / 256) + x % 256 := by omega
    have hb : x % 256 < 256 := by omega
    show S3 (k + 1) (S2 (k + 1) (S1 (k + 1) x)) = 256 * bySum k (x / 256) + fB (x % 256)
    rw [← S321 k (x / 256)]
    conv => lhs; rw [e]
    rw [S1_cut _ _ _ hb, S2_cut _ _ _ (g1_lt _ hb), S3_cut _ _ _ (g21_lt _ hb).1 (S21_low _ _)]
    rfl
theorem setB_cut (q b : Nat) (hb : b < 256) : ∀ k, (setB (256 * q + b) (8 + k)).length = (setB b 8).length + (setB q k).length
  | 0 => by
    have e : setB (256 * q + b) 8 = setB b 8 := by
      unfold setB
      apply List.filter_congr
      intro j hj
      rw [tb_cut q b j hb, if_pos (by simpa using hj)]
    show (setB (256 * q + b) 8).length = (setB b 8).length + 0
    rw [e]; rfl
  | k + 1 => by
    have ih := setB_cut q b hb k
    rw [show 8 + (k + 1) = (8 + k) + 1 from by omega, setB_succ (256 * q + b) (8 + k), setB_succ q k, tb_cut q b (8 + k) hb, if_neg (show ¬ 8 + k < 8 by omega), show 8 + k - 8 = k from by omega]
    split <;> simp [ih] <;> omega
theorem of_natAll {n : Nat} {p : Nat → Bool} (h : (Nat.rec true (fun k r => p k && r) n : Bool) = true) : ∀ b, b < n → p b = true := by
  induction n with
  | zero => intro b hb; omega
  | succ n ih =>
    have h2 : (p n && (Nat.rec true (fun k r => p k && r) n : Bool)) = true := h
    rw [Bool.and_eq_true] at h2
    intro b hb
    by_cases e : b = n
    · subst e; exact h2.1
    · exact ih h2.2 b (by omega)
theorem fB_len : ∀ b, b < 256 → fB b = (setB b 8).length := fun b hb =>
  Nat.eq_of_beq_eq_true (of_natAll (n := 256) (p := fun b => Nat.beq (fB b) (setB b 8).length) (by decide +kernel) b hb)
theorem fB_le : ∀ b, b < 256 → fB b ≤ 8 := by decide +kernel
theorem setB_8 (x k : Nat) : (setB x (8 + k)).length = fB (x % 256) + (setB (x / 256) k).length := by
  have e : x = 256 * (x / 256) + x % 256 := by omega
  rw [fB_len _ (by omega), ← setB_cut _ _ (by omega), ← e]
theorem fold_sum (c0 c1 c2 c3 c4 c5 c6 c7 : Nat) (h0 : c0 ≤ 8) (h1 : c1 ≤ 8) (h2 : c2 ≤ 8) (h3 : c3 ≤ 8) (h4 : c4 ≤ 8) (h5 : c5 ≤ 8) (h6 : c6 ≤ 8) (h7 : c7 ≤ 8)
    (y y1 y2 y3 : Nat) (e : y = 256 * (256 * (256 * (256 * (256 * (256 * (256 * (256 * 0 + c7) + c6) + c5) + c4) + c3) + c2) + c1) + c0) (e1 : y1 = y + y / 256) (e2 : y2 = y1 + y1 / 65536) (e3 : y3 = y2 + y2 / 4294967296) :
    y3 < 9223372036854775808 ∧ y3 % 128 = c0 + c1 + c2 + c3 + c4 + c5 + c6 + c7 := by
  have a1 : y1 = 256 * (256 * (256 * (256 * (256 * (256 * (256 * c7 + (c6 + c7)) + (c5 + c6)) + (c4 + c5)) + (c3 + c4)) + (c2 + c3)) + (c1 + c2)) + (c0 + c1) := by omega
  clear e e1
  have q1 : y1 / 65536 = 256 * (256 * (256 * (256 * (256 * c7 + (c6 + c7)) + (c5 + c6)) + (c4 + c5)) + (c3 + c4)) + (c2 + c3) := by omega
  have a2 : y2 = 256 * (256 * (256 * (256 * (256 * (256 * (256 * c7 + (c6 + c7)) + (c5 + c6 + c7)) + (c4 + c5 + c6 + c7)) + (c3 + c4 + c5 + c6)) + (c2 + c3 + c4 + c5)) + (c1 + c2 + c3 + c4)) + (c0 + c1 + c2 + c3) := by rw [e2, q1, a1]; omega
  clear e2 q1 a1
  have q2 : y2 / 4294967296 = 256 * (256 * (256 * c7 + (c6 + c7)) + (c5 + c6 + c7)) + (c4 + c5 + c6 + c7) := by omega
  obtain ⟨A, hA⟩ : ∃ A, A = 256 * (256 * (256 * (256 * (256 * (256 * c7 + (c6 + c7)) + (c5 + c6 + c7)) + (c4 + c5 + c6 + c7)) + (c3 + c4 + c5 + c6)) + (c2 + c3 + c4 + c5)) + (c1 + c2 + c3 + c4) := ⟨_, rfl⟩
  obtain ⟨B, hB⟩ : ∃ B, B = 256 * (256 * c7 + (c6 + c7)) + (c5 + c6 + c7) := ⟨_, rfl⟩
  have hA2 : A ≤ 9007199254740992 := by omega
  have hB2 : B ≤ 9007199254740992 := by omega
  have e4 : y3 = 256 * (A + B) + (c0 + c1 + c2 + c3 + c4 + c5 + c6 + c7) := by rw [e3, q2, a2, ← hA, ← hB]; omega
  clear e3 a2 q2 hA hB
  constructor
  · omega
  · rw [e4]; omega
/-- The number of one bits. -/
def pop (x : Nat) : Nat := (setB x 64).length
theorem pop_sum (x y y1 y2 y3 : Nat) (e : y = S3 8 (S2 8 (S1 8 x))) (e1 : y1 = y + y / 256) (e2 : y2 = y1 + y1 / 65536) (e3 : y3 = y2 + y2 / 4294967296) :
    y3 < 9223372036854775808 ∧ y3 % 128 = pop x := by
  rw [S321] at e
  have hp : pop x = fB (x % 256) + (fB (x / 256 % 256) + (fB (x / 256 / 256 % 256) + (fB (x / 256 / 256 / 256 % 256) + (fB (x / 256 / 256 / 256 / 256 % 256) + (fB (x / 256 / 256 / 256 / 256 / 256 % 256) + (fB (x / 256 / 256 / 256 / 256 / 256 / 256 % 256) + (fB (x / 256 / 256 / 256 / 256 / 256 / 256 / 256 % 256) + 0))))))) := by
    unfold pop
    rw [show 64 = 8 + 56 from rfl, setB_8, show 56 = 8 + 48 from rfl, setB_8, show 48 = 8 + 40 from rfl, setB_8, show 40 = 8 + 32 from rfl, setB_8, show 32 = 8 + 24 from rfl, setB_8, show 24 = 8 + 16 from rfl, setB_8, show 16 = 8 + 8 from rfl, setB_8, show 8 = 8 + 0 from rfl, setB_8]
    simp [setB]
  have hl := fun z => fB_le (z % 256) (by omega)
  obtain ⟨r1, r2⟩ := fold_sum _ _ _ _ _ _ _ _ (hl x) (hl (x / 256)) (hl (x / 256 / 256)) (hl (x / 256 / 256 / 256)) (hl (x / 256 / 256 / 256 / 256)) (hl (x / 256 / 256 / 256 / 256 / 256)) (hl (x / 256 / 256 / 256 / 256 / 256 / 256)) (hl (x / 256 / 256 / 256 / 256 / 256 / 256 / 256)) y y1 y2 y3 (by rw [e]; rfl) e1 e2 e3
  exact ⟨r1, by rw [r2, hp]; omega⟩
end Go.Proofs.Yteimcfbliigjmaa
