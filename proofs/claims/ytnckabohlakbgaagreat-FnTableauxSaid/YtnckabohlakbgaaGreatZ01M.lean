/- Plain arithmetic of the numbers (a + bw + cw^2 + dw^3)/sqrt(2)^e, in lowest terms. -/
import Derived.Test.YtnckabohlakbgaaGreatZ00Base
namespace Go.Proofs.YtnckabohlakbgaaGreat
set_option linter.unusedSimpArgs false
set_option linter.unusedVariables false
set_option linter.unnecessarySimpa false
set_option maxRecDepth 200000

/-- a + bw + cw^2 + dw^3 for w^4 = -1. -/
structure Rg4 where
  a : Int
  b : Int
  c : Int
  d : Int
deriving DecidableEq
theorem Rg4.ext2 {x y : Rg4} (h1 : x.a = y.a) (h2 : x.b = y.b) (h3 : x.c = y.c) (h4 : x.d = y.d) : x = y := by
  cases x; cases y; simp_all
namespace Rg4
def mul (x y : Rg4) : Rg4 :=
  ⟨x.a * y.a - x.b * y.d - x.c * y.c - x.d * y.b, x.a * y.b + x.b * y.a - x.c * y.d - x.d * y.c, x.a * y.c + x.b * y.b + x.c * y.a - x.d * y.d, x.a * y.d + x.b * y.c + x.c * y.b + x.d * y.a⟩
def add (x y : Rg4) : Rg4 := ⟨x.a + y.a, x.b + y.b, x.c + y.c, x.d + y.d⟩
def zero : Rg4 := ⟨0, 0, 0, 0⟩
def one : Rg4 := ⟨1, 0, 0, 0⟩
def om (x : Rg4) : Rg4 := ⟨-x.d, x.a, x.b, x.c⟩
/-- times sqrt 2 = w - w^3 -/
def rt (x : Rg4) : Rg4 := ⟨x.b - x.d, x.a + x.c, x.b + x.d, x.c - x.a⟩
def evn (x : Rg4) : Bool := decide ((x.a + x.c) % 2 = 0) && decide ((x.b + x.d) % 2 = 0)
def hf (x : Rg4) : Rg4 := ⟨(x.b - x.d) / 2, (x.a + x.c) / 2, (x.b + x.d) / 2, (x.c - x.a) / 2⟩
/-- Every coefficient lies in -M..M. -/
def le (x : Rg4) (M : Int) : Prop := (-M ≤ x.a ∧ x.a ≤ M) ∧ (-M ≤ x.b ∧ x.b ≤ M) ∧ (-M ≤ x.c ∧ x.c ≤ M) ∧ (-M ≤ x.d ∧ x.d ≤ M)
theorem le.mono {x : Rg4} {M N : Int} (h : x.le M) (hn : M ≤ N) : x.le N := by
  unfold Rg4.le at *; omega
theorem le.nonneg {x : Rg4} {M : Int} (h : x.le M) : 0 ≤ M := by unfold Rg4.le at h; omega
theorem hf_rt (x : Rg4) : x.rt.hf = x := by
  apply ext2 <;> simp only [rt, hf] <;> omega
theorem evn_rt (x : Rg4) : x.rt.evn = true := by
  have h1 : (x.b - x.d + (x.b + x.d)) % 2 = 0 := by omega
  have h2 : (x.a + x.c + (x.c - x.a)) % 2 = 0 := by omega
  simp [rt, evn, h1, h2]
theorem rt_hf {x : Rg4} (h : x.evn = true) : x.hf.rt = x := by
  simp only [evn, Bool.and_eq_true, decide_eq_true_eq] at h
  apply ext2 <;> simp only [rt, hf] <;> omega
theorem hf_le {x : Rg4} {M : Int} (h : x.le M) : x.hf.le M := by
  unfold Rg4.le hf at *; dsimp only; omega
theorem om_le {x : Rg4} {M : Int} (h : x.le M) : x.om.le M := by
  unfold Rg4.le om at *; dsimp only; omega
theorem add_le {x y : Rg4} {M N : Int} (h : x.le M) (h2 : y.le N) : (x.add y).le (M + N) := by
  unfold Rg4.le add at *; dsimp only; omega
theorem prod_in {x y A B : Int} (h1 : -A ≤ x ∧ x ≤ A) (h2 : -B ≤ y ∧ y ≤ B) : -(A * B) ≤ x * y ∧ x * y ≤ A * B := by
  have hx : x.natAbs ≤ A.natAbs := by omega
  have hy : y.natAbs ≤ B.natAbs := by omega
  have hm : (x * y).natAbs ≤ (A * B).natAbs := by rw [Int.natAbs_mul, Int.natAbs_mul]; exact Nat.mul_le_mul hx hy
  have hA : 0 ≤ A := by omega
  have hB : 0 ≤ B := by omega
  have hAB : 0 ≤ A * B := Int.mul_nonneg hA hB
  omega
theorem mul_le {x y : Rg4} {A B : Int} (h : x.le A) (h2 : y.le B) : (x.mul y).le (4 * (A * B)) := by
  obtain ⟨x1, x2, x3, x4⟩ := h
  obtain ⟨y1, y2, y3, y4⟩ := h2
  have a1 := prod_in x1 y1; have a2 := prod_in x1 y2; have a3 := prod_in x1 y3; have a4 := prod_in x1 y4
  have b1 := prod_in x2 y1; have b2 := prod_in x2 y2; have b3 := prod_in x2 y3; have b4 := prod_in x2 y4
  have c1 := prod_in x3 y1; have c2 := prod_in x3 y2; have c3 := prod_in x3 y3; have c4 := prod_in x3 y4
  have d1 := prod_in x4 y1; have d2 := prod_in x4 y2; have d3 := prod_in x4 y3; have d4 := prod_in x4 y4
  generalize A * B = K at *
  unfold Rg4.le mul; dsimp only
  omega
end Rg4
/-- A number num / sqrt(2)^exp. -/
structure Dy where
  num : Rg4
  exp : Nat
deriving DecidableEq
/-- The lowest terms. -/
def nrm (x : Rg4) : Nat → Dy
  | 0 => ⟨x, 0⟩
  | e + 1 => if x.evn then nrm x.hf e else ⟨x, e + 1⟩
def rtN (x : Rg4) : Nat → Rg4
  | 0 => x
  | k + 1 => (rtN x k).rt
theorem nrm_rt (x : Rg4) (e : Nat) : nrm x.rt (e + 1) = nrm x e := by
  simp only [nrm]
  rw [if_pos x.evn_rt, Rg4.hf_rt]
theorem nrm_rtN (x : Rg4) (e : Nat) : ∀ k, nrm (rtN x k) (e + k) = nrm x e
  | 0 => rfl
  | k + 1 => by
    show nrm (rtN x k).rt (e + k + 1) = _
    rw [nrm_rt, nrm_rtN x e k]
/-- In lowest terms. -/
def Dy.low (x : Dy) : Prop := x.exp = 0 ∨ x.num.evn = false
theorem nrm_low (x : Rg4) (e : Nat) : (nrm x e).low := by
  induction e generalizing x with
  | zero => exact .inl rfl
  | succ e ih =>
    simp only [nrm]; split
    · exact ih _
    · rename_i h; exact .inr (by simpa using h)
theorem nrm_le {x : Rg4} {M : Int} (h : x.le M) (e : Nat) : (nrm x e).num.le M := by
  induction e generalizing x with
  | zero => exact h
  | succ e ih =>
    simp only [nrm]; split
    · exact ih (Rg4.hf_le h)
    · exact h
theorem nrm_exp (x : Rg4) (e : Nat) : (nrm x e).exp ≤ e := by
  induction e generalizing x with
  | zero => exact Nat.le_refl _
  | succ e ih =>
    simp only [nrm]; split
    · exact Nat.le_succ_of_le (ih _)
    · exact Nat.le_refl _
/-- The numerator over a greater exponent. -/
theorem nrm_up (x : Rg4) (e : Nat) : rtN (nrm x e).num (e - (nrm x e).exp) = x := by
  induction e generalizing x with
  | zero => rfl
  | succ e ih =>
    simp only [nrm]; split
    · rename_i h
      have h2 := nrm_exp x.hf e
      rw [show e + 1 - (nrm x.hf e).exp = (e - (nrm x.hf e).exp) + 1 by omega]
      show (rtN _ _).rt = x
      rw [ih, Rg4.rt_hf h]
    · simp [rtN]
end Go.Proofs.YtnckabohlakbgaaGreat
namespace Go.Proofs.YtnckabohlakbgaaGreat
set_option linter.unusedSimpArgs false
set_option linter.unusedVariables false
set_option linter.unnecessarySimpa false
set_option maxRecDepth 200000

namespace Rg4
theorem mul_assoc (x y z : Rg4) : (x.mul y).mul z = x.mul (y.mul z) := by unfold mul; congr 1 <;> grind
theorem mul_comm (x y : Rg4) : x.mul y = y.mul x := by unfold mul; congr 1 <;> grind
theorem mul_add (x y z : Rg4) : x.mul (y.add z) = (x.mul y).add (x.mul z) := by unfold mul add; congr 1 <;> grind
theorem add_mul (x y z : Rg4) : (x.add y).mul z = (x.mul z).add (y.mul z) := by unfold mul add; congr 1 <;> grind
theorem add_assoc (x y z : Rg4) : (x.add y).add z = x.add (y.add z) := by unfold add; congr 1 <;> grind
theorem add_comm (x y : Rg4) : x.add y = y.add x := by unfold add; congr 1 <;> grind
theorem zero_add (x : Rg4) : zero.add x = x := by unfold add zero; cases x; simp
theorem add_zero (x : Rg4) : x.add zero = x := by unfold add zero; cases x; simp
theorem zero_mul (x : Rg4) : zero.mul x = zero := by unfold mul zero; simp
theorem mul_zero (x : Rg4) : x.mul zero = zero := by unfold mul zero; simp
theorem one_mul (x : Rg4) : one.mul x = x := by unfold mul one; cases x; simp
theorem mul_one (x : Rg4) : x.mul one = x := by rw [mul_comm, one_mul]
theorem rt_add (x y : Rg4) : (x.add y).rt = x.rt.add y.rt := by unfold add rt; congr 1 <;> grind
theorem rt_mul (x y : Rg4) : (x.mul y).rt = x.rt.mul y := by unfold mul rt; congr 1 <;> grind
end Rg4
/-- A sum over the first states. -/
def sumR (f : Nat → Rg4) : Nat → Rg4
  | 0 => .zero
  | k + 1 => (sumR f k).add (f k)
theorem sumR_congr {f g : Nat → Rg4} : ∀ m, (∀ l, l < m → f l = g l) → sumR f m = sumR g m
  | 0, _ => rfl
  | m + 1, h => by simp only [sumR]; rw [sumR_congr m (fun l hl => h l (by omega)), h m (by omega)]
theorem sumR_zero (m : Nat) : sumR (fun _ => .zero) m = .zero := by
  induction m with
  | zero => rfl
  | succ m ih => simp only [sumR]; rw [ih, Rg4.add_zero]
theorem sumR_add (f g : Nat → Rg4) (m : Nat) : sumR (fun l => (f l).add (g l)) m = (sumR f m).add (sumR g m) := by
  induction m with
  | zero => exact (Rg4.add_zero _).symm
  | succ m ih =>
    simp only [sumR]
    rw [ih, Rg4.add_assoc, Rg4.add_assoc, ← Rg4.add_assoc (sumR g m), Rg4.add_comm (sumR g m), Rg4.add_assoc (f m)]
theorem sumR_mul (f : Nat → Rg4) (c : Rg4) (m : Nat) : (sumR f m).mul c = sumR (fun l => (f l).mul c) m := by
  induction m with
  | zero => exact Rg4.zero_mul c
  | succ m ih => simp only [sumR]; rw [Rg4.add_mul, ih]
theorem mul_sumR (f : Nat → Rg4) (c : Rg4) (m : Nat) : c.mul (sumR f m) = sumR (fun l => c.mul (f l)) m := by
  induction m with
  | zero => exact Rg4.mul_zero c
  | succ m ih => simp only [sumR]; rw [Rg4.mul_add, ih]
theorem sumR_swap (F : Nat → Nat → Rg4) (m k : Nat) : sumR (fun l => sumR (fun q => F l q) k) m = sumR (fun q => sumR (fun l => F l q) m) k := by
  induction m with
  | zero => exact (sumR_zero k).symm
  | succ m ih =>
    simp only [sumR]
    rw [ih, ← sumR_add]
/-- Only one summand is not zero. -/
theorem sumR_one {f : Nat → Rg4} {h : Nat} (hz : ∀ l, l ≠ h → f l = .zero) : ∀ m, sumR f m = if m ≤ h then .zero else f h
  | 0 => by simp [sumR]
  | m + 1 => by
    have ih := sumR_one hz m
    simp only [sumR]
    rw [ih]
    by_cases h1 : m ≤ h
    · rw [if_pos h1]
      by_cases h2 : m = h
      · rw [if_neg (by omega), ← h2, Rg4.zero_add]
      · rw [if_pos (by omega), hz m h2, Rg4.zero_add]
    · rw [if_neg h1, if_neg (by omega), hz m (by omega), Rg4.add_zero]
/-- The product of two matrices. -/
def mm (N : Nat) (A B : Nat → Nat → Rg4) (i j : Nat) : Rg4 := sumR (fun l => (A i l).mul (B l j)) N
def EqM (N : Nat) (A B : Nat → Nat → Rg4) : Prop := ∀ i j, i < N → j < N → A i j = B i j
section
variable {N : Nat} {A B C D : Nat → Nat → Rg4}
theorem EqM.trans (h : EqM N A B) (h2 : EqM N B C) : EqM N A C := fun i j hi hj => (h i j hi hj).trans (h2 i j hi hj)
theorem EqM.symm (h : EqM N A B) : EqM N B A := fun i j hi hj => (h i j hi hj).symm
theorem mm_congr (h : EqM N A B) (h2 : EqM N C D) : EqM N (mm N A C) (mm N B D) := fun i j hi hj =>
  sumR_congr N fun l hl => by rw [h i l hi hl, h2 l j hl hj]
theorem mm_assoc (A B C : Nat → Nat → Rg4) (i j : Nat) : mm N (mm N A B) C i j = mm N A (mm N B C) i j := by
  unfold mm
  rw [sumR_congr (g := fun l => sumR (fun k => (A i k).mul ((B k l).mul (C l j))) N) N (fun l _ => by
    rw [sumR_mul]; exact sumR_congr N fun k _ => Rg4.mul_assoc _ _ _), sumR_swap]
  exact sumR_congr N fun k _ => by rw [mul_sumR]
theorem mm_row {h : Nat} (hh : h < N) {i : Nat} (hz : ∀ l, l ≠ h → A i l = .zero) (j : Nat) : mm N A B i j = (A i h).mul (B h j) := by
  unfold mm
  rw [sumR_one (h := h) (fun l hl => by rw [hz l hl, Rg4.zero_mul]), if_neg (by omega)]
theorem mm_col {h : Nat} (hh : h < N) {j : Nat} (hz : ∀ l, l ≠ h → B l j = .zero) (i : Nat) : mm N A B i j = (A i h).mul (B h j) := by
  unfold mm
  rw [sumR_one (h := h) (fun l hl => by rw [hz l hl, Rg4.mul_zero]), if_neg (by omega)]
def idM (i j : Nat) : Rg4 := if i = j then .one else .zero
theorem mm_idl {i : Nat} (hi : i < N) (j : Nat) : mm N idM B i j = B i j := by
  rw [mm_row hi (fun l hl => by unfold idM; rw [if_neg (Ne.symm hl)])]
  unfold idM; rw [if_pos rfl, Rg4.one_mul]
theorem mm_idr {j : Nat} (hj : j < N) (i : Nat) : mm N A idM i j = A i j := by
  rw [mm_col hj (fun l hl => by unfold idM; rw [if_neg hl])]
  unfold idM; rw [if_pos rfl, Rg4.mul_one]
end
/-- Numbers over a power of the root, with numerators that are not in lowest terms. -/
theorem rtN_add (x y : Rg4) : ∀ k, rtN (x.add y) k = (rtN x k).add (rtN y k)
  | 0 => rfl
  | k + 1 => by simp only [rtN]; rw [rtN_add x y k, Rg4.rt_add]
theorem rtN_mulL (x y : Rg4) : ∀ k, rtN (x.mul y) k = (rtN x k).mul y
  | 0 => rfl
  | k + 1 => by simp only [rtN]; rw [rtN_mulL x y k, Rg4.rt_mul]
theorem rtN_mulR (x y : Rg4) (k : Nat) : rtN (x.mul y) k = x.mul (rtN y k) := by rw [Rg4.mul_comm, rtN_mulL, Rg4.mul_comm]
theorem rtN_rtN (x : Rg4) (a : Nat) : ∀ b, rtN (rtN x a) b = rtN x (a + b)
  | 0 => rfl
  | b + 1 => by simp only [rtN]; rw [rtN_rtN x a b]; rfl
end Go.Proofs.YtnckabohlakbgaaGreat
