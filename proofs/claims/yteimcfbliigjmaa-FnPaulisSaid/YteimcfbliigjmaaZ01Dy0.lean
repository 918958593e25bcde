/- Plain arithmetic of the numbers (a + bw + cw^2 + dw^3)/sqrt(2)^e, in lowest terms. -/
import Derived.Test.YteimcfbliigjmaaZ00Base
namespace Go.Proofs.Yteimcfbliigjmaa
set_option linter.unusedSimpArgs false
set_option linter.unusedVariables false
set_option linter.unnecessarySimpa false
set_option maxRecDepth 200000

/-- a + bw + cw^2 + dw^3 for w^4 = -1. -/
structure Rg4 where
  a : Int
  b : Int
  c : Int
  d : Int
deriving DecidableEq
theorem Rg4.ext2 {x y : Rg4} (h1 : x.a = y.a) (h2 : x.b = y.b) (h3 : x.c = y.c) (h4 : x.d = y.d) : x = y := by
  cases x; cases y; simp_all
namespace Rg4
def mul (x y : Rg4) : Rg4 :=
  ⟨x.a * y.a - x.b * y.d - x.c * y.c - x.d * y.b, x.a * y.b + x.b * y.a - x.c * y.d - x.d * y.c, x.a * y.c + x.b * y.b + x.c * y.a - x.d * y.d, x.a * y.d + x.b * y.c + x.c * y.b + x.d * y.a⟩
def add (x y : Rg4) : Rg4 := ⟨x.a + y.a, x.b + y.b, x.c + y.c, x.d + y.d⟩
def zero : Rg4 := ⟨0, 0, 0, 0⟩
def one : Rg4 := ⟨1, 0, 0, 0⟩
def om (x : Rg4) : Rg4 := ⟨-x.d, x.a, x.b, x.c⟩
/-- times sqrt 2 = w - w^3 -/
def rt (x : Rg4) : Rg4 := ⟨x.b - x.d, x.a + x.c, x.b + x.d, x.c - x.a⟩
def evn (x : Rg4) : Bool := decide ((x.a + x.c) % 2 = 0) && decide ((x.b + x.d) % 2 = 0)
def hf (x : Rg4) : Rg4 := ⟨(x.b - x.d) / 2, (x.a + x.c) / 2, (x.b + x.d) / 2, (x.c - x.a) / 2⟩
/-- Every coefficient lies in -M..M. -/
def le (x : Rg4) (M : Int) : Prop := (-M ≤ x.a ∧ x.a ≤ M) ∧ (-M ≤ x.b ∧ x.b ≤ M) ∧ (-M ≤ x.c ∧ x.c ≤ M) ∧ (-M ≤ x.d ∧ x.d ≤ M)
theorem le.mono {x : Rg4} {M N : Int} (h : x.le M) (hn : M ≤ N) : x.le N := by
  unfold Rg4.le at *; omega
theorem le.nonneg {x : Rg4} {M : Int} (h : x.le M) : 0 ≤ M := by unfold Rg4.le at h; omega
theorem hf_rt (x : Rg4) : x.rt.hf = x := by
  apply ext2 <;> simp only [rt, hf] <;> omega
theorem evn_rt (x : Rg4) : x.rt.evn = true := by
  have h1 : (x.b - x.d + (x.b + x.d)) % 2 = 0 := by omega
  have h2 : (x.a + x.c + (x.c - x.a)) % 2 = 0 := by omega
  simp [rt, evn, h1, h2]
theorem rt_hf {x : Rg4} (h : x.evn = true) : x.hf.rt = x := by
  simp only [evn, Bool.and_eq_true, decide_eq_true_eq] at h
  apply ext2 <;> simp only [rt, hf] <;> omega
theorem hf_le {x : Rg4} {M : Int} (h : x.le M) : x.hf.le M := by
  unfold Rg4.le hf at *; dsimp only; omega
theorem rt_le {x : Rg4} {M : Int} (h : x.le M) : x.rt.le (2 * M) := by
  unfold Rg4.le rt at *; dsimp only; omega
theorem om_le {x : Rg4} {M : Int} (h : x.le M) : x.om.le M := by
  unfold Rg4.le om at *; dsimp only; omega
theorem add_le {x y : Rg4} {M N : Int} (h : x.le M) (h2 : y.le N) : (x.add y).le (M + N) := by
  unfold Rg4.le add at *; dsimp only; omega
theorem prod_in {x y A B : Int} (h1 : -A ≤ x ∧ x ≤ A) (h2 : -B ≤ y ∧ y ≤ B) : -(A * B) ≤ x * y ∧ x * y ≤ A * B := by
  have hx : x.natAbs ≤ A.natAbs := by omega
  have hy : y.natAbs ≤ B.natAbs := by omega
  have hm : (x * y).natAbs ≤ (A * B).natAbs := by rw [Int.natAbs_mul, Int.natAbs_mul]; exact Nat.mul_le_mul hx hy
  have hA : 0 ≤ A := by omega
  have hB : 0 ≤ B := by omega
  have hAB : 0 ≤ A * B := Int.mul_nonneg hA hB
  omega
theorem mul_le {x y : Rg4} {A B : Int} (h : x.le A) (h2 : y.le B) : (x.mul y).le (4 * (A * B)) := by
  obtain ⟨x1, x2, x3, x4⟩ := h
  obtain ⟨y1, y2, y3, y4⟩ := h2
  have a1 := prod_in x1 y1; have a2 := prod_in x1 y2; have a3 := prod_in x1 y3; have a4 := prod_in x1 y4
  have b1 := prod_in x2 y1; have b2 := prod_in x2 y2; have b3 := prod_in x2 y3; have b4 := prod_in x2 y4
  have c1 := prod_in x3 y1; have c2 := prod_in x3 y2; have c3 := prod_in x3 y3; have c4 := prod_in x3 y4
  have d1 := prod_in x4 y1; have d2 := prod_in x4 y2; have d3 := prod_in x4 y3; have d4 := prod_in x4 y4
  generalize A * B = K at *
  unfold Rg4.le mul; dsimp only
  omega
end Rg4
/-- A number num / sqrt(2)^exp. -/
structure Dy where
  num : Rg4
  exp : Nat
deriving DecidableEq
/-- The lowest terms. -/
def nrm (x : Rg4) : Nat → Dy
  | 0 => ⟨x, 0⟩
  | e + 1 => if x.evn then nrm x.hf e else ⟨x, e + 1⟩
def rtN (x : Rg4) : Nat → Rg4
  | 0 => x
  | k + 1 => (rtN x k).rt
theorem nrm_rt (x : Rg4) (e : Nat) : nrm x.rt (e + 1) = nrm x e := by
  simp only [nrm]
  rw [if_pos x.evn_rt, Rg4.hf_rt]
theorem nrm_rtN (x : Rg4) (e : Nat) : ∀ k, nrm (rtN x k) (e + k) = nrm x e
  | 0 => rfl
  | k + 1 => by
    show nrm (rtN x k).rt (e + k + 1) = _
    rw [nrm_rt, nrm_rtN x e k]
/-- In lowest terms. -/
def Dy.low (x : Dy) : Prop := x.exp = 0 ∨ x.num.evn = false
theorem nrm_low (x : Rg4) (e : Nat) : (nrm x e).low := by
  induction e generalizing x with
  | zero => exact .inl rfl
  | succ e ih =>
    simp only [nrm]; split
    · exact ih _
    · rename_i h; exact .inr (by simpa using h)
theorem nrm_le {x : Rg4} {M : Int} (h : x.le M) (e : Nat) : (nrm x e).num.le M := by
  induction e generalizing x with
  | zero => exact h
  | succ e ih =>
    simp only [nrm]; split
    · exact ih (Rg4.hf_le h)
    · exact h
theorem nrm_exp (x : Rg4) (e : Nat) : (nrm x e).exp ≤ e := by
  induction e generalizing x with
  | zero => exact Nat.le_refl _
  | succ e ih =>
    simp only [nrm]; split
    · exact Nat.le_succ_of_le (ih _)
    · exact Nat.le_refl _
/-- The numerator over a greater exponent. -/
theorem nrm_up (x : Rg4) (e : Nat) : rtN (nrm x e).num (e - (nrm x e).exp) = x := by
  induction e generalizing x with
  | zero => rfl
  | succ e ih =>
    simp only [nrm]; split
    · rename_i h
      have h2 := nrm_exp x.hf e
      rw [show e + 1 - (nrm x.hf e).exp = (e - (nrm x.hf e).exp) + 1 by omega]
      show (rtN _ _).rt = x
      rw [ih, Rg4.rt_hf h]
    · simp [rtN]
theorem nrm_self {x : Dy} (h : x.low) : nrm x.num x.exp = x := by
  obtain ⟨n, e⟩ := x
  cases e with
  | zero => rfl
  | succ e =>
    rcases h with h | h
    · cases h
    · dsimp only at h; simp only [nrm, h]; rfl
end Go.Proofs.Yteimcfbliigjmaa
