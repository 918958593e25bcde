/- Products of matrices over a power of the root: what each step asks of the program. -/
import Derived.Test.YtnckabohlakbgaaGreatZ25M
import Derived.Test.YtnckabohlakbgaaGreatZ28Dy17
namespace Go.Proofs.YtnckabohlakbgaaGreat
set_option linter.unusedSimpArgs false
set_option linter.unusedVariables false
set_option linter.unnecessarySimpa false
set_option maxRecDepth 200000
open Go.ChangeShapes Go.WideShapes Go.ChangeAt Go.RowKit

theorem nrm_zero (e : Nat) : nrm .zero e = ⟨⟨0, 0, 0, 0⟩, 0⟩ := by
  induction e with
  | zero => rfl
  | succ e ih => simp only [nrm]; rw [if_pos (by decide), show Rg4.zero.hf = .zero from rfl]; exact ih
theorem nrm_ok {x : Rg4} {M : Int} (h : x.le M) (hM : M ≤ 1000000000) {e : Nat} (he : e ≤ 60) : (nrm x e).ok :=
  ⟨(nrm_le h e).mono hM, by have := nrm_exp x e; omega, nrm_low x e⟩
/-- Every numerator on the way up is small. -/
theorem nrm_up_le {x : Rg4} {M : Int} (h : x.le M) (e : Nat) : ∀ k, k ≤ e - (nrm x e).exp → (rtN (nrm x e).num k).le M := by
  induction e generalizing x with
  | zero => intro k hk; obtain rfl : k = 0 := (by omega); exact h
  | succ e ih =>
    intro k hk
    have hup := nrm_up x (e + 1)
    have hexp := nrm_exp x.hf e
    by_cases hv : x.evn = true
    · have en : nrm x (e + 1) = nrm x.hf e := by simp only [nrm]; rw [if_pos hv]
      rw [en] at hk hup ⊢
      by_cases hk2 : k ≤ e - (nrm x.hf e).exp
      · exact ih (Rg4.hf_le h) k hk2
      · obtain rfl : k = e + 1 - (nrm x.hf e).exp := by omega
        rw [hup]; exact h
    · have en : nrm x (e + 1) = ⟨x, e + 1⟩ := by simp only [nrm]; rw [if_neg hv]
      rw [en] at hk ⊢
      obtain rfl : k = 0 := by dsimp only at hk; omega
      exact h
theorem nrm_addok {x y : Rg4} {M : Int} (hx : x.le M) (hy : y.le M) (hM : M ≤ 400000000) {e : Nat} (he : e ≤ 60) : AddOk (nrm x e) (nrm y e) := by
  have e1 := nrm_exp x e
  have e2 := nrm_exp y e
  refine ⟨nrm_ok hx (by omega) he, nrm_ok hy (by omega) he, fun k hk => (nrm_up_le hx e k (by omega)).mono (by omega), fun k hk => (nrm_up_le hy e k (by omega)).mono (by omega), ?_⟩
  exact (Rg4.add_le (nrm_up_le hx e _ (by omega)) (nrm_up_le hy e _ (by omega))).mono (by omega)
theorem sum_le {f : Nat → Rg4} {M : Int} (h0 : 0 ≤ M) : ∀ m, (∀ l, l < m → (f l).le M) → (sumR f m).le ((m : Int) * M)
  | 0, _ => by
    have e : ((0 : Nat) : Int) * M = 0 := by simp
    rw [e]; unfold sumR Rg4.le Rg4.zero; decide
  | m + 1, h => by
    have h1 := sum_le h0 m (fun l hl => h l (by omega))
    have h2 := Rg4.add_le h1 (h m (by omega))
    have e : ((m + 1 : Nat) : Int) * M = (m : Int) * M + M := by rw [Int.natCast_succ, Int.add_mul, Int.one_mul]
    rw [e]; exact h2
/-- The product of two matrices of small numerators. -/
theorem num_sums (N : Nat) (A B : Nat → Nat → Rg4) (ea eb : Nat) (MA MB : Int) (hN : N ≤ 8) (hA : ∀ i k, i < N → k < N → (A i k).le MA) (hB : ∀ k j, k < N → j < N → (B k j).le MB) (a0 : 0 ≤ MA) (b0 : 0 ≤ MB) (hMA : MA ≤ 1000000000) (hMB : MB ≤ 1000000000) (hK : 4 * (MA * MB) ≤ 1000000) (he : ea + eb ≤ 60) :
    SumOk N N N (fun i j => nrm (A i j) ea) (fun i j => nrm (B i j) eb) (fun i j k => nrm ((A i k).mul (B k j)) (ea + eb)) (fun i j k => nrm (sumR (fun l => (A i l).mul (B l j)) k) (ea + eb)) := by
  have hp : ∀ i j k, i < N → j < N → k < N → ((A i k).mul (B k j)).le (4 * (MA * MB)) := fun i j k hi hj hk => Rg4.mul_le (hA i k hi hk) (hB k j hk hj)
  have k0 : 0 ≤ 4 * (MA * MB) := by have := Int.mul_nonneg a0 b0; omega
  refine ⟨fun i j _ _ => nrm_zero _, fun i j k hi hj hk W => ?_, fun i j k hi hj hk W => ?_⟩
  · have x1 := nrm_exp (A i k) ea
    have x2 := nrm_exp (B k j) eb
    have h := impl_MulDyadic_ok (nrm (A i k) ea) (nrm (B k j) eb) MA MB W (nrm_ok (hA i k hi hk) hMA (by omega)) (nrm_ok (hB k j hk hj) hMB (by omega)) (nrm_le (hA i k hi hk) _) (nrm_le (hB k j hk hj) _) hMA hMB (by omega) (by omega)
    rw [nrm_mul] at h
    exact h
  · have s1 := sum_le k0 k (fun l hl => hp i j l hi hj (by omega))
    have s2 := hp i j k hi hj hk
    generalize 4 * (MA * MB) = K at *
    have kb : (k : Int) * K ≤ 8 * K := Int.mul_le_mul_of_nonneg_right (by omega) k0
    have h := impl_AddDyadic_ok _ _ W (nrm_addok (M := 8 * K) (s1.mono kb) (s2.mono (by omega)) (by omega) he)
    rw [nrm_add] at h
    exact h
theorem num_cells {N : Nat} {A : Nat → Nat → Rg4} {e : Nat} {M : Int} (hA : ∀ i k, i < N → k < N → (A i k).le M) (hM : M ≤ 1000000000) (he : e ≤ 60) : ∀ x ∈ cellsTo N (fun i j => nrm (A i j) e) (N * N), x.ok := by
  intro x hx
  unfold cellsTo at hx
  obtain ⟨t, ht, rfl⟩ := List.mem_map.1 hx
  rw [List.mem_range] at ht
  have hN : 0 < N := by
    rcases Nat.eq_zero_or_pos N with h | h
    · subst h; simp at ht
    · exact h
  exact nrm_ok (hA _ _ (Nat.div_lt_of_lt_mul ht) (Nat.mod_lt _ hN)) hM he
end Go.Proofs.YtnckabohlakbgaaGreat
