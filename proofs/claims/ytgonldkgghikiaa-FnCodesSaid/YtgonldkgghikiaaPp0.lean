/- A valid phase polynomial: the plain tests. -/
import Derived.Test.YtgonldkgghikiaaLin4
import Derived.Test.YtgonldkgghikiaaDat
namespace Go.Proofs.Ytgonldkgghikiaa
set_option linter.unusedSimpArgs false
set_option linter.unusedVariables false
set_option linter.unnecessarySimpa false
set_option maxRecDepth 200000
open Go.ChangeShapes Go.WideShapes Go.ChangeAt Go.RowKit

/-- The test of the term at place k. -/
def termB (n : Int) (ts : List E2) (k : Nat) : Bool :=
  decide (1 ≤ (ts.getD k ⟨0, 0⟩).a ∧ (ts.getD k ⟨0, 0⟩).a ≤ 2 ^ n.toNat - 1) && decide (1 ≤ (ts.getD k ⟨0, 0⟩).b ∧ (ts.getD k ⟨0, 0⟩).b ≤ 7) && (decide (k = 0) || decide ((ts.getD (k - 1) ⟨0, 0⟩).a < (ts.getD k ⟨0, 0⟩).a))
def TermsOk (n : Int) (ts : List E2) : Prop := ∀ k, k < ts.length → termB n ts k = true
noncomputable instance (n : Int) (ts : List E2) : Decidable (TermsOk n ts) := Classical.propDecidable _
noncomputable def termsB (n : Int) (ts : List E2) : Bool := decide (TermsOk n ts)
theorem terms_yes {n : Int} {ts : List E2} {k : Nat} (hk : ts.length ≤ k) (h : Hid (∀ j, j < ts.length → j < k → termB n ts j = true)) : true = termsB n ts := by
  symm; exact decide_eq_true fun j hj => h.out j hj (by omega)
theorem terms_no {n : Int} {ts : List E2} {k : Nat} (hk : k < ts.length) (h : termB n ts k = false) : false = termsB n ts := by
  symm; exact decide_eq_false fun hh => by have := hh k hk; rw [h] at this; cases this
theorem terms_next {n : Int} {ts : List E2} {k : Nat} (h : Hid (∀ j, j < ts.length → j < k → termB n ts j = true)) (hk : termB n ts k = true) : Hid (∀ j, j < ts.length → j < k + 1 → termB n ts j = true) := by
  intro j hj hjk
  by_cases e : j = k
  · subst e; exact hk
  · exact h.out j hj (by omega)
theorem termsB_true {n : Int} {ts : List E2} (h : TermsOk n ts) : termsB n ts = true := decide_eq_true h
theorem termsB_false {n : Int} {ts : List E2} (h : ¬ TermsOk n ts) : termsB n ts = false := decide_eq_false h
def PPOk (p : PP) : Prop := (1 ≤ p.n ∧ p.n ≤ 5) ∧ (0 ≤ p.ph ∧ p.ph ≤ 7) ∧ (p.out.length : Int) = p.n ∧ LinOk p.out ∧ TermsOk p.n p.ts
noncomputable instance (p : PP) : Decidable (PPOk p) := Classical.propDecidable _
noncomputable def ppB (p : PP) : Bool := decide (PPOk p)
theorem ppB_true {p : PP} (h : PPOk p) : ppB p = true := decide_eq_true h
theorem ppB_false {p : PP} (h : ¬ PPOk p) : ppB p = false := decide_eq_false h
theorem ppB_terms {p : PP} (h1 : 1 ≤ p.n ∧ p.n ≤ 5) (h2 : 0 ≤ p.ph ∧ p.ph ≤ 7) (h3 : (p.out.length : Int) = p.n) (h4 : LinOk p.out) : ppB p = termsB p.n p.ts := by
  unfold ppB termsB
  by_cases h : TermsOk p.n p.ts
  · rw [decide_eq_true h]; exact decide_eq_true ⟨h1, h2, h3, h4, h⟩
  · rw [decide_eq_false h]; exact decide_eq_false fun k => h k.2.2.2.2
theorem term_ok {n : Int} {ts : List E2} (h : TermsOk n ts) {k : Nat} (hk : k < ts.length) : 1 ≤ (ts.getD k ⟨0, 0⟩).a ∧ (ts.getD k ⟨0, 0⟩).a ≤ 2 ^ n.toNat - 1 ∧ 1 ≤ (ts.getD k ⟨0, 0⟩).b ∧ (ts.getD k ⟨0, 0⟩).b ≤ 7 := by
  have := h k hk
  unfold termB at this
  simp only [Bool.and_eq_true, decide_eq_true_eq] at this
  exact ⟨this.1.1.1, this.1.1.2, this.1.2.1, this.1.2.2⟩
theorem pow_5 {n : Int} (h : 1 ≤ n ∧ n ≤ 5) : (2 : Int) ^ n.toNat ≤ 32 ∧ 2 ≤ (2 : Int) ^ n.toNat := by
  have : n = 1 ∨ n = 2 ∨ n = 3 ∨ n = 4 ∨ n = 5 := by omega
  rcases this with rfl | rfl | rfl | rfl | rfl <;> decide
/-- Terms rise by their masks, so they are fewer than the masks. -/
theorem terms_rise {n : Int} {ts : List E2} (h : TermsOk n ts) : ∀ k, k < ts.length → (k : Int) + 1 ≤ (ts.getD k ⟨0, 0⟩).a
  | 0, hk => by have := term_ok h hk; omega
  | k + 1, hk => by
    have h1 := terms_rise h k (by omega)
    have h2 := h (k + 1) hk
    unfold termB at h2
    simp only [Bool.and_eq_true, Bool.or_eq_true, decide_eq_true_eq, Nat.add_sub_cancel] at h2
    have h3 : (ts.getD k ⟨0, 0⟩).a < (ts.getD (k + 1) ⟨0, 0⟩).a := h2.2.resolve_left (by omega)
    omega
theorem terms_few {n : Int} {ts : List E2} (hn : 1 ≤ n ∧ n ≤ 5) (h : TermsOk n ts) : ts.length ≤ 31 := by
  rcases Nat.eq_zero_or_pos ts.length with h0 | h0
  · omega
  · have h1 := terms_rise h (ts.length - 1) (by omega)
    have h2 := term_ok h (show ts.length - 1 < ts.length by omega)
    have h3 := pow_5 hn
    omega
end Go.Proofs.Ytgonldkgghikiaa
