/- The tests of a normal form, in the program and in the reference, answer by the same plain function. -/
import Derived.Test.YtliophgfgmjhiaaGreatDoorZ00M
import Derived.Laws.ResultCell
namespace Go.Proofs.YtliophgfgmjhiaaGreatDoor
set_option linter.unusedSimpArgs false
set_option linter.unusedVariables false
set_option linter.unnecessarySimpa false
set_option maxRecDepth 200000
open Go.ChangeShapes Go.WideShapes Go.ChangeAt Go.RowKit

def okAt (i : Nat) (b : UInt8) : Bool := b == 72 || b == 83 || (b == 84 && i == 0)
def okForm (s : ByteArray) : Bool := decide (∀ i, (h : i < s.size) → okAt i s[i] = true)
def validForm (s : ByteArray) (c p : Int) : Bool := okForm s && decide ((s.size : Int) ≤ 40) && inB c 0 23 && inB p 0 7

theorem okAt_iff (i : Nat) (b : UInt8) : okAt i b = true ↔ (b.toNat : Int) = 72 ∨ (b.toNat : Int) = 83 ∨ ((b.toNat : Int) = 84 ∧ ¬ 0 < i) := by
  simp only [okAt, Bool.or_eq_true, Bool.and_eq_true, beq_iff_eq, ← UInt8.toNat_inj, or_assoc]
  simp
  omega
theorem okAt_no {s : ByteArray} {k : Nat} {c p : Int} (h : k < s.size) (hk : ¬ ((s[k].toNat : Int) = 72 ∨ (s[k].toNat : Int) = 83 ∨ ((s[k].toNat : Int) = 84 ∧ ¬ 0 < k))) : false = validForm s c p := by
  have : okForm s = false := by
    simp only [okForm, decide_eq_false_iff_not]
    intro hh
    exact hk ((okAt_iff _ _).1 (hh k h))
  simp [validForm, this]
theorem okForm_of {s : ByteArray} (h : ∀ j, (h : j < s.size) → j < s.size → okAt j s[j] = true) : okForm s = true := by
  simp only [okForm, decide_eq_true_eq]
  exact fun i hi => h i hi hi
theorem okNext {s : ByteArray} {k : Nat} (hpre : Hid (∀ j, (h : j < s.size) → j < k → okAt j s[j] = true)) (h : k < s.size) (hk : (s[k].toNat : Int) = 72 ∨ (s[k].toNat : Int) = 83 ∨ ((s[k].toNat : Int) = 84 ∧ ¬ 0 < k)) : Hid (∀ j, (h : j < s.size) → j < k + 1 → okAt j s[j] = true) := by
  intro j hj hjk
  by_cases e : j = k
  · subst e; exact (okAt_iff _ _).2 hk
  · exact hpre j hj (by omega)
theorem form_end {s : ByteArray} {k : Nat} (hpre : Hid (∀ j, (h : j < s.size) → j < k → okAt j s[j] = true)) (h : s.size ≤ k) : okForm s = true := 
  okForm_of fun j hj _ => hpre j hj (by omega)
theorem form_a {s : ByteArray} {c p : Int} (h : ¬ ((s.size : Int) ≤ 40)) : false = validForm s c p := by simp [validForm]; omega
theorem form_b {s : ByteArray} {c p : Int} (h : inB c 0 23 = false) : false = validForm s c p := by simp [validForm, h]
theorem form_c {s : ByteArray} {c p : Int} (h0 : okForm s = true) (h1 : (s.size : Int) ≤ 40) (h2 : inB c 0 23 = true) : inB p 0 7 = validForm s c p := by simp [validForm, h0, h2]; omega

end Go.Proofs.YtliophgfgmjhiaaGreatDoor
