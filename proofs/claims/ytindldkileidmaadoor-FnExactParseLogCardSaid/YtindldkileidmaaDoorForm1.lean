/- The tests of a normal form, in the program and in the reference, answer by the same plain function. -/
import Derived.Test.YtindldkileidmaaDoorA1
import Derived.Laws.ResultCell
namespace Go.Proofs.YtindldkileidmaaDoor
set_option linter.unusedSimpArgs false
set_option linter.unusedVariables false
set_option linter.unnecessarySimpa false
set_option maxRecDepth 200000
open Go.ChangeShapes Go.WideShapes Go.ChangeAt Go.RowKit

def okAt (i : Nat) (b : UInt8) : Bool := b == 72 || b == 83 || (b == 84 && i == 0)
def okForm (s : ByteArray) : Bool := decide (∀ i, (h : i < s.size) → okAt i s[i] = true)
def validForm (s : ByteArray) (c p : Int) : Bool := okForm s && decide ((s.size : Int) ≤ 40) && inB c 0 23 && inB p 0 7

theorem okAt_iff (i : Nat) (b : UInt8) : okAt i b = true ↔ (b.toNat : Int) = 72 ∨ (b.toNat : Int) = 83 ∨ ((b.toNat : Int) = 84 ∧ ¬ 0 < i) := by
  simp only [okAt, Bool.or_eq_true, Bool.and_eq_true, beq_iff_eq, ← UInt8.toNat_inj, or_assoc]
  simp
  omega
theorem okAt_no {s : ByteArray} {k : Nat} {c p : Int} (h : k < s.size) (hk : ¬ ((s[k].toNat : Int) = 72 ∨ (s[k].toNat : Int) = 83 ∨ ((s[k].toNat : Int) = 84 ∧ ¬ 0 < k))) : false = validForm s c p := by
  have : okForm s = false := by
    simp only [okForm, decide_eq_false_iff_not]
    intro hh
    exact hk ((okAt_iff _ _).1 (hh k h))
  simp [validForm, this]
theorem okForm_of {s : ByteArray} (h : ∀ j, (h : j < s.size) → j < s.size → okAt j s[j] = true) : okForm s = true := by
  simp only [okForm, decide_eq_true_eq]
  exact fun i hi => h i hi hi
theorem okNext {s : ByteArray} {k : Nat} (hpre : Hid (∀ j, (h : j < s.size) → j < k → okAt j s[j] = true)) (h : k < s.size) (hk : (s[k].toNat : Int) = 72 ∨ (s[k].toNat : Int) = 83 ∨ ((s[k].toNat : Int) = 84 ∧ ¬ 0 < k)) : Hid (∀ j, (h : j < s.size) → j < k + 1 → okAt j s[j] = true) := by
  intro j hj hjk
  by_cases e : j = k
  · subst e; exact (okAt_iff _ _).2 hk
  · exact hpre j hj (by omega)
theorem form_end {s : ByteArray} {k : Nat} (hpre : Hid (∀ j, (h : j < s.size) → j < k → okAt j s[j] = true)) (h : s.size ≤ k) : okForm s = true := 
  okForm_of fun j hj _ => hpre j hj (by omega)
theorem form_a {s : ByteArray} {c p : Int} (h : ¬ ((s.size : Int) ≤ 40)) : false = validForm s c p := by simp [validForm]; omega
theorem form_b {s : ByteArray} {c p : Int} (h : inB c 0 23 = false) : false = validForm s c p := by simp [validForm, h]
theorem form_c {s : ByteArray} {c p : Int} (h0 : okForm s = true) (h1 : (s.size : Int) ≤ 40) (h2 : inB c 0 23 = true) : inB p 0 7 = validForm s c p := by simp [validForm, h0, h2]; omega

theorem spec_l10Valid_any (s : ByteArray) (c p : Int) (w : World) (hs : s.size ≤ 9223372036854775807) :
    Calls Tryd.prog 23 #[.agg #[.string s, .int .i64 c, .int .i64 p]] w fun e w' => e = .returned (.bool (validForm s c p)) ∧ Below w.heap.size w w' := by
  go_enter Tryd.func23, Tryd.ntmps23
  go_wp2_with fail
  go_loop [3] (fun i => ∃ k : Nat, k ≤ s.size ∧ i = .int .i64 k ∧ Hid (∀ j, (h : j < s.size) → j < k → okAt j s[j] = true)) (fun i => s.size - (intOf i).toNat)
  case atStart => exact ⟨0, Nat.zero_le _, rfl, fun j _ h => absurd h (Nat.not_lt_zero _)⟩
  case round =>
    obtain ⟨k, hk, rfl, hpre⟩ := hrel
    by_cases hlt : k < s.size
    · go_wp2_with fail
      all_goals first
        | (go_round
           case rel => exact ⟨k + 1, by omega, by go_num, okNext hpre hlt (by omega)⟩
           case measure => simp [intOf]; omega)
        | (go_ret; exact ⟨ret_bool (okAt_no hlt (by omega)), (by repeat (first | exact Below.refl _ _ | assumption | refine Below.drew ?_ | refine below_drewN ?_ _ | refine Below.alloc ?_ (by first | omega | (simp <;> omega)) _ | refine Below.setCell ?_ (by first | omega | (simp <;> omega)) _ | refine Below.trans ?_ (Below.mono (by assumption) (by first | omega | (simp <;> omega)))))⟩)
    · have h0 := form_end hpre (by omega)
      have H0 := Lib.hid h0; clear h0
      go_wp2_with (go_at_call 26; refine (l1In_any _ _ _ _).mono ?_; rintro e w' ⟨rfl, rfl⟩)
      all_goals (go_ret; exact ⟨ret_bool (by first | exact form_a (by omega) | exact form_b (by assumption) | exact form_c H0.out (by omega) (by assumption)), (by repeat (first | exact Below.refl _ _ | assumption | refine Below.drew ?_ | refine below_drewN ?_ _ | refine Below.alloc ?_ (by first | omega | (simp <;> omega)) _ | refine Below.setCell ?_ (by first | omega | (simp <;> omega)) _ | refine Below.trans ?_ (Below.mono (by assumption) (by first | omega | (simp <;> omega)))))⟩)

theorem impl_IsValidForm_any (s : ByteArray) (c p : Int) (w : World) (hs : s.size ≤ 9223372036854775807) :
    Calls Tryd.prog 35 #[.agg #[.string s, .int .i64 c, .int .i64 p]] w fun e w' => e = .returned (.bool (validForm s c p)) ∧ Below w.heap.size w w' := by
  go_enter Tryd.func35, Tryd.ntmps35
  go_wp2_with fail
  go_loop [3] (fun i => ∃ k : Nat, k ≤ s.size ∧ i = .int .i64 k ∧ Hid (∀ j, (h : j < s.size) → j < k → okAt j s[j] = true)) (fun i => s.size - (intOf i).toNat)
  case atStart => exact ⟨0, Nat.zero_le _, rfl, fun j _ h => absurd h (Nat.not_lt_zero _)⟩
  case round =>
    obtain ⟨k, hk, rfl, hpre⟩ := hrel
    by_cases hlt : k < s.size
    · go_wp2_with fail
      all_goals first
        | (go_round
           case rel => exact ⟨k + 1, by omega, by go_num, okNext hpre hlt (by omega)⟩
           case measure => simp [intOf]; omega)
        | (go_ret; exact ⟨ret_bool (okAt_no hlt (by omega)), (by repeat (first | exact Below.refl _ _ | assumption | refine Below.drew ?_ | refine below_drewN ?_ _ | refine Below.alloc ?_ (by first | omega | (simp <;> omega)) _ | refine Below.setCell ?_ (by first | omega | (simp <;> omega)) _ | refine Below.trans ?_ (Below.mono (by assumption) (by first | omega | (simp <;> omega)))))⟩)
    · have h0 := form_end hpre (by omega)
      have H0 := Lib.hid h0; clear h0
      go_wp2_with (go_at_call 32; refine (within_any _ _ _ _).mono ?_; rintro e w' ⟨rfl, rfl⟩)
      all_goals (go_ret; exact ⟨ret_bool (by first | exact form_a (by omega) | exact form_b (by assumption) | exact form_c H0.out (by omega) (by assumption)), (by repeat (first | exact Below.refl _ _ | assumption | refine Below.drew ?_ | refine below_drewN ?_ _ | refine Below.alloc ?_ (by first | omega | (simp <;> omega)) _ | refine Below.setCell ?_ (by first | omega | (simp <;> omega)) _ | refine Below.trans ?_ (Below.mono (by assumption) (by first | omega | (simp <;> omega)))))⟩)

end Go.Proofs.YtindldkileidmaaDoor
