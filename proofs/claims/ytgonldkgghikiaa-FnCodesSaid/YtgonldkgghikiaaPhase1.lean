/- The phase of a phase polynomial at a basis state: PhaseAt in the program and in the reference. -/
import Derived.Test.YtgonldkgghikiaaOdd
import Derived.Test.YtgonldkgghikiaaOnes
import Derived.Test.YtgonldkgghikiaaSet1
import Derived.Deep.RegionHeld3
namespace Go.Proofs.Ytgonldkgghikiaa
set_option linter.unusedSimpArgs false
set_option linter.unusedVariables false
set_option linter.unnecessarySimpa false
set_option maxRecDepth 200000
open Go.ChangeShapes Go.WideShapes Go.ChangeAt Go.RowKit

theorem pop_bits {y : Nat} (h : y < 2 ^ 10) : (bitsOf y).length = pop y := by
  unfold bitsOf pop
  rw [setB_eq h (Nat.lt_of_lt_of_le h (Nat.pow_le_pow_right (show 0 < 2 by decide) (show 10 ≤ 64 by decide)))]
theorem spec_l13Parity_any (y : Nat) (w : World) (hy : y ≤ 1023) :
    Calls Try.prog 69 #[.int .i64 (y : Int)] w fun e w' => e = .returned (.int .i64 (((pop y : Nat) : Int) % 2)) ∧ Below w.heap.size w w' := by
  have hp := Lib.hid (pop_bits (y := y) (by omega))
  have hl := setB_len y 10
  obtain ⟨n, hn⟩ : ∃ n, n = (bitsOf y).length := ⟨_, rfl⟩
  have hn10 : n ≤ 10 := by rw [hn]; exact hl
  have Hn := Lib.hid hn; clear hn hl
  go_enter Try.func69, Try.ntmps69
  go_wp2_with fail
  refine (spec_l1Set_any y _ hy).mono ?_; rintro e w1 ⟨v, rfl, ho, hb1⟩
  obtain ⟨a, cap, rfl⟩ := ho.forms
  rw [ints_len, ← Hn.out]
  clear ho
  go_wp2_with fail
  go_ret
  exact ⟨ret_int (by rw [← hp.out, ← Hn.out]), hb1⟩
/-- One term's part. -/
def phF (m : Nat) (x : Int) (t : E2) : Int := x + t.b * (((pop (t.a.toNat &&& m) : Nat) : Int) % 2)
def phN (p : PP) (m k : Nat) : Int := foldT (phF m) p.ph p.ts k
theorem par_mul (b : Int) (z : Nat) (h1 : 1 ≤ b) (h2 : b ≤ 7) : 0 ≤ b * (((pop z : Nat) : Int) % 2) ∧ b * (((pop z : Nat) : Int) % 2) ≤ 7 := by
  have : ((pop z : Nat) : Int) % 2 = 0 ∨ ((pop z : Nat) : Int) % 2 = 1 := by omega
  rcases this with h | h <;> rw [h] <;> omega
theorem phN_bd {p : PP} (ht : Tame p.ts) (h0 : 0 ≤ p.ph ∧ p.ph ≤ 7) (m : Nat) : ∀ k, k ≤ p.ts.length → 0 ≤ phN p m k ∧ phN p m k ≤ 7 + 7 * k
  | 0, _ => by simp [phN, foldT]; exact h0
  | k + 1, h => by
    have ih := phN_bd ht h0 m k (by omega)
    have e : phN p m (k + 1) = phF m (phN p m k) (p.ts.getD k ⟨0, 0⟩) := foldT_succ (by omega)
    have h2 := ht.2 k (by omega)
    have h3 := par_mul (p.ts.getD k ⟨0, 0⟩).b ((p.ts.getD k ⟨0, 0⟩).a.toNat &&& m) h2.2.1 h2.2.2
    unfold phF at e
    omega
/-- What one round of either loop finds. -/
theorem ph_round {p : PP} {m k : Nat} (hk : k < p.ts.length) (ht : Tame p.ts) (hm : m ≤ 31) (h0 : 0 ≤ p.ph ∧ p.ph ≤ 7) : ∃ (a : Nat) (b r : Int) (z : Nat), p.ts.getD k ⟨0, 0⟩ = ⟨(a : Int), b⟩ ∧ bits .and .i64 (a : Int) (m : Int) = (z : Int) ∧ z ≤ 31 ∧ 1 ≤ b ∧ b ≤ 7 ∧
    Hid (b * (((pop z : Nat) : Int) % 2) = r) ∧ IntKind.i64.wrap r = r ∧ 0 ≤ r ∧ r ≤ 7 ∧ Hid (phN p m (k + 1) = phN p m k + r) ∧ 0 ≤ phN p m k ∧ phN p m k ≤ 7 + 7 * k := by
  have h2 := ht.2 k hk
  have h3 := phN_bd ht h0 m k (by omega)
  obtain ⟨a, ha⟩ := Int.eq_ofNat_of_zero_le (show 0 ≤ (p.ts.getD k ⟨0, 0⟩).a by omega)
  have h4 := par_mul (p.ts.getD k ⟨0, 0⟩).b (a &&& m) h2.2.1 h2.2.2
  have hz : a &&& m ≤ m := Nat.and_le_right
  refine ⟨a, (p.ts.getD k ⟨0, 0⟩).b, _, a &&& m, by rw [← ha], bits_and a m (by omega) (by omega), by omega, h2.2.1, h2.2.2, (show _ = _ from rfl), IntWalk.i64_in _ (by omega), h4.1, h4.2, (show _ = _ from ?_), h3.1, h3.2⟩
  unfold phN
  rw [foldT_succ hk, phF, ha, Int.toNat_natCast]
def phR (p : PP) (b : Int) : Prop := 0 ≤ b ∧ b ≤ 2 ^ p.n.toNat - 1
instance (p : PP) (b : Int) : Decidable (phR p b) := by unfold phR; infer_instance
noncomputable def phB (p : PP) (b : Int) : Bool := ppB p && decide (phR p b)
noncomputable def phG (p : PP) (b : Int) : Int := if phB p b = true then phN p b.toNat p.ts.length % 8 else 0
theorem ph_0 {p : PP} {b : Int} (h : phB p b = false) : phG p b = 0 := if_neg (by rw [h]; exact Bool.false_ne_true)
theorem ph_1 {p : PP} {b : Int} (h : phB p b = true) : phG p b = phN p b.toNat p.ts.length % 8 := if_pos h
theorem phB_no {p : PP} {b : Int} (h : ppB p = false) : phB p b = false := by unfold phB; rw [h]; rfl
theorem phB_out {p : PP} {b : Int} (h : ¬ phR p b) : phB p b = false := by unfold phB; rw [decide_eq_false h, Bool.and_false]
theorem phB_yes {p : PP} {b : Int} (h : ppB p = true) (k : phR p b) : phB p b = true := by unfold phB; rw [h, decide_eq_true k]; rfl
/-- What a function that answers a number and 'ok' returns. -/
theorem ret_ib2 {a b : Int} {c d : Bool} (h : b = a) (h2 : d = c) : Ending.returned (.tuple #[.int .i64 a, .bool c]) = .returned (.tuple #[.int .i64 b, .bool d]) := by rw [h, h2]
theorem quietI {f : FuncId} {args : Array Value} {w : World} {n : Nat} {k : IntKind} {a : Int} (h : Calls Try.prog f args (w.drewN n) fun e w' => e = .returned (.int k a) ∧ w.drewN n = w') : Calls Try.prog f args (w.drewN n) fun e w'' => e = .returned (.int k a) ∧ ∃ m, w'' = w.drewN m :=
  h.mono fun _ _ ⟨he, hm⟩ => ⟨he, n, hm.symm⟩
end Go.Proofs.Ytgonldkgghikiaa
