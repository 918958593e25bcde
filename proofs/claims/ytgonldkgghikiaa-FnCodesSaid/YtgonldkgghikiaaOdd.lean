/- Sums over the terms of a phase polynomial: OddTerms, OddWord in the program and in the reference. -/
import Derived.Test.YtgonldkgghikiaaPp2
namespace Go.Proofs.Ytgonldkgghikiaa
set_option linter.unusedSimpArgs false
set_option linter.unusedVariables false
set_option linter.unnecessarySimpa false
set_option maxRecDepth 200000
open Go.ChangeShapes Go.WideShapes Go.ChangeAt Go.RowKit

theorem term_at {w : World} {v : Value} {ts : List E2} (h : RdE w v E2.cs 2 ts) : ∃ A c, v = .slice A ts.length c ∧ Hid (∀ k, k < ts.length → ∃ b off, A = some ⟨b, off, none⟩ ∧ b < w.heap.size ∧ w.cell? ⟨b, off + k * 2, none⟩ = some (.int .i64 (ts.getD k ⟨0, 0⟩).a) ∧ w.cell? ⟨b, off + k * 2 + 1, none⟩ = some (.int .i64 (ts.getD k ⟨0, 0⟩).b)) := by
  rcases Nat.eq_zero_or_pos ts.length with h0 | h0
  · obtain ⟨A, c, rfl, _⟩ := h.form
    exact ⟨A, c, rfl, show ∀ _, _ from fun k hk => by omega⟩
  · obtain ⟨b, off, cap, rfl, hb, hl, hc⟩ := term_cells h h0
    exact ⟨_, cap, rfl, show ∀ _, _ from fun k hk => ⟨b, off, rfl, hb, hc k hk⟩⟩
def foldT {α : Type} (f : α → E2 → α) (z : α) (ts : List E2) (k : Nat) : α := (ts.take k).foldl f z
theorem foldT_succ {α : Type} {f : α → E2 → α} {z : α} {ts : List E2} {k : Nat} (h : k < ts.length) : foldT f z ts (k + 1) = f (foldT f z ts k) (ts.getD k ⟨0, 0⟩) := by
  unfold foldT
  rw [List.take_succ_eq_append_getElem h, List.foldl_append]
  simp [List.getD, h]
/-- Terms as in a valid phase polynomial of at most five qubits. -/
def Tame (ts : List E2) : Prop := ts.length ≤ 31 ∧ ∀ k, k < ts.length → (1 ≤ (ts.getD k ⟨0, 0⟩).a ∧ (ts.getD k ⟨0, 0⟩).a ≤ 31) ∧ 1 ≤ (ts.getD k ⟨0, 0⟩).b ∧ (ts.getD k ⟨0, 0⟩).b ≤ 7
theorem PPOk.tame {p : PP} (h : PPOk p) : Tame p.ts := by
  refine ⟨terms_few h.1 h.2.2.2.2, fun k hk => ?_⟩
  have h1 := term_ok h.2.2.2.2 hk
  have h2 := pow_5 h.1
  omega
def oddF (x : Int) (t : E2) : Int := x + t.b % 2
def oddN (ts : List E2) (k : Nat) : Int := foldT oddF 0 ts k
theorem oddN_bd (ts : List E2) : ∀ k, k ≤ ts.length → 0 ≤ oddN ts k ∧ oddN ts k ≤ k
  | 0, _ => by simp [oddN, foldT]
  | k + 1, h => by
    have ih := oddN_bd ts k (by omega)
    have e : oddN ts (k + 1) = oddN ts k + (ts.getD k ⟨0, 0⟩).b % 2 := foldT_succ (f := oddF) (by omega)
    omega
def wordF (x : Nat) (t : E2) : Nat := if t.b % 2 = 1 then x ||| 2 ^ (t.a - 1).toNat else x
def wordN (ts : List E2) (k : Nat) : Nat := foldT wordF 0 ts k
theorem wordN_succ1 {ts : List E2} {k q : Nat} (h : k < ts.length) (hq : (ts.getD k ⟨0, 0⟩).a = (q : Int) + 1) (hb : (ts.getD k ⟨0, 0⟩).b % 2 = 1) : wordN ts (k + 1) = wordN ts k ||| 2 ^ q := by
  unfold wordN
  rw [foldT_succ h, wordF, if_pos hb, hq, show ((q : Int) + 1 - 1).toNat = q from by omega]
theorem wordN_succ0 {ts : List E2} {k : Nat} (h : k < ts.length) (hb : (ts.getD k ⟨0, 0⟩).b % 2 = 0) : wordN ts (k + 1) = wordN ts k := by
  unfold wordN
  rw [foldT_succ h, wordF, if_neg (by omega)]
theorem wordN_lt {ts : List E2} (ht : Tame ts) : ∀ k, k ≤ ts.length → wordN ts k < 2147483648
  | 0, _ => by simp [wordN, foldT]
  | k + 1, h => by
    have ih := wordN_lt ht k (by omega)
    obtain ⟨⟨h1, h2⟩, h3, h4⟩ := ht.2 k (by omega)
    obtain ⟨q, hq⟩ : ∃ q : Nat, (ts.getD k ⟨0, 0⟩).a = (q : Int) + 1 := ⟨((ts.getD k ⟨0, 0⟩).a - 1).toNat, by omega⟩
    have hb : (ts.getD k ⟨0, 0⟩).b % 2 = 1 ∨ (ts.getD k ⟨0, 0⟩).b % 2 = 0 := by omega
    rcases hb with hb | hb
    · rw [wordN_succ1 (by omega) hq hb]
      exact Nat.or_lt_two_pow (n := 31) ih (Nat.pow_lt_pow_right (by omega) (by omega))
    · rw [wordN_succ0 (by omega) hb]; exact ih
theorem ret_ib {a b : Int} {c d : Bool} (h : a = b) (h2 : c = d) : Ending.returned (.tuple #[.int .i64 a, .bool c]) = .returned (.tuple #[.int .i64 b, .bool d]) := by rw [h, h2]
theorem ppB_if {p : PP} (h : ppB p = true) : PPOk p := of_decide_eq_true h
noncomputable def oddG (p : PP) : Int := if ppB p = true then oddN p.ts p.ts.length else 0
theorem oddG_1 {p : PP} (h : ppB p = true) : oddG p = oddN p.ts p.ts.length := if_pos h
theorem oddG_0 {p : PP} (h : ppB p = false) : oddG p = 0 := if_neg (by rw [h]; exact Bool.false_ne_true)
noncomputable def wordG (p : PP) : Int := if ppB p = true then (wordN p.ts p.ts.length : Int) else 0
theorem wordG_1 {p : PP} (h : ppB p = true) : wordG p = (wordN p.ts p.ts.length : Int) := if_pos h
theorem wordG_0 {p : PP} (h : ppB p = false) : wordG p = 0 := if_neg (by rw [h]; exact Bool.false_ne_true)
end Go.Proofs.Ytgonldkgghikiaa
