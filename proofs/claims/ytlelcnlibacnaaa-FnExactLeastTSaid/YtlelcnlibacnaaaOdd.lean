/- Sums over the terms of a phase polynomial: OddTerms, OddWord in the program and in the reference. -/
import Derived.Test.YtlelcnlibacnaaaPp2
namespace Go.Proofs.Ytlelcnlibacnaaa
set_option linter.unusedSimpArgs false
set_option linter.unusedVariables false
set_option linter.unnecessarySimpa false
set_option maxRecDepth 200000
open Go.ChangeShapes Go.WideShapes Go.ChangeAt Go.RowKit

theorem term_at {w : World} {v : Value} {ts : List E2} (h : RdE w v E2.cs 2 ts) : ∃ A c, v = .slice A ts.length c ∧ Hid (∀ k, k < ts.length → ∃ b off, A = some ⟨b, off, none⟩ ∧ b < w.heap.size ∧ w.cell? ⟨b, off + k * 2, none⟩ = some (.int .i64 (ts.getD k ⟨0, 0⟩).a) ∧ w.cell? ⟨b, off + k * 2 + 1, none⟩ = some (.int .i64 (ts.getD k ⟨0, 0⟩).b)) := by
  rcases Nat.eq_zero_or_pos ts.length with h0 | h0
  · obtain ⟨A, c, rfl, _⟩ := h.form
    exact ⟨A, c, rfl, show ∀ _, _ from fun k hk => by omega⟩
  · obtain ⟨b, off, cap, rfl, hb, hl, hc⟩ := term_cells h h0
    exact ⟨_, cap, rfl, show ∀ _, _ from fun k hk => ⟨b, off, rfl, hb, hc k hk⟩⟩
def foldT {α : Type} (f : α → E2 → α) (z : α) (ts : List E2) (k : Nat) : α := (ts.take k).foldl f z
theorem foldT_succ {α : Type} {f : α → E2 → α} {z : α} {ts : List E2} {k : Nat} (h : k < ts.length) : foldT f z ts (k + 1) = f (foldT f z ts k) (ts.getD k ⟨0, 0⟩) := by
  unfold foldT
  rw [List.take_succ_eq_append_getElem h, List.foldl_append]
  simp [List.getD, h]
/-- Terms as in a valid phase polynomial of at most five qubits. -/
def Tame (ts : List E2) : Prop := ts.length ≤ 31 ∧ ∀ k, k < ts.length → (1 ≤ (ts.getD k ⟨0, 0⟩).a ∧ (ts.getD k ⟨0, 0⟩).a ≤ 31) ∧ 1 ≤ (ts.getD k ⟨0, 0⟩).b ∧ (ts.getD k ⟨0, 0⟩).b ≤ 7
theorem PPOk.tame {p : PP} (h : PPOk p) : Tame p.ts := by
  refine ⟨terms_few h.1 h.2.2.2.2, fun k hk => ?_⟩
  have h1 := term_ok h.2.2.2.2 hk
  have h2 := pow_5 h.1
  omega
def oddF (x : Int) (t : E2) : Int := x + t.b % 2
def oddN (ts : List E2) (k : Nat) : Int := foldT oddF 0 ts k
theorem oddN_bd (ts : List E2) : ∀ k, k ≤ ts.length → 0 ≤ oddN ts k ∧ oddN ts k ≤ k
  | 0, _ => by simp [oddN, foldT]
  | k + 1, h => by
    have ih := oddN_bd ts k (by omega)
    have e : oddN ts (k + 1) = oddN ts k + (ts.getD k ⟨0, 0⟩).b % 2 := foldT_succ (f := oddF) (by omega)
    omega
def wordF (x : Nat) (t : E2) : Nat := if t.b % 2 = 1 then x ||| 2 ^ (t.a - 1).toNat else x
def wordN (ts : List E2) (k : Nat) : Nat := foldT wordF 0 ts k
theorem wordN_succ1 {ts : List E2} {k q : Nat} (h : k < ts.length) (hq : (ts.getD k ⟨0, 0⟩).a = (q : Int) + 1) (hb : (ts.getD k ⟨0, 0⟩).b % 2 = 1) : wordN ts (k + 1) = wordN ts k ||| 2 ^ q := by
  unfold wordN
  rw [foldT_succ h, wordF, if_pos hb, hq, show ((q : Int) + 1 - 1).toNat = q from by omega]
theorem wordN_succ0 {ts : List E2} {k : Nat} (h : k < ts.length) (hb : (ts.getD k ⟨0, 0⟩).b % 2 = 0) : wordN ts (k + 1) = wordN ts k := by
  unfold wordN
  rw [foldT_succ h, wordF, if_neg (by omega)]
theorem wordN_lt {ts : List E2} (ht : Tame ts) : ∀ k, k ≤ ts.length → wordN ts k < 2147483648
  | 0, _ => by simp [wordN, foldT]
  | k + 1, h => by
    have ih := wordN_lt ht k (by omega)
    obtain ⟨⟨h1, h2⟩, h3, h4⟩ := ht.2 k (by omega)
    obtain ⟨q, hq⟩ : ∃ q : Nat, (ts.getD k ⟨0, 0⟩).a = (q : Int) + 1 := ⟨((ts.getD k ⟨0, 0⟩).a - 1).toNat, by omega⟩
    have hb : (ts.getD k ⟨0, 0⟩).b % 2 = 1 ∨ (ts.getD k ⟨0, 0⟩).b % 2 = 0 := by omega
    rcases hb with hb | hb
    · rw [wordN_succ1 (by omega) hq hb]
      exact Nat.or_lt_two_pow (n := 31) ih (Nat.pow_lt_pow_right (by omega) (by omega))
    · rw [wordN_succ0 (by omega) hb]; exact ih
theorem impl_oddTerms_any (v : Value) (ts : List E2) (w : World) (h : RdE w v E2.cs 2 ts) (ht : Tame ts) :
    Calls Try.prog 50 #[v] w fun e w' => e = .returned (.int .i64 (oddN ts ts.length)) ∧ Below w.heap.size w w' := by
  obtain ⟨A, c, rfl, Hc⟩ := term_at h
  clear h
  have hl := ht.1
  have HT := Lib.hid ht; clear ht
  go_enter Try.func50, Try.ntmps50
  go_wp2_with fail
  go_loopw [3, 8] (fun n i wr => ∃ k : Nat, k ≤ ts.length ∧ i = .int .i64 k ∧ n = .int .i64 (oddN ts k) ∧ Below w.heap.size w wr) (fun _ i _ => ts.length - (intOf i).toNat)
  case atStart => exact ⟨0, Nat.zero_le _, rfl, rfl, Below.refl _ _⟩
  case round =>
    obtain ⟨k, hk, rfl, rfl, hbel⟩ := hrel
    by_cases hlt : k < ts.length
    · obtain ⟨b, off, rfl, hb, q0, q1⟩ := Hc.out k hlt
      obtain ⟨y, hy⟩ : ∃ y, y = ts.getD k ⟨0, 0⟩ := ⟨_, rfl⟩
      have hT := HT.out.2 k hlt
      have hs : oddN ts (k + 1) = oddN ts k + y.b % 2 := by rw [hy]; exact foldT_succ (f := oddF) hlt
      rw [← hy] at q0 q1 hT
      replace q0 := (hbel.cell hb).trans q0; replace q1 := (hbel.cell hb).trans q1
      obtain ⟨⟨t1, t2⟩, t3, t4⟩ := hT
      have t5 : 0 ≤ y.b := by omega
      have t6 : 0 ≤ y.b % 2 := by omega
      have t7 : y.b % 2 ≤ 1 := by omega
      obtain ⟨o1, o2⟩ := oddN_bd ts k hk
      have i1 : (k : Int) < (ts.length : Int) := by omega
      have hsz := hbel.size
      have Hs := Lib.hid hs; clear hs hy
      go_wp2_with fail
      go_roundw
      case rel => exact ⟨k + 1, by omega, by go_num, by rw [Hs.out], (by repeat (first | exact Below.refl _ _ | assumption | refine Below.drew ?_ | refine below_drewN ?_ _ | refine Below.alloc ?_ (by first | omega | (simp <;> omega)) _ | refine Below.setCell ?_ (by first | omega | (simp <;> omega)) _ | refine Below.trans ?_ (Below.mono (by assumption) (by first | omega | (simp <;> omega)))))⟩
      case measure => simp [intOf]; omega
    · have e : k = ts.length := by omega
      subst e
      go_wp2_with fail
      go_ret
      exact ⟨rfl, hbel⟩
theorem spec_l13Odd_any (v u : Value) (p : PP) (w : World) (h : RdE w v E2.cs 2 p.ts) (ht : Tame p.ts) :
    Calls Try.prog 46 #[.agg #[.int .i64 p.n, .int .i64 p.ph, v, u]] w fun e w' => e = .returned (.int .i64 (oddN p.ts p.ts.length)) ∧ Below w.heap.size w w' := by
  obtain ⟨A, c, rfl, Hc⟩ := term_at h
  clear h
  have hl := ht.1
  have HT := Lib.hid ht; clear ht
  go_enter Try.func46, Try.ntmps46
  go_wp2_with fail
  go_loopw [3, 9] (fun n i wr => ∃ k : Nat, k ≤ p.ts.length ∧ i = .int .i64 k ∧ n = .int .i64 (oddN p.ts k) ∧ Below w.heap.size w wr) (fun _ i _ => p.ts.length - (intOf i).toNat)
  case atStart => exact ⟨0, Nat.zero_le _, rfl, rfl, (by repeat (first | exact Below.refl _ _ | assumption | refine Below.drew ?_ | refine below_drewN ?_ _ | refine Below.alloc ?_ (by first | omega | (simp <;> omega)) _ | refine Below.setCell ?_ (by first | omega | (simp <;> omega)) _ | refine Below.trans ?_ (Below.mono (by assumption) (by first | omega | (simp <;> omega)))))⟩
  case round =>
    obtain ⟨k, hk, rfl, rfl, hbel⟩ := hrel
    by_cases hlt : k < p.ts.length
    · obtain ⟨b, off, rfl, hb, q0, q1⟩ := Hc.out k hlt
      obtain ⟨y, hy⟩ : ∃ y, y = p.ts.getD k ⟨0, 0⟩ := ⟨_, rfl⟩
      have hT := HT.out.2 k hlt
      have hs : oddN p.ts (k + 1) = oddN p.ts k + y.b % 2 := by rw [hy]; exact foldT_succ (f := oddF) hlt
      rw [← hy] at q0 q1 hT
      replace q0 := (hbel.cell hb).trans q0; replace q1 := (hbel.cell hb).trans q1
      obtain ⟨⟨t1, t2⟩, t3, t4⟩ := hT
      have t5 : 0 ≤ y.b := by omega
      have t6 : 0 ≤ y.b % 2 := by omega
      have t7 : y.b % 2 ≤ 1 := by omega
      obtain ⟨o1, o2⟩ := oddN_bd p.ts k hk
      have i1 : (k : Int) < (p.ts.length : Int) := by omega
      have hsz := hbel.size
      have Hs := Lib.hid hs; clear hs hy
      go_wp2_with fail
      go_roundw
      case rel => exact ⟨k + 1, by omega, by go_num, by rw [Hs.out], (by repeat (first | exact Below.refl _ _ | assumption | refine Below.drew ?_ | refine below_drewN ?_ _ | refine Below.alloc ?_ (by first | omega | (simp <;> omega)) _ | refine Below.setCell ?_ (by first | omega | (simp <;> omega)) _ | refine Below.trans ?_ (Below.mono (by assumption) (by first | omega | (simp <;> omega)))))⟩
      case measure => simp [intOf]; omega
    · have e : k = p.ts.length := by omega
      have hr : Hid (oddN p.ts k = oddN p.ts p.ts.length) := by show _ = _; rw [e]
      clear e
      go_wp2_with fail
      go_ret
      exact ⟨ret_int hr.out, hbel⟩
theorem ret_ib {a b : Int} {c d : Bool} (h : a = b) (h2 : c = d) : Ending.returned (.tuple #[.int .i64 a, .bool c]) = .returned (.tuple #[.int .i64 b, .bool d]) := by rw [h, h2]
theorem ppB_if {p : PP} (h : ppB p = true) : PPOk p := of_decide_eq_true h
noncomputable def oddG (p : PP) : Int := if ppB p = true then oddN p.ts p.ts.length else 0
theorem oddG_1 {p : PP} (h : ppB p = true) : oddG p = oddN p.ts p.ts.length := if_pos h
theorem oddG_0 {p : PP} (h : ppB p = false) : oddG p = 0 := if_neg (by rw [h]; exact Bool.false_ne_true)
noncomputable def wordG (p : PP) : Int := if ppB p = true then (wordN p.ts p.ts.length : Int) else 0
theorem wordG_1 {p : PP} (h : ppB p = true) : wordG p = (wordN p.ts p.ts.length : Int) := if_pos h
theorem wordG_0 {p : PP} (h : ppB p = false) : wordG p = 0 := if_neg (by rw [h]; exact Bool.false_ne_true)
theorem spec_OddTerms_any (v u : Value) (p : PP) (w : World) (h : RdE w v E2.cs 2 p.ts) (hu : RdI w u p.out) (hl : p.ts.length ≤ 1048576) (hm : p.out.length ≤ 1048576) :
    Calls Try.prog 13 #[.agg #[.int .i64 p.n, .int .i64 p.ph, v, u]] w fun e w' => e = .returned (.tuple #[.int .i64 (oddG p), .bool (ppB p)]) ∧ Below w.heap.size w w' := by
  have H := Lib.hid h; have HU := Lib.hid hu
  obtain ⟨A, c, rfl, _⟩ := h.form
  obtain ⟨A2, c2, rfl, _⟩ := hu.form
  clear h hu
  cases hb : ppB p with
  | false =>
    have HG := Lib.hid (oddG_0 hb)
    have HB := Lib.hid hb; clear hb
    go_enter Try.func13, Try.ntmps13
    go_wp2_with fail
    refine (spec_l13Valid_any _ _ p _ (Rd.below H.out (show Below w.heap.size w _ from (by repeat (first | exact Below.refl _ _ | assumption | refine Below.drew ?_ | refine below_drewN ?_ _ | refine Below.alloc ?_ (by first | omega | (simp <;> omega)) _ | refine Below.setCell ?_ (by first | omega | (simp <;> omega)) _ | refine Below.trans ?_ (Below.mono (by assumption) (by first | omega | (simp <;> omega)))))) rfl) (Rd.below HU.out (show Below w.heap.size w _ from (by repeat (first | exact Below.refl _ _ | assumption | refine Below.drew ?_ | refine below_drewN ?_ _ | refine Below.alloc ?_ (by first | omega | (simp <;> omega)) _ | refine Below.setCell ?_ (by first | omega | (simp <;> omega)) _ | refine Below.trans ?_ (Below.mono (by assumption) (by first | omega | (simp <;> omega)))))) rfl) hl hm).mono ?_; rintro e w1 ⟨rfl, hb1⟩; rw [HB.out]
    go_wp2_with fail
    go_ret2
    exact ⟨ret_ib HG.out.symm rfl, (by repeat (first | exact Below.refl _ _ | assumption | refine Below.drew ?_ | refine below_drewN ?_ _ | refine Below.alloc ?_ (by first | omega | (simp <;> omega)) _ | refine Below.setCell ?_ (by first | omega | (simp <;> omega)) _ | refine Below.trans ?_ (Below.mono (by assumption) (by first | omega | (simp <;> omega)))))⟩
  | true =>
    have HG := Lib.hid (oddG_1 hb)
    have HT := Lib.hid (ppB_if hb).tame
    have HB := Lib.hid hb; clear hb
    go_enter Try.func13, Try.ntmps13
    go_wp2_with fail
    refine (spec_l13Valid_any _ _ p _ (Rd.below H.out (show Below w.heap.size w _ from (by repeat (first | exact Below.refl _ _ | assumption | refine Below.drew ?_ | refine below_drewN ?_ _ | refine Below.alloc ?_ (by first | omega | (simp <;> omega)) _ | refine Below.setCell ?_ (by first | omega | (simp <;> omega)) _ | refine Below.trans ?_ (Below.mono (by assumption) (by first | omega | (simp <;> omega)))))) rfl) (Rd.below HU.out (show Below w.heap.size w _ from (by repeat (first | exact Below.refl _ _ | assumption | refine Below.drew ?_ | refine below_drewN ?_ _ | refine Below.alloc ?_ (by first | omega | (simp <;> omega)) _ | refine Below.setCell ?_ (by first | omega | (simp <;> omega)) _ | refine Below.trans ?_ (Below.mono (by assumption) (by first | omega | (simp <;> omega)))))) rfl) hl hm).mono ?_; rintro e w1 ⟨rfl, hb1⟩; rw [HB.out]
    obtain ⟨hc_hb1, hf_hb1⟩ := bcell hb1; have hz_hb1 := hb1.size; (try simp at hz_hb1); have hs0_hb1 : w.heap.size < w1.heap.size := (by omega)
    go_wp2_with fail
    refine (spec_l13Odd_any _ _ p _ (Rd.below H.out (show Below w.heap.size w w1 from (by repeat (first | exact Below.refl _ _ | assumption | refine Below.drew ?_ | refine below_drewN ?_ _ | refine Below.alloc ?_ (by first | omega | (simp <;> omega)) _ | refine Below.setCell ?_ (by first | omega | (simp <;> omega)) _ | refine Below.trans ?_ (Below.mono (by assumption) (by first | omega | (simp <;> omega)))))) rfl) HT.out).mono ?_; rintro e w2 ⟨rfl, hb2⟩
    go_wp2_with fail
    go_ret2
    exact ⟨ret_ib HG.out.symm rfl, (by repeat (first | exact Below.refl _ _ | assumption | refine Below.drew ?_ | refine below_drewN ?_ _ | refine Below.alloc ?_ (by first | omega | (simp <;> omega)) _ | refine Below.setCell ?_ (by first | omega | (simp <;> omega)) _ | refine Below.trans ?_ (Below.mono (by assumption) (by first | omega | (simp <;> omega)))))⟩
theorem impl_OddTerms_any (v u : Value) (p : PP) (w : World) (h : RdE w v E2.cs 2 p.ts) (hu : RdI w u p.out) (hl : p.ts.length ≤ 1048576) (hm : p.out.length ≤ 1048576) :
    Calls Try.prog 15 #[.agg #[.int .i64 p.n, .int .i64 p.ph, v, u]] w fun e w' => e = .returned (.tuple #[.int .i64 (oddG p), .bool (ppB p)]) ∧ Below w.heap.size w w' := by
  have H := Lib.hid h; have HU := Lib.hid hu
  obtain ⟨A, c, rfl, _⟩ := h.form
  obtain ⟨A2, c2, rfl, _⟩ := hu.form
  clear h hu
  cases hb : ppB p with
  | false =>
    have HG := Lib.hid (oddG_0 hb)
    have HB := Lib.hid hb; clear hb
    go_enter Try.func15, Try.ntmps15
    go_wp2_with fail
    refine (impl_IsValidPhasePoly_any _ _ p _ (Rd.below H.out (show Below w.heap.size w _ from (by repeat (first | exact Below.refl _ _ | assumption | refine Below.drew ?_ | refine below_drewN ?_ _ | refine Below.alloc ?_ (by first | omega | (simp <;> omega)) _ | refine Below.setCell ?_ (by first | omega | (simp <;> omega)) _ | refine Below.trans ?_ (Below.mono (by assumption) (by first | omega | (simp <;> omega)))))) rfl) (Rd.below HU.out (show Below w.heap.size w _ from (by repeat (first | exact Below.refl _ _ | assumption | refine Below.drew ?_ | refine below_drewN ?_ _ | refine Below.alloc ?_ (by first | omega | (simp <;> omega)) _ | refine Below.setCell ?_ (by first | omega | (simp <;> omega)) _ | refine Below.trans ?_ (Below.mono (by assumption) (by first | omega | (simp <;> omega)))))) rfl) hl hm).mono ?_; rintro e w1 ⟨rfl, hb1⟩; rw [HB.out]
    go_wp2_with fail
    go_ret2
    exact ⟨ret_ib HG.out.symm rfl, (by repeat (first | exact Below.refl _ _ | assumption | refine Below.drew ?_ | refine below_drewN ?_ _ | refine Below.alloc ?_ (by first | omega | (simp <;> omega)) _ | refine Below.setCell ?_ (by first | omega | (simp <;> omega)) _ | refine Below.trans ?_ (Below.mono (by assumption) (by first | omega | (simp <;> omega)))))⟩
  | true =>
    have HG := Lib.hid (oddG_1 hb)
    have HT := Lib.hid (ppB_if hb).tame
    have HB := Lib.hid hb; clear hb
    go_enter Try.func15, Try.ntmps15
    go_wp2_with fail
    refine (impl_IsValidPhasePoly_any _ _ p _ (Rd.below H.out (show Below w.heap.size w _ from (by repeat (first | exact Below.refl _ _ | assumption | refine Below.drew ?_ | refine below_drewN ?_ _ | refine Below.alloc ?_ (by first | omega | (simp <;> omega)) _ | refine Below.setCell ?_ (by first | omega | (simp <;> omega)) _ | refine Below.trans ?_ (Below.mono (by assumption) (by first | omega | (simp <;> omega)))))) rfl) (Rd.below HU.out (show Below w.heap.size w _ from (by repeat (first | exact Below.refl _ _ | assumption | refine Below.drew ?_ | refine below_drewN ?_ _ | refine Below.alloc ?_ (by first | omega | (simp <;> omega)) _ | refine Below.setCell ?_ (by first | omega | (simp <;> omega)) _ | refine Below.trans ?_ (Below.mono (by assumption) (by first | omega | (simp <;> omega)))))) rfl) hl hm).mono ?_; rintro e w1 ⟨rfl, hb1⟩; rw [HB.out]
    obtain ⟨hc_hb1, hf_hb1⟩ := bcell hb1; have hz_hb1 := hb1.size; (try simp at hz_hb1); have hs0_hb1 : w.heap.size < w1.heap.size := (by omega)
    go_wp2_with fail
    refine (impl_oddTerms_any _ p.ts _ (Rd.below H.out (show Below w.heap.size w w1 from (by repeat (first | exact Below.refl _ _ | assumption | refine Below.drew ?_ | refine below_drewN ?_ _ | refine Below.alloc ?_ (by first | omega | (simp <;> omega)) _ | refine Below.setCell ?_ (by first | omega | (simp <;> omega)) _ | refine Below.trans ?_ (Below.mono (by assumption) (by first | omega | (simp <;> omega)))))) rfl) HT.out).mono ?_; rintro e w2 ⟨rfl, hb2⟩
    go_wp2_with fail
    go_ret2
    exact ⟨ret_ib HG.out.symm rfl, (by repeat (first | exact Below.refl _ _ | assumption | refine Below.drew ?_ | refine below_drewN ?_ _ | refine Below.alloc ?_ (by first | omega | (simp <;> omega)) _ | refine Below.setCell ?_ (by first | omega | (simp <;> omega)) _ | refine Below.trans ?_ (Below.mono (by assumption) (by first | omega | (simp <;> omega)))))⟩
theorem spec_l15Odd_any (v u : Value) (p : PP) (w : World) (h : RdE w v E2.cs 2 p.ts) (ht : Tame p.ts) :
    Calls Try.prog 53 #[.agg #[.int .i64 p.n, .int .i64 p.ph, v, u]] w fun e w' => e = .returned (.int .i64 (wordN p.ts p.ts.length : Int)) ∧ Below w.heap.size w w' := by
  obtain ⟨A, c, rfl, Hc⟩ := term_at h
  clear h
  have hl := ht.1
  have HT := Lib.hid ht; clear ht
  go_enter Try.func53, Try.ntmps53
  go_wp2_with fail
  go_loopw [3, 9] (fun n i wr => ∃ k : Nat, k ≤ p.ts.length ∧ i = .int .i64 k ∧ n = .int .i64 (wordN p.ts k : Int) ∧ Below w.heap.size w wr) (fun _ i _ => p.ts.length - (intOf i).toNat)
  case atStart => exact ⟨0, Nat.zero_le _, rfl, rfl, (by repeat (first | exact Below.refl _ _ | assumption | refine Below.drew ?_ | refine below_drewN ?_ _ | refine Below.alloc ?_ (by first | omega | (simp <;> omega)) _ | refine Below.setCell ?_ (by first | omega | (simp <;> omega)) _ | refine Below.trans ?_ (Below.mono (by assumption) (by first | omega | (simp <;> omega)))))⟩
  case round =>
    obtain ⟨k, hk, rfl, rfl, hbel⟩ := hrel
    by_cases hlt : k < p.ts.length
    · obtain ⟨b, off, rfl, hb, q0, q1⟩ := Hc.out k hlt
      obtain ⟨y, hy⟩ : ∃ y, y = p.ts.getD k ⟨0, 0⟩ := ⟨_, rfl⟩
      obtain ⟨x, hx⟩ : ∃ x, x = wordN p.ts k := ⟨_, rfl⟩
      have hxl := wordN_lt HT.out k hk
      have hT := HT.out.2 k hlt
      rw [← hy] at q0 q1 hT
      rw [← hx] at hxl ⊢
      obtain ⟨⟨t1, t2⟩, t3, t4⟩ := hT
      obtain ⟨q, hq⟩ : ∃ q : Nat, y.a = (q : Int) + 1 := ⟨(y.a - 1).toNat, by omega⟩
      replace q0 := (hbel.cell hb).trans q0; replace q1 := (hbel.cell hb).trans q1
      rw [hq] at q0
      have q30 : q ≤ 30 := by omega
      have t5 : 0 ≤ y.b := by omega
      obtain ⟨p1, p2⟩ := pow_small q (by omega)
      have hw : IntKind.i64.wrap ((2 : Int) ^ q) = (2 : Int) ^ q := IntWalk.i64_in _ (by omega)
      have e2 : ((2 : Int) ^ q) = ((2 ^ q : Nat) : Int) := by simp
      have hp63 : (2 : Nat) ^ q < 9223372036854775808 := by have : (2 : Nat) ^ q < 2 ^ 31 := Nat.pow_lt_pow_right (by omega) (by omega); omega
      have hor : bits .or .i64 (x : Int) ((2 : Int) ^ q) = ((x ||| 2 ^ q : Nat) : Int) := by rw [e2]; exact bits_or _ _ (by omega) hp63
      have hor0 : bits .or .i64 (x : Int) 0 = (x : Int) := by have := bits_or x 0 (by omega) (by omega); simpa using this
      have i1 : (k : Int) < (p.ts.length : Int) := by omega
      have hsz := hbel.size
      clear e2 hp63
      have hbb : y.b % 2 = 1 ∨ y.b % 2 = 0 := by omega
      rcases hbb with hb2 | hb2
      · have Hs := Lib.hid (show wordN p.ts (k + 1) = x ||| 2 ^ q from by rw [hx]; exact wordN_succ1 hlt (by rw [← hy]; exact hq) (by rw [← hy]; exact hb2))
        have Hq := Lib.hid hq; clear hy hq hx hor0
        go_wp2_with fail
        go_roundw
        case rel => exact ⟨k + 1, by omega, by go_num, by rw [Hs.out], (by repeat (first | exact Below.refl _ _ | assumption | refine Below.drew ?_ | refine below_drewN ?_ _ | refine Below.alloc ?_ (by first | omega | (simp <;> omega)) _ | refine Below.setCell ?_ (by first | omega | (simp <;> omega)) _ | refine Below.trans ?_ (Below.mono (by assumption) (by first | omega | (simp <;> omega)))))⟩
        case measure => simp [intOf]; omega
      · have Hs := Lib.hid (show wordN p.ts (k + 1) = x from by rw [hx]; exact wordN_succ0 hlt (by rw [← hy]; exact hb2))
        have Hq := Lib.hid hq; clear hy hq hx hor
        go_wp2_with fail
        go_roundw
        case rel => exact ⟨k + 1, by omega, by go_num, by rw [Hs.out], (by repeat (first | exact Below.refl _ _ | assumption | refine Below.drew ?_ | refine below_drewN ?_ _ | refine Below.alloc ?_ (by first | omega | (simp <;> omega)) _ | refine Below.setCell ?_ (by first | omega | (simp <;> omega)) _ | refine Below.trans ?_ (Below.mono (by assumption) (by first | omega | (simp <;> omega)))))⟩
        case measure => simp [intOf]; omega
    · have hr : Hid (wordN p.ts k = wordN p.ts p.ts.length) := by show _ = _; rw [show k = p.ts.length from by omega]
      go_wp2_with fail
      go_ret
      exact ⟨ret_int (by rw [hr.out]), hbel⟩
theorem impl_oddWord_any (v u : Value) (p : PP) (w : World) (h : RdE w v E2.cs 2 p.ts) (ht : Tame p.ts) :
    Calls Try.prog 54 #[.agg #[.int .i64 p.n, .int .i64 p.ph, v, u]] w fun e w' => e = .returned (.int .i64 (wordN p.ts p.ts.length : Int)) ∧ Below w.heap.size w w' := by
  obtain ⟨A, c, rfl, Hc⟩ := term_at h
  clear h
  have hl := ht.1
  have HT := Lib.hid ht; clear ht
  go_enter Try.func54, Try.ntmps54
  go_wp2_with fail
  go_loopw [3, 9] (fun n i wr => ∃ k : Nat, k ≤ p.ts.length ∧ i = .int .i64 k ∧ n = .int .i64 (wordN p.ts k : Int) ∧ Below w.heap.size w wr) (fun _ i _ => p.ts.length - (intOf i).toNat)
  case atStart => exact ⟨0, Nat.zero_le _, rfl, rfl, (by repeat (first | exact Below.refl _ _ | assumption | refine Below.drew ?_ | refine below_drewN ?_ _ | refine Below.alloc ?_ (by first | omega | (simp <;> omega)) _ | refine Below.setCell ?_ (by first | omega | (simp <;> omega)) _ | refine Below.trans ?_ (Below.mono (by assumption) (by first | omega | (simp <;> omega)))))⟩
  case round =>
    obtain ⟨k, hk, rfl, rfl, hbel⟩ := hrel
    by_cases hlt : k < p.ts.length
    · obtain ⟨b, off, rfl, hb, q0, q1⟩ := Hc.out k hlt
      obtain ⟨y, hy⟩ : ∃ y, y = p.ts.getD k ⟨0, 0⟩ := ⟨_, rfl⟩
      obtain ⟨x, hx⟩ : ∃ x, x = wordN p.ts k := ⟨_, rfl⟩
      have hxl := wordN_lt HT.out k hk
      have hT := HT.out.2 k hlt
      rw [← hy] at q0 q1 hT
      rw [← hx] at hxl ⊢
      obtain ⟨⟨t1, t2⟩, t3, t4⟩ := hT
      obtain ⟨q, hq⟩ : ∃ q : Nat, y.a = (q : Int) + 1 := ⟨(y.a - 1).toNat, by omega⟩
      replace q0 := (hbel.cell hb).trans q0; replace q1 := (hbel.cell hb).trans q1
      rw [hq] at q0
      have q30 : q ≤ 30 := by omega
      have t5 : 0 ≤ y.b := by omega
      obtain ⟨p1, p2⟩ := pow_small q (by omega)
      have hw : IntKind.i64.wrap ((2 : Int) ^ q) = (2 : Int) ^ q := IntWalk.i64_in _ (by omega)
      have e2 : ((2 : Int) ^ q) = ((2 ^ q : Nat) : Int) := by simp
      have hp63 : (2 : Nat) ^ q < 9223372036854775808 := by have : (2 : Nat) ^ q < 2 ^ 31 := Nat.pow_lt_pow_right (by omega) (by omega); omega
      have hor : bits .or .i64 (x : Int) ((2 : Int) ^ q) = ((x ||| 2 ^ q : Nat) : Int) := by rw [e2]; exact bits_or _ _ (by omega) hp63
      have hor0 : bits .or .i64 (x : Int) 0 = (x : Int) := by have := bits_or x 0 (by omega) (by omega); simpa using this
      have i1 : (k : Int) < (p.ts.length : Int) := by omega
      have hsz := hbel.size
      clear e2 hp63
      have hbb : y.b % 2 = 1 ∨ y.b % 2 = 0 := by omega
      rcases hbb with hb2 | hb2
      · have Hs := Lib.hid (show wordN p.ts (k + 1) = x ||| 2 ^ q from by rw [hx]; exact wordN_succ1 hlt (by rw [← hy]; exact hq) (by rw [← hy]; exact hb2))
        have Hq := Lib.hid hq; clear hy hq hx hor0
        go_wp2_with fail
        go_roundw
        case rel => exact ⟨k + 1, by omega, by go_num, by rw [Hs.out], (by repeat (first | exact Below.refl _ _ | assumption | refine Below.drew ?_ | refine below_drewN ?_ _ | refine Below.alloc ?_ (by first | omega | (simp <;> omega)) _ | refine Below.setCell ?_ (by first | omega | (simp <;> omega)) _ | refine Below.trans ?_ (Below.mono (by assumption) (by first | omega | (simp <;> omega)))))⟩
        case measure => simp [intOf]; omega
      · have Hs := Lib.hid (show wordN p.ts (k + 1) = x from by rw [hx]; exact wordN_succ0 hlt (by rw [← hy]; exact hb2))
        have Hq := Lib.hid hq; clear hy hq hx hor
        go_wp2_with fail
        go_roundw
        case rel => exact ⟨k + 1, by omega, by go_num, by rw [Hs.out], (by repeat (first | exact Below.refl _ _ | assumption | refine Below.drew ?_ | refine below_drewN ?_ _ | refine Below.alloc ?_ (by first | omega | (simp <;> omega)) _ | refine Below.setCell ?_ (by first | omega | (simp <;> omega)) _ | refine Below.trans ?_ (Below.mono (by assumption) (by first | omega | (simp <;> omega)))))⟩
        case measure => simp [intOf]; omega
    · have hr : Hid (wordN p.ts k = wordN p.ts p.ts.length) := by show _ = _; rw [show k = p.ts.length from by omega]
      go_wp2_with fail
      go_ret
      exact ⟨ret_int (by rw [hr.out]), hbel⟩
theorem spec_OddWord_any (v u : Value) (p : PP) (w : World) (h : RdE w v E2.cs 2 p.ts) (hu : RdI w u p.out) (hl : p.ts.length ≤ 1048576) (hm : p.out.length ≤ 1048576) :
    Calls Try.prog 17 #[.agg #[.int .i64 p.n, .int .i64 p.ph, v, u]] w fun e w' => e = .returned (.tuple #[.int .i64 (wordG p), .bool (ppB p)]) ∧ Below w.heap.size w w' := by
  have H := Lib.hid h; have HU := Lib.hid hu
  obtain ⟨A, c, rfl, _⟩ := h.form
  obtain ⟨A2, c2, rfl, _⟩ := hu.form
  clear h hu
  cases hb : ppB p with
  | false =>
    have HG := Lib.hid (wordG_0 hb)
    have HB := Lib.hid hb; clear hb
    go_enter Try.func17, Try.ntmps17
    go_wp2_with fail
    refine (spec_l13Valid_any _ _ p _ (Rd.below H.out (show Below w.heap.size w _ from (by repeat (first | exact Below.refl _ _ | assumption | refine Below.drew ?_ | refine below_drewN ?_ _ | refine Below.alloc ?_ (by first | omega | (simp <;> omega)) _ | refine Below.setCell ?_ (by first | omega | (simp <;> omega)) _ | refine Below.trans ?_ (Below.mono (by assumption) (by first | omega | (simp <;> omega)))))) rfl) (Rd.below HU.out (show Below w.heap.size w _ from (by repeat (first | exact Below.refl _ _ | assumption | refine Below.drew ?_ | refine below_drewN ?_ _ | refine Below.alloc ?_ (by first | omega | (simp <;> omega)) _ | refine Below.setCell ?_ (by first | omega | (simp <;> omega)) _ | refine Below.trans ?_ (Below.mono (by assumption) (by first | omega | (simp <;> omega)))))) rfl) hl hm).mono ?_; rintro e w1 ⟨rfl, hb1⟩; rw [HB.out]
    go_wp2_with fail
    go_ret2
    exact ⟨ret_ib HG.out.symm rfl, (by repeat (first | exact Below.refl _ _ | assumption | refine Below.drew ?_ | refine below_drewN ?_ _ | refine Below.alloc ?_ (by first | omega | (simp <;> omega)) _ | refine Below.setCell ?_ (by first | omega | (simp <;> omega)) _ | refine Below.trans ?_ (Below.mono (by assumption) (by first | omega | (simp <;> omega)))))⟩
  | true =>
    have HG := Lib.hid (wordG_1 hb)
    have HT := Lib.hid (ppB_if hb).tame
    have HB := Lib.hid hb; clear hb
    go_enter Try.func17, Try.ntmps17
    go_wp2_with fail
    refine (spec_l13Valid_any _ _ p _ (Rd.below H.out (show Below w.heap.size w _ from (by repeat (first | exact Below.refl _ _ | assumption | refine Below.drew ?_ | refine below_drewN ?_ _ | refine Below.alloc ?_ (by first | omega | (simp <;> omega)) _ | refine Below.setCell ?_ (by first | omega | (simp <;> omega)) _ | refine Below.trans ?_ (Below.mono (by assumption) (by first | omega | (simp <;> omega)))))) rfl) (Rd.below HU.out (show Below w.heap.size w _ from (by repeat (first | exact Below.refl _ _ | assumption | refine Below.drew ?_ | refine below_drewN ?_ _ | refine Below.alloc ?_ (by first | omega | (simp <;> omega)) _ | refine Below.setCell ?_ (by first | omega | (simp <;> omega)) _ | refine Below.trans ?_ (Below.mono (by assumption) (by first | omega | (simp <;> omega)))))) rfl) hl hm).mono ?_; rintro e w1 ⟨rfl, hb1⟩; rw [HB.out]
    obtain ⟨hc_hb1, hf_hb1⟩ := bcell hb1; have hz_hb1 := hb1.size; (try simp at hz_hb1); have hs0_hb1 : w.heap.size < w1.heap.size := (by omega)
    go_wp2_with fail
    refine (spec_l15Odd_any _ _ p _ (Rd.below H.out (show Below w.heap.size w w1 from (by repeat (first | exact Below.refl _ _ | assumption | refine Below.drew ?_ | refine below_drewN ?_ _ | refine Below.alloc ?_ (by first | omega | (simp <;> omega)) _ | refine Below.setCell ?_ (by first | omega | (simp <;> omega)) _ | refine Below.trans ?_ (Below.mono (by assumption) (by first | omega | (simp <;> omega)))))) rfl) HT.out).mono ?_; rintro e w2 ⟨rfl, hb2⟩
    go_wp2_with fail
    go_ret2
    exact ⟨ret_ib HG.out.symm rfl, (by repeat (first | exact Below.refl _ _ | assumption | refine Below.drew ?_ | refine below_drewN ?_ _ | refine Below.alloc ?_ (by first | omega | (simp <;> omega)) _ | refine Below.setCell ?_ (by first | omega | (simp <;> omega)) _ | refine Below.trans ?_ (Below.mono (by assumption) (by first | omega | (simp <;> omega)))))⟩
theorem impl_OddWord_any (v u : Value) (p : PP) (w : World) (h : RdE w v E2.cs 2 p.ts) (hu : RdI w u p.out) (hl : p.ts.length ≤ 1048576) (hm : p.out.length ≤ 1048576) :
    Calls Try.prog 18 #[.agg #[.int .i64 p.n, .int .i64 p.ph, v, u]] w fun e w' => e = .returned (.tuple #[.int .i64 (wordG p), .bool (ppB p)]) ∧ Below w.heap.size w w' := by
  have H := Lib.hid h; have HU := Lib.hid hu
  obtain ⟨A, c, rfl, _⟩ := h.form
  obtain ⟨A2, c2, rfl, _⟩ := hu.form
  clear h hu
  cases hb : ppB p with
  | false =>
    have HG := Lib.hid (wordG_0 hb)
    have HB := Lib.hid hb; clear hb
    go_enter Try.func18, Try.ntmps18
    go_wp2_with fail
    refine (impl_IsValidPhasePoly_any _ _ p _ (Rd.below H.out (show Below w.heap.size w _ from (by repeat (first | exact Below.refl _ _ | assumption | refine Below.drew ?_ | refine below_drewN ?_ _ | refine Below.alloc ?_ (by first | omega | (simp <;> omega)) _ | refine Below.setCell ?_ (by first | omega | (simp <;> omega)) _ | refine Below.trans ?_ (Below.mono (by assumption) (by first | omega | (simp <;> omega)))))) rfl) (Rd.below HU.out (show Below w.heap.size w _ from (by repeat (first | exact Below.refl _ _ | assumption | refine Below.drew ?_ | refine below_drewN ?_ _ | refine Below.alloc ?_ (by first | omega | (simp <;> omega)) _ | refine Below.setCell ?_ (by first | omega | (simp <;> omega)) _ | refine Below.trans ?_ (Below.mono (by assumption) (by first | omega | (simp <;> omega)))))) rfl) hl hm).mono ?_; rintro e w1 ⟨rfl, hb1⟩; rw [HB.out]
    go_wp2_with fail
    go_ret2
    exact ⟨ret_ib HG.out.symm rfl, (by repeat (first | exact Below.refl _ _ | assumption | refine Below.drew ?_ | refine below_drewN ?_ _ | refine Below.alloc ?_ (by first | omega | (simp <;> omega)) _ | refine Below.setCell ?_ (by first | omega | (simp <;> omega)) _ | refine Below.trans ?_ (Below.mono (by assumption) (by first | omega | (simp <;> omega)))))⟩
  | true =>
    have HG := Lib.hid (wordG_1 hb)
    have HT := Lib.hid (ppB_if hb).tame
    have HB := Lib.hid hb; clear hb
    go_enter Try.func18, Try.ntmps18
    go_wp2_with fail
    refine (impl_IsValidPhasePoly_any _ _ p _ (Rd.below H.out (show Below w.heap.size w _ from (by repeat (first | exact Below.refl _ _ | assumption | refine Below.drew ?_ | refine below_drewN ?_ _ | refine Below.alloc ?_ (by first | omega | (simp <;> omega)) _ | refine Below.setCell ?_ (by first | omega | (simp <;> omega)) _ | refine Below.trans ?_ (Below.mono (by assumption) (by first | omega | (simp <;> omega)))))) rfl) (Rd.below HU.out (show Below w.heap.size w _ from (by repeat (first | exact Below.refl _ _ | assumption | refine Below.drew ?_ | refine below_drewN ?_ _ | refine Below.alloc ?_ (by first | omega | (simp <;> omega)) _ | refine Below.setCell ?_ (by first | omega | (simp <;> omega)) _ | refine Below.trans ?_ (Below.mono (by assumption) (by first | omega | (simp <;> omega)))))) rfl) hl hm).mono ?_; rintro e w1 ⟨rfl, hb1⟩; rw [HB.out]
    obtain ⟨hc_hb1, hf_hb1⟩ := bcell hb1; have hz_hb1 := hb1.size; (try simp at hz_hb1); have hs0_hb1 : w.heap.size < w1.heap.size := (by omega)
    go_wp2_with fail
    refine (impl_oddWord_any _ _ p _ (Rd.below H.out (show Below w.heap.size w w1 from (by repeat (first | exact Below.refl _ _ | assumption | refine Below.drew ?_ | refine below_drewN ?_ _ | refine Below.alloc ?_ (by first | omega | (simp <;> omega)) _ | refine Below.setCell ?_ (by first | omega | (simp <;> omega)) _ | refine Below.trans ?_ (Below.mono (by assumption) (by first | omega | (simp <;> omega)))))) rfl) HT.out).mono ?_; rintro e w2 ⟨rfl, hb2⟩
    go_wp2_with fail
    go_ret2
    exact ⟨ret_ib HG.out.symm rfl, (by repeat (first | exact Below.refl _ _ | assumption | refine Below.drew ?_ | refine below_drewN ?_ _ | refine Below.alloc ?_ (by first | omega | (simp <;> omega)) _ | refine Below.setCell ?_ (by first | omega | (simp <;> omega)) _ | refine Below.trans ?_ (Below.mono (by assumption) (by first | omega | (simp <;> omega)))))⟩
end Go.Proofs.Ytlelcnlibacnaaa
