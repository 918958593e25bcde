/- The phase of a phase polynomial at a basis state: PhaseAt in the program and in the reference. -/
import Derived.Test.YtlelcnlibacnaaaOdd
import Derived.Test.YtlelcnlibacnaaaOnes
import Derived.Deep.RegionHeld3
namespace Go.Proofs.Ytlelcnlibacnaaa
set_option linter.unusedSimpArgs false
set_option linter.unusedVariables false
set_option linter.unnecessarySimpa false
set_option maxRecDepth 200000
open Go.ChangeShapes Go.WideShapes Go.ChangeAt Go.RowKit

theorem pop_bits {y : Nat} (h : y < 2 ^ 10) : (bitsOf y).length = pop y := by
  unfold bitsOf pop
  rw [setB_eq h (Nat.lt_of_lt_of_le h (Nat.pow_le_pow_right (show 0 < 2 by decide) (show 10 ≤ 64 by decide)))]
theorem spec_l13Parity_any (y : Nat) (w : World) (hy : y ≤ 1023) :
    Calls Try.prog 95 #[.int .i64 (y : Int)] w fun e w' => e = .returned (.int .i64 (((pop y : Nat) : Int) % 2)) ∧ Below w.heap.size w w' := by
  have hp := Lib.hid (pop_bits (y := y) (by omega))
  have hl := setB_len y 10
  obtain ⟨n, hn⟩ : ∃ n, n = (bitsOf y).length := ⟨_, rfl⟩
  have hn10 : n ≤ 10 := by rw [hn]; exact hl
  have Hn := Lib.hid hn; clear hn hl
  go_enter Try.func95, Try.ntmps95
  go_wp2_with fail
  refine (spec_l1Set_any y _ hy).mono ?_; rintro e w1 ⟨v, rfl, ho, hb1⟩
  obtain ⟨a, cap, rfl⟩ := ho.forms
  rw [ints_len, ← Hn.out]
  clear ho
  go_wp2_with fail
  go_ret
  exact ⟨ret_int (by rw [← hp.out, ← Hn.out]), hb1⟩
theorem impl_parityOf_any (y : Nat) (w : World) (hy : y < 4294967296) :
    Calls Try.prog 58 #[.int .i64 (y : Int)] w fun e w' => e = .returned (.int .i64 (((pop y : Nat) : Int) % 2)) ∧ w = w' := by
  go_enter Try.func58, Try.ntmps58
  go_wp2_with fail
  refine (OnesCount_any y _ hy).mono ?_; rintro e w' ⟨rfl, rfl⟩
  go_wp2_with fail
  go_ret
  exact ⟨rfl, rfl⟩
/-- One term's part. -/
def phF (m : Nat) (x : Int) (t : E2) : Int := x + t.b * (((pop (t.a.toNat &&& m) : Nat) : Int) % 2)
def phN (p : PP) (m k : Nat) : Int := foldT (phF m) p.ph p.ts k
theorem par_mul (b : Int) (z : Nat) (h1 : 1 ≤ b) (h2 : b ≤ 7) : 0 ≤ b * (((pop z : Nat) : Int) % 2) ∧ b * (((pop z : Nat) : Int) % 2) ≤ 7 := by
  have : ((pop z : Nat) : Int) % 2 = 0 ∨ ((pop z : Nat) : Int) % 2 = 1 := by omega
  rcases this with h | h <;> rw [h] <;> omega
theorem phN_bd {p : PP} (ht : Tame p.ts) (h0 : 0 ≤ p.ph ∧ p.ph ≤ 7) (m : Nat) : ∀ k, k ≤ p.ts.length → 0 ≤ phN p m k ∧ phN p m k ≤ 7 + 7 * k
  | 0, _ => by simp [phN, foldT]; exact h0
  | k + 1, h => by
    have ih := phN_bd ht h0 m k (by omega)
    have e : phN p m (k + 1) = phF m (phN p m k) (p.ts.getD k ⟨0, 0⟩) := foldT_succ (by omega)
    have h2 := ht.2 k (by omega)
    have h3 := par_mul (p.ts.getD k ⟨0, 0⟩).b ((p.ts.getD k ⟨0, 0⟩).a.toNat &&& m) h2.2.1 h2.2.2
    unfold phF at e
    omega
/-- What one round of either loop finds. -/
theorem ph_round {p : PP} {m k : Nat} (hk : k < p.ts.length) (ht : Tame p.ts) (hm : m ≤ 31) (h0 : 0 ≤ p.ph ∧ p.ph ≤ 7) : ∃ (a : Nat) (b r : Int) (z : Nat), p.ts.getD k ⟨0, 0⟩ = ⟨(a : Int), b⟩ ∧ bits .and .i64 (a : Int) (m : Int) = (z : Int) ∧ z ≤ 31 ∧ 1 ≤ b ∧ b ≤ 7 ∧
    Hid (b * (((pop z : Nat) : Int) % 2) = r) ∧ IntKind.i64.wrap r = r ∧ 0 ≤ r ∧ r ≤ 7 ∧ Hid (phN p m (k + 1) = phN p m k + r) ∧ 0 ≤ phN p m k ∧ phN p m k ≤ 7 + 7 * k := by
  have h2 := ht.2 k hk
  have h3 := phN_bd ht h0 m k (by omega)
  obtain ⟨a, ha⟩ := Int.eq_ofNat_of_zero_le (show 0 ≤ (p.ts.getD k ⟨0, 0⟩).a by omega)
  have h4 := par_mul (p.ts.getD k ⟨0, 0⟩).b (a &&& m) h2.2.1 h2.2.2
  have hz : a &&& m ≤ m := Nat.and_le_right
  refine ⟨a, (p.ts.getD k ⟨0, 0⟩).b, _, a &&& m, by rw [← ha], bits_and a m (by omega) (by omega), by omega, h2.2.1, h2.2.2, (show _ = _ from rfl), IntWalk.i64_in _ (by omega), h4.1, h4.2, (show _ = _ from ?_), h3.1, h3.2⟩
  unfold phN
  rw [foldT_succ hk, phF, ha, Int.toNat_natCast]
set_option maxHeartbeats 1000000 in
theorem spec_l13At_any (v u : Value) (p : PP) (m : Nat) (w : World) (h : RdE w v E2.cs 2 p.ts) (ht : Tame p.ts) (hm : m ≤ 31) (h0 : 0 ≤ p.ph ∧ p.ph ≤ 7) :
    Calls Try.prog 56 #[.agg #[.int .i64 p.n, .int .i64 p.ph, v, u], .int .i64 (m : Int)] w fun e w' => e = .returned (.int .i64 (phN p m p.ts.length % 8)) ∧ Below w.heap.size w w' := by
  obtain ⟨A, c, rfl, Hc⟩ := term_at h
  clear h
  have hl := ht.1
  have HT := Lib.hid ht; have H0 := Lib.hid h0; clear ht h0
  go_enter Try.func56, Try.ntmps56
  go_wp2_with fail
  go_loopw [5, 13] (fun n i wr => ∃ k : Nat, k ≤ p.ts.length ∧ i = .int .i64 k ∧ n = .int .i64 (phN p m k) ∧ Below w.heap.size w wr) (fun _ i _ => p.ts.length - (intOf i).toNat)
  case atStart => exact ⟨0, Nat.zero_le _, rfl, rfl, (by repeat (first | exact Below.refl _ _ | assumption | refine Below.drew ?_ | refine below_drewN ?_ _ | refine Below.alloc ?_ (by first | omega | (simp <;> omega)) _ | refine Below.setCell ?_ (by first | omega | (simp <;> omega)) _ | refine Below.trans ?_ (Below.mono (by assumption) (by first | omega | (simp <;> omega)))))⟩
  case round =>
    obtain ⟨k, hk, rfl, rfl, hbel⟩ := hrel
    by_cases hlt : k < p.ts.length
    · obtain ⟨b, off, rfl, hb, q0, q1⟩ := Hc.out k hlt
      obtain ⟨a, y, r, z, hy, hand, hz, y1, y2, Hr, hr1, r1, r2, Hs, o1, o2⟩ := ph_round hlt HT.out hm H0.out
      rw [hy] at q0 q1
      replace q0 := (hbel.cell hb).trans q0; replace q1 := (hbel.cell hb).trans q1
      obtain ⟨x, hx⟩ : ∃ x, x = phN p m k := ⟨_, rfl⟩
      rw [← hx] at o1 o2 Hs ⊢
      have i1 : (k : Int) < (p.ts.length : Int) := by omega
      have hsz := hbel.size
      clear hy hx
      go_wp2_with fail
      have t0 : ((wr.alloc (.cells #[.int .i64 (a : Int), .int .i64 y] 82)).drew).cell? ⟨wr.heap.size, 0, none⟩ = some (.int .i64 (a : Int)) := (by repeat (first | (refine Eq.trans (World.cell?_alloc_at _ _ _ _ ?hh) ?_; (case hh => (simp; done)); rfl) | refine cell_alloc_keep _ ?_))
      go_region_held3 (fun w' => w'.cell? ⟨wr.heap.size, 0, none⟩ = some (.int .i64 (a : Int)) ∧ w'.cell? ⟨wr.heap.size, 1, none⟩ = some (.int .i64 y)) (first | go_keep | (go_split_ands; refine ⟨?_, ?_⟩ <;> (refine below_cell hb2 rfl ?_; assumption))) ((go_at_call 95; refine (spec_l13Parity_any z _ (by omega)).mono ?_; rintro e w2 ⟨rfl, hb2⟩))
      all_goals
        rw [Hr.out]
        go_wp2_with fail
        go_roundw
        case rel => exact ⟨k + 1, by omega, by go_num, by rw [Hs.out]; exact congrArg (Value.int .i64) (show IntKind.i64.wrap (x + IntKind.i64.wrap r) = x + r by rw [hr1, IntWalk.i64_in (x + r) (by omega)]), (by repeat (first | exact Below.refl _ _ | assumption | refine Below.drew ?_ | refine below_drewN ?_ _ | refine Below.alloc ?_ (by first | omega | (simp <;> omega)) _ | refine Below.setCell ?_ (by first | omega | (simp <;> omega)) _ | refine Below.trans ?_ (Below.mono (by assumption) (by first | omega | (simp <;> omega)))))⟩
        case measure => simp [intOf]; omega
    · have hr : Hid (phN p m k = phN p m p.ts.length) := by show _ = _; rw [show k = p.ts.length from by omega]
      have hbd := phN_bd HT.out H0.out m k hk
      obtain ⟨o1, o2⟩ := hbd
      go_wp2_with fail
      go_ret
      exact ⟨ret_int (by rw [hr.out]), hbel⟩
def phR (p : PP) (b : Int) : Prop := 0 ≤ b ∧ b ≤ 2 ^ p.n.toNat - 1
instance (p : PP) (b : Int) : Decidable (phR p b) := by unfold phR; infer_instance
noncomputable def phB (p : PP) (b : Int) : Bool := ppB p && decide (phR p b)
noncomputable def phG (p : PP) (b : Int) : Int := if phB p b = true then phN p b.toNat p.ts.length % 8 else 0
theorem ph_0 {p : PP} {b : Int} (h : phB p b = false) : phG p b = 0 := if_neg (by rw [h]; exact Bool.false_ne_true)
theorem ph_1 {p : PP} {b : Int} (h : phB p b = true) : phG p b = phN p b.toNat p.ts.length % 8 := if_pos h
theorem phB_no {p : PP} {b : Int} (h : ppB p = false) : phB p b = false := by unfold phB; rw [h]; rfl
theorem phB_out {p : PP} {b : Int} (h : ¬ phR p b) : phB p b = false := by unfold phB; rw [decide_eq_false h, Bool.and_false]
theorem phB_yes {p : PP} {b : Int} (h : ppB p = true) (k : phR p b) : phB p b = true := by unfold phB; rw [h, decide_eq_true k]; rfl
/-- What a function that answers a number and 'ok' returns. -/
theorem ret_ib2 {a b : Int} {c d : Bool} (h : b = a) (h2 : d = c) : Ending.returned (.tuple #[.int .i64 a, .bool c]) = .returned (.tuple #[.int .i64 b, .bool d]) := by rw [h, h2]
set_option maxHeartbeats 2000000 in
theorem spec_PhaseAt_any (v u : Value) (p : PP) (b : Int) (w : World) (h : RdE w v E2.cs 2 p.ts) (hu : RdI w u p.out) (hl : p.ts.length ≤ 1048576) (hm : p.out.length ≤ 1048576) :
    Calls Try.prog 19 #[.agg #[.int .i64 p.n, .int .i64 p.ph, v, u], .int .i64 b] w fun e w' => e = .returned (.tuple #[.int .i64 (phG p b), .bool (phB p b)]) ∧ Below w.heap.size w w' := by
  have H := Lib.hid h; have HU := Lib.hid hu
  obtain ⟨A2, c2, rfl, _⟩ := hu.form
  obtain ⟨A, c, rfl, Hc⟩ := term_at h
  clear h hu
  cases hb : ppB p with
  | false =>
    have HB := Lib.hid hb
    have HX := Lib.hid (phB_no (b := b) hb); have HG := Lib.hid (ph_0 (phB_no (b := b) hb)); clear hb
    go_enter Try.func19, Try.ntmps19
    go_wp2_with fail
    refine (spec_l13Valid_any _ _ p _ (Rd.below H.out (show Below w.heap.size w _ from (by repeat (first | exact Below.refl _ _ | assumption | refine Below.drew ?_ | refine below_drewN ?_ _ | refine Below.alloc ?_ (by first | omega | (simp <;> omega)) _ | refine Below.setCell ?_ (by first | omega | (simp <;> omega)) _ | refine Below.trans ?_ (Below.mono (by assumption) (by first | omega | (simp <;> omega)))))) rfl) (Rd.below HU.out (show Below w.heap.size w _ from (by repeat (first | exact Below.refl _ _ | assumption | refine Below.drew ?_ | refine below_drewN ?_ _ | refine Below.alloc ?_ (by first | omega | (simp <;> omega)) _ | refine Below.setCell ?_ (by first | omega | (simp <;> omega)) _ | refine Below.trans ?_ (Below.mono (by assumption) (by first | omega | (simp <;> omega)))))) rfl) hl hm).mono ?_; rintro e w1 ⟨rfl, hb1⟩; rw [HB.out]
    go_wp2_with fail
    go_ret2
    exact ⟨ret_ib2 HG.out HX.out, (by repeat (first | exact Below.refl _ _ | assumption | refine Below.drew ?_ | refine below_drewN ?_ _ | refine Below.alloc ?_ (by first | omega | (simp <;> omega)) _ | refine Below.setCell ?_ (by first | omega | (simp <;> omega)) _ | refine Below.trans ?_ (Below.mono (by assumption) (by first | omega | (simp <;> omega)))))⟩
  | true =>
    obtain ⟨n, ph, ts, out⟩ := p
    have hok := ppB_if hb
    have HB := Lib.hid hb
    have HT := Lib.hid hok.tame
    have hn := hok.1; have hp := hok.2.1
    dsimp only at hn hp HT Hc H HU hl hm ⊢
    obtain ⟨q, rfl⟩ := Int.eq_ofNat_of_zero_le (show 0 ≤ n by omega)
    obtain ⟨p1, p2⟩ := pow_5 hn
    rw [Int.toNat_natCast] at p1 p2
    have hw : IntKind.i64.wrap ((2 : Int) ^ q) = (2 : Int) ^ q := IntWalk.i64_in _ (by omega)
    have hw2 : IntKind.i64.wrap ((2 : Int) ^ q - 1) = (2 : Int) ^ q - 1 := IntWalk.i64_in _ (by omega)
    obtain ⟨n1, n2⟩ := hn
    have H0 := Lib.hid hp
    obtain ⟨hp1, hp2⟩ := hp
    clear hok
    have hl31 := HT.out.1
    by_cases hr : 0 ≤ b ∧ b ≤ 2 ^ q - 1
    · obtain ⟨m, rfl⟩ := Int.eq_ofNat_of_zero_le hr.1
      have hr' : phR ⟨(q : Int), ph, ts, out⟩ (m : Int) := by unfold phR; dsimp only; rw [Int.toNat_natCast]; exact hr
      have HX := Lib.hid (phB_yes hb hr'); have HG := Lib.hid (ph_1 (phB_yes hb hr'))
      have D1 := Lib.hid (decide_eq_true hr)
      have hm31 : m ≤ 31 := by omega
      clear hr hr' hb
      go_enter Try.func19, Try.ntmps19
      go_wp2_with fail
      refine (spec_l13Valid_any _ _ ⟨(q : Int), ph, ts, out⟩ _ (Rd.below H.out (show Below w.heap.size w _ from (by repeat (first | exact Below.refl _ _ | assumption | refine Below.drew ?_ | refine below_drewN ?_ _ | refine Below.alloc ?_ (by first | omega | (simp <;> omega)) _ | refine Below.setCell ?_ (by first | omega | (simp <;> omega)) _ | refine Below.trans ?_ (Below.mono (by assumption) (by first | omega | (simp <;> omega)))))) rfl) (Rd.below HU.out (show Below w.heap.size w _ from (by repeat (first | exact Below.refl _ _ | assumption | refine Below.drew ?_ | refine below_drewN ?_ _ | refine Below.alloc ?_ (by first | omega | (simp <;> omega)) _ | refine Below.setCell ?_ (by first | omega | (simp <;> omega)) _ | refine Below.trans ?_ (Below.mono (by assumption) (by first | omega | (simp <;> omega)))))) rfl) hl hm).mono ?_; rintro e w1 ⟨rfl, hb1⟩; rw [HB.out]
      obtain ⟨hc_hb1, hf_hb1⟩ := bcell hb1; have hz_hb1 := hb1.size; (try simp at hz_hb1); have hs0_hb1 : w.heap.size < w1.heap.size := (by omega)
      have bw1 : Below w.heap.size w w1 := (by repeat (first | exact Below.refl _ _ | assumption | refine Below.drew ?_ | refine below_drewN ?_ _ | refine Below.alloc ?_ (by first | omega | (simp <;> omega)) _ | refine Below.setCell ?_ (by first | omega | (simp <;> omega)) _ | refine Below.trans ?_ (Below.mono (by assumption) (by first | omega | (simp <;> omega)))))
      go_wp2_with fail
      refine (l1In_p _ _ _ _).mono ?_; rintro e w' ⟨rfl, rfl⟩; rw [D1.out]
      go_wp2_with fail
      refine (spec_l13At_any _ _ ⟨(q : Int), ph, ts, out⟩ m _ (Rd.below H.out (show Below w.heap.size w w1 from (by repeat (first | exact Below.refl _ _ | assumption | refine Below.drew ?_ | refine below_drewN ?_ _ | refine Below.alloc ?_ (by first | omega | (simp <;> omega)) _ | refine Below.setCell ?_ (by first | omega | (simp <;> omega)) _ | refine Below.trans ?_ (Below.mono (by assumption) (by first | omega | (simp <;> omega)))))) rfl) HT.out hm31 H0.out).mono ?_; rintro e w2 ⟨rfl, hb2⟩
      go_wp2_with fail
      go_ret2
      exact ⟨ret_ib2 HG.out HX.out, (by repeat (first | exact Below.refl _ _ | assumption | refine Below.drew ?_ | refine below_drewN ?_ _ | refine Below.alloc ?_ (by first | omega | (simp <;> omega)) _ | refine Below.setCell ?_ (by first | omega | (simp <;> omega)) _ | refine Below.trans ?_ (Below.mono (by assumption) (by first | omega | (simp <;> omega)))))⟩
    · have hr' : ¬ phR ⟨(q : Int), ph, ts, out⟩ b := by unfold phR; dsimp only; rw [Int.toNat_natCast]; exact hr
      have HX := Lib.hid (phB_out hr'); have HG := Lib.hid (ph_0 (phB_out hr'))
      have D1 := Lib.hid (decide_eq_false hr)
      clear hr hr' hb
      go_enter Try.func19, Try.ntmps19
      go_wp2_with fail
      refine (spec_l13Valid_any _ _ ⟨(q : Int), ph, ts, out⟩ _ (Rd.below H.out (show Below w.heap.size w _ from (by repeat (first | exact Below.refl _ _ | assumption | refine Below.drew ?_ | refine below_drewN ?_ _ | refine Below.alloc ?_ (by first | omega | (simp <;> omega)) _ | refine Below.setCell ?_ (by first | omega | (simp <;> omega)) _ | refine Below.trans ?_ (Below.mono (by assumption) (by first | omega | (simp <;> omega)))))) rfl) (Rd.below HU.out (show Below w.heap.size w _ from (by repeat (first | exact Below.refl _ _ | assumption | refine Below.drew ?_ | refine below_drewN ?_ _ | refine Below.alloc ?_ (by first | omega | (simp <;> omega)) _ | refine Below.setCell ?_ (by first | omega | (simp <;> omega)) _ | refine Below.trans ?_ (Below.mono (by assumption) (by first | omega | (simp <;> omega)))))) rfl) hl hm).mono ?_; rintro e w1 ⟨rfl, hb1⟩; rw [HB.out]
      obtain ⟨hc_hb1, hf_hb1⟩ := bcell hb1; have hz_hb1 := hb1.size; (try simp at hz_hb1); have hs0_hb1 : w.heap.size < w1.heap.size := (by omega)
      go_wp2_with fail
      refine (l1In_p _ _ _ _).mono ?_; rintro e w' ⟨rfl, rfl⟩; rw [D1.out]
      go_wp2_with fail
      go_ret2
      exact ⟨ret_ib2 HG.out HX.out, (by repeat (first | exact Below.refl _ _ | assumption | refine Below.drew ?_ | refine below_drewN ?_ _ | refine Below.alloc ?_ (by first | omega | (simp <;> omega)) _ | refine Below.setCell ?_ (by first | omega | (simp <;> omega)) _ | refine Below.trans ?_ (Below.mono (by assumption) (by first | omega | (simp <;> omega)))))⟩
theorem quietI {f : FuncId} {args : Array Value} {w : World} {n : Nat} {k : IntKind} {a : Int} (h : Calls Try.prog f args (w.drewN n) fun e w' => e = .returned (.int k a) ∧ w.drewN n = w') : Calls Try.prog f args (w.drewN n) fun e w'' => e = .returned (.int k a) ∧ ∃ m, w'' = w.drewN m :=
  h.mono fun _ _ ⟨he, hm⟩ => ⟨he, n, hm.symm⟩
set_option maxHeartbeats 2000000 in
theorem impl_PhaseAt_any (v u : Value) (p : PP) (b : Int) (w : World) (h : RdE w v E2.cs 2 p.ts) (hu : RdI w u p.out) (hl : p.ts.length ≤ 1048576) (hm : p.out.length ≤ 1048576) :
    Calls Try.prog 20 #[.agg #[.int .i64 p.n, .int .i64 p.ph, v, u], .int .i64 b] w fun e w' => e = .returned (.tuple #[.int .i64 (phG p b), .bool (phB p b)]) ∧ Below w.heap.size w w' := by
  have H := Lib.hid h; have HU := Lib.hid hu
  obtain ⟨A2, c2, rfl, _⟩ := hu.form
  obtain ⟨A, c, rfl, Hc⟩ := term_at h
  clear h hu
  cases hb : ppB p with
  | false =>
    have HB := Lib.hid hb
    have HX := Lib.hid (phB_no (b := b) hb); have HG := Lib.hid (ph_0 (phB_no (b := b) hb)); clear hb
    go_enter Try.func20, Try.ntmps20
    go_wp2_with fail
    refine (impl_IsValidPhasePoly_any _ _ p _ (Rd.below H.out (show Below w.heap.size w _ from (by repeat (first | exact Below.refl _ _ | assumption | refine Below.drew ?_ | refine below_drewN ?_ _ | refine Below.alloc ?_ (by first | omega | (simp <;> omega)) _ | refine Below.setCell ?_ (by first | omega | (simp <;> omega)) _ | refine Below.trans ?_ (Below.mono (by assumption) (by first | omega | (simp <;> omega)))))) rfl) (Rd.below HU.out (show Below w.heap.size w _ from (by repeat (first | exact Below.refl _ _ | assumption | refine Below.drew ?_ | refine below_drewN ?_ _ | refine Below.alloc ?_ (by first | omega | (simp <;> omega)) _ | refine Below.setCell ?_ (by first | omega | (simp <;> omega)) _ | refine Below.trans ?_ (Below.mono (by assumption) (by first | omega | (simp <;> omega)))))) rfl) hl hm).mono ?_; rintro e w1 ⟨rfl, hb1⟩; rw [HB.out]
    go_wp2_with fail
    go_ret2
    exact ⟨ret_ib2 HG.out HX.out, (by repeat (first | exact Below.refl _ _ | assumption | refine Below.drew ?_ | refine below_drewN ?_ _ | refine Below.alloc ?_ (by first | omega | (simp <;> omega)) _ | refine Below.setCell ?_ (by first | omega | (simp <;> omega)) _ | refine Below.trans ?_ (Below.mono (by assumption) (by first | omega | (simp <;> omega)))))⟩
  | true =>
    obtain ⟨n, ph, ts, out⟩ := p
    have hok := ppB_if hb
    have HB := Lib.hid hb
    have HT := Lib.hid hok.tame
    have hn := hok.1; have hp := hok.2.1
    dsimp only at hn hp HT Hc H HU hl hm ⊢
    obtain ⟨q, rfl⟩ := Int.eq_ofNat_of_zero_le (show 0 ≤ n by omega)
    obtain ⟨p1, p2⟩ := pow_5 hn
    rw [Int.toNat_natCast] at p1 p2
    have hw : IntKind.i64.wrap ((2 : Int) ^ q) = (2 : Int) ^ q := IntWalk.i64_in _ (by omega)
    have hw2 : IntKind.i64.wrap ((2 : Int) ^ q - 1) = (2 : Int) ^ q - 1 := IntWalk.i64_in _ (by omega)
    obtain ⟨n1, n2⟩ := hn
    have H0 := Lib.hid hp
    obtain ⟨hp1, hp2⟩ := hp
    clear hok
    have hl31 := HT.out.1
    by_cases hr : 0 ≤ b ∧ b ≤ 2 ^ q - 1
    · obtain ⟨m, rfl⟩ := Int.eq_ofNat_of_zero_le hr.1
      have hr' : phR ⟨(q : Int), ph, ts, out⟩ (m : Int) := by unfold phR; dsimp only; rw [Int.toNat_natCast]; exact hr
      have HX := Lib.hid (phB_yes hb hr'); have HG := Lib.hid (ph_1 (phB_yes hb hr'))
      have D1 := Lib.hid (decide_eq_true hr)
      have hm31 : m ≤ 31 := by omega
      clear hr hr' hb
      go_enter Try.func20, Try.ntmps20
      go_wp2_with fail
      refine (impl_IsValidPhasePoly_any _ _ ⟨(q : Int), ph, ts, out⟩ _ (Rd.below H.out (show Below w.heap.size w _ from (by repeat (first | exact Below.refl _ _ | assumption | refine Below.drew ?_ | refine below_drewN ?_ _ | refine Below.alloc ?_ (by first | omega | (simp <;> omega)) _ | refine Below.setCell ?_ (by first | omega | (simp <;> omega)) _ | refine Below.trans ?_ (Below.mono (by assumption) (by first | omega | (simp <;> omega)))))) rfl) (Rd.below HU.out (show Below w.heap.size w _ from (by repeat (first | exact Below.refl _ _ | assumption | refine Below.drew ?_ | refine below_drewN ?_ _ | refine Below.alloc ?_ (by first | omega | (simp <;> omega)) _ | refine Below.setCell ?_ (by first | omega | (simp <;> omega)) _ | refine Below.trans ?_ (Below.mono (by assumption) (by first | omega | (simp <;> omega)))))) rfl) hl hm).mono ?_; rintro e w1 ⟨rfl, hb1⟩; rw [HB.out]
      obtain ⟨hc_hb1, hf_hb1⟩ := bcell hb1; have hz_hb1 := hb1.size; (try simp at hz_hb1); have hs0_hb1 : w.heap.size < w1.heap.size := (by omega)
      have bw1 : Below w.heap.size w w1 := (by repeat (first | exact Below.refl _ _ | assumption | refine Below.drew ?_ | refine below_drewN ?_ _ | refine Below.alloc ?_ (by first | omega | (simp <;> omega)) _ | refine Below.setCell ?_ (by first | omega | (simp <;> omega)) _ | refine Below.trans ?_ (Below.mono (by assumption) (by first | omega | (simp <;> omega)))))
      go_wp2_with fail
      refine (within_p _ _ _ _).mono ?_; rintro e w' ⟨rfl, rfl⟩; rw [D1.out]
      have k0 : w1.cell? ⟨w.heap.size, 1, none⟩ = some (.int .i64 ph) := (hc_hb1 _ _ (by simp)).trans (by repeat (first | (refine Eq.trans (World.cell?_alloc_at _ _ _ _ ?hh) ?_; (case hh => (simp; done)); rfl) | refine cell_alloc_keep _ ?_))
      have k1 : w1.cell? ⟨w.heap.size, 2, none⟩ = some (.slice A ts.length c) := (hc_hb1 _ _ (by simp)).trans (by repeat (first | (refine Eq.trans (World.cell?_alloc_at _ _ _ _ ?hh) ?_; (case hh => (simp; done)); rfl) | refine cell_alloc_keep _ ?_))
      clear hc_hb1 hf_hb1 hb1
      go_wp2_with fail
      go_loopw [6, 26] (fun n i wr => ∃ k : Nat, k ≤ ts.length ∧ i = .int .i64 k ∧ n = .int .i64 (phN ⟨(q : Int), ph, ts, out⟩ m k) ∧ Below w.heap.size w wr) (fun _ i _ => ts.length - (intOf i).toNat)
      case atStart => exact ⟨0, Nat.zero_le _, rfl, rfl, bw1⟩
      case round =>
        obtain ⟨k, hk, rfl, rfl, hbel⟩ := hrel
        by_cases hlt : k < ts.length
        · obtain ⟨b, off, rfl, hb, q0, q1⟩ := Hc.out k hlt
          obtain ⟨a, y, r, z, hy, hand, hz, y1, y2, Hr, hr1, r1, r2, Hs, o1, o2⟩ := ph_round (p := ⟨(q : Int), ph, ts, out⟩) hlt HT.out hm31 H0.out
          dsimp only at hy
          rw [hy] at q0 q1
          replace q0 := (hbel.cell hb).trans q0; replace q1 := (hbel.cell hb).trans q1
          obtain ⟨x, hx⟩ : ∃ x, x = phN ⟨(q : Int), ph, ts, out⟩ m k := ⟨_, rfl⟩
          rw [← hx] at o1 o2 Hs ⊢
          have i1 : (k : Int) < (ts.length : Int) := by omega
          have hsz := hbel.size
          clear hy hx k0 k1 bw1
          go_wp2_with fail
          go_quiet ((go_at_call 58; exact quietI (impl_parityOf_any z _ (by omega))))
          all_goals
            rw [Hr.out]
            go_wp2_with fail
            go_roundw
            case rel => exact ⟨k + 1, by omega, by go_num, by rw [Hs.out]; exact congrArg (Value.int .i64) (show wrap64 (x + wrap64 r) = x + r by unfold wrap64; omega), (by repeat (first | exact Below.refl _ _ | assumption | refine Below.drew ?_ | refine below_drewN ?_ _ | refine Below.alloc ?_ (by first | omega | (simp <;> omega)) _ | refine Below.setCell ?_ (by first | omega | (simp <;> omega)) _ | refine Below.trans ?_ (Below.mono (by assumption) (by first | omega | (simp <;> omega)))))⟩
            case measure => simp [intOf]; omega
        · have hr : Hid (phN ⟨(q : Int), ph, ts, out⟩ m k = phN ⟨(q : Int), ph, ts, out⟩ m ts.length) := by show _ = _; rw [show k = ts.length from by omega]
          have hbd := phN_bd (p := ⟨(q : Int), ph, ts, out⟩) HT.out H0.out m k hk
          obtain ⟨o1, o2⟩ := hbd
          go_wp2_with fail
          go_ret2
          exact ⟨ret_ib2 (HG.out.trans (by rw [Int.toNat_natCast, hr.out])) HX.out, (by repeat (first | exact Below.refl _ _ | assumption | refine Below.drew ?_ | refine below_drewN ?_ _ | refine Below.alloc ?_ (by first | omega | (simp <;> omega)) _ | refine Below.setCell ?_ (by first | omega | (simp <;> omega)) _ | refine Below.trans ?_ (Below.mono (by assumption) (by first | omega | (simp <;> omega)))))⟩
    · have hr' : ¬ phR ⟨(q : Int), ph, ts, out⟩ b := by unfold phR; dsimp only; rw [Int.toNat_natCast]; exact hr
      have HX := Lib.hid (phB_out hr'); have HG := Lib.hid (ph_0 (phB_out hr'))
      have D1 := Lib.hid (decide_eq_false hr)
      clear hr hr' hb
      go_enter Try.func20, Try.ntmps20
      go_wp2_with fail
      refine (impl_IsValidPhasePoly_any _ _ ⟨(q : Int), ph, ts, out⟩ _ (Rd.below H.out (show Below w.heap.size w _ from (by repeat (first | exact Below.refl _ _ | assumption | refine Below.drew ?_ | refine below_drewN ?_ _ | refine Below.alloc ?_ (by first | omega | (simp <;> omega)) _ | refine Below.setCell ?_ (by first | omega | (simp <;> omega)) _ | refine Below.trans ?_ (Below.mono (by assumption) (by first | omega | (simp <;> omega)))))) rfl) (Rd.below HU.out (show Below w.heap.size w _ from (by repeat (first | exact Below.refl _ _ | assumption | refine Below.drew ?_ | refine below_drewN ?_ _ | refine Below.alloc ?_ (by first | omega | (simp <;> omega)) _ | refine Below.setCell ?_ (by first | omega | (simp <;> omega)) _ | refine Below.trans ?_ (Below.mono (by assumption) (by first | omega | (simp <;> omega)))))) rfl) hl hm).mono ?_; rintro e w1 ⟨rfl, hb1⟩; rw [HB.out]
      obtain ⟨hc_hb1, hf_hb1⟩ := bcell hb1; have hz_hb1 := hb1.size; (try simp at hz_hb1); have hs0_hb1 : w.heap.size < w1.heap.size := (by omega)
      go_wp2_with fail
      refine (within_p _ _ _ _).mono ?_; rintro e w' ⟨rfl, rfl⟩; rw [D1.out]
      go_wp2_with fail
      go_ret2
      exact ⟨ret_ib2 HG.out HX.out, (by repeat (first | exact Below.refl _ _ | assumption | refine Below.drew ?_ | refine below_drewN ?_ _ | refine Below.alloc ?_ (by first | omega | (simp <;> omega)) _ | refine Below.setCell ?_ (by first | omega | (simp <;> omega)) _ | refine Below.trans ?_ (Below.mono (by assumption) (by first | omega | (simp <;> omega)))))⟩
end Go.Proofs.Ytlelcnlibacnaaa
