/- LeastT in the program and in the reference. -/
import Derived.Test.YtlelcnlibacnaaaRm6
import Derived.Test.YtlelcnlibacnaaaOdd
import Derived.Deep.RegionHeld3
namespace Go.Proofs.Ytlelcnlibacnaaa
set_option linter.unusedSimpArgs false
set_option linter.unusedVariables false
set_option linter.unnecessarySimpa false
set_option maxRecDepth 200000
open Go.ChangeShapes Go.WideShapes Go.ChangeAt Go.RowKit

theorem wordN_top {p : PP} (hp : PPOk p) : ∀ k, k ≤ p.ts.length → wordN p.ts k < 2 ^ (2 ^ p.n.toNat - 1)
  | 0, _ => by show 0 < _; exact Nat.pow_pos (by decide)
  | k + 1, h => by
    have ih := wordN_top hp k (by omega)
    have h2 := term_ok hp.2.2.2.2 (k := k) (by omega)
    obtain ⟨h3, h4, h5, h6⟩ := h2
    have e2 : (2 : Int) ^ p.n.toNat = ((2 ^ p.n.toNat : Nat) : Int) := by simp
    rw [e2] at h4
    obtain ⟨q, hq⟩ : ∃ q : Nat, (p.ts.getD k ⟨0, 0⟩).a = (q : Int) + 1 := ⟨((p.ts.getD k ⟨0, 0⟩).a - 1).toNat, by omega⟩
    have hb : (p.ts.getD k ⟨0, 0⟩).b % 2 = 1 ∨ (p.ts.getD k ⟨0, 0⟩).b % 2 = 0 := by omega
    rcases hb with hb | hb
    · rw [wordN_succ1 (by omega) hq hb]
      exact Nat.or_lt_two_pow ih (Nat.pow_lt_pow_right (by omega) (by omega))
    · rw [wordN_succ0 (by omega) hb]; exact ih
theorem wordN_pop {p : PP} (hp : PPOk p) : wordN p.ts p.ts.length < 2147483648 ∧ pop (wordN p.ts p.ts.length) < 2 ^ p.n.toNat := by
  have h := wordN_top hp _ (Nat.le_refl _)
  have hm : (2 : Nat) ^ p.n.toNat ≤ 2 ^ 5 := Nat.pow_le_pow_right (by omega) (by have := hp.1; omega)
  have h0 : 0 < (2 : Nat) ^ p.n.toNat := Nat.pow_pos (by decide)
  have hl := pop_lt (m := 2 ^ p.n.toNat - 1) (by omega) h
  exact ⟨Nat.lt_of_lt_of_le h (show 2 ^ (2 ^ p.n.toNat - 1) ≤ 2 ^ 31 from Nat.pow_le_pow_right (by omega) (by omega)), by omega⟩
noncomputable def leastG (p : PP) : Int := if ppB p = true then ((near p.n.toNat (wordN p.ts p.ts.length)).2 : Int) else 0
theorem leastG_1 {p : PP} (h : ppB p = true) : leastG p = ((near p.n.toNat (wordN p.ts p.ts.length)).2 : Int) := if_pos h
theorem leastG_0 {p : PP} (h : ppB p = false) : leastG p = 0 := if_neg (by rw [h]; exact Bool.false_ne_true)
set_option maxHeartbeats 2000000 in
theorem spec_l15Least_any (q c c2 : Nat) (ph : Int) (ts : List E2) (out : List Int) (A A2 : Option Addr) (w : World) (h : RdE w (.slice A ts.length c) E2.cs 2 ts) (ht : Tame ts) (q1 : 1 ≤ q) (q5 : q ≤ 5) (hx : wordN ts ts.length < 2147483648) :
    Calls Try.prog 67 #[.agg #[.int .i64 (q : Int), .int .i64 ph, .slice A ts.length c, .slice A2 out.length c2]] w fun e w' => e = .returned (.int .i64 ((near q (wordN ts ts.length)).2 : Int)) ∧ Below w.heap.size w w' := by
  have H := Lib.hid h; have HT := Lib.hid ht; have HX := Lib.hid hx
  clear h ht hx
  go_enter Try.func67, Try.ntmps67
  go_wp2_with fail
  go_region_held3 (fun w' => w'.cell? ⟨w.heap.size, 0, none⟩ = some (.int .i64 (q : Int)) ∧ w'.cell? ⟨w.heap.size, 1, none⟩ = some (.int .i64 ph) ∧ w'.cell? ⟨w.heap.size, 2, none⟩ = some (.slice A ts.length c) ∧ w'.cell? ⟨w.heap.size, 3, none⟩ = some (.slice A2 out.length c2)) (first | go_keep | (go_split_ands; refine ⟨?_, ?_, ?_, ?_⟩ <;> (refine below_cell hbA rfl ?_; assumption)) | (go_split_ands; refine ⟨?_, ?_, ?_, ?_⟩ <;> (refine below_cell hbB rfl ?_; assumption))) (first
      | (go_at_call 53; go_must (refine (spec_l15Odd_any _ _ ⟨(q : Int), ph, ts, out⟩ _ (Rd.below H.out (by repeat (first | exact Below.refl _ _ | assumption | refine Below.drew ?_ | refine below_drewN ?_ _ | refine Below.alloc ?_ (by first | omega | (simp <;> omega)) _ | refine Below.setCell ?_ (by first | omega | (simp <;> omega)) _ | refine Below.trans ?_ (Below.mono (by assumption) (by first | omega | (simp <;> omega))))) rfl) HT.out).mono ?_; rintro e wA ⟨rfl, hbA⟩; have zA := hbA.size; (try simp at zA)))
      | (go_at_call 65; go_must (refine (spec_l15Nearest_any q (wordN ts ts.length) _ q1 q5 HX.out).mono ?_; rintro e wB ⟨rfl, hbB⟩; have zB := hbB.size; (try simp at zB))))
  all_goals
    go_wp2_with fail
    go_ret
    exact ⟨rfl, (by repeat (first | exact Below.refl _ _ | assumption | refine Below.drew ?_ | refine below_drewN ?_ _ | refine Below.alloc ?_ (by first | omega | (simp <;> omega)) _ | refine Below.setCell ?_ (by first | omega | (simp <;> omega)) _ | refine Below.trans ?_ (Below.mono (by assumption) (by first | omega | (simp <;> omega)))))⟩
set_option maxHeartbeats 2000000 in
theorem spec_LeastT_any (v u : Value) (p : PP) (w : World) (h : RdE w v E2.cs 2 p.ts) (hu : RdI w u p.out) (hl : p.ts.length ≤ 1048576) (hm : p.out.length ≤ 1048576) :
    Calls Try.prog 30 #[.agg #[.int .i64 p.n, .int .i64 p.ph, v, u]] w fun e w' => e = .returned (.tuple #[.int .i64 (leastG p), .bool (ppB p)]) ∧ Below w.heap.size w w' := by
  have H := Lib.hid h; have HU := Lib.hid hu
  obtain ⟨A, c, rfl, _⟩ := h.form
  obtain ⟨A2, c2, rfl, _⟩ := hu.form
  clear h hu
  cases hb : ppB p with
  | false =>
    have HG := Lib.hid (leastG_0 hb)
    have HB := Lib.hid hb; clear hb
    go_enter Try.func30, Try.ntmps30
    go_wp2_with fail
    refine (spec_l13Valid_any _ _ p _ (Rd.below H.out (show Below w.heap.size w _ from (by repeat (first | exact Below.refl _ _ | assumption | refine Below.drew ?_ | refine below_drewN ?_ _ | refine Below.alloc ?_ (by first | omega | (simp <;> omega)) _ | refine Below.setCell ?_ (by first | omega | (simp <;> omega)) _ | refine Below.trans ?_ (Below.mono (by assumption) (by first | omega | (simp <;> omega)))))) rfl) (Rd.below HU.out (show Below w.heap.size w _ from (by repeat (first | exact Below.refl _ _ | assumption | refine Below.drew ?_ | refine below_drewN ?_ _ | refine Below.alloc ?_ (by first | omega | (simp <;> omega)) _ | refine Below.setCell ?_ (by first | omega | (simp <;> omega)) _ | refine Below.trans ?_ (Below.mono (by assumption) (by first | omega | (simp <;> omega)))))) rfl) hl hm).mono ?_; rintro e w1 ⟨rfl, hb1⟩; rw [HB.out]
    go_wp2_with fail
    go_ret2
    exact ⟨ret_ib HG.out.symm rfl, (by repeat (first | exact Below.refl _ _ | assumption | refine Below.drew ?_ | refine below_drewN ?_ _ | refine Below.alloc ?_ (by first | omega | (simp <;> omega)) _ | refine Below.setCell ?_ (by first | omega | (simp <;> omega)) _ | refine Below.trans ?_ (Below.mono (by assumption) (by first | omega | (simp <;> omega)))))⟩
  | true =>
    have HG := Lib.hid (leastG_1 hb)
    have hok := ppB_if hb
    have HT := Lib.hid hok.tame
    have hpp := wordN_pop hok
    have hn := hok.1
    have HB := Lib.hid hb; clear hb hok
    obtain ⟨n, ph, ts, out⟩ := p
    dsimp only at hn hpp HT HG H HU hl hm ⊢
    obtain ⟨q, rfl⟩ := Int.eq_ofNat_of_zero_le (show 0 ≤ n by omega)
    rw [Int.toNat_natCast] at HG hpp
    have q1 : 1 ≤ q := by omega
    have q5 : q ≤ 5 := by omega
    obtain ⟨hx31, hxp⟩ := hpp
    have HX := Lib.hid hx31; have HXP := Lib.hid hxp
    clear hn hx31 hxp
    go_enter Try.func30, Try.ntmps30
    go_wp2_with fail
    refine (spec_l13Valid_any _ _ ⟨(q : Int), ph, ts, out⟩ _ (Rd.below H.out (show Below w.heap.size w _ from (by repeat (first | exact Below.refl _ _ | assumption | refine Below.drew ?_ | refine below_drewN ?_ _ | refine Below.alloc ?_ (by first | omega | (simp <;> omega)) _ | refine Below.setCell ?_ (by first | omega | (simp <;> omega)) _ | refine Below.trans ?_ (Below.mono (by assumption) (by first | omega | (simp <;> omega)))))) rfl) (Rd.below HU.out (show Below w.heap.size w _ from (by repeat (first | exact Below.refl _ _ | assumption | refine Below.drew ?_ | refine below_drewN ?_ _ | refine Below.alloc ?_ (by first | omega | (simp <;> omega)) _ | refine Below.setCell ?_ (by first | omega | (simp <;> omega)) _ | refine Below.trans ?_ (Below.mono (by assumption) (by first | omega | (simp <;> omega)))))) rfl) hl hm).mono ?_; rintro e w1 ⟨rfl, hb1⟩; rw [HB.out]
    have r0 : w1.cell? ⟨w.heap.size, 0, none⟩ = some (.int .i64 (q : Int)) := below_cell hb1 rfl (by repeat (first | (refine Eq.trans (World.cell?_alloc_at _ _ _ _ ?hh) ?_; (case hh => (simp; done)); rfl) | refine cell_alloc_keep _ ?_))
    have r1 : w1.cell? ⟨w.heap.size, 1, none⟩ = some (.int .i64 ph) := below_cell hb1 rfl (by repeat (first | (refine Eq.trans (World.cell?_alloc_at _ _ _ _ ?hh) ?_; (case hh => (simp; done)); rfl) | refine cell_alloc_keep _ ?_))
    have r2 : w1.cell? ⟨w.heap.size, 2, none⟩ = some (.slice A ts.length c) := below_cell hb1 rfl (by repeat (first | (refine Eq.trans (World.cell?_alloc_at _ _ _ _ ?hh) ?_; (case hh => (simp; done)); rfl) | refine cell_alloc_keep _ ?_))
    have r3 : w1.cell? ⟨w.heap.size, 3, none⟩ = some (.slice A2 out.length c2) := below_cell hb1 rfl (by repeat (first | (refine Eq.trans (World.cell?_alloc_at _ _ _ _ ?hh) ?_; (case hh => (simp; done)); rfl) | refine cell_alloc_keep _ ?_))
    have z1 := hb1.size; (try simp at z1)
    have bw : Below w.heap.size w w1 := (by repeat (first | exact Below.refl _ _ | assumption | refine Below.drew ?_ | refine below_drewN ?_ _ | refine Below.alloc ?_ (by first | omega | (simp <;> omega)) _ | refine Below.setCell ?_ (by first | omega | (simp <;> omega)) _ | refine Below.trans ?_ (Below.mono (by assumption) (by first | omega | (simp <;> omega)))))
    clear hb1
    go_wp2_with fail
    refine (spec_l15Least_any q c c2 ph ts out A A2 _ (Rd.below H.out bw rfl) HT.out q1 q5 HX.out).mono ?_; rintro e w2 ⟨rfl, hb2⟩
    go_wp2_with fail
    go_ret2
    exact ⟨ret_ib HG.out.symm rfl, below_step bw hb2⟩
set_option maxHeartbeats 2000000 in
theorem impl_LeastT_any (v u : Value) (p : PP) (w : World) (h : RdE w v E2.cs 2 p.ts) (hu : RdI w u p.out) (hl : p.ts.length ≤ 1048576) (hm : p.out.length ≤ 1048576) :
    Calls Try.prog 31 #[.agg #[.int .i64 p.n, .int .i64 p.ph, v, u]] w fun e w' => e = .returned (.tuple #[.int .i64 (leastG p), .bool (ppB p)]) ∧ Below w.heap.size w w' := by
  have H := Lib.hid h; have HU := Lib.hid hu
  obtain ⟨A, c, rfl, _⟩ := h.form
  obtain ⟨A2, c2, rfl, _⟩ := hu.form
  clear h hu
  cases hb : ppB p with
  | false =>
    have HG := Lib.hid (leastG_0 hb)
    have HB := Lib.hid hb; clear hb
    go_enter Try.func31, Try.ntmps31
    go_wp2_with fail
    refine (impl_IsValidPhasePoly_any _ _ p _ (Rd.below H.out (show Below w.heap.size w _ from (by repeat (first | exact Below.refl _ _ | assumption | refine Below.drew ?_ | refine below_drewN ?_ _ | refine Below.alloc ?_ (by first | omega | (simp <;> omega)) _ | refine Below.setCell ?_ (by first | omega | (simp <;> omega)) _ | refine Below.trans ?_ (Below.mono (by assumption) (by first | omega | (simp <;> omega)))))) rfl) (Rd.below HU.out (show Below w.heap.size w _ from (by repeat (first | exact Below.refl _ _ | assumption | refine Below.drew ?_ | refine below_drewN ?_ _ | refine Below.alloc ?_ (by first | omega | (simp <;> omega)) _ | refine Below.setCell ?_ (by first | omega | (simp <;> omega)) _ | refine Below.trans ?_ (Below.mono (by assumption) (by first | omega | (simp <;> omega)))))) rfl) hl hm).mono ?_; rintro e w1 ⟨rfl, hb1⟩; rw [HB.out]
    go_wp2_with fail
    go_ret2
    exact ⟨ret_ib HG.out.symm rfl, (by repeat (first | exact Below.refl _ _ | assumption | refine Below.drew ?_ | refine below_drewN ?_ _ | refine Below.alloc ?_ (by first | omega | (simp <;> omega)) _ | refine Below.setCell ?_ (by first | omega | (simp <;> omega)) _ | refine Below.trans ?_ (Below.mono (by assumption) (by first | omega | (simp <;> omega)))))⟩
  | true =>
    have HG := Lib.hid (leastG_1 hb)
    have hok := ppB_if hb
    have HT := Lib.hid hok.tame
    have hpp := wordN_pop hok
    have hn := hok.1
    have HB := Lib.hid hb; clear hb hok
    obtain ⟨n, ph, ts, out⟩ := p
    dsimp only at hn hpp HT HG H HU hl hm ⊢
    obtain ⟨q, rfl⟩ := Int.eq_ofNat_of_zero_le (show 0 ≤ n by omega)
    rw [Int.toNat_natCast] at HG hpp
    have q1 : 1 ≤ q := by omega
    have q5 : q ≤ 5 := by omega
    obtain ⟨hx31, hxp⟩ := hpp
    have HX := Lib.hid hx31; have HXP := Lib.hid hxp
    clear hn hx31 hxp
    go_enter Try.func31, Try.ntmps31
    go_wp2_with fail
    refine (impl_IsValidPhasePoly_any _ _ ⟨(q : Int), ph, ts, out⟩ _ (Rd.below H.out (show Below w.heap.size w _ from (by repeat (first | exact Below.refl _ _ | assumption | refine Below.drew ?_ | refine below_drewN ?_ _ | refine Below.alloc ?_ (by first | omega | (simp <;> omega)) _ | refine Below.setCell ?_ (by first | omega | (simp <;> omega)) _ | refine Below.trans ?_ (Below.mono (by assumption) (by first | omega | (simp <;> omega)))))) rfl) (Rd.below HU.out (show Below w.heap.size w _ from (by repeat (first | exact Below.refl _ _ | assumption | refine Below.drew ?_ | refine below_drewN ?_ _ | refine Below.alloc ?_ (by first | omega | (simp <;> omega)) _ | refine Below.setCell ?_ (by first | omega | (simp <;> omega)) _ | refine Below.trans ?_ (Below.mono (by assumption) (by first | omega | (simp <;> omega)))))) rfl) hl hm).mono ?_; rintro e w1 ⟨rfl, hb1⟩; rw [HB.out]
    have r0 : w1.cell? ⟨w.heap.size, 0, none⟩ = some (.int .i64 (q : Int)) := below_cell hb1 rfl (by repeat (first | (refine Eq.trans (World.cell?_alloc_at _ _ _ _ ?hh) ?_; (case hh => (simp; done)); rfl) | refine cell_alloc_keep _ ?_))
    have r1 : w1.cell? ⟨w.heap.size, 1, none⟩ = some (.int .i64 ph) := below_cell hb1 rfl (by repeat (first | (refine Eq.trans (World.cell?_alloc_at _ _ _ _ ?hh) ?_; (case hh => (simp; done)); rfl) | refine cell_alloc_keep _ ?_))
    have r2 : w1.cell? ⟨w.heap.size, 2, none⟩ = some (.slice A ts.length c) := below_cell hb1 rfl (by repeat (first | (refine Eq.trans (World.cell?_alloc_at _ _ _ _ ?hh) ?_; (case hh => (simp; done)); rfl) | refine cell_alloc_keep _ ?_))
    have r3 : w1.cell? ⟨w.heap.size, 3, none⟩ = some (.slice A2 out.length c2) := below_cell hb1 rfl (by repeat (first | (refine Eq.trans (World.cell?_alloc_at _ _ _ _ ?hh) ?_; (case hh => (simp; done)); rfl) | refine cell_alloc_keep _ ?_))
    have z1 := hb1.size; (try simp at z1)
    have bw : Below w.heap.size w w1 := (by repeat (first | exact Below.refl _ _ | assumption | refine Below.drew ?_ | refine below_drewN ?_ _ | refine Below.alloc ?_ (by first | omega | (simp <;> omega)) _ | refine Below.setCell ?_ (by first | omega | (simp <;> omega)) _ | refine Below.trans ?_ (Below.mono (by assumption) (by first | omega | (simp <;> omega)))))
    clear hb1
    go_wp2_with fail
    go_region_held3 (fun w' => w'.cell? ⟨w.heap.size, 0, none⟩ = some (.int .i64 (q : Int)) ∧ w'.cell? ⟨w.heap.size, 1, none⟩ = some (.int .i64 ph) ∧ w'.cell? ⟨w.heap.size, 2, none⟩ = some (.slice A ts.length c) ∧ w'.cell? ⟨w.heap.size, 3, none⟩ = some (.slice A2 out.length c2)) (first | go_keep | (go_split_ands; refine ⟨?_, ?_, ?_, ?_⟩ <;> (refine below_cell hbA rfl ?_; assumption)) | (go_split_ands; refine ⟨?_, ?_, ?_, ?_⟩ <;> (refine below_cell hbB rfl ?_; assumption))) (first
        | (go_at_call 54; go_must (refine (impl_oddWord_any _ _ ⟨(q : Int), ph, ts, out⟩ _ (Rd.below H.out (by repeat (first | exact Below.refl _ _ | assumption | refine Below.drew ?_ | refine below_drewN ?_ _ | refine Below.alloc ?_ (by first | omega | (simp <;> omega)) _ | refine Below.setCell ?_ (by first | omega | (simp <;> omega)) _ | refine Below.trans ?_ (Below.mono (by assumption) (by first | omega | (simp <;> omega))))) rfl) HT.out).mono ?_; rintro e wA ⟨rfl, hbA⟩; have zA := hbA.size; (try simp at zA)))
        | (go_at_call 66; go_must (refine (impl_nearest_any q (wordN ts ts.length) _ q1 q5 HX.out HXP.out).mono ?_; rintro e wB ⟨rfl, hbB⟩; have zB := hbB.size; (try simp at zB))))
    all_goals
      go_wp2_with fail
      go_ret2
      exact ⟨ret_ib HG.out.symm rfl, (by repeat (first | exact Below.refl _ _ | assumption | refine Below.drew ?_ | refine below_drewN ?_ _ | refine Below.alloc ?_ (by first | omega | (simp <;> omega)) _ | refine Below.setCell ?_ (by first | omega | (simp <;> omega)) _ | refine Below.trans ?_ (Below.mono (by assumption) (by first | omega | (simp <;> omega)))))⟩
end Go.Proofs.Ytlelcnlibacnaaa
