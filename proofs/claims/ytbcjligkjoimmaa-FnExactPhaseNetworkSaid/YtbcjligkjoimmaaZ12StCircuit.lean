/- Circuit: the laws' helpers. -/
import Derived.Test.YtbcjligkjoimmaaZ06TyGate
import Derived.Test.YtbcjligkjoimmaaZ07Dat
namespace Go.Proofs.Ytbcjligkjoimmaa
set_option linter.unusedSimpArgs false
set_option linter.unusedVariables false
set_option linter.unnecessarySimpa false
set_option maxRecDepth 200000
open Go.ChangeShapes Go.WideShapes Go.ChangeAt Go.RowKit

theorem laws_eqCircuit_same (d : Circ) (w : World) (v0 u0 : Value) (h0 : RdE w v0 E3.cs 3 d.gs) (k0 : RdE w u0 E3.cs 3 d.gs) :
    Calls Try.prog 8 #[.agg #[.int .i64 d.n, v0], .agg #[.int .i64 d.n, u0]] w fun e w' => e = .returned (.bool true) ∧ Below w.heap.size w w' := by
  obtain ⟨a0, cap0, rfl, hl0⟩ := h0.form
  have H0 := Lib.hid h0; clear h0
  obtain ⟨a0k, cap0k, rfl, kl0⟩ := k0.form
  have K0 := Lib.hid k0; clear k0
  have z0 : ((d.n : Int) != d.n) = false := by simp
  go_enter Try.func8, Try.ntmps8
  go_wp2_with fail
  all_goals (try go_quiet (fail))
  go_wp2_with fail
  refine (laws_eqGateS_any _ _ d.gs d.gs _ (Rd.below H0.out (show Below w.heap.size w _ from (by repeat (first | exact Below.refl _ _ | assumption | refine Below.drew ?_ | refine below_drewN ?_ _ | refine Below.alloc ?_ (by first | omega | (simp <;> omega)) _ | refine Below.setCell ?_ (by first | omega | (simp <;> omega)) _ | refine Below.trans ?_ (Below.mono (by assumption) (by first | omega | (simp <;> omega)))))) rfl) (Rd.below K0.out (show Below w.heap.size w _ from (by repeat (first | exact Below.refl _ _ | assumption | refine Below.drew ?_ | refine below_drewN ?_ _ | refine Below.alloc ?_ (by first | omega | (simp <;> omega)) _ | refine Below.setCell ?_ (by first | omega | (simp <;> omega)) _ | refine Below.trans ?_ (Below.mono (by assumption) (by first | omega | (simp <;> omega)))))) rfl)).mono ?_; rintro e w1 ⟨rfl, hb1⟩
  rw [show decide (d.gs = d.gs) = true from decide_eq_true rfl]
  obtain ⟨hc_hb1, hf_hb1⟩ := bcell hb1; have hz_hb1 := hb1.size; (try simp at hz_hb1); have hs0_hb1 : w.heap.size < w1.heap.size := (by omega); have hs1_hb1 : w.heap.size + 1 < w1.heap.size := (by omega)
  go_wp2_with fail
  go_ret
  exact ⟨rfl, (by repeat (first | exact Below.refl _ _ | assumption | refine Below.drew ?_ | refine below_drewN ?_ _ | refine Below.alloc ?_ (by first | omega | (simp <;> omega)) _ | refine Below.setCell ?_ (by first | omega | (simp <;> omega)) _ | refine Below.trans ?_ (Below.mono (by assumption) (by first | omega | (simp <;> omega)))))⟩
theorem laws_markCircuit_any (z0 : Int) (v0 : Value) (base n0 : Nat) (x0 : List Value) (k : Int) (w : World) (h0 : w.ownsRow base 58 3 v0 n0 (x0)) (hk0 : 0 ≤ k) (hk1 : k + n0 * 3 ≤ 4611686018427387904) (hn : n0 ≤ 1000000000000) :
    Calls Try.prog 11 #[.agg #[.int .i64 z0, v0], .int .i64 k] w fun e w' => e = .returned (.int .i64 (k + ((n0 * 3 : Nat) : Int))) ∧ w'.ownsRow base 58 3 v0 n0 (marks (k) (n0 * 3)) ∧ w.grownBy w' v0.ownBlock := by
  have h2 := Lib.hid (fun X => h0.alloc X)
  have hg := Lib.hid (fun X => World.grownBy_alloc w X v0.ownBlock)
  go_enter Try.func11, Try.ntmps11
  go_wp2_with fail
  refine (laws_markGateS_any v0 base n0 x0 k _ (h2.out _) hk0 hk1 hn).mono ?_; rintro e w1 ⟨rfl, ho, hgr⟩
  have Ho := Lib.hid ho; have Hg := Lib.hid hgr; clear ho hgr
  go_wp2_with fail
  go_ret
  exact ⟨rfl, Ho.out, grown_trans (hg.out _) Hg.out⟩
theorem laws_heldCircuit_any (z0 : Int) (v0 : Value) (n0 : Nat) (k : Int) (w : World) (h : Rd w v0 n0 3 (marks (k) (n0 * 3))) (hk0 : 0 ≤ k) (hk1 : k + n0 * 3 ≤ 4611686018427387904) (hn : n0 ≤ 1000000000000) :
    Calls Try.prog 12 #[.agg #[.int .i64 z0, v0], .int .i64 k] w fun e w' => e = .returned (.int .i64 (k + ((n0 * 3 : Nat) : Int))) ∧ Below w.heap.size w w' := by
  have h2 := Lib.hid (fun X => Rd.below h (show Below w.heap.size w (w.alloc X) from (by repeat (first | exact Below.refl _ _ | assumption | refine Below.drew ?_ | refine below_drewN ?_ _ | refine Below.alloc ?_ (by first | omega | (simp <;> omega)) _ | refine Below.setCell ?_ (by first | omega | (simp <;> omega)) _ | refine Below.trans ?_ (Below.mono (by assumption) (by first | omega | (simp <;> omega)))))) rfl)
  have hne : ¬ k + ((n0 * 3 : Nat) : Int) < 0 := by omega
  go_enter Try.func12, Try.ntmps12
  go_wp2_with fail
  refine (laws_heldGateS_any v0 n0 k _ (h2.out _) hk0 hk1 hn).mono ?_; rintro e w1 ⟨rfl, hb1⟩
  go_wp2_with fail
  go_ret
  exact ⟨rfl, (by repeat (first | exact Below.refl _ _ | assumption | refine Below.drew ?_ | refine below_drewN ?_ _ | refine Below.alloc ?_ (by first | omega | (simp <;> omega)) _ | refine Below.setCell ?_ (by first | omega | (simp <;> omega)) _ | refine Below.trans ?_ (Below.mono (by assumption) (by first | omega | (simp <;> omega)))))⟩
end Go.Proofs.Ytbcjligkjoimmaa
