/- Diagram: the laws' helpers. -/
import Derived.Test.YtliophgfgmjhiaaGreatDoorZ01M
import Derived.Test.YtliophgfgmjhiaaGreatDoorZ00M
import Derived.Test.YtliophgfgmjhiaaGreatDoorZ43MkWire
namespace Go.Proofs.YtliophgfgmjhiaaGreatDoor
set_option linter.unusedSimpArgs false
set_option linter.unusedVariables false
set_option linter.unnecessarySimpa false
set_option maxRecDepth 200000
open Go.ChangeShapes Go.WideShapes Go.ChangeAt Go.RowKit

set_option maxHeartbeats 4000000 in
theorem laws_eqDiagram_same (d : Dia) (w : World) (v0 v1 u0 u1 : Value) (h0 : RdE w v0 E2.cs 2 d.ns) (h1 : RdE w v1 EW.cs 3 d.ws) (k0 : RdE w u0 E2.cs 2 d.ns) (k1 : RdE w u1 EW.cs 3 d.ws) :
    Calls Tryz.prog 6 #[.agg #[.int .i64 d.n, v0, v1, .int .i64 d.turn, .int .i64 d.root], .agg #[.int .i64 d.n, u0, u1, .int .i64 d.turn, .int .i64 d.root]] w fun e w' => e = .returned (.bool true) ∧ Below w.heap.size w w' := by
  obtain ⟨a0, cap0, rfl, hl0⟩ := h0.form
  have H0 := Lib.hid h0; clear h0
  obtain ⟨a1, cap1, rfl, hl1⟩ := h1.form
  have H1 := Lib.hid h1; clear h1
  obtain ⟨a0k, cap0k, rfl, kl0⟩ := k0.form
  have K0 := Lib.hid k0; clear k0
  obtain ⟨a1k, cap1k, rfl, kl1⟩ := k1.form
  have K1 := Lib.hid k1; clear k1
  have z0 : ((d.n : Int) != d.n) = false := by simp
  have z3 : ((d.turn : Int) != d.turn) = false := by simp
  have z4 : ((d.root : Int) != d.root) = false := by simp
  go_enter Tryz.func6, Tryz.ntmps6
  go_wp2_with fail
  refine (laws_eqNodeS_any _ _ d.ns d.ns _ (Rd.below H0.out (show Below w.heap.size w _ from (by repeat (first | exact Below.refl _ _ | assumption | refine Below.drew ?_ | refine below_drewN ?_ _ | refine Below.alloc ?_ (by first | omega | (simp <;> omega)) _ | refine Below.setCell ?_ (by first | omega | (simp <;> omega)) _ | refine Below.trans ?_ (Below.mono (by assumption) (by first | omega | (simp <;> omega)))))) rfl) (Rd.below K0.out (show Below w.heap.size w _ from (by repeat (first | exact Below.refl _ _ | assumption | refine Below.drew ?_ | refine below_drewN ?_ _ | refine Below.alloc ?_ (by first | omega | (simp <;> omega)) _ | refine Below.setCell ?_ (by first | omega | (simp <;> omega)) _ | refine Below.trans ?_ (Below.mono (by assumption) (by first | omega | (simp <;> omega)))))) rfl)).mono ?_; rintro e w1 ⟨rfl, hb1⟩
  rw [show decide (d.ns = d.ns) = true from decide_eq_true rfl]
  obtain ⟨hc_hb1, hf_hb1⟩ := bcell hb1; have hz_hb1 := hb1.size; (try simp at hz_hb1); have hs0_hb1 : w.heap.size < w1.heap.size := (by omega); have hs1_hb1 : w.heap.size + 1 < w1.heap.size := (by omega)
  go_wp2_with fail
  refine (laws_eqWireS_any _ _ d.ws d.ws _ (Rd.below H1.out (show Below w.heap.size w _ from (by repeat (first | exact Below.refl _ _ | assumption | refine Below.drew ?_ | refine below_drewN ?_ _ | refine Below.alloc ?_ (by first | omega | (simp <;> omega)) _ | refine Below.setCell ?_ (by first | omega | (simp <;> omega)) _ | refine Below.trans ?_ (Below.mono (by assumption) (by first | omega | (simp <;> omega)))))) rfl) (Rd.below K1.out (show Below w.heap.size w _ from (by repeat (first | exact Below.refl _ _ | assumption | refine Below.drew ?_ | refine below_drewN ?_ _ | refine Below.alloc ?_ (by first | omega | (simp <;> omega)) _ | refine Below.setCell ?_ (by first | omega | (simp <;> omega)) _ | refine Below.trans ?_ (Below.mono (by assumption) (by first | omega | (simp <;> omega)))))) rfl)).mono ?_; rintro e w2 ⟨rfl, hb2⟩
  rw [show decide (d.ws = d.ws) = true from decide_eq_true rfl]
  obtain ⟨hc_hb2, hf_hb2⟩ := bcell hb2; have hz_hb2 := hb2.size; (try simp at hz_hb2); have hs0_hb2 : w.heap.size < w2.heap.size := (by omega); have hs1_hb2 : w.heap.size + 1 < w2.heap.size := (by omega)
  go_wp2_with fail
  go_ret
  exact ⟨rfl, (by repeat (first | exact Below.refl _ _ | assumption | refine Below.drew ?_ | refine below_drewN ?_ _ | refine Below.alloc ?_ (by first | omega | (simp <;> omega)) _ | refine Below.setCell ?_ (by first | omega | (simp <;> omega)) _ | refine Below.trans ?_ (Below.mono (by assumption) (by first | omega | (simp <;> omega)))))⟩
set_option maxHeartbeats 1000000 in
theorem laws_markDiagram_any (z0 z3 z4 : Int) (v0 v1 : Value) (base n0 n1 : Nat) (x0 : List Value) (x1 : List Value) (k : Int) (w : World) (h0 : w.ownsRow base 36 2 v0 n0 (x0)) (h1 : w.ownsRow base 40 3 v1 n1 (x1)) (hap : Apart v0 v1) (hk0 : 0 ≤ k) (hk1 : k ≤ 1000000000000) (hn0 : n0 ≤ 10000000) (hn1 : n1 ≤ 10000000) :
    Calls Tryz.prog 7 #[.agg #[.int .i64 z0, v0, v1, .int .i64 z3, .int .i64 z4], .int .i64 k] w fun e w' => e = .returned (.int .i64 (k + ((n0 * 2 : Nat) : Int) + ((n1 * 3 : Nat) : Int))) ∧ w'.ownsRow base 36 2 v0 n0 (marks (k) (n0 * 2)) ∧ w'.ownsRow base 40 3 v1 n1 (marksW (k + ((n0 * 2 : Nat) : Int)) (n1 * 3)) ∧
      ∀ lo hi, (∀ g, v0.ownBlock = some g → lo ≤ g ∧ g < hi) → (∀ g, v1.ownBlock = some g → lo ≤ g ∧ g < hi) → Mid lo hi w w' := by
  have F0 := own_form h0
  have F1 := own_form h1
  obtain ⟨a0, cap0, rfl⟩ := F0
  obtain ⟨a1, cap1, rfl⟩ := F1
  have H0 := Lib.hid h0; have H1 := Lib.hid h1; have HA := Lib.hid hap; clear h0 h1 hap
  go_enter Tryz.func7, Tryz.ntmps7
  go_wp2_with fail
  refine (laws_markNodeS_any _ base n0 x0 k _ (H0.out.alloc _) hk0 (by omega) (by omega)).mono ?_; rintro e w1 ⟨rfl, ho0, hg0⟩
  have K1 := Lib.hid (own_other hg0 (H1.out.alloc _) (fun g h1 h2 => HA.out g h2 h1))
  have C1 := Lib.hid (fun o u (h : (w.alloc (.cells #[.int .i64 z0, .slice a0 n0 cap0, .slice a1 n1 cap1, .int .i64 z3, .int .i64 z4] 25)).cell? ⟨w.heap.size, o, none⟩ = some u) => grown_cell_new hg0 H0.out h)
  have c1 : w1.cell? ⟨w.heap.size, 2, none⟩ = some (.slice a1 n1 cap1) := C1.out _ _ (by repeat (first | (refine Eq.trans (World.cell?_alloc_at _ _ _ _ ?hh) ?_; (case hh => (simp; done)); rfl) | refine cell_alloc_keep _ ?_))
  have G0 := Lib.hid hg0; have O0 := Lib.hid ho0; clear hg0 ho0 C1
  go_wp2_with fail
  refine (laws_markWireS_any _ base n1 x1 _ _ K1.out (by omega) (by omega) (by omega)).mono ?_; rintro e w2 ⟨rfl, ho1, hg1⟩
  have G1 := Lib.hid hg1; have O1 := Lib.hid ho1; clear hg1 ho1
  go_wp2_with fail
  go_ret
  refine ⟨ret_int (by omega), own_other G1.out O0.out (fun g h1 h2 => HA.out g h1 h2), O1.out, fun lo hi h1 h2 => ?_⟩
  exact ((Mid.alloc w lo hi _).trans (Mid.of_grown G0.out h1)).trans (Mid.of_grown G1.out h2)
theorem laws_heldDiagram_any (z0 z3 z4 : Int) (v0 v1 : Value) (n0 n1 : Nat) (k : Int) (w : World) (h0 : Rd w v0 n0 2 (marks (k) (n0 * 2))) (h1 : Rd w v1 n1 3 (marksW (k + ((n0 * 2 : Nat) : Int)) (n1 * 3))) (hk0 : 0 ≤ k) (hk1 : k ≤ 1000000000000) (hn0 : n0 ≤ 10000000) (hn1 : n1 ≤ 10000000) :
    Calls Tryz.prog 8 #[.agg #[.int .i64 z0, v0, v1, .int .i64 z3, .int .i64 z4], .int .i64 k] w fun e w' => e = .returned (.int .i64 (k + ((n0 * 2 : Nat) : Int) + ((n1 * 3 : Nat) : Int))) ∧ Below w.heap.size w w' := by
  obtain ⟨a0, cap0, rfl⟩ := Rd.form_any h0
  obtain ⟨a1, cap1, rfl⟩ := Rd.form_any h1
  have H0 := Lib.hid h0; have H1 := Lib.hid h1; clear h0 h1
  have hne : ¬ k + ((n0 * 2 : Nat) : Int) < 0 := by omega
  have hne2 : ¬ k + ((n0 * 2 : Nat) : Int) + ((n1 * 3 : Nat) : Int) < 0 := by omega
  go_enter Tryz.func8, Tryz.ntmps8
  go_wp2_with fail
  refine (laws_heldNodeS_any _ n0 k _ (Rd.below H0.out (show Below w.heap.size w _ from (by repeat (first | exact Below.refl _ _ | assumption | refine Below.drew ?_ | refine below_drewN ?_ _ | refine Below.alloc ?_ (by first | omega | (simp <;> omega)) _ | refine Below.setCell ?_ (by first | omega | (simp <;> omega)) _ | refine Below.trans ?_ (Below.mono (by assumption) (by first | omega | (simp <;> omega)))))) rfl) hk0 (by omega) (by omega)).mono ?_; rintro e w1 ⟨rfl, hb1⟩
  obtain ⟨hc_hb1, hf_hb1⟩ := bcell hb1; have hz_hb1 := hb1.size; (try simp at hz_hb1); have hs0_hb1 : w.heap.size < w1.heap.size := (by omega)
  go_wp2_with fail
  refine (laws_heldWireS_any _ n1 _ _ (Rd.below H1.out (show Below w.heap.size w w1 from (by repeat (first | exact Below.refl _ _ | assumption | refine Below.drew ?_ | refine below_drewN ?_ _ | refine Below.alloc ?_ (by first | omega | (simp <;> omega)) _ | refine Below.setCell ?_ (by first | omega | (simp <;> omega)) _ | refine Below.trans ?_ (Below.mono (by assumption) (by first | omega | (simp <;> omega)))))) rfl) (by omega) (by omega) (by omega)).mono ?_; rintro e w2 ⟨rfl, hb2⟩
  obtain ⟨hc_hb2, hf_hb2⟩ := bcell hb2; have hz_hb2 := hb2.size; (try simp at hz_hb2); have hs0_hb2 : w.heap.size < w2.heap.size := (by omega)
  go_wp2_with fail
  go_ret
  exact ⟨ret_int (by omega), (by repeat (first | exact Below.refl _ _ | assumption | refine Below.drew ?_ | refine below_drewN ?_ _ | refine Below.alloc ?_ (by first | omega | (simp <;> omega)) _ | refine Below.setCell ?_ (by first | omega | (simp <;> omega)) _ | refine Below.trans ?_ (Below.mono (by assumption) (by first | omega | (simp <;> omega)))))⟩
end Go.Proofs.YtliophgfgmjhiaaGreatDoor
