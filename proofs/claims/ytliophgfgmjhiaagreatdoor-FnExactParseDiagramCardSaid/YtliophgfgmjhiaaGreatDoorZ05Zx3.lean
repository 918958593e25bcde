/- A diagram's validity: the reference's test. -/
import Derived.Test.YtliophgfgmjhiaaGreatDoorZ03Zx2
import Derived.Test.YtliophgfgmjhiaaGreatDoorZ04Brk
import Derived.BigRegion
import Derived.BigQuiet
import Derived.Deep.DeepCutAuto
namespace Go.Proofs.YtliophgfgmjhiaaGreatDoor
set_option linter.unusedSimpArgs false
set_option linter.unusedVariables false
set_option linter.unnecessarySimpa false
set_option maxRecDepth 200000
open Go.ChangeShapes Go.WideShapes Go.ChangeAt Go.RowKit

noncomputable instance (d : Dia) (k : Nat) : Decidable (zxNode d k) := Classical.propDecidable _
noncomputable instance (d : Dia) (k : Nat) : Decidable (zxWire d k) := Classical.propDecidable _
noncomputable instance (d : Dia) : Decidable (GoodS d) := Classical.propDecidable _
theorem zn_0 {d : Dia} {k : Nat} {x : E2} {b : Bool} (hx : x = d.ns.getD k ⟨0, 0⟩) (ha : x.a = 0) (hb : x.b = 0) (h : (b = true) ↔ degW d.ws k = 0) : b = decide (zxNode d k) := by
  rw [Bool.eq_iff_iff, h, decide_eq_true_eq]
  subst hx
  unfold zxNode isN degOk
  constructor
  · intro h; exact ⟨.inl ⟨ha, hb⟩, fun _ => h, fun h9 => by omega⟩
  · intro h; exact h.2.1 ha
theorem zn_0n {d : Dia} {k : Nat} {x : E2} (hx : x = d.ns.getD k ⟨0, 0⟩) (ha : x.a = 0) (hb : ¬ x.b = 0) : false = decide (zxNode d k) := by
  symm; refine decide_eq_false fun h => ?_
  subst hx
  obtain ⟨h, _⟩ := h
  unfold isN at h
  omega
theorem zn_1 {d : Dia} {k : Nat} {x : E2} {b : Bool} (hx : x = d.ns.getD k ⟨0, 0⟩) (ha : x.a = 1 ∨ x.a = 2) (hb : 0 ≤ x.b ∧ x.b ≤ d.n - 1) (h : (b = true) ↔ degW d.ws k = 1) : b = decide (zxNode d k) := by
  rw [Bool.eq_iff_iff, h, decide_eq_true_eq]
  subst hx
  unfold zxNode isN degOk
  constructor
  · intro h; exact ⟨.inr (.inl ⟨ha, hb⟩), fun h9 => by omega, fun _ => h⟩
  · intro h; exact h.2.2 ha
theorem zn_1n {d : Dia} {k : Nat} {x : E2} (hx : x = d.ns.getD k ⟨0, 0⟩) (ha : x.a = 1 ∨ x.a = 2) (hb : ¬ (0 ≤ x.b ∧ x.b ≤ d.n - 1)) : false = decide (zxNode d k) := by
  symm; refine decide_eq_false fun h => ?_
  subst hx
  obtain ⟨h, _⟩ := h
  unfold isN at h
  omega
theorem zn_3 {d : Dia} {k : Nat} {x : E2} (hx : x = d.ns.getD k ⟨0, 0⟩) (ha : x.a = 3) : decide (0 ≤ x.b ∧ x.b ≤ 7) = decide (zxNode d k) := by
  rw [Bool.eq_iff_iff, decide_eq_true_eq, decide_eq_true_eq]
  subst hx
  unfold zxNode isN degOk
  omega
theorem zn_4 {d : Dia} {k : Nat} {x : E2} (hx : x = d.ns.getD k ⟨0, 0⟩) (h0 : ¬ x.a = 0) (h1 : ¬ x.a = 1) (h2 : ¬ x.a = 2) (h3 : ¬ x.a = 3) : false = decide (zxNode d k) := by
  symm; refine decide_eq_false fun h => ?_
  subst hx
  obtain ⟨h, _⟩ := h
  unfold isN at h
  omega
theorem deg_le (ws : List EW) (k : Int) : degW ws k ≤ ws.length := List.length_filter_le _ _
set_option maxHeartbeats 8000000 in
theorem spec_l16Node_any (d : Dia) (v0 v1 : Value) (k : Nat) (w : World) (h0 : RdE w v0 E2.cs 2 d.ns) (h1 : RdE w v1 EW.cs 3 d.ws) (n0 : d.ns.length ≤ 2097152) (n1 : d.ws.length ≤ 2097152) (hn : 1 ≤ d.n ∧ d.n ≤ 5) (hk : k < d.ns.length) :
    Calls Tryz.prog 41 #[.agg #[.int .i64 d.n, v0, v1, .int .i64 d.turn, .int .i64 d.root], .int .i64 (k : Int)] w fun e w' => e = .returned (.bool (decide (zxNode d k))) ∧ Below w.heap.size w w' := by
  have H0 := Lib.hid h0; have H1 := Lib.hid h1
  obtain ⟨A, c, rfl, HN⟩ := e2_at h0
  obtain ⟨A1, c1, rfl, _⟩ := eW_at h1
  clear h0 h1
  obtain ⟨b, off, rfl, hb, q0, q1⟩ := HN.out k hk
  clear HN
  have i1 : (k : Int) < (d.ns.length : Int) := by omega
  obtain ⟨x, hx⟩ : ∃ x, x = d.ns.getD k ⟨0, 0⟩ := ⟨_, rfl⟩
  rw [← hx] at q0 q1
  have HX := Lib.hid hx
  have hdl := deg_le d.ws k
  clear hx
  by_cases a0 : x.a = 0
  · have b0 : (x.a == 0) = true := by simpa using a0
    by_cases c0 : x.b = 0
    · have b1 : (x.b == 0) = true := by simpa using c0
      have HR := Lib.hid (fun b h => zn_0 (b := b) HX.out a0 c0 h)
      clear a0 c0
      go_enter Tryz.func41, Tryz.ntmps41
      go_wp2_with fail
      refine (spec_l16Wires_any d _ _ k _ (Rd.below H0.out (show Below w.heap.size w _ from (by repeat (first | exact Below.refl _ _ | assumption | refine Below.drew ?_ | refine below_drewN ?_ _ | refine Below.alloc ?_ (by first | omega | (simp <;> omega)) _ | refine Below.setCell ?_ (by first | omega | (simp <;> omega)) _ | refine Below.trans ?_ (Below.mono (by assumption) (by first | omega | (simp <;> omega)))))) rfl) (Rd.below H1.out (show Below w.heap.size w _ from (by repeat (first | exact Below.refl _ _ | assumption | refine Below.drew ?_ | refine below_drewN ?_ _ | refine Below.alloc ?_ (by first | omega | (simp <;> omega)) _ | refine Below.setCell ?_ (by first | omega | (simp <;> omega)) _ | refine Below.trans ?_ (Below.mono (by assumption) (by first | omega | (simp <;> omega)))))) rfl) n1).mono ?_; rintro e w1 ⟨rfl, hb1⟩
      go_wp2_with fail
      go_ret
      exact ⟨ret_bool (HR.out _ (by simp)), Below.trans (show Below w.heap.size w _ from (by repeat (first | exact Below.refl _ _ | assumption | refine Below.drew ?_ | refine below_drewN ?_ _ | refine Below.alloc ?_ (by first | omega | (simp <;> omega)) _ | refine Below.setCell ?_ (by first | omega | (simp <;> omega)) _ | refine Below.trans ?_ (Below.mono (by assumption) (by first | omega | (simp <;> omega)))))) (hb1.mono (by simp; omega))⟩
    · have b1 : (x.b == 0) = false := by simpa using c0
      have HR := Lib.hid (zn_0n HX.out a0 c0)
      clear a0 c0
      go_enter Tryz.func41, Tryz.ntmps41
      go_wp2_with fail
      go_ret
      exact ⟨ret_bool HR.out, (by repeat (first | exact Below.refl _ _ | assumption | refine Below.drew ?_ | refine below_drewN ?_ _ | refine Below.alloc ?_ (by first | omega | (simp <;> omega)) _ | refine Below.setCell ?_ (by first | omega | (simp <;> omega)) _ | refine Below.trans ?_ (Below.mono (by assumption) (by first | omega | (simp <;> omega)))))⟩
  · have b0 : (x.a == 0) = false := by simpa using a0
    by_cases a12 : x.a = 1 ∨ x.a = 2
    · by_cases c0 : 0 ≤ x.b ∧ x.b ≤ d.n - 1
      · have D1 := Lib.hid (decide_eq_true c0)
        have HR := Lib.hid (fun b h => zn_1 (b := b) HX.out a12 c0 h)
        by_cases a1 : x.a = 1
        · have b1 : (x.a == 1) = true := by simpa using a1
          clear a0 c0 a12 a1
          go_enter Tryz.func41, Tryz.ntmps41
          go_wp2_with fail
          refine (l1In_p _ _ _ _).mono ?_; rintro e w1 ⟨rfl, rfl⟩; rw [D1.out]
          go_wp2_with fail
          refine (spec_l16Wires_any d _ _ k _ (Rd.below H0.out (show Below w.heap.size w _ from (by repeat (first | exact Below.refl _ _ | assumption | refine Below.drew ?_ | refine below_drewN ?_ _ | refine Below.alloc ?_ (by first | omega | (simp <;> omega)) _ | refine Below.setCell ?_ (by first | omega | (simp <;> omega)) _ | refine Below.trans ?_ (Below.mono (by assumption) (by first | omega | (simp <;> omega)))))) rfl) (Rd.below H1.out (show Below w.heap.size w _ from (by repeat (first | exact Below.refl _ _ | assumption | refine Below.drew ?_ | refine below_drewN ?_ _ | refine Below.alloc ?_ (by first | omega | (simp <;> omega)) _ | refine Below.setCell ?_ (by first | omega | (simp <;> omega)) _ | refine Below.trans ?_ (Below.mono (by assumption) (by first | omega | (simp <;> omega)))))) rfl) n1).mono ?_; rintro e w1 ⟨rfl, hb1⟩
          go_wp2_with fail
          go_ret
          exact ⟨ret_bool (HR.out _ (by simp; omega)), Below.trans (show Below w.heap.size w _ from (by repeat (first | exact Below.refl _ _ | assumption | refine Below.drew ?_ | refine below_drewN ?_ _ | refine Below.alloc ?_ (by first | omega | (simp <;> omega)) _ | refine Below.setCell ?_ (by first | omega | (simp <;> omega)) _ | refine Below.trans ?_ (Below.mono (by assumption) (by first | omega | (simp <;> omega)))))) (hb1.mono (by simp; omega))⟩
        · have b1 : (x.a == 1) = false := by simpa using a1
          have b2 : (x.a == 2) = true := by simp; omega
          clear a0 c0 a12 a1
          go_enter Tryz.func41, Tryz.ntmps41
          go_wp2_with fail
          refine (l1In_p _ _ _ _).mono ?_; rintro e w1 ⟨rfl, rfl⟩; rw [D1.out]
          go_wp2_with fail
          refine (spec_l16Wires_any d _ _ k _ (Rd.below H0.out (show Below w.heap.size w _ from (by repeat (first | exact Below.refl _ _ | assumption | refine Below.drew ?_ | refine below_drewN ?_ _ | refine Below.alloc ?_ (by first | omega | (simp <;> omega)) _ | refine Below.setCell ?_ (by first | omega | (simp <;> omega)) _ | refine Below.trans ?_ (Below.mono (by assumption) (by first | omega | (simp <;> omega)))))) rfl) (Rd.below H1.out (show Below w.heap.size w _ from (by repeat (first | exact Below.refl _ _ | assumption | refine Below.drew ?_ | refine below_drewN ?_ _ | refine Below.alloc ?_ (by first | omega | (simp <;> omega)) _ | refine Below.setCell ?_ (by first | omega | (simp <;> omega)) _ | refine Below.trans ?_ (Below.mono (by assumption) (by first | omega | (simp <;> omega)))))) rfl) n1).mono ?_; rintro e w1 ⟨rfl, hb1⟩
          go_wp2_with fail
          go_ret
          exact ⟨ret_bool (HR.out _ (by simp; omega)), Below.trans (show Below w.heap.size w _ from (by repeat (first | exact Below.refl _ _ | assumption | refine Below.drew ?_ | refine below_drewN ?_ _ | refine Below.alloc ?_ (by first | omega | (simp <;> omega)) _ | refine Below.setCell ?_ (by first | omega | (simp <;> omega)) _ | refine Below.trans ?_ (Below.mono (by assumption) (by first | omega | (simp <;> omega)))))) (hb1.mono (by simp; omega))⟩
      · have D1 := Lib.hid (decide_eq_false c0)
        have HR := Lib.hid (zn_1n HX.out a12 c0)
        by_cases a1 : x.a = 1
        · have b1 : (x.a == 1) = true := by simpa using a1
          clear a0 c0 a12 a1
          go_enter Tryz.func41, Tryz.ntmps41
          go_wp2_with fail
          refine (l1In_p _ _ _ _).mono ?_; rintro e w1 ⟨rfl, rfl⟩; rw [D1.out]
          go_wp2_with fail
          go_ret
          exact ⟨ret_bool HR.out, (by repeat (first | exact Below.refl _ _ | assumption | refine Below.drew ?_ | refine below_drewN ?_ _ | refine Below.alloc ?_ (by first | omega | (simp <;> omega)) _ | refine Below.setCell ?_ (by first | omega | (simp <;> omega)) _ | refine Below.trans ?_ (Below.mono (by assumption) (by first | omega | (simp <;> omega)))))⟩
        · have b1 : (x.a == 1) = false := by simpa using a1
          have b2 : (x.a == 2) = true := by simp; omega
          clear a0 c0 a12 a1
          go_enter Tryz.func41, Tryz.ntmps41
          go_wp2_with fail
          refine (l1In_p _ _ _ _).mono ?_; rintro e w1 ⟨rfl, rfl⟩; rw [D1.out]
          go_wp2_with fail
          go_ret
          exact ⟨ret_bool HR.out, (by repeat (first | exact Below.refl _ _ | assumption | refine Below.drew ?_ | refine below_drewN ?_ _ | refine Below.alloc ?_ (by first | omega | (simp <;> omega)) _ | refine Below.setCell ?_ (by first | omega | (simp <;> omega)) _ | refine Below.trans ?_ (Below.mono (by assumption) (by first | omega | (simp <;> omega)))))⟩
    · have b1 : (x.a == 1) = false := by simp; omega
      have b2 : (x.a == 2) = false := by simp; omega
      by_cases a3 : x.a = 3
      · have b3 : (x.a == 3) = true := by simpa using a3
        have HR := Lib.hid (zn_3 HX.out a3)
        clear a0 a12 a3
        go_enter Tryz.func41, Tryz.ntmps41
        go_wp2_with fail
        refine (l1In_p _ _ _ _).mono ?_; rintro e w1 ⟨rfl, rfl⟩
        go_wp2_with fail
        go_ret
        exact ⟨ret_bool (by rw [← HR.out, Bool.decide_and]), (by repeat (first | exact Below.refl _ _ | assumption | refine Below.drew ?_ | refine below_drewN ?_ _ | refine Below.alloc ?_ (by first | omega | (simp <;> omega)) _ | refine Below.setCell ?_ (by first | omega | (simp <;> omega)) _ | refine Below.trans ?_ (Below.mono (by assumption) (by first | omega | (simp <;> omega)))))⟩
      · have b3 : (x.a == 3) = false := by simpa using a3
        have HR := Lib.hid (zn_4 HX.out a0 (by omega) (by omega) a3)
        clear a0 a12 a3
        go_enter Tryz.func41, Tryz.ntmps41
        go_wp2_with fail
        go_ret
        exact ⟨ret_bool HR.out, (by repeat (first | exact Below.refl _ _ | assumption | refine Below.drew ?_ | refine below_drewN ?_ _ | refine Below.alloc ?_ (by first | omega | (simp <;> omega)) _ | refine Below.setCell ?_ (by first | omega | (simp <;> omega)) _ | refine Below.trans ?_ (Below.mono (by assumption) (by first | omega | (simp <;> omega)))))⟩
end Go.Proofs.YtliophgfgmjhiaaGreatDoor
