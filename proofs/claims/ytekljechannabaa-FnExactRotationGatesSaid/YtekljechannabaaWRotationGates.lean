/- The walk through the law FnExactRotationGates. -/
import Derived.Test.YtekljechannabaaRot2
import Derived.Test.YtekljechannabaaOpen1
namespace Go.Proofs.Ytekljechannabaa
set_option linter.unusedSimpArgs false
set_option linter.unusedVariables false
open Go.ChangeShapes Go.WideShapes Go.ChangeAt Go.RowKit

set_option maxRecDepth 100000 in
theorem walk_FnExactRotationGates (v0 v1 : Value) (w : World) (h0 : IsInt v0) (h1 : IsInt v1) :
    Calls Try.prog 9 #[v0, v1] w fun e w' => e = .returned (.bool true) ∧ Below w.heap.size w w' := by
  obtain ⟨n, rfl, hl, hh⟩ := h0
  obtain ⟨c, rfl, hl1, hh1⟩ := h1
  obtain ⟨r, hr⟩ : ∃ r, r = rotG n c := ⟨_, rfl⟩
  have hlen : (r.getD []).length ≤ 1000000 := by subst hr; exact rotG_len n c
  have Hr := Lib.hid hr; clear hr
  go_enter Try.func9, Try.ntmps9
  go_wp2_with fail
  refine (spec_RotationGates_any _ _ _).mono ?_; rw [← Hr.out]; rintro e w1 ⟨v1, rfl, ho1, hb1⟩
  obtain ⟨a1, cap1, hv1⟩ := ho1.forms
  have Ho1 := Lib.hid ho1; clear ho1
  have L1 : ∀ g, v1.ownBlock = some g → g < w1.heap.size := fun g hg => (Ho1.out.lt g hg).2
  obtain ⟨hc_hb1, hf_hb1⟩ := bcell hb1; have hz_hb1 := hb1.size; try simp at hz_hb1; have hs0_hb1 : w.heap.size < w1.heap.size := by omega
  rw [hv1]
  go_wp2_with fail
  refine (impl_RotationGates_any _ _ _).mono ?_; rw [← Hr.out]; rintro e w2 ⟨v2, rfl, ho2, hb2⟩
  obtain ⟨a2, cap2, hv2⟩ := ho2.forms
  have zw : w.heap.size ≤ w1.heap.size := hb1.size
  have O1 := Lib.hid (Ho1.out.below hb2 rfl)
  have O2 := Lib.hid ho2; clear ho2
  have L2 : ∀ g, v2.ownBlock = some g → w1.heap.size ≤ g ∧ g < w2.heap.size := fun g hg => O2.out.lt g hg
  have h12 : w1.heap.size ≤ w2.heap.size := hb2.size
  rw [hv2]
  go_wp2_with fail
  -- the first comparison
  rw [← hv1, ← hv2]
  refine (laws_eqGateS_any _ _ _ _ _ O2.out.rd O1.out.rd).mono ?_; rintro e w3 ⟨rfl, hb3⟩
  rw [show decide (r.getD [] = r.getD []) = true from decide_eq_true rfl]
  replace O1 := Lib.hid (O1.out.below hb3 rfl)
  replace O2 := Lib.hid (O2.out.below hb3 rfl)
  have z3 : w2.heap.size ≤ w3.heap.size := hb3.size
  have BB2 : Below w.heap.size w w2 := (by repeat (first | exact Below.refl _ _ | assumption | refine Below.drew ?_ | refine below_drewN ?_ _ | refine Below.alloc ?_ (by first | omega | (simp <;> omega)) _ | refine Below.setCell ?_ (by first | omega | (simp <;> omega)) _ | refine Below.trans ?_ (Below.mono (by assumption) (by first | omega | (simp <;> omega)))))
  have BB3 : Below w.heap.size w w3 := (by repeat (first | exact Below.refl _ _ | assumption | refine Below.drew ?_ | refine below_drewN ?_ _ | refine Below.alloc ?_ (by first | omega | (simp <;> omega)) _ | refine Below.setCell ?_ (by first | omega | (simp <;> omega)) _ | refine Below.trans ?_ (Below.mono (by assumption) (by first | omega | (simp <;> omega)))))
  clear hc_hb1 hf_hb1 hb1 hb2 hb3 Ho1 BB2 hz_hb1
  rw [hv1, hv2]
  go_wp2_with fail
  -- the first result is written over
  rw [← hv2]
  refine (laws_markGateS_any _ _ _ _ _ _ O2.out (by omega) (by omega) (by omega)).mono ?_; rintro e w4 ⟨rfl, ho4, hg4⟩
  have M4 : Mid (w1.heap.size) w2.heap.size w3 w4 := Mid.of_grown hg4 (fun k hk => by have := L2 k hk; omega)
  replace O1 := Lib.hid (show OwnE w4 w.heap.size 71 v1 E3.cs 3 (r.getD []) from M4.own O1.out (fun g hg => by have := L1 g hg; omega))
  replace O2 := Lib.hid ho4; clear ho4 hg4
  have BB4 : Below w.heap.size w w4 := Below.trans BB3 (M4.below (by omega) (by omega))
  have z4 : w2.heap.size ≤ w4.heap.size := by have := M4.size; omega
  clear M4 BB3 z3
  rw [hv2]
  go_wp2_with fail
  -- it holds what was written
  rw [← hv2]
  refine (laws_heldGateS_any _ _ _ _ (Rd.of_own O2.out) (by omega) (by omega) (by omega)).mono ?_; rintro e w5 ⟨rfl, hb5⟩
  replace O1 := Lib.hid (O1.out.below hb5 rfl)
  replace O2 := Lib.hid (own_below O2.out hb5 rfl)
  have BB5 : Below w.heap.size w w5 := (by repeat (first | exact Below.refl _ _ | assumption | refine Below.drew ?_ | refine below_drewN ?_ _ | refine Below.alloc ?_ (by first | omega | (simp <;> omega)) _ | refine Below.setCell ?_ (by first | omega | (simp <;> omega)) _ | refine Below.trans ?_ (Below.mono (by assumption) (by first | omega | (simp <;> omega)))))
  have z5 : w2.heap.size ≤ w5.heap.size := by have := hb5.size; omega
  have hne : ¬ (1 : Int) + (((r.getD []).length * 3 : Nat) : Int) < 0 := by omega
  clear hb5 BB4 z4
  rw [hv2]
  go_wp2_with fail
  -- the second call
  refine (impl_RotationGates_any _ _ _).mono ?_; rw [← Hr.out]; rintro e w6 ⟨v3, rfl, ho6, hb6⟩
  obtain ⟨a3, cap3, hv3⟩ := ho6.forms
  replace O1 := Lib.hid (O1.out.below hb6 rfl)
  replace O2 := Lib.hid (own_below O2.out hb6 rfl)
  have O3 := Lib.hid ho6; clear ho6
  have BB6 : Below w.heap.size w w6 := (by repeat (first | exact Below.refl _ _ | assumption | refine Below.drew ?_ | refine below_drewN ?_ _ | refine Below.alloc ?_ (by first | omega | (simp <;> omega)) _ | refine Below.setCell ?_ (by first | omega | (simp <;> omega)) _ | refine Below.trans ?_ (Below.mono (by assumption) (by first | omega | (simp <;> omega)))))
  have z6 : w2.heap.size ≤ w6.heap.size := by have := hb6.size; omega
  have z6' : w1.heap.size ≤ w6.heap.size := by omega
  clear hb6 BB5 z5
  rw [hv3]
  go_wp2_with fail
  -- the second comparison
  rw [← hv1, ← hv3]
  refine (laws_eqGateS_any _ _ _ _ _ O3.out.rd O1.out.rd).mono ?_; rintro e w7 ⟨rfl, hb7⟩
  rw [show decide (r.getD [] = r.getD []) = true from decide_eq_true rfl]
  replace O2 := Lib.hid (own_below O2.out hb7 rfl)
  have z7 : w.heap.size ≤ w7.heap.size := by have := hb7.size; omega
  have BB7 : Below w.heap.size w w7 := (by repeat (first | exact Below.refl _ _ | assumption | refine Below.drew ?_ | refine below_drewN ?_ _ | refine Below.alloc ?_ (by first | omega | (simp <;> omega)) _ | refine Below.setCell ?_ (by first | omega | (simp <;> omega)) _ | refine Below.trans ?_ (Below.mono (by assumption) (by first | omega | (simp <;> omega)))))
  clear hb7 BB6 z6
  rw [hv1, hv3]
  go_wp2_with fail
  -- the first result still holds what was written
  rw [← hv2]
  refine (laws_heldGateS_any _ _ _ _ (Rd.of_own O2.out) (by omega) (by omega) (by omega)).mono ?_; rintro e w8 ⟨rfl, hb8⟩
  go_wp2_with fail
  go_ret
  exact ⟨rfl, (by repeat (first | exact Below.refl _ _ | assumption | refine Below.drew ?_ | refine below_drewN ?_ _ | refine Below.alloc ?_ (by first | omega | (simp <;> omega)) _ | refine Below.setCell ?_ (by first | omega | (simp <;> omega)) _ | refine Below.trans ?_ (Below.mono (by assumption) (by first | omega | (simp <;> omega)))))⟩
end Go.Proofs.Ytekljechannabaa
