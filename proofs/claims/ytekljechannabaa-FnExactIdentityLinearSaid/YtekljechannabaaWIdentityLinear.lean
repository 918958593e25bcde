/- The walk through the law FnExactIdentityLinear. -/
import Derived.Test.YtekljechannabaaLin1
import Derived.Test.YtekljechannabaaOpen1
namespace Go.Proofs.Ytekljechannabaa
set_option linter.unusedSimpArgs false
set_option linter.unusedVariables false
open Go.ChangeShapes Go.WideShapes Go.ChangeAt Go.RowKit

set_option maxRecDepth 100000 in
theorem walk_FnExactIdentityLinear (v0 : Value) (w : World) (h0 : IsInt v0) :
    Calls Try.prog 8 #[v0] w fun e w' => e = .returned (.bool true) ∧ Below w.heap.size w w' := by
  obtain ⟨n, rfl, hl, hh⟩ := h0
  obtain ⟨r, hr⟩ : ∃ r, r = idLin n := ⟨_, rfl⟩
  have hlen : (r.getD []).length ≤ 1000000 := by subst hr; exact idLin_len n
  have Hr := Lib.hid hr; clear hr
  go_enter Try.func8, Try.ntmps8
  go_wp2_with fail
  refine (spec_IdentityLinear_any _ _).mono ?_; rw [← Hr.out]; rintro e w1 ⟨v1, rfl, ho1, hb1⟩
  obtain ⟨a1, cap1, hv1⟩ := ho1.forms
  have Ho1 := Lib.hid ho1; clear ho1
  have L1 : ∀ g, v1.ownBlock = some g → g < w1.heap.size := fun g hg => (Ho1.out.lt g hg).2
  obtain ⟨hc_hb1, hf_hb1⟩ := bcell hb1; have hz_hb1 := hb1.size; try simp at hz_hb1; have hs0_hb1 : w.heap.size < w1.heap.size := by omega
  rw [hv1]
  go_wp2_with fail
  refine (impl_IdentityLinear_any _ _).mono ?_; rw [← Hr.out]; rintro e w2 ⟨v2, rfl, ho2, hb2⟩
  obtain ⟨a2, cap2, hv2⟩ := ho2.forms
  have zw : w.heap.size ≤ w1.heap.size := hb1.size
  have O1 := Lib.hid ((Ho1.out.below (show Below w1.heap.size w1 (w1.alloc (.cells #[.slice a1 (r.getD []).length cap1] 50)) from (by repeat (first | exact Below.refl _ _ | assumption | refine Below.drew ?_ | refine below_drewN ?_ _ | refine Below.alloc ?_ (by first | omega | (simp <;> omega)) _ | refine Below.setCell ?_ (by first | omega | (simp <;> omega)) _ | refine Below.trans ?_ (Below.mono (by assumption) (by first | omega | (simp <;> omega)))))) rfl).below hb2 rfl)
  have O2 := Lib.hid ho2; clear ho2
  have L2 : ∀ g, v2.ownBlock = some g → w1.heap.size < g ∧ g < w2.heap.size := fun g hg => by have := O2.out.lt g hg; simp at this; omega
  obtain ⟨hc_hb2, hf_hb2⟩ := bcell hb2; have hz_hb2 := hb2.size; try simp at hz_hb2; have hs0_hb2 : w.heap.size < w2.heap.size := by omega
  have h12 : w1.heap.size < w2.heap.size := by omega
  rw [hv2]
  go_wp2_with fail
  -- the first comparison
  rw [← hv1, ← hv2]
  have B2 := Lib.hid (show Below w2.heap.size w2 (w2.alloc (.cells #[v2] 50)) from (by repeat (first | exact Below.refl _ _ | assumption | refine Below.drew ?_ | refine below_drewN ?_ _ | refine Below.alloc ?_ (by first | omega | (simp <;> omega)) _ | refine Below.setCell ?_ (by first | omega | (simp <;> omega)) _ | refine Below.trans ?_ (Below.mono (by assumption) (by first | omega | (simp <;> omega))))))
  refine (laws_eqLinear_any _ _ _ _ _ (O2.out.below B2.out rfl).rd (O1.out.below B2.out rfl).rd).mono ?_; rintro e w3 ⟨rfl, hb3⟩
  rw [show decide (r.getD [] = r.getD []) = true from decide_eq_true rfl]
  replace O1 := Lib.hid ((O1.out.below B2.out rfl).below hb3 rfl)
  replace O2 := Lib.hid ((O2.out.below B2.out rfl).below hb3 rfl)
  have c0 : w3.cell? ⟨w1.heap.size, 0, none⟩ = some (.slice a1 (r.getD []).length cap1) := below_cell hb3 rfl (cell_alloc_keep _ (below_cell hb2 rfl (by simp)))
  have c1 : w3.cell? ⟨w2.heap.size, 0, none⟩ = some (.slice a2 (r.getD []).length cap2) := below_cell hb3 rfl (by rw [hv2]; simp)
  have z3 : w2.heap.size < w3.heap.size := by have := hb3.size; simp at this; omega
  have BB3 : Below w.heap.size w w3 := (by repeat (first | exact Below.refl _ _ | assumption | refine Below.drew ?_ | refine below_drewN ?_ _ | refine Below.alloc ?_ (by first | omega | (simp <;> omega)) _ | refine Below.setCell ?_ (by first | omega | (simp <;> omega)) _ | refine Below.trans ?_ (Below.mono (by assumption) (by first | omega | (simp <;> omega)))))
  clear hc_hb1 hf_hb1 hc_hb2 hf_hb2 hb1 hb2 hb3 B2 Ho1 hz_hb1 hz_hb2 hs0_hb2
  rw [hv1, hv2]
  go_wp2_with fail
  -- the first result is written over
  rw [← hv2]
  refine (laws_markLinear_any _ _ _ _ _ _ O2.out (by omega) (by omega)).mono ?_; rintro e w4 ⟨rfl, ho4, hg4⟩
  have M4 : Mid (w1.heap.size + 1) w2.heap.size w3 w4 := Mid.of_grown hg4 (fun k hk => by have := L2 k hk; omega)
  replace O1 := Lib.hid (show OwnI w4 w.heap.size v1 (r.getD []) from M4.own O1.out (fun g hg => by have := L1 g hg; omega))
  replace O2 := Lib.hid ho4; clear ho4 hg4
  replace c0 := M4.cell (.inl (by omega)) c0
  replace c1 := M4.cell (.inr (by omega)) c1
  have BB4 : Below w.heap.size w w4 := Below.trans BB3 (M4.below (by omega) (by omega))
  have z4 : w2.heap.size < w4.heap.size := by have := M4.size; omega
  clear M4 BB3 z3
  rw [hv2]
  go_wp2_with fail
  -- it holds what was written
  rw [← hv2]
  refine (laws_heldLinear_any _ _ _ _ (Rd.of_own O2.out) (by omega) (by omega)).mono ?_; rintro e w5 ⟨rfl, hb5⟩
  replace O1 := Lib.hid (O1.out.below hb5 rfl)
  replace O2 := Lib.hid (own_below O2.out hb5 rfl)
  replace c0 := below_cell hb5 rfl c0
  replace c1 := below_cell hb5 rfl c1
  have BB5 : Below w.heap.size w w5 := (by repeat (first | exact Below.refl _ _ | assumption | refine Below.drew ?_ | refine below_drewN ?_ _ | refine Below.alloc ?_ (by first | omega | (simp <;> omega)) _ | refine Below.setCell ?_ (by first | omega | (simp <;> omega)) _ | refine Below.trans ?_ (Below.mono (by assumption) (by first | omega | (simp <;> omega)))))
  have z5 : w2.heap.size < w5.heap.size := by have := hb5.size; omega
  have hne : ¬ (1 : Int) + (((r.getD []).length : Nat) : Int) < 0 := by omega
  clear hb5 BB4 z4
  rw [hv2]
  go_wp2_with fail
  -- the second call
  refine (impl_IdentityLinear_any _ _).mono ?_; rw [← Hr.out]; rintro e w6 ⟨v3, rfl, ho6, hb6⟩
  obtain ⟨a3, cap3, hv3⟩ := ho6.forms
  replace O1 := Lib.hid (O1.out.below hb6 rfl)
  replace O2 := Lib.hid (own_below O2.out hb6 rfl)
  have O3 := Lib.hid ho6; clear ho6
  replace c0 := below_cell hb6 rfl c0
  replace c1 := below_cell hb6 rfl c1
  have BB6 : Below w.heap.size w w6 := (by repeat (first | exact Below.refl _ _ | assumption | refine Below.drew ?_ | refine below_drewN ?_ _ | refine Below.alloc ?_ (by first | omega | (simp <;> omega)) _ | refine Below.setCell ?_ (by first | omega | (simp <;> omega)) _ | refine Below.trans ?_ (Below.mono (by assumption) (by first | omega | (simp <;> omega)))))
  have z6 : w2.heap.size < w6.heap.size := by have := hb6.size; omega
  have z6' : w1.heap.size < w6.heap.size := by omega
  clear hb6 BB5 z5
  rw [hv3]
  go_wp2_with fail
  -- the second comparison
  rw [← hv1, ← hv3]
  have B6 := Lib.hid (show Below w6.heap.size w6 (w6.alloc (.cells #[v3] 50)) from (by repeat (first | exact Below.refl _ _ | assumption | refine Below.drew ?_ | refine below_drewN ?_ _ | refine Below.alloc ?_ (by first | omega | (simp <;> omega)) _ | refine Below.setCell ?_ (by first | omega | (simp <;> omega)) _ | refine Below.trans ?_ (Below.mono (by assumption) (by first | omega | (simp <;> omega))))))
  refine (laws_eqLinear_any _ _ _ _ _ (O3.out.below B6.out rfl).rd (O1.out.below B6.out rfl).rd).mono ?_; rintro e w7 ⟨rfl, hb7⟩
  rw [show decide (r.getD [] = r.getD []) = true from decide_eq_true rfl]
  replace O2 := Lib.hid (own_below (own_below O2.out B6.out rfl) hb7 rfl)
  replace c1 := below_cell hb7 rfl (cell_alloc_keep (.cells #[v3] 50) c1)
  have BB7 : Below w.heap.size w w7 := (by repeat (first | exact Below.refl _ _ | assumption | refine Below.drew ?_ | refine below_drewN ?_ _ | refine Below.alloc ?_ (by first | omega | (simp <;> omega)) _ | refine Below.setCell ?_ (by first | omega | (simp <;> omega)) _ | refine Below.trans ?_ (Below.mono (by assumption) (by first | omega | (simp <;> omega)))))
  have z7 : w2.heap.size < w7.heap.size := World.block_lt_of_cell? w7 ⟨w2.heap.size, 0, none⟩ c1
  clear hb7 BB6 z6 B6
  rw [hv1, hv3]
  go_wp2_with fail
  -- the first result still holds what was written
  rw [← hv2]
  refine (laws_heldLinear_any _ _ _ _ (Rd.of_own O2.out) (by omega) (by omega)).mono ?_; rintro e w8 ⟨rfl, hb8⟩
  go_wp2_with fail
  go_ret
  exact ⟨rfl, (by repeat (first | exact Below.refl _ _ | assumption | refine Below.drew ?_ | refine below_drewN ?_ _ | refine Below.alloc ?_ (by first | omega | (simp <;> omega)) _ | refine Below.setCell ?_ (by first | omega | (simp <;> omega)) _ | refine Below.trans ?_ (Below.mono (by assumption) (by first | omega | (simp <;> omega)))))⟩
end Go.Proofs.Ytekljechannabaa
