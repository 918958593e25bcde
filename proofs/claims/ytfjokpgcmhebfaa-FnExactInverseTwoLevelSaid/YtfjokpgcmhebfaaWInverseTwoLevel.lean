/- The walk through the law FnExactInverseTwoLevel. -/
import Derived.Test.YtfjokpgcmhebfaaInv2
import Derived.Test.YtfjokpgcmhebfaaOpen1
namespace Go.Proofs.Ytfjokpgcmhebfaa
set_option linter.unusedSimpArgs false
set_option linter.unusedVariables false
open Go.ChangeShapes Go.WideShapes Go.ChangeAt Go.RowKit

set_option maxRecDepth 100000 in
theorem walk_FnExactInverseTwoLevel (v0 v1 : Value) (w : World) (h0 : IsInt v0) (h1 : IsRing v1) :
    Calls Try.prog 4 #[v0, v1] w fun e w' => e = .returned (.bool true) ∧ Below w.heap.size w w' := by
  obtain ⟨n, rfl, nlo, nhi⟩ := h0
  obtain ⟨_, _, _, _, rfl, ⟨k, rfl, hk0, hk1⟩, ⟨i, rfl, hi0, hi1⟩, ⟨j, rfl, hj0, hj1⟩, ⟨m, rfl, hm0, hm1⟩⟩ := h1
  obtain ⟨r, hr⟩ : ∃ r, r = invG n k i j m := ⟨_, rfl⟩
  have hlen0 : ((r.getD [])).length ≤ 1000000 := by subst hr; exact invG_len n k i j m
  have Hr := Lib.hid hr; clear hr
  have BB0 := Below.refl w.heap.size w
  go_enter Try.func4, Try.ntmps4
  go_wp2_with fail
  have BP0 := Lib.hid (show Below w.heap.size w (w.alloc (.cells #[.int .i64 k, .int .i64 i, .int .i64 j, .int .i64 m] 30)) from (by repeat (first | exact Below.refl _ _ | assumption | refine Below.drew ?_ | refine below_drewN ?_ _ | refine Below.alloc ?_ (by first | omega | (simp <;> omega)) _ | refine Below.setCell ?_ (by first | omega | (simp <;> omega)) _ | refine Below.trans ?_ (Below.mono (by assumption) (by first | omega | (simp <;> omega))))))
  have d00 : (w.alloc (.cells #[.int .i64 k, .int .i64 i, .int .i64 j, .int .i64 m] 30)).cell? ⟨w.heap.size, 0, none⟩ = some (.int .i64 k) := (by repeat (first | (refine Eq.trans (World.cell?_alloc_at _ _ _ _ ?hh) ?_; (case hh => (simp; done)); rfl) | refine cell_alloc_keep _ ?_))
  have d01 : (w.alloc (.cells #[.int .i64 k, .int .i64 i, .int .i64 j, .int .i64 m] 30)).cell? ⟨w.heap.size, 1, none⟩ = some (.int .i64 i) := (by repeat (first | (refine Eq.trans (World.cell?_alloc_at _ _ _ _ ?hh) ?_; (case hh => (simp; done)); rfl) | refine cell_alloc_keep _ ?_))
  have d02 : (w.alloc (.cells #[.int .i64 k, .int .i64 i, .int .i64 j, .int .i64 m] 30)).cell? ⟨w.heap.size, 2, none⟩ = some (.int .i64 j) := (by repeat (first | (refine Eq.trans (World.cell?_alloc_at _ _ _ _ ?hh) ?_; (case hh => (simp; done)); rfl) | refine cell_alloc_keep _ ?_))
  have d03 : (w.alloc (.cells #[.int .i64 k, .int .i64 i, .int .i64 j, .int .i64 m] 30)).cell? ⟨w.heap.size, 3, none⟩ = some (.int .i64 m) := (by repeat (first | (refine Eq.trans (World.cell?_alloc_at _ _ _ _ ?hh) ?_; (case hh => (simp; done)); rfl) | refine cell_alloc_keep _ ?_))
  refine (toTwoLevel_any _ _ _ _ _).mono ?_; rintro e w1 ⟨rfl, hb1⟩
  replace d00 := below_cell hb1 rfl d00
  replace d01 := below_cell hb1 rfl d01
  replace d02 := below_cell hb1 rfl d02
  replace d03 := below_cell hb1 rfl d03
  have BB1 : Below w.heap.size w w1 := below_step (below_step BB0 BP0.out) hb1
  have ZZ1 : w.heap.size + 1 ≤ w1.heap.size := by have := hb1.size; try simp at this; omega
  clear BP0
  have LT1_0 : w.heap.size < w1.heap.size := World.block_lt_of_cell? w1 _ d00
  clear hb1
  clear BB0
  go_wp2_with fail
  refine (spec_InverseTwoLevel_any _ _ _ _ _ _ hi0 hi1).mono ?_; rw [← Hr.out]; rintro e w2 ⟨vA0, rfl, hoA0, hb2⟩
  obtain ⟨aA0, capA0, rfl⟩ := hoA0.forms
  have LL_OA0 : ∀ g, (Value.slice aA0 ((r.getD [])).length capA0).ownBlock = some g → w1.heap.size ≤ g ∧ g < w2.heap.size := fun g hg => by have := hoA0.lt g hg; (try simp at this); omega
  replace hoA0 := OwnE.le hoA0 (base' := w.heap.size) (by have := BB1.size; first | omega | (simp; omega))
  replace d00 := below_cell hb2 rfl d00
  replace d01 := below_cell hb2 rfl d01
  replace d02 := below_cell hb2 rfl d02
  replace d03 := below_cell hb2 rfl d03
  have BB2 : Below w.heap.size w w2 := below_step BB1 hb2
  have ZZ2 : w1.heap.size ≤ w2.heap.size := hb2.size
  clear LT1_0
  have LT2_0 : w.heap.size < w2.heap.size := World.block_lt_of_cell? w2 _ d00
  have OA0 := Lib.hid (show OwnE w2 (w.heap.size) 34 (.slice aA0 ((r.getD [])).length capA0) E4.cs 4 ((r.getD [])) from hoA0); clear hoA0
  clear hb2
  clear BB1
  go_wp2_with fail
  refine (toTwoLevel_any _ _ _ _ _).mono ?_; rintro e w3 ⟨rfl, hb3⟩
  replace OA0 := Lib.hid (show OwnE w3 (w.heap.size) 34 (.slice aA0 ((r.getD [])).length capA0) E4.cs 4 ((r.getD [])) from OwnE.below OA0.out hb3 rfl)
  replace d00 := below_cell hb3 rfl d00
  replace d01 := below_cell hb3 rfl d01
  replace d02 := below_cell hb3 rfl d02
  replace d03 := below_cell hb3 rfl d03
  have BB3 : Below w.heap.size w w3 := below_step BB2 hb3
  have ZZ3 : w2.heap.size ≤ w3.heap.size := hb3.size
  clear LT2_0
  have LT3_0 : w.heap.size < w3.heap.size := World.block_lt_of_cell? w3 _ d00
  clear hb3
  clear BB2
  go_wp2_with fail
  refine (impl_InverseTwoLevel_any _ _ _ _ _ _ hi0 hi1).mono ?_; rw [← Hr.out]; rintro e w4 ⟨vB0, rfl, hoB0, hb4⟩
  obtain ⟨aB0, capB0, rfl⟩ := hoB0.forms
  have LL_OB0 : ∀ g, (Value.slice aB0 ((r.getD [])).length capB0).ownBlock = some g → w3.heap.size ≤ g ∧ g < w4.heap.size := fun g hg => by have := hoB0.lt g hg; (try simp at this); omega
  replace hoB0 := OwnE.le hoB0 (base' := w.heap.size) (by have := BB3.size; first | omega | (simp; omega))
  replace OA0 := Lib.hid (show OwnE w4 (w.heap.size) 34 (.slice aA0 ((r.getD [])).length capA0) E4.cs 4 ((r.getD [])) from OwnE.below OA0.out hb4 rfl)
  replace d00 := below_cell hb4 rfl d00
  replace d01 := below_cell hb4 rfl d01
  replace d02 := below_cell hb4 rfl d02
  replace d03 := below_cell hb4 rfl d03
  have BB4 : Below w.heap.size w w4 := below_step BB3 hb4
  have ZZ4 : w3.heap.size ≤ w4.heap.size := hb4.size
  clear LT3_0
  have LT4_0 : w.heap.size < w4.heap.size := World.block_lt_of_cell? w4 _ d00
  have OB0 := Lib.hid (show OwnE w4 (w.heap.size) 34 (.slice aB0 ((r.getD [])).length capB0) E4.cs 4 ((r.getD [])) from hoB0); clear hoB0
  clear hb4
  clear BB3
  go_wp2_with fail
  refine (laws_eqTwoLevelS_any _ _ _ _ _ OB0.out.rd OA0.out.rd).mono ?_; rintro e w5 ⟨rfl, hb5⟩
  rw [show decide ((r.getD []) = (r.getD [])) = true from decide_eq_true rfl]
  replace OA0 := Lib.hid (show OwnE w5 (w.heap.size) 34 (.slice aA0 ((r.getD [])).length capA0) E4.cs 4 ((r.getD [])) from OwnE.below OA0.out hb5 rfl)
  replace OB0 := Lib.hid (show OwnE w5 (w.heap.size) 34 (.slice aB0 ((r.getD [])).length capB0) E4.cs 4 ((r.getD [])) from OwnE.below OB0.out hb5 rfl)
  replace d00 := below_cell hb5 rfl d00
  replace d01 := below_cell hb5 rfl d01
  replace d02 := below_cell hb5 rfl d02
  replace d03 := below_cell hb5 rfl d03
  have BB5 : Below w.heap.size w w5 := below_step BB4 hb5
  have ZZ5 : w4.heap.size ≤ w5.heap.size := hb5.size
  clear LT4_0
  have LT5_0 : w.heap.size < w5.heap.size := World.block_lt_of_cell? w5 _ d00
  clear hb5
  clear BB4
  go_wp2_with fail
  refine (laws_markTwoLevelS_any _ _ _ _ _ _ OB0.out (by omega) (by omega) (by omega)).mono ?_; rintro e w6 ⟨rfl, ho_OB0, hg0⟩
  have hb6 : Mid (w3.heap.size) (w4.heap.size) w5 w6 := Mid.of_grown hg0 (fun k hk => LL_OB0 k hk)
  clear hg0
  replace OA0 := Lib.hid (show OwnE w6 (w.heap.size) 34 (.slice aA0 ((r.getD [])).length capA0) E4.cs 4 ((r.getD [])) from Mid.own hb6 OA0.out (fun g hg => by first | (have := LL_OA0 g hg; omega)))
  replace d00 := Mid.cell hb6 (by omega) d00
  replace d01 := Mid.cell hb6 (by omega) d01
  replace d02 := Mid.cell hb6 (by omega) d02
  replace d03 := Mid.cell hb6 (by omega) d03
  have BB6 : Below w.heap.size w w6 := Below.trans BB5 (Mid.below hb6 (by omega) (by omega))
  have ZZ6 : w5.heap.size ≤ w6.heap.size := hb6.size
  clear LT5_0
  have LT6_0 : w.heap.size < w6.heap.size := World.block_lt_of_cell? w6 _ d00
  have OB0 := Lib.hid (show w6.ownsRow (w.heap.size) 34 4 (.slice aB0 ((r.getD [])).length capB0) ((r.getD [])).length (marks (1) (((r.getD [])).length * 4)) from ho_OB0); clear ho_OB0
  clear hb6
  clear BB5
  go_wp2_with fail
  refine (laws_heldTwoLevelS_any _ _ _ _ (Rd.of_own OB0.out) (by omega) (by omega) (by omega)).mono ?_; rintro e w7 ⟨rfl, hb7⟩
  replace OA0 := Lib.hid (show OwnE w7 (w.heap.size) 34 (.slice aA0 ((r.getD [])).length capA0) E4.cs 4 ((r.getD [])) from OwnE.below OA0.out hb7 rfl)
  replace OB0 := Lib.hid (show w7.ownsRow (w.heap.size) 34 4 (.slice aB0 ((r.getD [])).length capB0) ((r.getD [])).length (marks (1) (((r.getD [])).length * 4)) from own_below OB0.out hb7 rfl)
  replace d00 := below_cell hb7 rfl d00
  replace d01 := below_cell hb7 rfl d01
  replace d02 := below_cell hb7 rfl d02
  replace d03 := below_cell hb7 rfl d03
  have BB7 : Below w.heap.size w w7 := below_step BB6 hb7
  have ZZ7 : w6.heap.size ≤ w7.heap.size := hb7.size
  clear LT6_0
  have LT7_0 : w.heap.size < w7.heap.size := World.block_lt_of_cell? w7 _ d00
  clear hb7
  clear BB6
  have hne7 : ¬ (1 + ((((r.getD [])).length * 4 : Nat) : Int) : Int) < 0 := by omega
  go_wp2_with fail
  refine (toTwoLevel_any _ _ _ _ _).mono ?_; rintro e w8 ⟨rfl, hb8⟩
  replace OA0 := Lib.hid (show OwnE w8 (w.heap.size) 34 (.slice aA0 ((r.getD [])).length capA0) E4.cs 4 ((r.getD [])) from OwnE.below OA0.out hb8 rfl)
  replace OB0 := Lib.hid (show w8.ownsRow (w.heap.size) 34 4 (.slice aB0 ((r.getD [])).length capB0) ((r.getD [])).length (marks (1) (((r.getD [])).length * 4)) from own_below OB0.out hb8 rfl)
  replace d00 := below_cell hb8 rfl d00
  replace d01 := below_cell hb8 rfl d01
  replace d02 := below_cell hb8 rfl d02
  replace d03 := below_cell hb8 rfl d03
  have BB8 : Below w.heap.size w w8 := below_step BB7 hb8
  have ZZ8 : w7.heap.size ≤ w8.heap.size := hb8.size
  clear LT7_0
  have LT8_0 : w.heap.size < w8.heap.size := World.block_lt_of_cell? w8 _ d00
  clear hb8
  clear BB7
  go_wp2_with fail
  refine (impl_InverseTwoLevel_any _ _ _ _ _ _ hi0 hi1).mono ?_; rw [← Hr.out]; rintro e w9 ⟨vC0, rfl, hoC0, hb9⟩
  obtain ⟨aC0, capC0, rfl⟩ := hoC0.forms
  have LL_OC0 : ∀ g, (Value.slice aC0 ((r.getD [])).length capC0).ownBlock = some g → w8.heap.size ≤ g ∧ g < w9.heap.size := fun g hg => by have := hoC0.lt g hg; (try simp at this); omega
  replace hoC0 := OwnE.le hoC0 (base' := w.heap.size) (by have := BB8.size; first | omega | (simp; omega))
  replace OA0 := Lib.hid (show OwnE w9 (w.heap.size) 34 (.slice aA0 ((r.getD [])).length capA0) E4.cs 4 ((r.getD [])) from OwnE.below OA0.out hb9 rfl)
  replace OB0 := Lib.hid (show w9.ownsRow (w.heap.size) 34 4 (.slice aB0 ((r.getD [])).length capB0) ((r.getD [])).length (marks (1) (((r.getD [])).length * 4)) from own_below OB0.out hb9 rfl)
  replace d00 := below_cell hb9 rfl d00
  replace d01 := below_cell hb9 rfl d01
  replace d02 := below_cell hb9 rfl d02
  replace d03 := below_cell hb9 rfl d03
  have BB9 : Below w.heap.size w w9 := below_step BB8 hb9
  have ZZ9 : w8.heap.size ≤ w9.heap.size := hb9.size
  clear LT8_0
  have LT9_0 : w.heap.size < w9.heap.size := World.block_lt_of_cell? w9 _ d00
  have OC0 := Lib.hid (show OwnE w9 (w.heap.size) 34 (.slice aC0 ((r.getD [])).length capC0) E4.cs 4 ((r.getD [])) from hoC0); clear hoC0
  clear hb9
  clear BB8
  go_wp2_with fail
  refine (laws_eqTwoLevelS_any _ _ _ _ _ OC0.out.rd OA0.out.rd).mono ?_; rintro e w10 ⟨rfl, hb10⟩
  rw [show decide ((r.getD []) = (r.getD [])) = true from decide_eq_true rfl]
  replace OA0 := Lib.hid (show OwnE w10 (w.heap.size) 34 (.slice aA0 ((r.getD [])).length capA0) E4.cs 4 ((r.getD [])) from OwnE.below OA0.out hb10 rfl)
  replace OB0 := Lib.hid (show w10.ownsRow (w.heap.size) 34 4 (.slice aB0 ((r.getD [])).length capB0) ((r.getD [])).length (marks (1) (((r.getD [])).length * 4)) from own_below OB0.out hb10 rfl)
  replace OC0 := Lib.hid (show OwnE w10 (w.heap.size) 34 (.slice aC0 ((r.getD [])).length capC0) E4.cs 4 ((r.getD [])) from OwnE.below OC0.out hb10 rfl)
  replace d00 := below_cell hb10 rfl d00
  replace d01 := below_cell hb10 rfl d01
  replace d02 := below_cell hb10 rfl d02
  replace d03 := below_cell hb10 rfl d03
  have BB10 : Below w.heap.size w w10 := below_step BB9 hb10
  have ZZ10 : w9.heap.size ≤ w10.heap.size := hb10.size
  clear LT9_0
  have LT10_0 : w.heap.size < w10.heap.size := World.block_lt_of_cell? w10 _ d00
  clear hb10
  clear BB9
  go_wp2_with fail
  refine (laws_heldTwoLevelS_any _ _ _ _ (Rd.of_own OB0.out) (by omega) (by omega) (by omega)).mono ?_; rintro e w11 ⟨rfl, hb11⟩
  replace OA0 := Lib.hid (show OwnE w11 (w.heap.size) 34 (.slice aA0 ((r.getD [])).length capA0) E4.cs 4 ((r.getD [])) from OwnE.below OA0.out hb11 rfl)
  replace OB0 := Lib.hid (show w11.ownsRow (w.heap.size) 34 4 (.slice aB0 ((r.getD [])).length capB0) ((r.getD [])).length (marks (1) (((r.getD [])).length * 4)) from own_below OB0.out hb11 rfl)
  replace OC0 := Lib.hid (show OwnE w11 (w.heap.size) 34 (.slice aC0 ((r.getD [])).length capC0) E4.cs 4 ((r.getD [])) from OwnE.below OC0.out hb11 rfl)
  replace d00 := below_cell hb11 rfl d00
  replace d01 := below_cell hb11 rfl d01
  replace d02 := below_cell hb11 rfl d02
  replace d03 := below_cell hb11 rfl d03
  have BB11 : Below w.heap.size w w11 := below_step BB10 hb11
  have ZZ11 : w10.heap.size ≤ w11.heap.size := hb11.size
  clear LT10_0
  have LT11_0 : w.heap.size < w11.heap.size := World.block_lt_of_cell? w11 _ d00
  clear hb11
  clear BB10
  have hne11 : ¬ (1 + ((((r.getD [])).length * 4 : Nat) : Int) : Int) < 0 := by omega
  go_wp2_with fail
  go_ret
  exact ⟨rfl, BB11⟩
end Go.Proofs.Ytfjokpgcmhebfaa
