/- The walk through the law FnExactIsValidLinear. -/
import Derived.Test.YtdgghpbcinmbhaaLin2
import Derived.Test.YtdgghpbcinmbhaaStLinear
import Derived.Test.YtdgghpbcinmbhaaOpen1
import Derived.Test.YtdgghpbcinmbhaaDat
import Derived.Deep.DeepMust
import Derived.Deep.RegionHeld3
namespace Go.Proofs.Ytdgghpbcinmbhaa
set_option linter.unusedSimpArgs false
set_option linter.unusedVariables false
set_option linter.unnecessarySimpa false
set_option maxRecDepth 200000
open Go.ChangeShapes Go.WideShapes Go.ChangeAt Go.RowKit

set_option maxRecDepth 100000 in
theorem walk_FnExactIsValidLinear (v0 : Value) (w : World) (h0 : IsLinear w v0) :
    Calls Try.prog 4 #[v0] w fun e w' => e = .returned (.bool true) ∧ Below w.heap.size w w' := by
  obtain ⟨d_aM, v_aM0, rfl, HA_aM0, HR_aM⟩ := h0
  obtain ⟨a_aM0, cap_aM0, rfl, LX_aM0⟩ := HA_aM0.form
  replace HA_aM0 := Lib.hid HA_aM0; clear LX_aM0
  replace HR_aM := Lib.hid HR_aM
  by_cases hsz0 : ((d_aM).length : Int) ≤ 1048576
  · skip
    have LEN_aM0 : (d_aM).length ≤ 1048576 := by omega
    have BB0 := Below.refl w.heap.size w
    go_enter Try.func4, Try.ntmps4
    go_wp2_with fail
    have BP0 := Lib.hid (show Below w.heap.size w (w.alloc (.cells #[.slice a_aM0 (d_aM).length cap_aM0] 29)) from (by repeat (first | exact Below.refl _ _ | assumption | refine Below.drew ?_ | refine below_drewN ?_ _ | refine Below.alloc ?_ (by first | omega | (simp <;> omega)) _ | refine Below.setCell ?_ (by first | omega | (simp <;> omega)) _ | refine Below.trans ?_ (Below.mono (by assumption) (by first | omega | (simp <;> omega))))))
    have c_paM0 : (w.alloc (.cells #[.slice a_aM0 (d_aM).length cap_aM0] 29)).cell? ⟨w.heap.size, 0, none⟩ = some (.slice a_aM0 (d_aM).length cap_aM0) := (by repeat (first | (refine Eq.trans (World.cell?_alloc_at _ _ _ _ ?hh) ?_; (case hh => (simp; done)); rfl) | refine cell_alloc_keep _ ?_))
    refine (laws_szLinear_ok _ d_aM _ _ (Rd.below HA_aM0.out (below_step BB0 BP0.out) rfl) (by omega) (by omega)).mono ?_; rintro e w1 ⟨rfl, hb1⟩
    replace c_paM0 := below_cell hb1 rfl c_paM0
    have BB1 : Below w.heap.size w w1 := below_step (below_step BB0 BP0.out) hb1
    have ZZ1 : w.heap.size + 1 ≤ w1.heap.size := by have := hb1.size; (try simp at this); omega
    clear BP0
    have LT1_0 : w.heap.size < w1.heap.size := World.block_lt_of_cell? w1 _ c_paM0
    clear hb1 BB0
    go_wp2_with fail
    refine (laws_toLinear_any _ d_aM _ (Rd.below HA_aM0.out BB1 rfl) LEN_aM0).mono ?_; rintro e w2 ⟨vt10, rfl, hot10, hb2⟩
    obtain ⟨at10, capt10, rfl⟩ := hot10.forms
    have LL_t10 := Lib.hid (show ∀ g, (Value.slice at10 (d_aM).length capt10).ownBlock = some g → w1.heap.size ≤ g ∧ g < w2.heap.size from fun g hg => by have := hot10.lt g hg; (try simp at this); omega)
    replace hot10 := OwnI.le hot10 (base' := w.heap.size) (by have := BB1.size; first | omega | (simp; omega))
    replace c_paM0 := below_cell hb2 rfl c_paM0
    have BB2 : Below w.heap.size w w2 := below_step BB1 hb2
    have ZZ2 : w1.heap.size ≤ w2.heap.size := by have := hb2.size; (try simp at this); omega
    clear LT1_0
    have LT2_0 : w.heap.size < w2.heap.size := World.block_lt_of_cell? w2 _ c_paM0
    have Ot10 := Lib.hid (show OwnI w2 (w.heap.size) (.slice at10 (d_aM).length capt10) (d_aM) from hot10); clear hot10
    clear hb2 BB1
    go_wp2_with fail
    refine (spec_IsValidLinear_any _ _ _ (Ot10.out).rd LEN_aM0).mono ?_; rintro e w3 ⟨rfl, hb3⟩
    replace Ot10 := Lib.hid (show OwnI w3 (w.heap.size) (.slice at10 (d_aM).length capt10) (d_aM) from OwnI.below Ot10.out hb3 rfl)
    replace c_paM0 := below_cell hb3 rfl c_paM0
    have BB3 : Below w.heap.size w w3 := below_step BB2 hb3
    have ZZ3 : w2.heap.size ≤ w3.heap.size := by have := hb3.size; (try simp at this); omega
    clear LT2_0
    have LT3_0 : w.heap.size < w3.heap.size := World.block_lt_of_cell? w3 _ c_paM0
    clear hb3 BB2
    clear Ot10 LL_t10
    go_wp2_with fail
    refine (laws_toLinear_any _ d_aM _ (Rd.below HA_aM0.out BB3 rfl) LEN_aM0).mono ?_; rintro e w4 ⟨vx00, rfl, hox00, hb4⟩
    obtain ⟨ax00, capx00, rfl⟩ := hox00.forms
    have LL_x00 := Lib.hid (show ∀ g, (Value.slice ax00 (d_aM).length capx00).ownBlock = some g → w3.heap.size ≤ g ∧ g < w4.heap.size from fun g hg => by have := hox00.lt g hg; (try simp at this); omega)
    replace hox00 := OwnI.le hox00 (base' := w.heap.size) (by have := BB3.size; first | omega | (simp; omega))
    replace c_paM0 := below_cell hb4 rfl c_paM0
    have BB4 : Below w.heap.size w w4 := below_step BB3 hb4
    have ZZ4 : w3.heap.size ≤ w4.heap.size := by have := hb4.size; (try simp at this); omega
    clear LT3_0
    have LT4_0 : w.heap.size < w4.heap.size := World.block_lt_of_cell? w4 _ c_paM0
    have Ox00 := Lib.hid (show OwnI w4 (w.heap.size) (.slice ax00 (d_aM).length capx00) (d_aM) from hox00); clear hox00
    clear hb4 BB3
    go_wp2_with fail
    have BP4 := Lib.hid (show Below w4.heap.size w4 (w4.alloc (.cells #[.slice ax00 (d_aM).length capx00] 32)) from (by repeat (first | exact Below.refl _ _ | assumption | refine Below.drew ?_ | refine below_drewN ?_ _ | refine Below.alloc ?_ (by first | omega | (simp <;> omega)) _ | refine Below.setCell ?_ (by first | omega | (simp <;> omega)) _ | refine Below.trans ?_ (Below.mono (by assumption) (by first | omega | (simp <;> omega))))))
    replace Ox00 := Lib.hid (show OwnI (w4.alloc (.cells #[.slice ax00 (d_aM).length capx00] 32)) (w.heap.size) (.slice ax00 (d_aM).length capx00) (d_aM) from OwnI.below Ox00.out BP4.out rfl)
    replace c_paM0 := cell_alloc_keep (.cells #[.slice ax00 (d_aM).length capx00] 32) (c_paM0)
    have c_x00 : (w4.alloc (.cells #[.slice ax00 (d_aM).length capx00] 32)).cell? ⟨w4.heap.size, 0, none⟩ = some (.slice ax00 (d_aM).length capx00) := (by repeat (first | (refine Eq.trans (World.cell?_alloc_at _ _ _ _ ?hh) ?_; (case hh => (simp; done)); rfl) | refine cell_alloc_keep _ ?_))
    refine (impl_IsValidLinear_any _ _ _ (Ox00.out).rd LEN_aM0).mono ?_; rintro e w5 ⟨rfl, hb5⟩
    replace Ox00 := Lib.hid (show OwnI w5 (w.heap.size) (.slice ax00 (d_aM).length capx00) (d_aM) from OwnI.below Ox00.out hb5 rfl)
    replace c_paM0 := below_cell hb5 rfl c_paM0
    replace c_x00 := below_cell hb5 rfl c_x00
    have BB5 : Below w.heap.size w w5 := below_step (below_step BB4 BP4.out) hb5
    have ZZ5 : w4.heap.size + 1 ≤ w5.heap.size := by have := hb5.size; (try simp at this); omega
    clear BP4
    clear LT4_0
    have LT5_0 : w.heap.size < w5.heap.size := World.block_lt_of_cell? w5 _ c_paM0
    have LT5_1 : w4.heap.size < w5.heap.size := World.block_lt_of_cell? w5 _ c_x00
    clear hb5 BB4
    go_wp2_with fail
    go_region_held3 (fun w' => w'.cell? ⟨w.heap.size, 0, none⟩ = some (.slice a_aM0 (d_aM).length cap_aM0) ∧ w'.cell? ⟨w4.heap.size, 0, none⟩ = some (.slice ax00 (d_aM).length capx00)) (first | go_keep | (go_split_ands; refine ⟨?_, ?_⟩ <;> assumption)) (first | (go_at_call 21; go_must ((have BP5 := Lib.hid (show Below w5.heap.size w5 (w5.drew) from (by repeat (first | exact Below.refl _ _ | assumption | refine Below.drew ?_ | refine below_drewN ?_ _ | refine Below.alloc ?_ (by first | omega | (simp <;> omega)) _ | refine Below.setCell ?_ (by first | omega | (simp <;> omega)) _ | refine Below.trans ?_ (Below.mono (by assumption) (by first | omega | (simp <;> omega))))))); (replace Ox00 := Lib.hid (show OwnI (w5.drew) (w.heap.size) (.slice ax00 (d_aM).length capx00) (d_aM) from OwnI.below Ox00.out BP5.out rfl)); (replace c_paM0 : (w5.drew).cell? ⟨w.heap.size, 0, none⟩ = some (.slice a_aM0 (d_aM).length cap_aM0) := c_paM0); (replace c_x00 : (w5.drew).cell? ⟨w4.heap.size, 0, none⟩ = some (.slice ax00 (d_aM).length capx00) := c_x00); (refine (laws_toLinear_any _ d_aM _ (Rd.below HA_aM0.out (below_step BB5 BP5.out) rfl) LEN_aM0).mono ?_; rintro e w6 ⟨vt20, rfl, hot20, hb6⟩); (obtain ⟨at20, capt20, rfl⟩ := hot20.forms); (have LL_t20 := Lib.hid (show ∀ g, (Value.slice at20 (d_aM).length capt20).ownBlock = some g → w5.heap.size ≤ g ∧ g < w6.heap.size from fun g hg => by have := hot20.lt g hg; (try simp at this); omega)); (replace hot20 := OwnI.le hot20 (base' := w.heap.size) (by have := BB5.size; first | omega | (simp; omega))); (replace Ox00 := Lib.hid (show OwnI w6 (w.heap.size) (.slice ax00 (d_aM).length capx00) (d_aM) from OwnI.below Ox00.out hb6 rfl)); (replace c_paM0 := below_cell hb6 rfl c_paM0); (replace c_x00 := below_cell hb6 rfl c_x00); (have BB6 : Below w.heap.size w w6 := below_step (below_step BB5 BP5.out) hb6); (have ZZ6 : w5.heap.size ≤ w6.heap.size := by have := hb6.size; (try simp at this); omega); (clear BP5); (clear LT5_0 LT5_1); (have LT6_0 : w.heap.size < w6.heap.size := World.block_lt_of_cell? w6 _ c_paM0); (have LT6_1 : w4.heap.size < w6.heap.size := World.block_lt_of_cell? w6 _ c_x00); (have Ot20 := Lib.hid (show OwnI w6 (w.heap.size) (.slice at20 (d_aM).length capt20) (d_aM) from hot20); clear hot20); (clear hb6 BB5))) | (go_at_call 23; go_must ((refine (laws_eqLinear_any _ _ _ _ _ (Ox00.out).rd (Ot20.out).rd).mono ?_; rintro e w7 ⟨rfl, hb7⟩); (rw [show decide (d_aM = d_aM) = true from decide_eq_true rfl]); (replace Ox00 := Lib.hid (show OwnI w7 (w.heap.size) (.slice ax00 (d_aM).length capx00) (d_aM) from OwnI.below Ox00.out hb7 rfl)); (replace Ot20 := Lib.hid (show OwnI w7 (w.heap.size) (.slice at20 (d_aM).length capt20) (d_aM) from OwnI.below Ot20.out hb7 rfl)); (replace c_paM0 := below_cell hb7 rfl c_paM0); (replace c_x00 := below_cell hb7 rfl c_x00); (have BB7 : Below w.heap.size w w7 := below_step BB6 hb7); (have ZZ7 : w6.heap.size ≤ w7.heap.size := by have := hb7.size; (try simp at this); omega); (clear LT6_0 LT6_1); (have LT7_0 : w.heap.size < w7.heap.size := World.block_lt_of_cell? w7 _ c_paM0); (have LT7_1 : w4.heap.size < w7.heap.size := World.block_lt_of_cell? w7 _ c_x00); (clear hb7 BB6))))
    clear Ot20 LL_t20
    go_wp2_with fail
    go_ret
    exact ⟨rfl, BB7⟩
  · skip
    have BB0 := Below.refl w.heap.size w
    go_enter Try.func4, Try.ntmps4
    go_wp2_with fail
    have BP0 := Lib.hid (show Below w.heap.size w (w.alloc (.cells #[.slice a_aM0 (d_aM).length cap_aM0] 29)) from (by repeat (first | exact Below.refl _ _ | assumption | refine Below.drew ?_ | refine below_drewN ?_ _ | refine Below.alloc ?_ (by first | omega | (simp <;> omega)) _ | refine Below.setCell ?_ (by first | omega | (simp <;> omega)) _ | refine Below.trans ?_ (Below.mono (by assumption) (by first | omega | (simp <;> omega))))))
    have c_paM0 : (w.alloc (.cells #[.slice a_aM0 (d_aM).length cap_aM0] 29)).cell? ⟨w.heap.size, 0, none⟩ = some (.slice a_aM0 (d_aM).length cap_aM0) := (by repeat (first | (refine Eq.trans (World.cell?_alloc_at _ _ _ _ ?hh) ?_; (case hh => (simp; done)); rfl) | refine cell_alloc_keep _ ?_))
    refine (laws_szLinear_no _ d_aM _ _ (Rd.below HA_aM0.out (below_step BB0 BP0.out) rfl) (by omega) (by omega) (by omega)).mono ?_; rintro e w1 ⟨rfl, hb1⟩
    replace c_paM0 := below_cell hb1 rfl c_paM0
    have BB1 : Below w.heap.size w w1 := below_step (below_step BB0 BP0.out) hb1
    have ZZ1 : w.heap.size + 1 ≤ w1.heap.size := by have := hb1.size; (try simp at this); omega
    clear BP0
    have LT1_0 : w.heap.size < w1.heap.size := World.block_lt_of_cell? w1 _ c_paM0
    clear hb1 BB0
    go_wp2_with fail
    go_ret
    exact ⟨rfl, BB1⟩
end Go.Proofs.Ytdgghpbcinmbhaa
