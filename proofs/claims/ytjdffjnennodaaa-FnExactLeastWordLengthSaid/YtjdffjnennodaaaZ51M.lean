/- The walk through the law FnExactLeastWordLength. -/
import Derived.Test.YtjdffjnennodaaaZ50M
import Derived.Test.YtjdffjnennodaaaZ25StTableau
import Derived.Test.YtjdffjnennodaaaZ05M
import Derived.Test.YtjdffjnennodaaaZ06Dat
import Derived.Deep.DeepMust
import Derived.Deep.RegionHeld3
namespace Go.Proofs.Ytjdffjnennodaaa
set_option linter.unusedSimpArgs false
set_option linter.unusedVariables false
set_option linter.unnecessarySimpa false
set_option maxRecDepth 200000
open Go.ChangeShapes Go.WideShapes Go.ChangeAt Go.RowKit

set_option maxHeartbeats 2000000 in
set_option maxRecDepth 100000 in
theorem walk_FnExactLeastWordLength (v0 : Value) (w : World) (h0 : IsTableau w v0) :
    Calls Try.prog 3 #[v0] w fun e w' => e = .returned (.bool true) ∧ Below w.heap.size w w' := by
  obtain ⟨d_aT, v_aT0, v_aT1, rfl, HA_aT0, HA_aT1, HR_aT⟩ := h0
  obtain ⟨a_aT0, cap_aT0, rfl, LX_aT0⟩ := HA_aT0.form
  replace HA_aT0 := Lib.hid HA_aT0; clear LX_aT0
  obtain ⟨a_aT1, cap_aT1, rfl, LX_aT1⟩ := HA_aT1.form
  replace HA_aT1 := Lib.hid HA_aT1; clear LX_aT1
  replace HR_aT := Lib.hid HR_aT
  by_cases hsz0 : (((d_aT).xs).length : Int) + (((d_aT).zs).length : Int) ≤ 1048576
  · skip
    have LEN_aT0 : ((d_aT).xs).length ≤ 1048576 := by omega
    have LEN_aT1 : ((d_aT).zs).length ≤ 1048576 := by omega
    have BB0 := Below.refl w.heap.size w
    go_enter Try.func3, Try.ntmps3
    go_wp2_with fail
    have BP0 := Lib.hid (show Below w.heap.size w (w.alloc (.cells #[.int .i64 ((d_aT).n), .slice a_aT0 ((d_aT).xs).length cap_aT0, .slice a_aT1 ((d_aT).zs).length cap_aT1] 24)) from (by repeat (first | exact Below.refl _ _ | assumption | refine Below.drew ?_ | refine below_drewN ?_ _ | refine Below.alloc ?_ (by first | omega | (simp <;> omega)) _ | refine Below.setCell ?_ (by first | omega | (simp <;> omega)) _ | refine Below.trans ?_ (Below.mono (by assumption) (by first | omega | (simp <;> omega))))))
    have c_paT0 : (w.alloc (.cells #[.int .i64 ((d_aT).n), .slice a_aT0 ((d_aT).xs).length cap_aT0, .slice a_aT1 ((d_aT).zs).length cap_aT1] 24)).cell? ⟨w.heap.size, 0, none⟩ = some (.int .i64 ((d_aT).n)) := (by repeat (first | (refine Eq.trans (World.cell?_alloc_at _ _ _ _ ?hh) ?_; (case hh => (simp; done)); rfl) | refine cell_alloc_keep _ ?_))
    have c_paT1 : (w.alloc (.cells #[.int .i64 ((d_aT).n), .slice a_aT0 ((d_aT).xs).length cap_aT0, .slice a_aT1 ((d_aT).zs).length cap_aT1] 24)).cell? ⟨w.heap.size, 1, none⟩ = some (.slice a_aT0 ((d_aT).xs).length cap_aT0) := (by repeat (first | (refine Eq.trans (World.cell?_alloc_at _ _ _ _ ?hh) ?_; (case hh => (simp; done)); rfl) | refine cell_alloc_keep _ ?_))
    have c_paT2 : (w.alloc (.cells #[.int .i64 ((d_aT).n), .slice a_aT0 ((d_aT).xs).length cap_aT0, .slice a_aT1 ((d_aT).zs).length cap_aT1] 24)).cell? ⟨w.heap.size, 2, none⟩ = some (.slice a_aT1 ((d_aT).zs).length cap_aT1) := (by repeat (first | (refine Eq.trans (World.cell?_alloc_at _ _ _ _ ?hh) ?_; (case hh => (simp; done)); rfl) | refine cell_alloc_keep _ ?_))
    refine (laws_szTableau_ok d_aT _ _ _ _ (Rd.below HA_aT0.out (below_step BB0 BP0.out) rfl) (Rd.below HA_aT1.out (below_step BB0 BP0.out) rfl) (by omega) (by omega)).mono ?_; rintro e w1 ⟨rfl, hb1⟩
    replace c_paT0 := below_cell hb1 rfl c_paT0
    replace c_paT1 := below_cell hb1 rfl c_paT1
    replace c_paT2 := below_cell hb1 rfl c_paT2
    have BB1 : Below w.heap.size w w1 := below_step (below_step BB0 BP0.out) hb1
    have ZZ1 : w.heap.size + 1 ≤ w1.heap.size := by have := hb1.size; (try simp at this); omega
    clear BP0
    have LT1_0 : w.heap.size < w1.heap.size := World.block_lt_of_cell? w1 _ c_paT0
    clear hb1 BB0
    go_wp2_with fail
    refine (laws_toTableau_any d_aT _ _ _ (Rd.below HA_aT0.out BB1 rfl) (Rd.below HA_aT1.out BB1 rfl) LEN_aT0 LEN_aT1).mono ?_; rintro e w2 ⟨vt10, vt11, rfl, hot10, hot11, hapt1, hb2⟩
    obtain ⟨at10, capt10, rfl⟩ := hot10.forms
    have LL_t10 := Lib.hid (show ∀ g, (Value.slice at10 ((d_aT).xs).length capt10).ownBlock = some g → w1.heap.size ≤ g ∧ g < w2.heap.size from fun g hg => by have := hot10.lt g hg; (try simp at this); omega)
    replace hot10 := OwnE.le hot10 (base' := w.heap.size) (by have := BB1.size; first | omega | (simp; omega))
    obtain ⟨at11, capt11, rfl⟩ := hot11.forms
    have LL_t11 := Lib.hid (show ∀ g, (Value.slice at11 ((d_aT).zs).length capt11).ownBlock = some g → w1.heap.size ≤ g ∧ g < w2.heap.size from fun g hg => by have := hot11.lt g hg; (try simp at this); omega)
    replace hot11 := OwnE.le hot11 (base' := w.heap.size) (by have := BB1.size; first | omega | (simp; omega))
    replace c_paT0 := below_cell hb2 rfl c_paT0
    replace c_paT1 := below_cell hb2 rfl c_paT1
    replace c_paT2 := below_cell hb2 rfl c_paT2
    have BB2 : Below w.heap.size w w2 := below_step BB1 hb2
    have ZZ2 : w1.heap.size ≤ w2.heap.size := by have := hb2.size; (try simp at this); omega
    clear LT1_0
    have LT2_0 : w.heap.size < w2.heap.size := World.block_lt_of_cell? w2 _ c_paT0
    have Ot10 := Lib.hid (show OwnE w2 (w.heap.size) 62 (.slice at10 ((d_aT).xs).length capt10) E3.cs 3 ((d_aT).xs) from hot10); clear hot10
    have Ot11 := Lib.hid (show OwnE w2 (w.heap.size) 62 (.slice at11 ((d_aT).zs).length capt11) E3.cs 3 ((d_aT).zs) from hot11); clear hot11
    have AP_t1 := Lib.hid hapt1; clear hapt1
    clear hb2 BB1
    go_wp2_with fail
    refine (spec_LeastWordLength_any d_aT _ _ _ (Ot10.out).rd (Ot11.out).rd LEN_aT0 LEN_aT1).mono ?_; rintro e w3 ⟨rfl, hb3⟩
    replace Ot10 := Lib.hid (show OwnE w3 (w.heap.size) 62 (.slice at10 ((d_aT).xs).length capt10) E3.cs 3 ((d_aT).xs) from OwnE.below Ot10.out hb3 rfl)
    replace Ot11 := Lib.hid (show OwnE w3 (w.heap.size) 62 (.slice at11 ((d_aT).zs).length capt11) E3.cs 3 ((d_aT).zs) from OwnE.below Ot11.out hb3 rfl)
    replace c_paT0 := below_cell hb3 rfl c_paT0
    replace c_paT1 := below_cell hb3 rfl c_paT1
    replace c_paT2 := below_cell hb3 rfl c_paT2
    have BB3 : Below w.heap.size w w3 := below_step BB2 hb3
    have ZZ3 : w2.heap.size ≤ w3.heap.size := by have := hb3.size; (try simp at this); omega
    clear LT2_0
    have LT3_0 : w.heap.size < w3.heap.size := World.block_lt_of_cell? w3 _ c_paT0
    clear hb3 BB2
    clear Ot10 LL_t10
    clear Ot11 LL_t11
    clear AP_t1
    go_wp2_with fail
    refine (laws_toTableau_any d_aT _ _ _ (Rd.below HA_aT0.out BB3 rfl) (Rd.below HA_aT1.out BB3 rfl) LEN_aT0 LEN_aT1).mono ?_; rintro e w4 ⟨vx00, vx01, rfl, hox00, hox01, hapx0, hb4⟩
    obtain ⟨ax00, capx00, rfl⟩ := hox00.forms
    have LL_x00 := Lib.hid (show ∀ g, (Value.slice ax00 ((d_aT).xs).length capx00).ownBlock = some g → w3.heap.size ≤ g ∧ g < w4.heap.size from fun g hg => by have := hox00.lt g hg; (try simp at this); omega)
    replace hox00 := OwnE.le hox00 (base' := w.heap.size) (by have := BB3.size; first | omega | (simp; omega))
    obtain ⟨ax01, capx01, rfl⟩ := hox01.forms
    have LL_x01 := Lib.hid (show ∀ g, (Value.slice ax01 ((d_aT).zs).length capx01).ownBlock = some g → w3.heap.size ≤ g ∧ g < w4.heap.size from fun g hg => by have := hox01.lt g hg; (try simp at this); omega)
    replace hox01 := OwnE.le hox01 (base' := w.heap.size) (by have := BB3.size; first | omega | (simp; omega))
    replace c_paT0 := below_cell hb4 rfl c_paT0
    replace c_paT1 := below_cell hb4 rfl c_paT1
    replace c_paT2 := below_cell hb4 rfl c_paT2
    have BB4 : Below w.heap.size w w4 := below_step BB3 hb4
    have ZZ4 : w3.heap.size ≤ w4.heap.size := by have := hb4.size; (try simp at this); omega
    clear LT3_0
    have LT4_0 : w.heap.size < w4.heap.size := World.block_lt_of_cell? w4 _ c_paT0
    have Ox00 := Lib.hid (show OwnE w4 (w.heap.size) 62 (.slice ax00 ((d_aT).xs).length capx00) E3.cs 3 ((d_aT).xs) from hox00); clear hox00
    have Ox01 := Lib.hid (show OwnE w4 (w.heap.size) 62 (.slice ax01 ((d_aT).zs).length capx01) E3.cs 3 ((d_aT).zs) from hox01); clear hox01
    have AP_x0 := Lib.hid hapx0; clear hapx0
    clear hb4 BB3
    go_wp2_with fail
    have BP4 := Lib.hid (show Below w4.heap.size w4 (w4.alloc (.cells #[.int .i64 ((d_aT).n), .slice ax00 ((d_aT).xs).length capx00, .slice ax01 ((d_aT).zs).length capx01] 30)) from (by repeat (first | exact Below.refl _ _ | assumption | refine Below.drew ?_ | refine below_drewN ?_ _ | refine Below.alloc ?_ (by first | omega | (simp <;> omega)) _ | refine Below.setCell ?_ (by first | omega | (simp <;> omega)) _ | refine Below.trans ?_ (Below.mono (by assumption) (by first | omega | (simp <;> omega))))))
    replace Ox00 := Lib.hid (show OwnE (w4.alloc (.cells #[.int .i64 ((d_aT).n), .slice ax00 ((d_aT).xs).length capx00, .slice ax01 ((d_aT).zs).length capx01] 30)) (w.heap.size) 62 (.slice ax00 ((d_aT).xs).length capx00) E3.cs 3 ((d_aT).xs) from OwnE.below Ox00.out BP4.out rfl)
    replace Ox01 := Lib.hid (show OwnE (w4.alloc (.cells #[.int .i64 ((d_aT).n), .slice ax00 ((d_aT).xs).length capx00, .slice ax01 ((d_aT).zs).length capx01] 30)) (w.heap.size) 62 (.slice ax01 ((d_aT).zs).length capx01) E3.cs 3 ((d_aT).zs) from OwnE.below Ox01.out BP4.out rfl)
    replace c_paT0 := cell_alloc_keep (.cells #[.int .i64 ((d_aT).n), .slice ax00 ((d_aT).xs).length capx00, .slice ax01 ((d_aT).zs).length capx01] 30) (c_paT0)
    replace c_paT1 := cell_alloc_keep (.cells #[.int .i64 ((d_aT).n), .slice ax00 ((d_aT).xs).length capx00, .slice ax01 ((d_aT).zs).length capx01] 30) (c_paT1)
    replace c_paT2 := cell_alloc_keep (.cells #[.int .i64 ((d_aT).n), .slice ax00 ((d_aT).xs).length capx00, .slice ax01 ((d_aT).zs).length capx01] 30) (c_paT2)
    have c_x00 : (w4.alloc (.cells #[.int .i64 ((d_aT).n), .slice ax00 ((d_aT).xs).length capx00, .slice ax01 ((d_aT).zs).length capx01] 30)).cell? ⟨w4.heap.size, 0, none⟩ = some (.int .i64 ((d_aT).n)) := (by repeat (first | (refine Eq.trans (World.cell?_alloc_at _ _ _ _ ?hh) ?_; (case hh => (simp; done)); rfl) | refine cell_alloc_keep _ ?_))
    have c_x01 : (w4.alloc (.cells #[.int .i64 ((d_aT).n), .slice ax00 ((d_aT).xs).length capx00, .slice ax01 ((d_aT).zs).length capx01] 30)).cell? ⟨w4.heap.size, 1, none⟩ = some (.slice ax00 ((d_aT).xs).length capx00) := (by repeat (first | (refine Eq.trans (World.cell?_alloc_at _ _ _ _ ?hh) ?_; (case hh => (simp; done)); rfl) | refine cell_alloc_keep _ ?_))
    have c_x02 : (w4.alloc (.cells #[.int .i64 ((d_aT).n), .slice ax00 ((d_aT).xs).length capx00, .slice ax01 ((d_aT).zs).length capx01] 30)).cell? ⟨w4.heap.size, 2, none⟩ = some (.slice ax01 ((d_aT).zs).length capx01) := (by repeat (first | (refine Eq.trans (World.cell?_alloc_at _ _ _ _ ?hh) ?_; (case hh => (simp; done)); rfl) | refine cell_alloc_keep _ ?_))
    refine (impl_LeastWordLength_any d_aT _ _ _ (Ox00.out).rd (Ox01.out).rd LEN_aT0 LEN_aT1).mono ?_; rintro e w5 ⟨rfl, hb5⟩
    replace Ox00 := Lib.hid (show OwnE w5 (w.heap.size) 62 (.slice ax00 ((d_aT).xs).length capx00) E3.cs 3 ((d_aT).xs) from OwnE.below Ox00.out hb5 rfl)
    replace Ox01 := Lib.hid (show OwnE w5 (w.heap.size) 62 (.slice ax01 ((d_aT).zs).length capx01) E3.cs 3 ((d_aT).zs) from OwnE.below Ox01.out hb5 rfl)
    replace c_paT0 := below_cell hb5 rfl c_paT0
    replace c_paT1 := below_cell hb5 rfl c_paT1
    replace c_paT2 := below_cell hb5 rfl c_paT2
    replace c_x00 := below_cell hb5 rfl c_x00
    replace c_x01 := below_cell hb5 rfl c_x01
    replace c_x02 := below_cell hb5 rfl c_x02
    have BB5 : Below w.heap.size w w5 := below_step (below_step BB4 BP4.out) hb5
    have ZZ5 : w4.heap.size + 1 ≤ w5.heap.size := by have := hb5.size; (try simp at this); omega
    clear BP4
    clear LT4_0
    have LT5_0 : w.heap.size < w5.heap.size := World.block_lt_of_cell? w5 _ c_paT0
    have LT5_1 : w4.heap.size < w5.heap.size := World.block_lt_of_cell? w5 _ c_x00
    clear hb5 BB4
    go_wp2_with fail
    go_region_held3 (fun w' => w'.cell? ⟨w.heap.size, 0, none⟩ = some (.int .i64 ((d_aT).n)) ∧ w'.cell? ⟨w.heap.size, 1, none⟩ = some (.slice a_aT0 ((d_aT).xs).length cap_aT0) ∧ w'.cell? ⟨w.heap.size, 2, none⟩ = some (.slice a_aT1 ((d_aT).zs).length cap_aT1) ∧ w'.cell? ⟨w4.heap.size, 0, none⟩ = some (.int .i64 ((d_aT).n)) ∧ w'.cell? ⟨w4.heap.size, 1, none⟩ = some (.slice ax00 ((d_aT).xs).length capx00) ∧ w'.cell? ⟨w4.heap.size, 2, none⟩ = some (.slice ax01 ((d_aT).zs).length capx01)) (first | go_keep | (go_split_ands; refine ⟨?_, ?_, ?_, ?_, ?_, ?_⟩ <;> first | assumption | (refine cell_alloc_keep _ ?_; assumption) | (simp [*]; done))) (first | (go_at_call 7; go_must ((have BP5 := Lib.hid (show Below w5.heap.size w5 (w5.drew) from (by repeat (first | exact Below.refl _ _ | assumption | refine Below.drew ?_ | refine below_drewN ?_ _ | refine Below.alloc ?_ (by first | omega | (simp <;> omega)) _ | refine Below.setCell ?_ (by first | omega | (simp <;> omega)) _ | refine Below.trans ?_ (Below.mono (by assumption) (by first | omega | (simp <;> omega))))))); (replace Ox00 := Lib.hid (show OwnE (w5.drew) (w.heap.size) 62 (.slice ax00 ((d_aT).xs).length capx00) E3.cs 3 ((d_aT).xs) from OwnE.below Ox00.out BP5.out rfl)); (replace Ox01 := Lib.hid (show OwnE (w5.drew) (w.heap.size) 62 (.slice ax01 ((d_aT).zs).length capx01) E3.cs 3 ((d_aT).zs) from OwnE.below Ox01.out BP5.out rfl)); (replace c_paT0 : (w5.drew).cell? ⟨w.heap.size, 0, none⟩ = some (.int .i64 ((d_aT).n)) := c_paT0); (replace c_paT1 : (w5.drew).cell? ⟨w.heap.size, 1, none⟩ = some (.slice a_aT0 ((d_aT).xs).length cap_aT0) := c_paT1); (replace c_paT2 : (w5.drew).cell? ⟨w.heap.size, 2, none⟩ = some (.slice a_aT1 ((d_aT).zs).length cap_aT1) := c_paT2); (replace c_x00 : (w5.drew).cell? ⟨w4.heap.size, 0, none⟩ = some (.int .i64 ((d_aT).n)) := c_x00); (replace c_x01 : (w5.drew).cell? ⟨w4.heap.size, 1, none⟩ = some (.slice ax00 ((d_aT).xs).length capx00) := c_x01); (replace c_x02 : (w5.drew).cell? ⟨w4.heap.size, 2, none⟩ = some (.slice ax01 ((d_aT).zs).length capx01) := c_x02); (refine (laws_toTableau_any d_aT _ _ _ (Rd.below HA_aT0.out (below_step BB5 BP5.out) rfl) (Rd.below HA_aT1.out (below_step BB5 BP5.out) rfl) LEN_aT0 LEN_aT1).mono ?_; rintro e w6 ⟨vt20, vt21, rfl, hot20, hot21, hapt2, hb6⟩); (obtain ⟨at20, capt20, rfl⟩ := hot20.forms); (have LL_t20 := Lib.hid (show ∀ g, (Value.slice at20 ((d_aT).xs).length capt20).ownBlock = some g → w5.heap.size ≤ g ∧ g < w6.heap.size from fun g hg => by have := hot20.lt g hg; (try simp at this); omega)); (replace hot20 := OwnE.le hot20 (base' := w.heap.size) (by have := BB5.size; first | omega | (simp; omega))); (obtain ⟨at21, capt21, rfl⟩ := hot21.forms); (have LL_t21 := Lib.hid (show ∀ g, (Value.slice at21 ((d_aT).zs).length capt21).ownBlock = some g → w5.heap.size ≤ g ∧ g < w6.heap.size from fun g hg => by have := hot21.lt g hg; (try simp at this); omega)); (replace hot21 := OwnE.le hot21 (base' := w.heap.size) (by have := BB5.size; first | omega | (simp; omega))); (replace Ox00 := Lib.hid (show OwnE w6 (w.heap.size) 62 (.slice ax00 ((d_aT).xs).length capx00) E3.cs 3 ((d_aT).xs) from OwnE.below Ox00.out hb6 rfl)); (replace Ox01 := Lib.hid (show OwnE w6 (w.heap.size) 62 (.slice ax01 ((d_aT).zs).length capx01) E3.cs 3 ((d_aT).zs) from OwnE.below Ox01.out hb6 rfl)); (replace c_paT0 := below_cell hb6 rfl c_paT0); (replace c_paT1 := below_cell hb6 rfl c_paT1); (replace c_paT2 := below_cell hb6 rfl c_paT2); (replace c_x00 := below_cell hb6 rfl c_x00); (replace c_x01 := below_cell hb6 rfl c_x01); (replace c_x02 := below_cell hb6 rfl c_x02); (have BB6 : Below w.heap.size w w6 := below_step (below_step BB5 BP5.out) hb6); (have ZZ6 : w5.heap.size ≤ w6.heap.size := by have := hb6.size; (try simp at this); omega); (clear BP5); (clear LT5_0 LT5_1); (have LT6_0 : w.heap.size < w6.heap.size := World.block_lt_of_cell? w6 _ c_paT0); (have LT6_1 : w4.heap.size < w6.heap.size := World.block_lt_of_cell? w6 _ c_x00); (have Ot20 := Lib.hid (show OwnE w6 (w.heap.size) 62 (.slice at20 ((d_aT).xs).length capt20) E3.cs 3 ((d_aT).xs) from hot20); clear hot20); (have Ot21 := Lib.hid (show OwnE w6 (w.heap.size) 62 (.slice at21 ((d_aT).zs).length capt21) E3.cs 3 ((d_aT).zs) from hot21); clear hot21); (have AP_t2 := Lib.hid hapt2; clear hapt2); (clear hb6 BB5))) | (go_at_call 9; go_must ((refine (laws_eqTableau_same d_aT _ _ _ _ _ (Ox00.out).rd (Ox01.out).rd (Ot20.out).rd (Ot21.out).rd).mono ?_; rintro e w7 ⟨rfl, hb7⟩); (replace Ox00 := Lib.hid (show OwnE w7 (w.heap.size) 62 (.slice ax00 ((d_aT).xs).length capx00) E3.cs 3 ((d_aT).xs) from OwnE.below Ox00.out hb7 rfl)); (replace Ox01 := Lib.hid (show OwnE w7 (w.heap.size) 62 (.slice ax01 ((d_aT).zs).length capx01) E3.cs 3 ((d_aT).zs) from OwnE.below Ox01.out hb7 rfl)); (replace Ot20 := Lib.hid (show OwnE w7 (w.heap.size) 62 (.slice at20 ((d_aT).xs).length capt20) E3.cs 3 ((d_aT).xs) from OwnE.below Ot20.out hb7 rfl)); (replace Ot21 := Lib.hid (show OwnE w7 (w.heap.size) 62 (.slice at21 ((d_aT).zs).length capt21) E3.cs 3 ((d_aT).zs) from OwnE.below Ot21.out hb7 rfl)); (replace c_paT0 := below_cell hb7 rfl c_paT0); (replace c_paT1 := below_cell hb7 rfl c_paT1); (replace c_paT2 := below_cell hb7 rfl c_paT2); (replace c_x00 := below_cell hb7 rfl c_x00); (replace c_x01 := below_cell hb7 rfl c_x01); (replace c_x02 := below_cell hb7 rfl c_x02); (have BB7 : Below w.heap.size w w7 := below_step BB6 hb7); (have ZZ7 : w6.heap.size ≤ w7.heap.size := by have := hb7.size; (try simp at this); omega); (clear LT6_0 LT6_1); (have LT7_0 : w.heap.size < w7.heap.size := World.block_lt_of_cell? w7 _ c_paT0); (have LT7_1 : w4.heap.size < w7.heap.size := World.block_lt_of_cell? w7 _ c_x00); (clear hb7 BB6))))
    clear Ot20 LL_t20
    clear Ot21 LL_t21
    clear AP_t2
    go_wp2_with fail
    go_ret
    exact ⟨rfl, BB7⟩
  · skip
    have BB0 := Below.refl w.heap.size w
    go_enter Try.func3, Try.ntmps3
    go_wp2_with fail
    have BP0 := Lib.hid (show Below w.heap.size w (w.alloc (.cells #[.int .i64 ((d_aT).n), .slice a_aT0 ((d_aT).xs).length cap_aT0, .slice a_aT1 ((d_aT).zs).length cap_aT1] 24)) from (by repeat (first | exact Below.refl _ _ | assumption | refine Below.drew ?_ | refine below_drewN ?_ _ | refine Below.alloc ?_ (by first | omega | (simp <;> omega)) _ | refine Below.setCell ?_ (by first | omega | (simp <;> omega)) _ | refine Below.trans ?_ (Below.mono (by assumption) (by first | omega | (simp <;> omega))))))
    have c_paT0 : (w.alloc (.cells #[.int .i64 ((d_aT).n), .slice a_aT0 ((d_aT).xs).length cap_aT0, .slice a_aT1 ((d_aT).zs).length cap_aT1] 24)).cell? ⟨w.heap.size, 0, none⟩ = some (.int .i64 ((d_aT).n)) := (by repeat (first | (refine Eq.trans (World.cell?_alloc_at _ _ _ _ ?hh) ?_; (case hh => (simp; done)); rfl) | refine cell_alloc_keep _ ?_))
    have c_paT1 : (w.alloc (.cells #[.int .i64 ((d_aT).n), .slice a_aT0 ((d_aT).xs).length cap_aT0, .slice a_aT1 ((d_aT).zs).length cap_aT1] 24)).cell? ⟨w.heap.size, 1, none⟩ = some (.slice a_aT0 ((d_aT).xs).length cap_aT0) := (by repeat (first | (refine Eq.trans (World.cell?_alloc_at _ _ _ _ ?hh) ?_; (case hh => (simp; done)); rfl) | refine cell_alloc_keep _ ?_))
    have c_paT2 : (w.alloc (.cells #[.int .i64 ((d_aT).n), .slice a_aT0 ((d_aT).xs).length cap_aT0, .slice a_aT1 ((d_aT).zs).length cap_aT1] 24)).cell? ⟨w.heap.size, 2, none⟩ = some (.slice a_aT1 ((d_aT).zs).length cap_aT1) := (by repeat (first | (refine Eq.trans (World.cell?_alloc_at _ _ _ _ ?hh) ?_; (case hh => (simp; done)); rfl) | refine cell_alloc_keep _ ?_))
    refine (laws_szTableau_no d_aT _ _ _ _ (Rd.below HA_aT0.out (below_step BB0 BP0.out) rfl) (Rd.below HA_aT1.out (below_step BB0 BP0.out) rfl) (by omega) (by omega) (by omega)).mono ?_; rintro e w1 ⟨rfl, hb1⟩
    replace c_paT0 := below_cell hb1 rfl c_paT0
    replace c_paT1 := below_cell hb1 rfl c_paT1
    replace c_paT2 := below_cell hb1 rfl c_paT2
    have BB1 : Below w.heap.size w w1 := below_step (below_step BB0 BP0.out) hb1
    have ZZ1 : w.heap.size + 1 ≤ w1.heap.size := by have := hb1.size; (try simp at this); omega
    clear BP0
    have LT1_0 : w.heap.size < w1.heap.size := World.block_lt_of_cell? w1 _ c_paT0
    clear hb1 BB0
    go_wp2_with fail
    go_ret
    exact ⟨rfl, BB1⟩
end Go.Proofs.Ytjdffjnennodaaa
namespace Go.Proofs.Ytjdffjnennodaaa.lawLeastWordLength
set_option linter.unusedSimpArgs false
set_option linter.unusedVariables false
set_option linter.unnecessarySimpa false
set_option maxRecDepth 200000
open Go.ChangeShapes Go.WideShapes Go.ChangeAt Go.RowKit

set_option maxRecDepth 100000 in
theorem lifted (os : Os) (started : os.Started) (H : Type) (enc : TypeId × Value → H) :
    ReturnsInHanded {} Try.checked os 3 .any (Rows.fnExactLeastWordLengthSpec.pre6 enc Try.prog Try.f3 Rows.fnExactLeastWordLengthRow.domain false) (Rows.fnExactLeastWordLengthSpec.post enc Try.prog Try.f3 false true false false) := by
  refine law_lifted (C := Try.checked) own started (by kernel_rfl) Try.func3 rfl laidOut (of_decide_eq_true (by kernel_rfl)) rfl Try.underlying4
      (fun ds hds => by match ds, hds with | [_], _ => rfl)
      (ChangeSpec.witness6 (enc := enc) (C := Try.checked) false ⟨#[], #[.agg #[.int .i64 0, .slice none 0 0, .slice none 0 0]], []⟩ 8 (by kernel_rfl) (by kernel_rfl) (by kernel_rfl) (by kernel_rfl)) ?_
  intro W base args ds p hval0 hA0
  have hval : ∀ (j : Nat) t v, Try.f3.params[j]? = some t → args[j]? = some v → Value.okWide Try.prog W .any base t v := hval0
  have hA : DataW.TrodAll enc Try.prog W 0 (fun _ => true) true Try.f3.params.toList args.toList ds p := hA0
  rw [Try.params3] at hA hval
  clear hval0 hA0
  obtain ⟨v0, vs0, d0, ds0, p0, q0, hargs, rfl, rfl, h0, r0⟩ := trodAll_cons hA
  obtain ⟨rfl, rfl, rfl⟩ := trodAll_nil r0
  obtain rfl : args = #[v0] := by cases args; simp_all
  exact walk_FnExactLeastWordLength v0 W (isTableau_of (hval 0 24 v0 rfl rfl) h0)

theorem proved : Rows.FnExactLeastWordLengthSaid :=
  OpenClaim.holds_of_wide 3 Try.f3 rfl rfl rfl rfl rfl rfl rfl ⟨rfl, rfl, rfl, rfl, rfl⟩ rfl rfl rfl rfl rfl (by kernel_rfl) Try.func3 (by kernel_rfl)
    (of_decide_eq_true (by kernel_rfl)) (by unfold Func.isWrapper; first | (rw [if_pos (by decide +kernel)]; kernel_rfl) | (rw [if_neg (by decide +kernel)]; exact ⟨rfl, rfl⟩))
    (fun os started H enc _ => lifted os started H enc)
#print axioms proved
end Go.Proofs.Ytjdffjnennodaaa.lawLeastWordLength
