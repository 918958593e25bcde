/- The walk through the law FnExactLeastWord. -/
import Derived.Test.YtjdffjnennodaaaZ50M
import Derived.Test.YtjdffjnennodaaaZ29M
import Derived.Test.YtjdffjnennodaaaZ25StTableau
import Derived.Test.YtjdffjnennodaaaZ05M
import Derived.Test.YtjdffjnennodaaaZ06Dat
import Derived.Deep.DeepMust
import Derived.Deep.RegionHeld3
namespace Go.Proofs.Ytjdffjnennodaaa
set_option linter.unusedSimpArgs false
set_option linter.unusedVariables false
set_option linter.unnecessarySimpa false
set_option maxRecDepth 200000
open Go.ChangeShapes Go.WideShapes Go.ChangeAt Go.RowKit

set_option maxHeartbeats 2000000 in
set_option maxRecDepth 100000 in
theorem walk_FnExactLeastWord (v0 : Value) (w : World) (h0 : IsTableau w v0) :
    Calls Try.prog 4 #[v0] w fun e w' => e = .returned (.bool true) ∧ Below w.heap.size w w' := by
  obtain ⟨d_aT, v_aT0, v_aT1, rfl, HA_aT0, HA_aT1, HR_aT⟩ := h0
  obtain ⟨a_aT0, cap_aT0, rfl, LX_aT0⟩ := HA_aT0.form
  replace HA_aT0 := Lib.hid HA_aT0; clear LX_aT0
  obtain ⟨a_aT1, cap_aT1, rfl, LX_aT1⟩ := HA_aT1.form
  replace HA_aT1 := Lib.hid HA_aT1; clear LX_aT1
  replace HR_aT := Lib.hid HR_aT
  by_cases hsz0 : (((d_aT).xs).length : Int) + (((d_aT).zs).length : Int) ≤ 1048576
  · skip
    have LEN_aT0 : ((d_aT).xs).length ≤ 1048576 := by omega
    have LEN_aT1 : ((d_aT).zs).length ≤ 1048576 := by omega
    obtain ⟨r, hr⟩ : ∃ r, r = lwG d_aT := ⟨_, rfl⟩
    have hlen0 : (r.getD Circ.zero).gs.length ≤ 1000000 := by subst hr; exact Nat.le_trans (lwG_len _) (by decide)
    have Hr := Lib.hid hr; clear hr
    have BB0 := Below.refl w.heap.size w
    go_enter Try.func4, Try.ntmps4
    go_wp2_with fail
    have BP0 := Lib.hid (show Below w.heap.size w (w.alloc (.cells #[.int .i64 ((d_aT).n), .slice a_aT0 ((d_aT).xs).length cap_aT0, .slice a_aT1 ((d_aT).zs).length cap_aT1] 24)) from (by repeat (first | exact Below.refl _ _ | assumption | refine Below.drew ?_ | refine below_drewN ?_ _ | refine Below.alloc ?_ (by first | omega | (simp <;> omega)) _ | refine Below.setCell ?_ (by first | omega | (simp <;> omega)) _ | refine Below.trans ?_ (Below.mono (by assumption) (by first | omega | (simp <;> omega))))))
    have c_paT0 : (w.alloc (.cells #[.int .i64 ((d_aT).n), .slice a_aT0 ((d_aT).xs).length cap_aT0, .slice a_aT1 ((d_aT).zs).length cap_aT1] 24)).cell? ⟨w.heap.size, 0, none⟩ = some (.int .i64 ((d_aT).n)) := (by repeat (first | (refine Eq.trans (World.cell?_alloc_at _ _ _ _ ?hh) ?_; (case hh => (simp; done)); rfl) | refine cell_alloc_keep _ ?_))
    have c_paT1 : (w.alloc (.cells #[.int .i64 ((d_aT).n), .slice a_aT0 ((d_aT).xs).length cap_aT0, .slice a_aT1 ((d_aT).zs).length cap_aT1] 24)).cell? ⟨w.heap.size, 1, none⟩ = some (.slice a_aT0 ((d_aT).xs).length cap_aT0) := (by repeat (first | (refine Eq.trans (World.cell?_alloc_at _ _ _ _ ?hh) ?_; (case hh => (simp; done)); rfl) | refine cell_alloc_keep _ ?_))
    have c_paT2 : (w.alloc (.cells #[.int .i64 ((d_aT).n), .slice a_aT0 ((d_aT).xs).length cap_aT0, .slice a_aT1 ((d_aT).zs).length cap_aT1] 24)).cell? ⟨w.heap.size, 2, none⟩ = some (.slice a_aT1 ((d_aT).zs).length cap_aT1) := (by repeat (first | (refine Eq.trans (World.cell?_alloc_at _ _ _ _ ?hh) ?_; (case hh => (simp; done)); rfl) | refine cell_alloc_keep _ ?_))
    refine (laws_szTableau_ok d_aT _ _ _ _ (Rd.below HA_aT0.out (below_step BB0 BP0.out) rfl) (Rd.below HA_aT1.out (below_step BB0 BP0.out) rfl) (by omega) (by omega)).mono ?_; rintro e w1 ⟨rfl, hb1⟩
    replace c_paT0 := below_cell hb1 rfl c_paT0
    replace c_paT1 := below_cell hb1 rfl c_paT1
    replace c_paT2 := below_cell hb1 rfl c_paT2
    have BB1 : Below w.heap.size w w1 := below_step (below_step BB0 BP0.out) hb1
    have ZZ1 : w.heap.size + 1 ≤ w1.heap.size := by have := hb1.size; (try simp at this); omega
    clear BP0
    have LT1_0 : w.heap.size < w1.heap.size := World.block_lt_of_cell? w1 _ c_paT0
    clear hb1 BB0
    go_wp2_with fail
    refine (laws_toTableau_any d_aT _ _ _ (Rd.below HA_aT0.out BB1 rfl) (Rd.below HA_aT1.out BB1 rfl) LEN_aT0 LEN_aT1).mono ?_; rintro e w2 ⟨vt10, vt11, rfl, hot10, hot11, hapt1, hb2⟩
    obtain ⟨at10, capt10, rfl⟩ := hot10.forms
    have LL_t10 := Lib.hid (show ∀ g, (Value.slice at10 ((d_aT).xs).length capt10).ownBlock = some g → w1.heap.size ≤ g ∧ g < w2.heap.size from fun g hg => by have := hot10.lt g hg; (try simp at this); omega)
    replace hot10 := OwnE.le hot10 (base' := w.heap.size) (by have := BB1.size; first | omega | (simp; omega))
    obtain ⟨at11, capt11, rfl⟩ := hot11.forms
    have LL_t11 := Lib.hid (show ∀ g, (Value.slice at11 ((d_aT).zs).length capt11).ownBlock = some g → w1.heap.size ≤ g ∧ g < w2.heap.size from fun g hg => by have := hot11.lt g hg; (try simp at this); omega)
    replace hot11 := OwnE.le hot11 (base' := w.heap.size) (by have := BB1.size; first | omega | (simp; omega))
    replace c_paT0 := below_cell hb2 rfl c_paT0
    replace c_paT1 := below_cell hb2 rfl c_paT1
    replace c_paT2 := below_cell hb2 rfl c_paT2
    have BB2 : Below w.heap.size w w2 := below_step BB1 hb2
    have ZZ2 : w1.heap.size ≤ w2.heap.size := by have := hb2.size; (try simp at this); omega
    clear LT1_0
    have LT2_0 : w.heap.size < w2.heap.size := World.block_lt_of_cell? w2 _ c_paT0
    have Ot10 := Lib.hid (show OwnE w2 (w.heap.size) 62 (.slice at10 ((d_aT).xs).length capt10) E3.cs 3 ((d_aT).xs) from hot10); clear hot10
    have Ot11 := Lib.hid (show OwnE w2 (w.heap.size) 62 (.slice at11 ((d_aT).zs).length capt11) E3.cs 3 ((d_aT).zs) from hot11); clear hot11
    have AP_t1 := Lib.hid hapt1; clear hapt1
    clear hb2 BB1
    go_wp2_with fail
    refine (spec_LeastWord_any d_aT _ _ _ (Ot10.out).rd (Ot11.out).rd LEN_aT0 LEN_aT1).mono ?_; rw [← Hr.out]; rintro e w3 ⟨vw00, rfl, how00, hb3⟩
    obtain ⟨aw00, capw00, rfl⟩ := how00.forms
    have LL_w00 := Lib.hid (show ∀ g, (Value.slice aw00 (((r.getD Circ.zero)).gs).length capw00).ownBlock = some g → w2.heap.size ≤ g ∧ g < w3.heap.size from fun g hg => by have := how00.lt g hg; (try simp at this); omega)
    replace how00 := OwnE.le how00 (base' := w.heap.size) (by have := BB2.size; first | omega | (simp; omega))
    replace Ot10 := Lib.hid (show OwnE w3 (w.heap.size) 62 (.slice at10 ((d_aT).xs).length capt10) E3.cs 3 ((d_aT).xs) from OwnE.below Ot10.out hb3 rfl)
    replace Ot11 := Lib.hid (show OwnE w3 (w.heap.size) 62 (.slice at11 ((d_aT).zs).length capt11) E3.cs 3 ((d_aT).zs) from OwnE.below Ot11.out hb3 rfl)
    replace c_paT0 := below_cell hb3 rfl c_paT0
    replace c_paT1 := below_cell hb3 rfl c_paT1
    replace c_paT2 := below_cell hb3 rfl c_paT2
    have BB3 : Below w.heap.size w w3 := below_step BB2 hb3
    have ZZ3 : w2.heap.size ≤ w3.heap.size := by have := hb3.size; (try simp at this); omega
    clear LT2_0
    have LT3_0 : w.heap.size < w3.heap.size := World.block_lt_of_cell? w3 _ c_paT0
    have Ow00 := Lib.hid (show OwnE w3 (w.heap.size) 57 (.slice aw00 (((r.getD Circ.zero)).gs).length capw00) E3.cs 3 (((r.getD Circ.zero)).gs) from how00); clear how00
    clear hb3 BB2
    clear Ot10 LL_t10
    clear Ot11 LL_t11
    clear AP_t1
    go_wp2_with fail
    have BP3 := Lib.hid (show Below w3.heap.size w3 (w3.alloc (.cells #[.int .i64 (((r.getD Circ.zero)).n), .slice aw00 (((r.getD Circ.zero)).gs).length capw00] 36)) from (by repeat (first | exact Below.refl _ _ | assumption | refine Below.drew ?_ | refine below_drewN ?_ _ | refine Below.alloc ?_ (by first | omega | (simp <;> omega)) _ | refine Below.setCell ?_ (by first | omega | (simp <;> omega)) _ | refine Below.trans ?_ (Below.mono (by assumption) (by first | omega | (simp <;> omega))))))
    replace Ow00 := Lib.hid (show OwnE (w3.alloc (.cells #[.int .i64 (((r.getD Circ.zero)).n), .slice aw00 (((r.getD Circ.zero)).gs).length capw00] 36)) (w.heap.size) 57 (.slice aw00 (((r.getD Circ.zero)).gs).length capw00) E3.cs 3 (((r.getD Circ.zero)).gs) from OwnE.below Ow00.out BP3.out rfl)
    replace c_paT0 := cell_alloc_keep (.cells #[.int .i64 (((r.getD Circ.zero)).n), .slice aw00 (((r.getD Circ.zero)).gs).length capw00] 36) (c_paT0)
    replace c_paT1 := cell_alloc_keep (.cells #[.int .i64 (((r.getD Circ.zero)).n), .slice aw00 (((r.getD Circ.zero)).gs).length capw00] 36) (c_paT1)
    replace c_paT2 := cell_alloc_keep (.cells #[.int .i64 (((r.getD Circ.zero)).n), .slice aw00 (((r.getD Circ.zero)).gs).length capw00] 36) (c_paT2)
    have c_w00 : (w3.alloc (.cells #[.int .i64 (((r.getD Circ.zero)).n), .slice aw00 (((r.getD Circ.zero)).gs).length capw00] 36)).cell? ⟨w3.heap.size, 0, none⟩ = some (.int .i64 (((r.getD Circ.zero)).n)) := (by repeat (first | (refine Eq.trans (World.cell?_alloc_at _ _ _ _ ?hh) ?_; (case hh => (simp; done)); rfl) | refine cell_alloc_keep _ ?_))
    have c_w01 : (w3.alloc (.cells #[.int .i64 (((r.getD Circ.zero)).n), .slice aw00 (((r.getD Circ.zero)).gs).length capw00] 36)).cell? ⟨w3.heap.size, 1, none⟩ = some (.slice aw00 (((r.getD Circ.zero)).gs).length capw00) := (by repeat (first | (refine Eq.trans (World.cell?_alloc_at _ _ _ _ ?hh) ?_; (case hh => (simp; done)); rfl) | refine cell_alloc_keep _ ?_))
    refine (laws_toTableau_any d_aT _ _ _ (Rd.below HA_aT0.out (below_step BB3 BP3.out) rfl) (Rd.below HA_aT1.out (below_step BB3 BP3.out) rfl) LEN_aT0 LEN_aT1).mono ?_; rintro e w4 ⟨vx00, vx01, rfl, hox00, hox01, hapx0, hb4⟩
    obtain ⟨ax00, capx00, rfl⟩ := hox00.forms
    have LL_x00 := Lib.hid (show ∀ g, (Value.slice ax00 ((d_aT).xs).length capx00).ownBlock = some g → w3.heap.size + 1 ≤ g ∧ g < w4.heap.size from fun g hg => by have := hox00.lt g hg; (try simp at this); omega)
    replace hox00 := OwnE.le hox00 (base' := w.heap.size) (by have := BB3.size; first | omega | (simp; omega))
    obtain ⟨ax01, capx01, rfl⟩ := hox01.forms
    have LL_x01 := Lib.hid (show ∀ g, (Value.slice ax01 ((d_aT).zs).length capx01).ownBlock = some g → w3.heap.size + 1 ≤ g ∧ g < w4.heap.size from fun g hg => by have := hox01.lt g hg; (try simp at this); omega)
    replace hox01 := OwnE.le hox01 (base' := w.heap.size) (by have := BB3.size; first | omega | (simp; omega))
    replace Ow00 := Lib.hid (show OwnE w4 (w.heap.size) 57 (.slice aw00 (((r.getD Circ.zero)).gs).length capw00) E3.cs 3 (((r.getD Circ.zero)).gs) from OwnE.below Ow00.out hb4 rfl)
    replace c_paT0 := below_cell hb4 rfl c_paT0
    replace c_paT1 := below_cell hb4 rfl c_paT1
    replace c_paT2 := below_cell hb4 rfl c_paT2
    replace c_w00 := below_cell hb4 rfl c_w00
    replace c_w01 := below_cell hb4 rfl c_w01
    have BB4 : Below w.heap.size w w4 := below_step (below_step BB3 BP3.out) hb4
    have ZZ4 : w3.heap.size + 1 ≤ w4.heap.size := by have := hb4.size; (try simp at this); omega
    clear BP3
    clear LT3_0
    have LT4_0 : w.heap.size < w4.heap.size := World.block_lt_of_cell? w4 _ c_paT0
    have LT4_1 : w3.heap.size < w4.heap.size := World.block_lt_of_cell? w4 _ c_w00
    have Ox00 := Lib.hid (show OwnE w4 (w.heap.size) 62 (.slice ax00 ((d_aT).xs).length capx00) E3.cs 3 ((d_aT).xs) from hox00); clear hox00
    have Ox01 := Lib.hid (show OwnE w4 (w.heap.size) 62 (.slice ax01 ((d_aT).zs).length capx01) E3.cs 3 ((d_aT).zs) from hox01); clear hox01
    have AP_x0 := Lib.hid hapx0; clear hapx0
    clear hb4 BB3
    go_wp2_with fail
    have BP4 := Lib.hid (show Below w4.heap.size w4 (w4.alloc (.cells #[.int .i64 ((d_aT).n), .slice ax00 ((d_aT).xs).length capx00, .slice ax01 ((d_aT).zs).length capx01] 30)) from (by repeat (first | exact Below.refl _ _ | assumption | refine Below.drew ?_ | refine below_drewN ?_ _ | refine Below.alloc ?_ (by first | omega | (simp <;> omega)) _ | refine Below.setCell ?_ (by first | omega | (simp <;> omega)) _ | refine Below.trans ?_ (Below.mono (by assumption) (by first | omega | (simp <;> omega))))))
    replace Ow00 := Lib.hid (show OwnE (w4.alloc (.cells #[.int .i64 ((d_aT).n), .slice ax00 ((d_aT).xs).length capx00, .slice ax01 ((d_aT).zs).length capx01] 30)) (w.heap.size) 57 (.slice aw00 (((r.getD Circ.zero)).gs).length capw00) E3.cs 3 (((r.getD Circ.zero)).gs) from OwnE.below Ow00.out BP4.out rfl)
    replace Ox00 := Lib.hid (show OwnE (w4.alloc (.cells #[.int .i64 ((d_aT).n), .slice ax00 ((d_aT).xs).length capx00, .slice ax01 ((d_aT).zs).length capx01] 30)) (w.heap.size) 62 (.slice ax00 ((d_aT).xs).length capx00) E3.cs 3 ((d_aT).xs) from OwnE.below Ox00.out BP4.out rfl)
    replace Ox01 := Lib.hid (show OwnE (w4.alloc (.cells #[.int .i64 ((d_aT).n), .slice ax00 ((d_aT).xs).length capx00, .slice ax01 ((d_aT).zs).length capx01] 30)) (w.heap.size) 62 (.slice ax01 ((d_aT).zs).length capx01) E3.cs 3 ((d_aT).zs) from OwnE.below Ox01.out BP4.out rfl)
    replace c_paT0 := cell_alloc_keep (.cells #[.int .i64 ((d_aT).n), .slice ax00 ((d_aT).xs).length capx00, .slice ax01 ((d_aT).zs).length capx01] 30) (c_paT0)
    replace c_paT1 := cell_alloc_keep (.cells #[.int .i64 ((d_aT).n), .slice ax00 ((d_aT).xs).length capx00, .slice ax01 ((d_aT).zs).length capx01] 30) (c_paT1)
    replace c_paT2 := cell_alloc_keep (.cells #[.int .i64 ((d_aT).n), .slice ax00 ((d_aT).xs).length capx00, .slice ax01 ((d_aT).zs).length capx01] 30) (c_paT2)
    replace c_w00 := cell_alloc_keep (.cells #[.int .i64 ((d_aT).n), .slice ax00 ((d_aT).xs).length capx00, .slice ax01 ((d_aT).zs).length capx01] 30) (c_w00)
    replace c_w01 := cell_alloc_keep (.cells #[.int .i64 ((d_aT).n), .slice ax00 ((d_aT).xs).length capx00, .slice ax01 ((d_aT).zs).length capx01] 30) (c_w01)
    have c_x00 : (w4.alloc (.cells #[.int .i64 ((d_aT).n), .slice ax00 ((d_aT).xs).length capx00, .slice ax01 ((d_aT).zs).length capx01] 30)).cell? ⟨w4.heap.size, 0, none⟩ = some (.int .i64 ((d_aT).n)) := (by repeat (first | (refine Eq.trans (World.cell?_alloc_at _ _ _ _ ?hh) ?_; (case hh => (simp; done)); rfl) | refine cell_alloc_keep _ ?_))
    have c_x01 : (w4.alloc (.cells #[.int .i64 ((d_aT).n), .slice ax00 ((d_aT).xs).length capx00, .slice ax01 ((d_aT).zs).length capx01] 30)).cell? ⟨w4.heap.size, 1, none⟩ = some (.slice ax00 ((d_aT).xs).length capx00) := (by repeat (first | (refine Eq.trans (World.cell?_alloc_at _ _ _ _ ?hh) ?_; (case hh => (simp; done)); rfl) | refine cell_alloc_keep _ ?_))
    have c_x02 : (w4.alloc (.cells #[.int .i64 ((d_aT).n), .slice ax00 ((d_aT).xs).length capx00, .slice ax01 ((d_aT).zs).length capx01] 30)).cell? ⟨w4.heap.size, 2, none⟩ = some (.slice ax01 ((d_aT).zs).length capx01) := (by repeat (first | (refine Eq.trans (World.cell?_alloc_at _ _ _ _ ?hh) ?_; (case hh => (simp; done)); rfl) | refine cell_alloc_keep _ ?_))
    refine (impl_LeastWord_any d_aT _ _ _ (Ox00.out).rd (Ox01.out).rd LEN_aT0 LEN_aT1).mono ?_; rw [← Hr.out]; rintro e w5 ⟨vg00, rfl, hog00, hb5⟩
    obtain ⟨ag00, capg00, rfl⟩ := hog00.forms
    have LL_g00 := Lib.hid (show ∀ g, (Value.slice ag00 (((r.getD Circ.zero)).gs).length capg00).ownBlock = some g → w4.heap.size + 1 ≤ g ∧ g < w5.heap.size from fun g hg => by have := hog00.lt g hg; (try simp at this); omega)
    replace hog00 := OwnE.le hog00 (base' := w.heap.size) (by have := BB4.size; first | omega | (simp; omega))
    replace Ow00 := Lib.hid (show OwnE w5 (w.heap.size) 57 (.slice aw00 (((r.getD Circ.zero)).gs).length capw00) E3.cs 3 (((r.getD Circ.zero)).gs) from OwnE.below Ow00.out hb5 rfl)
    replace Ox00 := Lib.hid (show OwnE w5 (w.heap.size) 62 (.slice ax00 ((d_aT).xs).length capx00) E3.cs 3 ((d_aT).xs) from OwnE.below Ox00.out hb5 rfl)
    replace Ox01 := Lib.hid (show OwnE w5 (w.heap.size) 62 (.slice ax01 ((d_aT).zs).length capx01) E3.cs 3 ((d_aT).zs) from OwnE.below Ox01.out hb5 rfl)
    replace c_paT0 := below_cell hb5 rfl c_paT0
    replace c_paT1 := below_cell hb5 rfl c_paT1
    replace c_paT2 := below_cell hb5 rfl c_paT2
    replace c_w00 := below_cell hb5 rfl c_w00
    replace c_w01 := below_cell hb5 rfl c_w01
    replace c_x00 := below_cell hb5 rfl c_x00
    replace c_x01 := below_cell hb5 rfl c_x01
    replace c_x02 := below_cell hb5 rfl c_x02
    have BB5 : Below w.heap.size w w5 := below_step (below_step BB4 BP4.out) hb5
    have ZZ5 : w4.heap.size + 1 ≤ w5.heap.size := by have := hb5.size; (try simp at this); omega
    clear BP4
    clear LT4_0 LT4_1
    have LT5_0 : w.heap.size < w5.heap.size := World.block_lt_of_cell? w5 _ c_paT0
    have LT5_1 : w3.heap.size < w5.heap.size := World.block_lt_of_cell? w5 _ c_w00
    have LT5_2 : w4.heap.size < w5.heap.size := World.block_lt_of_cell? w5 _ c_x00
    have Og00 := Lib.hid (show OwnE w5 (w.heap.size) 57 (.slice ag00 (((r.getD Circ.zero)).gs).length capg00) E3.cs 3 (((r.getD Circ.zero)).gs) from hog00); clear hog00
    clear hb5 BB4
    go_wp2_with fail
    have BP5 := Lib.hid (show Below w5.heap.size w5 (w5.alloc (.cells #[.int .i64 (((r.getD Circ.zero)).n), .slice ag00 (((r.getD Circ.zero)).gs).length capg00] 36)) from (by repeat (first | exact Below.refl _ _ | assumption | refine Below.drew ?_ | refine below_drewN ?_ _ | refine Below.alloc ?_ (by first | omega | (simp <;> omega)) _ | refine Below.setCell ?_ (by first | omega | (simp <;> omega)) _ | refine Below.trans ?_ (Below.mono (by assumption) (by first | omega | (simp <;> omega))))))
    replace Ow00 := Lib.hid (show OwnE (w5.alloc (.cells #[.int .i64 (((r.getD Circ.zero)).n), .slice ag00 (((r.getD Circ.zero)).gs).length capg00] 36)) (w.heap.size) 57 (.slice aw00 (((r.getD Circ.zero)).gs).length capw00) E3.cs 3 (((r.getD Circ.zero)).gs) from OwnE.below Ow00.out BP5.out rfl)
    replace Ox00 := Lib.hid (show OwnE (w5.alloc (.cells #[.int .i64 (((r.getD Circ.zero)).n), .slice ag00 (((r.getD Circ.zero)).gs).length capg00] 36)) (w.heap.size) 62 (.slice ax00 ((d_aT).xs).length capx00) E3.cs 3 ((d_aT).xs) from OwnE.below Ox00.out BP5.out rfl)
    replace Ox01 := Lib.hid (show OwnE (w5.alloc (.cells #[.int .i64 (((r.getD Circ.zero)).n), .slice ag00 (((r.getD Circ.zero)).gs).length capg00] 36)) (w.heap.size) 62 (.slice ax01 ((d_aT).zs).length capx01) E3.cs 3 ((d_aT).zs) from OwnE.below Ox01.out BP5.out rfl)
    replace Og00 := Lib.hid (show OwnE (w5.alloc (.cells #[.int .i64 (((r.getD Circ.zero)).n), .slice ag00 (((r.getD Circ.zero)).gs).length capg00] 36)) (w.heap.size) 57 (.slice ag00 (((r.getD Circ.zero)).gs).length capg00) E3.cs 3 (((r.getD Circ.zero)).gs) from OwnE.below Og00.out BP5.out rfl)
    replace c_paT0 := cell_alloc_keep (.cells #[.int .i64 (((r.getD Circ.zero)).n), .slice ag00 (((r.getD Circ.zero)).gs).length capg00] 36) (c_paT0)
    replace c_paT1 := cell_alloc_keep (.cells #[.int .i64 (((r.getD Circ.zero)).n), .slice ag00 (((r.getD Circ.zero)).gs).length capg00] 36) (c_paT1)
    replace c_paT2 := cell_alloc_keep (.cells #[.int .i64 (((r.getD Circ.zero)).n), .slice ag00 (((r.getD Circ.zero)).gs).length capg00] 36) (c_paT2)
    replace c_w00 := cell_alloc_keep (.cells #[.int .i64 (((r.getD Circ.zero)).n), .slice ag00 (((r.getD Circ.zero)).gs).length capg00] 36) (c_w00)
    replace c_w01 := cell_alloc_keep (.cells #[.int .i64 (((r.getD Circ.zero)).n), .slice ag00 (((r.getD Circ.zero)).gs).length capg00] 36) (c_w01)
    replace c_x00 := cell_alloc_keep (.cells #[.int .i64 (((r.getD Circ.zero)).n), .slice ag00 (((r.getD Circ.zero)).gs).length capg00] 36) (c_x00)
    replace c_x01 := cell_alloc_keep (.cells #[.int .i64 (((r.getD Circ.zero)).n), .slice ag00 (((r.getD Circ.zero)).gs).length capg00] 36) (c_x01)
    replace c_x02 := cell_alloc_keep (.cells #[.int .i64 (((r.getD Circ.zero)).n), .slice ag00 (((r.getD Circ.zero)).gs).length capg00] 36) (c_x02)
    have c_g00 : (w5.alloc (.cells #[.int .i64 (((r.getD Circ.zero)).n), .slice ag00 (((r.getD Circ.zero)).gs).length capg00] 36)).cell? ⟨w5.heap.size, 0, none⟩ = some (.int .i64 (((r.getD Circ.zero)).n)) := (by repeat (first | (refine Eq.trans (World.cell?_alloc_at _ _ _ _ ?hh) ?_; (case hh => (simp; done)); rfl) | refine cell_alloc_keep _ ?_))
    have c_g01 : (w5.alloc (.cells #[.int .i64 (((r.getD Circ.zero)).n), .slice ag00 (((r.getD Circ.zero)).gs).length capg00] 36)).cell? ⟨w5.heap.size, 1, none⟩ = some (.slice ag00 (((r.getD Circ.zero)).gs).length capg00) := (by repeat (first | (refine Eq.trans (World.cell?_alloc_at _ _ _ _ ?hh) ?_; (case hh => (simp; done)); rfl) | refine cell_alloc_keep _ ?_))
    refine (laws_eqCircuit_same (r.getD Circ.zero) _ _ _ (Og00.out).rd (Ow00.out).rd).mono ?_; rintro e w6 ⟨rfl, hb6⟩
    replace Ow00 := Lib.hid (show OwnE w6 (w.heap.size) 57 (.slice aw00 (((r.getD Circ.zero)).gs).length capw00) E3.cs 3 (((r.getD Circ.zero)).gs) from OwnE.below Ow00.out hb6 rfl)
    replace Ox00 := Lib.hid (show OwnE w6 (w.heap.size) 62 (.slice ax00 ((d_aT).xs).length capx00) E3.cs 3 ((d_aT).xs) from OwnE.below Ox00.out hb6 rfl)
    replace Ox01 := Lib.hid (show OwnE w6 (w.heap.size) 62 (.slice ax01 ((d_aT).zs).length capx01) E3.cs 3 ((d_aT).zs) from OwnE.below Ox01.out hb6 rfl)
    replace Og00 := Lib.hid (show OwnE w6 (w.heap.size) 57 (.slice ag00 (((r.getD Circ.zero)).gs).length capg00) E3.cs 3 (((r.getD Circ.zero)).gs) from OwnE.below Og00.out hb6 rfl)
    replace c_paT0 := below_cell hb6 rfl c_paT0
    replace c_paT1 := below_cell hb6 rfl c_paT1
    replace c_paT2 := below_cell hb6 rfl c_paT2
    replace c_w00 := below_cell hb6 rfl c_w00
    replace c_w01 := below_cell hb6 rfl c_w01
    replace c_x00 := below_cell hb6 rfl c_x00
    replace c_x01 := below_cell hb6 rfl c_x01
    replace c_x02 := below_cell hb6 rfl c_x02
    replace c_g00 := below_cell hb6 rfl c_g00
    replace c_g01 := below_cell hb6 rfl c_g01
    have BB6 : Below w.heap.size w w6 := below_step (below_step BB5 BP5.out) hb6
    have ZZ6 : w5.heap.size + 1 ≤ w6.heap.size := by have := hb6.size; (try simp at this); omega
    clear BP5
    clear LT5_0 LT5_1 LT5_2
    have LT6_0 : w.heap.size < w6.heap.size := World.block_lt_of_cell? w6 _ c_paT0
    have LT6_1 : w3.heap.size < w6.heap.size := World.block_lt_of_cell? w6 _ c_w00
    have LT6_2 : w4.heap.size < w6.heap.size := World.block_lt_of_cell? w6 _ c_x00
    have LT6_3 : w5.heap.size < w6.heap.size := World.block_lt_of_cell? w6 _ c_g00
    clear hb6 BB5
    go_wp2_with fail
    go_region_held3 (fun w' => w'.cell? ⟨w.heap.size, 0, none⟩ = some (.int .i64 ((d_aT).n)) ∧ w'.cell? ⟨w.heap.size, 1, none⟩ = some (.slice a_aT0 ((d_aT).xs).length cap_aT0) ∧ w'.cell? ⟨w.heap.size, 2, none⟩ = some (.slice a_aT1 ((d_aT).zs).length cap_aT1) ∧ w'.cell? ⟨w4.heap.size, 0, none⟩ = some (.int .i64 ((d_aT).n)) ∧ w'.cell? ⟨w4.heap.size, 1, none⟩ = some (.slice ax00 ((d_aT).xs).length capx00) ∧ w'.cell? ⟨w4.heap.size, 2, none⟩ = some (.slice ax01 ((d_aT).zs).length capx01)) (first | go_keep | (go_split_ands; refine ⟨?_, ?_, ?_, ?_, ?_, ?_⟩ <;> first | assumption | (refine cell_alloc_keep _ ?_; assumption) | (simp [*]; done))) (first | (go_at_call 7; go_must ((have BP6 := Lib.hid (show Below w6.heap.size w6 (w6.drew) from (by repeat (first | exact Below.refl _ _ | assumption | refine Below.drew ?_ | refine below_drewN ?_ _ | refine Below.alloc ?_ (by first | omega | (simp <;> omega)) _ | refine Below.setCell ?_ (by first | omega | (simp <;> omega)) _ | refine Below.trans ?_ (Below.mono (by assumption) (by first | omega | (simp <;> omega))))))); (replace Ow00 := Lib.hid (show OwnE (w6.drew) (w.heap.size) 57 (.slice aw00 (((r.getD Circ.zero)).gs).length capw00) E3.cs 3 (((r.getD Circ.zero)).gs) from OwnE.below Ow00.out BP6.out rfl)); (replace Ox00 := Lib.hid (show OwnE (w6.drew) (w.heap.size) 62 (.slice ax00 ((d_aT).xs).length capx00) E3.cs 3 ((d_aT).xs) from OwnE.below Ox00.out BP6.out rfl)); (replace Ox01 := Lib.hid (show OwnE (w6.drew) (w.heap.size) 62 (.slice ax01 ((d_aT).zs).length capx01) E3.cs 3 ((d_aT).zs) from OwnE.below Ox01.out BP6.out rfl)); (replace Og00 := Lib.hid (show OwnE (w6.drew) (w.heap.size) 57 (.slice ag00 (((r.getD Circ.zero)).gs).length capg00) E3.cs 3 (((r.getD Circ.zero)).gs) from OwnE.below Og00.out BP6.out rfl)); (replace c_paT0 : (w6.drew).cell? ⟨w.heap.size, 0, none⟩ = some (.int .i64 ((d_aT).n)) := c_paT0); (replace c_paT1 : (w6.drew).cell? ⟨w.heap.size, 1, none⟩ = some (.slice a_aT0 ((d_aT).xs).length cap_aT0) := c_paT1); (replace c_paT2 : (w6.drew).cell? ⟨w.heap.size, 2, none⟩ = some (.slice a_aT1 ((d_aT).zs).length cap_aT1) := c_paT2); (replace c_w00 : (w6.drew).cell? ⟨w3.heap.size, 0, none⟩ = some (.int .i64 (((r.getD Circ.zero)).n)) := c_w00); (replace c_w01 : (w6.drew).cell? ⟨w3.heap.size, 1, none⟩ = some (.slice aw00 (((r.getD Circ.zero)).gs).length capw00) := c_w01); (replace c_x00 : (w6.drew).cell? ⟨w4.heap.size, 0, none⟩ = some (.int .i64 ((d_aT).n)) := c_x00); (replace c_x01 : (w6.drew).cell? ⟨w4.heap.size, 1, none⟩ = some (.slice ax00 ((d_aT).xs).length capx00) := c_x01); (replace c_x02 : (w6.drew).cell? ⟨w4.heap.size, 2, none⟩ = some (.slice ax01 ((d_aT).zs).length capx01) := c_x02); (replace c_g00 : (w6.drew).cell? ⟨w5.heap.size, 0, none⟩ = some (.int .i64 (((r.getD Circ.zero)).n)) := c_g00); (replace c_g01 : (w6.drew).cell? ⟨w5.heap.size, 1, none⟩ = some (.slice ag00 (((r.getD Circ.zero)).gs).length capg00) := c_g01); (refine (laws_toTableau_any d_aT _ _ _ (Rd.below HA_aT0.out (below_step BB6 BP6.out) rfl) (Rd.below HA_aT1.out (below_step BB6 BP6.out) rfl) LEN_aT0 LEN_aT1).mono ?_; rintro e w7 ⟨vt20, vt21, rfl, hot20, hot21, hapt2, hb7⟩); (obtain ⟨at20, capt20, rfl⟩ := hot20.forms); (have LL_t20 := Lib.hid (show ∀ g, (Value.slice at20 ((d_aT).xs).length capt20).ownBlock = some g → w6.heap.size ≤ g ∧ g < w7.heap.size from fun g hg => by have := hot20.lt g hg; (try simp at this); omega)); (replace hot20 := OwnE.le hot20 (base' := w.heap.size) (by have := BB6.size; first | omega | (simp; omega))); (obtain ⟨at21, capt21, rfl⟩ := hot21.forms); (have LL_t21 := Lib.hid (show ∀ g, (Value.slice at21 ((d_aT).zs).length capt21).ownBlock = some g → w6.heap.size ≤ g ∧ g < w7.heap.size from fun g hg => by have := hot21.lt g hg; (try simp at this); omega)); (replace hot21 := OwnE.le hot21 (base' := w.heap.size) (by have := BB6.size; first | omega | (simp; omega))); (replace Ow00 := Lib.hid (show OwnE w7 (w.heap.size) 57 (.slice aw00 (((r.getD Circ.zero)).gs).length capw00) E3.cs 3 (((r.getD Circ.zero)).gs) from OwnE.below Ow00.out hb7 rfl)); (replace Ox00 := Lib.hid (show OwnE w7 (w.heap.size) 62 (.slice ax00 ((d_aT).xs).length capx00) E3.cs 3 ((d_aT).xs) from OwnE.below Ox00.out hb7 rfl)); (replace Ox01 := Lib.hid (show OwnE w7 (w.heap.size) 62 (.slice ax01 ((d_aT).zs).length capx01) E3.cs 3 ((d_aT).zs) from OwnE.below Ox01.out hb7 rfl)); (replace Og00 := Lib.hid (show OwnE w7 (w.heap.size) 57 (.slice ag00 (((r.getD Circ.zero)).gs).length capg00) E3.cs 3 (((r.getD Circ.zero)).gs) from OwnE.below Og00.out hb7 rfl)); (replace c_paT0 := below_cell hb7 rfl c_paT0); (replace c_paT1 := below_cell hb7 rfl c_paT1); (replace c_paT2 := below_cell hb7 rfl c_paT2); (replace c_w00 := below_cell hb7 rfl c_w00); (replace c_w01 := below_cell hb7 rfl c_w01); (replace c_x00 := below_cell hb7 rfl c_x00); (replace c_x01 := below_cell hb7 rfl c_x01); (replace c_x02 := below_cell hb7 rfl c_x02); (replace c_g00 := below_cell hb7 rfl c_g00); (replace c_g01 := below_cell hb7 rfl c_g01); (have BB7 : Below w.heap.size w w7 := below_step (below_step BB6 BP6.out) hb7); (have ZZ7 : w6.heap.size ≤ w7.heap.size := by have := hb7.size; (try simp at this); omega); (clear BP6); (clear LT6_0 LT6_1 LT6_2 LT6_3); (have LT7_0 : w.heap.size < w7.heap.size := World.block_lt_of_cell? w7 _ c_paT0); (have LT7_1 : w3.heap.size < w7.heap.size := World.block_lt_of_cell? w7 _ c_w00); (have LT7_2 : w4.heap.size < w7.heap.size := World.block_lt_of_cell? w7 _ c_x00); (have LT7_3 : w5.heap.size < w7.heap.size := World.block_lt_of_cell? w7 _ c_g00); (have Ot20 := Lib.hid (show OwnE w7 (w.heap.size) 62 (.slice at20 ((d_aT).xs).length capt20) E3.cs 3 ((d_aT).xs) from hot20); clear hot20); (have Ot21 := Lib.hid (show OwnE w7 (w.heap.size) 62 (.slice at21 ((d_aT).zs).length capt21) E3.cs 3 ((d_aT).zs) from hot21); clear hot21); (have AP_t2 := Lib.hid hapt2; clear hapt2); (clear hb7 BB6))) | (go_at_call 9; go_must ((refine (laws_eqTableau_same d_aT _ _ _ _ _ (Ox00.out).rd (Ox01.out).rd (Ot20.out).rd (Ot21.out).rd).mono ?_; rintro e w8 ⟨rfl, hb8⟩); (replace Ow00 := Lib.hid (show OwnE w8 (w.heap.size) 57 (.slice aw00 (((r.getD Circ.zero)).gs).length capw00) E3.cs 3 (((r.getD Circ.zero)).gs) from OwnE.below Ow00.out hb8 rfl)); (replace Ox00 := Lib.hid (show OwnE w8 (w.heap.size) 62 (.slice ax00 ((d_aT).xs).length capx00) E3.cs 3 ((d_aT).xs) from OwnE.below Ox00.out hb8 rfl)); (replace Ox01 := Lib.hid (show OwnE w8 (w.heap.size) 62 (.slice ax01 ((d_aT).zs).length capx01) E3.cs 3 ((d_aT).zs) from OwnE.below Ox01.out hb8 rfl)); (replace Og00 := Lib.hid (show OwnE w8 (w.heap.size) 57 (.slice ag00 (((r.getD Circ.zero)).gs).length capg00) E3.cs 3 (((r.getD Circ.zero)).gs) from OwnE.below Og00.out hb8 rfl)); (replace Ot20 := Lib.hid (show OwnE w8 (w.heap.size) 62 (.slice at20 ((d_aT).xs).length capt20) E3.cs 3 ((d_aT).xs) from OwnE.below Ot20.out hb8 rfl)); (replace Ot21 := Lib.hid (show OwnE w8 (w.heap.size) 62 (.slice at21 ((d_aT).zs).length capt21) E3.cs 3 ((d_aT).zs) from OwnE.below Ot21.out hb8 rfl)); (replace c_paT0 := below_cell hb8 rfl c_paT0); (replace c_paT1 := below_cell hb8 rfl c_paT1); (replace c_paT2 := below_cell hb8 rfl c_paT2); (replace c_w00 := below_cell hb8 rfl c_w00); (replace c_w01 := below_cell hb8 rfl c_w01); (replace c_x00 := below_cell hb8 rfl c_x00); (replace c_x01 := below_cell hb8 rfl c_x01); (replace c_x02 := below_cell hb8 rfl c_x02); (replace c_g00 := below_cell hb8 rfl c_g00); (replace c_g01 := below_cell hb8 rfl c_g01); (have BB8 : Below w.heap.size w w8 := below_step BB7 hb8); (have ZZ8 : w7.heap.size ≤ w8.heap.size := by have := hb8.size; (try simp at this); omega); (clear LT7_0 LT7_1 LT7_2 LT7_3); (have LT8_0 : w.heap.size < w8.heap.size := World.block_lt_of_cell? w8 _ c_paT0); (have LT8_1 : w3.heap.size < w8.heap.size := World.block_lt_of_cell? w8 _ c_w00); (have LT8_2 : w4.heap.size < w8.heap.size := World.block_lt_of_cell? w8 _ c_x00); (have LT8_3 : w5.heap.size < w8.heap.size := World.block_lt_of_cell? w8 _ c_g00); (clear hb8 BB7))))
    clear Ot20 LL_t20
    clear Ot21 LL_t21
    clear AP_t2
    go_wp2_with fail
    refine (laws_markTableau_any _ _ _ _ _ _ _ _ _ _ Ox00.out Ox01.out AP_x0.out (by omega) (by omega) (by omega) (by omega)).mono ?_; rintro e w9 ⟨rfl, hmx00, hmx01, hg⟩
    have hb9 : Mid (w3.heap.size + 1) (w4.heap.size) w8 w9 := hg _ _ (fun k hk => LL_x00.out k hk) (fun k hk => LL_x01.out k hk)
    clear hg
    replace Ow00 := Lib.hid (show OwnE w9 (w.heap.size) 57 (.slice aw00 (((r.getD Circ.zero)).gs).length capw00) E3.cs 3 (((r.getD Circ.zero)).gs) from Mid.own hb9 Ow00.out (fun g hg => by have := LL_w00.out g hg; omega))
    replace Og00 := Lib.hid (show OwnE w9 (w.heap.size) 57 (.slice ag00 (((r.getD Circ.zero)).gs).length capg00) E3.cs 3 (((r.getD Circ.zero)).gs) from Mid.own hb9 Og00.out (fun g hg => by have := LL_g00.out g hg; omega))
    replace c_paT0 := Mid.cell hb9 (by omega) c_paT0
    replace c_paT1 := Mid.cell hb9 (by omega) c_paT1
    replace c_paT2 := Mid.cell hb9 (by omega) c_paT2
    replace c_w00 := Mid.cell hb9 (by omega) c_w00
    replace c_w01 := Mid.cell hb9 (by omega) c_w01
    replace c_x00 := Mid.cell hb9 (by omega) c_x00
    replace c_x01 := Mid.cell hb9 (by omega) c_x01
    replace c_x02 := Mid.cell hb9 (by omega) c_x02
    replace c_g00 := Mid.cell hb9 (by omega) c_g00
    replace c_g01 := Mid.cell hb9 (by omega) c_g01
    have BB9 : Below w.heap.size w w9 := Below.trans BB8 (Mid.below hb9 (by omega) (by first | omega | (simp <;> omega)))
    have ZZ9 : w8.heap.size ≤ w9.heap.size := by have := hb9.size; (try simp at this); omega
    clear LT8_0 LT8_1 LT8_2 LT8_3
    have LT9_0 : w.heap.size < w9.heap.size := World.block_lt_of_cell? w9 _ c_paT0
    have LT9_1 : w3.heap.size < w9.heap.size := World.block_lt_of_cell? w9 _ c_w00
    have LT9_2 : w4.heap.size < w9.heap.size := World.block_lt_of_cell? w9 _ c_x00
    have LT9_3 : w5.heap.size < w9.heap.size := World.block_lt_of_cell? w9 _ c_g00
    have Ox00 := Lib.hid (show w9.ownsRow (w.heap.size) 62 3 (.slice ax00 ((d_aT).xs).length capx00) ((d_aT).xs).length (marks (1) (((d_aT).xs).length * 3)) from hmx00); clear hmx00
    have Ox01 := Lib.hid (show w9.ownsRow (w.heap.size) 62 3 (.slice ax01 ((d_aT).zs).length capx01) ((d_aT).zs).length (marks (1 + ((((d_aT).xs).length * 3 : Nat) : Int)) (((d_aT).zs).length * 3)) from hmx01); clear hmx01
    clear hb9 BB8
    go_wp2_with fail
    refine (laws_eqCircuit_same (r.getD Circ.zero) _ _ _ (Og00.out).rd (Ow00.out).rd).mono ?_; rintro e w10 ⟨rfl, hb10⟩
    replace Ow00 := Lib.hid (show OwnE w10 (w.heap.size) 57 (.slice aw00 (((r.getD Circ.zero)).gs).length capw00) E3.cs 3 (((r.getD Circ.zero)).gs) from OwnE.below Ow00.out hb10 rfl)
    replace Ox00 := Lib.hid (show w10.ownsRow (w.heap.size) 62 3 (.slice ax00 ((d_aT).xs).length capx00) ((d_aT).xs).length (marks (1) (((d_aT).xs).length * 3)) from own_below Ox00.out hb10 rfl)
    replace Ox01 := Lib.hid (show w10.ownsRow (w.heap.size) 62 3 (.slice ax01 ((d_aT).zs).length capx01) ((d_aT).zs).length (marks (1 + ((((d_aT).xs).length * 3 : Nat) : Int)) (((d_aT).zs).length * 3)) from own_below Ox01.out hb10 rfl)
    replace Og00 := Lib.hid (show OwnE w10 (w.heap.size) 57 (.slice ag00 (((r.getD Circ.zero)).gs).length capg00) E3.cs 3 (((r.getD Circ.zero)).gs) from OwnE.below Og00.out hb10 rfl)
    replace c_paT0 := below_cell hb10 rfl c_paT0
    replace c_paT1 := below_cell hb10 rfl c_paT1
    replace c_paT2 := below_cell hb10 rfl c_paT2
    replace c_w00 := below_cell hb10 rfl c_w00
    replace c_w01 := below_cell hb10 rfl c_w01
    replace c_x00 := below_cell hb10 rfl c_x00
    replace c_x01 := below_cell hb10 rfl c_x01
    replace c_x02 := below_cell hb10 rfl c_x02
    replace c_g00 := below_cell hb10 rfl c_g00
    replace c_g01 := below_cell hb10 rfl c_g01
    have BB10 : Below w.heap.size w w10 := below_step BB9 hb10
    have ZZ10 : w9.heap.size ≤ w10.heap.size := by have := hb10.size; (try simp at this); omega
    clear LT9_0 LT9_1 LT9_2 LT9_3
    have LT10_0 : w.heap.size < w10.heap.size := World.block_lt_of_cell? w10 _ c_paT0
    have LT10_1 : w3.heap.size < w10.heap.size := World.block_lt_of_cell? w10 _ c_w00
    have LT10_2 : w4.heap.size < w10.heap.size := World.block_lt_of_cell? w10 _ c_x00
    have LT10_3 : w5.heap.size < w10.heap.size := World.block_lt_of_cell? w10 _ c_g00
    clear hb10 BB9
    go_wp2_with fail
    refine (laws_markCircuit_any _ _ _ _ _ _ _ Og00.out (by omega) (by omega) (by omega)).mono ?_; rintro e w11 ⟨rfl, hmg00, hg⟩
    have hb11 : Mid (w4.heap.size + 1) (w5.heap.size) w10 w11 := Mid.of_grown hg (fun k hk => LL_g00.out k hk)
    clear hg
    replace Ow00 := Lib.hid (show OwnE w11 (w.heap.size) 57 (.slice aw00 (((r.getD Circ.zero)).gs).length capw00) E3.cs 3 (((r.getD Circ.zero)).gs) from Mid.own hb11 Ow00.out (fun g hg => by have := LL_w00.out g hg; omega))
    replace Ox00 := Lib.hid (show w11.ownsRow (w.heap.size) 62 3 (.slice ax00 ((d_aT).xs).length capx00) ((d_aT).xs).length (marks (1) (((d_aT).xs).length * 3)) from Mid.own hb11 Ox00.out (fun g hg => by have := LL_x00.out g hg; omega))
    replace Ox01 := Lib.hid (show w11.ownsRow (w.heap.size) 62 3 (.slice ax01 ((d_aT).zs).length capx01) ((d_aT).zs).length (marks (1 + ((((d_aT).xs).length * 3 : Nat) : Int)) (((d_aT).zs).length * 3)) from Mid.own hb11 Ox01.out (fun g hg => by have := LL_x01.out g hg; omega))
    replace c_paT0 := Mid.cell hb11 (by omega) c_paT0
    replace c_paT1 := Mid.cell hb11 (by omega) c_paT1
    replace c_paT2 := Mid.cell hb11 (by omega) c_paT2
    replace c_w00 := Mid.cell hb11 (by omega) c_w00
    replace c_w01 := Mid.cell hb11 (by omega) c_w01
    replace c_x00 := Mid.cell hb11 (by omega) c_x00
    replace c_x01 := Mid.cell hb11 (by omega) c_x01
    replace c_x02 := Mid.cell hb11 (by omega) c_x02
    replace c_g00 := Mid.cell hb11 (by omega) c_g00
    replace c_g01 := Mid.cell hb11 (by omega) c_g01
    have BB11 : Below w.heap.size w w11 := Below.trans BB10 (Mid.below hb11 (by omega) (by first | omega | (simp <;> omega)))
    have ZZ11 : w10.heap.size ≤ w11.heap.size := by have := hb11.size; (try simp at this); omega
    clear LT10_0 LT10_1 LT10_2 LT10_3
    have LT11_0 : w.heap.size < w11.heap.size := World.block_lt_of_cell? w11 _ c_paT0
    have LT11_1 : w3.heap.size < w11.heap.size := World.block_lt_of_cell? w11 _ c_w00
    have LT11_2 : w4.heap.size < w11.heap.size := World.block_lt_of_cell? w11 _ c_x00
    have LT11_3 : w5.heap.size < w11.heap.size := World.block_lt_of_cell? w11 _ c_g00
    have Og00 := Lib.hid (show w11.ownsRow (w.heap.size) 57 3 (.slice ag00 (((r.getD Circ.zero)).gs).length capg00) (((r.getD Circ.zero)).gs).length (marks (1) ((((r.getD Circ.zero)).gs).length * 3)) from hmg00); clear hmg00
    clear hb11 BB10
    go_wp2_with fail
    refine (laws_heldCircuit_any _ _ _ _ _ (Rd.of_own Og00.out) (by omega) (by omega) (by omega)).mono ?_; rintro e w12 ⟨rfl, hb12⟩
    replace Ow00 := Lib.hid (show OwnE w12 (w.heap.size) 57 (.slice aw00 (((r.getD Circ.zero)).gs).length capw00) E3.cs 3 (((r.getD Circ.zero)).gs) from OwnE.below Ow00.out hb12 rfl)
    replace Ox00 := Lib.hid (show w12.ownsRow (w.heap.size) 62 3 (.slice ax00 ((d_aT).xs).length capx00) ((d_aT).xs).length (marks (1) (((d_aT).xs).length * 3)) from own_below Ox00.out hb12 rfl)
    replace Ox01 := Lib.hid (show w12.ownsRow (w.heap.size) 62 3 (.slice ax01 ((d_aT).zs).length capx01) ((d_aT).zs).length (marks (1 + ((((d_aT).xs).length * 3 : Nat) : Int)) (((d_aT).zs).length * 3)) from own_below Ox01.out hb12 rfl)
    replace Og00 := Lib.hid (show w12.ownsRow (w.heap.size) 57 3 (.slice ag00 (((r.getD Circ.zero)).gs).length capg00) (((r.getD Circ.zero)).gs).length (marks (1) ((((r.getD Circ.zero)).gs).length * 3)) from own_below Og00.out hb12 rfl)
    replace c_paT0 := below_cell hb12 rfl c_paT0
    replace c_paT1 := below_cell hb12 rfl c_paT1
    replace c_paT2 := below_cell hb12 rfl c_paT2
    replace c_w00 := below_cell hb12 rfl c_w00
    replace c_w01 := below_cell hb12 rfl c_w01
    replace c_x00 := below_cell hb12 rfl c_x00
    replace c_x01 := below_cell hb12 rfl c_x01
    replace c_x02 := below_cell hb12 rfl c_x02
    replace c_g00 := below_cell hb12 rfl c_g00
    replace c_g01 := below_cell hb12 rfl c_g01
    have BB12 : Below w.heap.size w w12 := below_step BB11 hb12
    have ZZ12 : w11.heap.size ≤ w12.heap.size := by have := hb12.size; (try simp at this); omega
    clear LT11_0 LT11_1 LT11_2 LT11_3
    have LT12_0 : w.heap.size < w12.heap.size := World.block_lt_of_cell? w12 _ c_paT0
    have LT12_1 : w3.heap.size < w12.heap.size := World.block_lt_of_cell? w12 _ c_w00
    have LT12_2 : w4.heap.size < w12.heap.size := World.block_lt_of_cell? w12 _ c_x00
    have LT12_3 : w5.heap.size < w12.heap.size := World.block_lt_of_cell? w12 _ c_g00
    clear hb12 BB11
    have hne12 : ¬ (1 + (((((r.getD Circ.zero)).gs).length * 3 : Nat) : Int) : Int) < 0 := by omega
    go_wp2_with fail
    refine (laws_toTableau_any d_aT _ _ _ (Rd.below HA_aT0.out BB12 rfl) (Rd.below HA_aT1.out BB12 rfl) LEN_aT0 LEN_aT1).mono ?_; rintro e w13 ⟨vt30, vt31, rfl, hot30, hot31, hapt3, hb13⟩
    obtain ⟨at30, capt30, rfl⟩ := hot30.forms
    have LL_t30 := Lib.hid (show ∀ g, (Value.slice at30 ((d_aT).xs).length capt30).ownBlock = some g → w12.heap.size ≤ g ∧ g < w13.heap.size from fun g hg => by have := hot30.lt g hg; (try simp at this); omega)
    replace hot30 := OwnE.le hot30 (base' := w.heap.size) (by have := BB12.size; first | omega | (simp; omega))
    obtain ⟨at31, capt31, rfl⟩ := hot31.forms
    have LL_t31 := Lib.hid (show ∀ g, (Value.slice at31 ((d_aT).zs).length capt31).ownBlock = some g → w12.heap.size ≤ g ∧ g < w13.heap.size from fun g hg => by have := hot31.lt g hg; (try simp at this); omega)
    replace hot31 := OwnE.le hot31 (base' := w.heap.size) (by have := BB12.size; first | omega | (simp; omega))
    replace Ow00 := Lib.hid (show OwnE w13 (w.heap.size) 57 (.slice aw00 (((r.getD Circ.zero)).gs).length capw00) E3.cs 3 (((r.getD Circ.zero)).gs) from OwnE.below Ow00.out hb13 rfl)
    replace Ox00 := Lib.hid (show w13.ownsRow (w.heap.size) 62 3 (.slice ax00 ((d_aT).xs).length capx00) ((d_aT).xs).length (marks (1) (((d_aT).xs).length * 3)) from own_below Ox00.out hb13 rfl)
    replace Ox01 := Lib.hid (show w13.ownsRow (w.heap.size) 62 3 (.slice ax01 ((d_aT).zs).length capx01) ((d_aT).zs).length (marks (1 + ((((d_aT).xs).length * 3 : Nat) : Int)) (((d_aT).zs).length * 3)) from own_below Ox01.out hb13 rfl)
    replace Og00 := Lib.hid (show w13.ownsRow (w.heap.size) 57 3 (.slice ag00 (((r.getD Circ.zero)).gs).length capg00) (((r.getD Circ.zero)).gs).length (marks (1) ((((r.getD Circ.zero)).gs).length * 3)) from own_below Og00.out hb13 rfl)
    replace c_paT0 := below_cell hb13 rfl c_paT0
    replace c_paT1 := below_cell hb13 rfl c_paT1
    replace c_paT2 := below_cell hb13 rfl c_paT2
    replace c_w00 := below_cell hb13 rfl c_w00
    replace c_w01 := below_cell hb13 rfl c_w01
    replace c_x00 := below_cell hb13 rfl c_x00
    replace c_x01 := below_cell hb13 rfl c_x01
    replace c_x02 := below_cell hb13 rfl c_x02
    replace c_g00 := below_cell hb13 rfl c_g00
    replace c_g01 := below_cell hb13 rfl c_g01
    have BB13 : Below w.heap.size w w13 := below_step BB12 hb13
    have ZZ13 : w12.heap.size ≤ w13.heap.size := by have := hb13.size; (try simp at this); omega
    clear LT12_0 LT12_1 LT12_2 LT12_3
    have LT13_0 : w.heap.size < w13.heap.size := World.block_lt_of_cell? w13 _ c_paT0
    have LT13_1 : w3.heap.size < w13.heap.size := World.block_lt_of_cell? w13 _ c_w00
    have LT13_2 : w4.heap.size < w13.heap.size := World.block_lt_of_cell? w13 _ c_x00
    have LT13_3 : w5.heap.size < w13.heap.size := World.block_lt_of_cell? w13 _ c_g00
    have Ot30 := Lib.hid (show OwnE w13 (w.heap.size) 62 (.slice at30 ((d_aT).xs).length capt30) E3.cs 3 ((d_aT).xs) from hot30); clear hot30
    have Ot31 := Lib.hid (show OwnE w13 (w.heap.size) 62 (.slice at31 ((d_aT).zs).length capt31) E3.cs 3 ((d_aT).zs) from hot31); clear hot31
    have AP_t3 := Lib.hid hapt3; clear hapt3
    clear hb13 BB12
    go_wp2_with fail
    refine (impl_LeastWord_any d_aT _ _ _ (Ot30.out).rd (Ot31.out).rd LEN_aT0 LEN_aT1).mono ?_; rw [← Hr.out]; rintro e w14 ⟨vh00, rfl, hoh00, hb14⟩
    obtain ⟨ah00, caph00, rfl⟩ := hoh00.forms
    have LL_h00 := Lib.hid (show ∀ g, (Value.slice ah00 (((r.getD Circ.zero)).gs).length caph00).ownBlock = some g → w13.heap.size ≤ g ∧ g < w14.heap.size from fun g hg => by have := hoh00.lt g hg; (try simp at this); omega)
    replace hoh00 := OwnE.le hoh00 (base' := w.heap.size) (by have := BB13.size; first | omega | (simp; omega))
    replace Ow00 := Lib.hid (show OwnE w14 (w.heap.size) 57 (.slice aw00 (((r.getD Circ.zero)).gs).length capw00) E3.cs 3 (((r.getD Circ.zero)).gs) from OwnE.below Ow00.out hb14 rfl)
    replace Ox00 := Lib.hid (show w14.ownsRow (w.heap.size) 62 3 (.slice ax00 ((d_aT).xs).length capx00) ((d_aT).xs).length (marks (1) (((d_aT).xs).length * 3)) from own_below Ox00.out hb14 rfl)
    replace Ox01 := Lib.hid (show w14.ownsRow (w.heap.size) 62 3 (.slice ax01 ((d_aT).zs).length capx01) ((d_aT).zs).length (marks (1 + ((((d_aT).xs).length * 3 : Nat) : Int)) (((d_aT).zs).length * 3)) from own_below Ox01.out hb14 rfl)
    replace Og00 := Lib.hid (show w14.ownsRow (w.heap.size) 57 3 (.slice ag00 (((r.getD Circ.zero)).gs).length capg00) (((r.getD Circ.zero)).gs).length (marks (1) ((((r.getD Circ.zero)).gs).length * 3)) from own_below Og00.out hb14 rfl)
    replace Ot30 := Lib.hid (show OwnE w14 (w.heap.size) 62 (.slice at30 ((d_aT).xs).length capt30) E3.cs 3 ((d_aT).xs) from OwnE.below Ot30.out hb14 rfl)
    replace Ot31 := Lib.hid (show OwnE w14 (w.heap.size) 62 (.slice at31 ((d_aT).zs).length capt31) E3.cs 3 ((d_aT).zs) from OwnE.below Ot31.out hb14 rfl)
    replace c_paT0 := below_cell hb14 rfl c_paT0
    replace c_paT1 := below_cell hb14 rfl c_paT1
    replace c_paT2 := below_cell hb14 rfl c_paT2
    replace c_w00 := below_cell hb14 rfl c_w00
    replace c_w01 := below_cell hb14 rfl c_w01
    replace c_x00 := below_cell hb14 rfl c_x00
    replace c_x01 := below_cell hb14 rfl c_x01
    replace c_x02 := below_cell hb14 rfl c_x02
    replace c_g00 := below_cell hb14 rfl c_g00
    replace c_g01 := below_cell hb14 rfl c_g01
    have BB14 : Below w.heap.size w w14 := below_step BB13 hb14
    have ZZ14 : w13.heap.size ≤ w14.heap.size := by have := hb14.size; (try simp at this); omega
    clear LT13_0 LT13_1 LT13_2 LT13_3
    have LT14_0 : w.heap.size < w14.heap.size := World.block_lt_of_cell? w14 _ c_paT0
    have LT14_1 : w3.heap.size < w14.heap.size := World.block_lt_of_cell? w14 _ c_w00
    have LT14_2 : w4.heap.size < w14.heap.size := World.block_lt_of_cell? w14 _ c_x00
    have LT14_3 : w5.heap.size < w14.heap.size := World.block_lt_of_cell? w14 _ c_g00
    have Oh00 := Lib.hid (show OwnE w14 (w.heap.size) 57 (.slice ah00 (((r.getD Circ.zero)).gs).length caph00) E3.cs 3 (((r.getD Circ.zero)).gs) from hoh00); clear hoh00
    clear hb14 BB13
    clear Ot30 LL_t30
    clear Ot31 LL_t31
    clear AP_t3
    go_wp2_with fail
    have BP14 := Lib.hid (show Below w14.heap.size w14 (w14.alloc (.cells #[.int .i64 (((r.getD Circ.zero)).n), .slice ah00 (((r.getD Circ.zero)).gs).length caph00] 36)) from (by repeat (first | exact Below.refl _ _ | assumption | refine Below.drew ?_ | refine below_drewN ?_ _ | refine Below.alloc ?_ (by first | omega | (simp <;> omega)) _ | refine Below.setCell ?_ (by first | omega | (simp <;> omega)) _ | refine Below.trans ?_ (Below.mono (by assumption) (by first | omega | (simp <;> omega))))))
    replace Ow00 := Lib.hid (show OwnE (w14.alloc (.cells #[.int .i64 (((r.getD Circ.zero)).n), .slice ah00 (((r.getD Circ.zero)).gs).length caph00] 36)) (w.heap.size) 57 (.slice aw00 (((r.getD Circ.zero)).gs).length capw00) E3.cs 3 (((r.getD Circ.zero)).gs) from OwnE.below Ow00.out BP14.out rfl)
    replace Ox00 := Lib.hid (show (w14.alloc (.cells #[.int .i64 (((r.getD Circ.zero)).n), .slice ah00 (((r.getD Circ.zero)).gs).length caph00] 36)).ownsRow (w.heap.size) 62 3 (.slice ax00 ((d_aT).xs).length capx00) ((d_aT).xs).length (marks (1) (((d_aT).xs).length * 3)) from own_below Ox00.out BP14.out rfl)
    replace Ox01 := Lib.hid (show (w14.alloc (.cells #[.int .i64 (((r.getD Circ.zero)).n), .slice ah00 (((r.getD Circ.zero)).gs).length caph00] 36)).ownsRow (w.heap.size) 62 3 (.slice ax01 ((d_aT).zs).length capx01) ((d_aT).zs).length (marks (1 + ((((d_aT).xs).length * 3 : Nat) : Int)) (((d_aT).zs).length * 3)) from own_below Ox01.out BP14.out rfl)
    replace Og00 := Lib.hid (show (w14.alloc (.cells #[.int .i64 (((r.getD Circ.zero)).n), .slice ah00 (((r.getD Circ.zero)).gs).length caph00] 36)).ownsRow (w.heap.size) 57 3 (.slice ag00 (((r.getD Circ.zero)).gs).length capg00) (((r.getD Circ.zero)).gs).length (marks (1) ((((r.getD Circ.zero)).gs).length * 3)) from own_below Og00.out BP14.out rfl)
    replace Oh00 := Lib.hid (show OwnE (w14.alloc (.cells #[.int .i64 (((r.getD Circ.zero)).n), .slice ah00 (((r.getD Circ.zero)).gs).length caph00] 36)) (w.heap.size) 57 (.slice ah00 (((r.getD Circ.zero)).gs).length caph00) E3.cs 3 (((r.getD Circ.zero)).gs) from OwnE.below Oh00.out BP14.out rfl)
    replace c_paT0 := cell_alloc_keep (.cells #[.int .i64 (((r.getD Circ.zero)).n), .slice ah00 (((r.getD Circ.zero)).gs).length caph00] 36) (c_paT0)
    replace c_paT1 := cell_alloc_keep (.cells #[.int .i64 (((r.getD Circ.zero)).n), .slice ah00 (((r.getD Circ.zero)).gs).length caph00] 36) (c_paT1)
    replace c_paT2 := cell_alloc_keep (.cells #[.int .i64 (((r.getD Circ.zero)).n), .slice ah00 (((r.getD Circ.zero)).gs).length caph00] 36) (c_paT2)
    replace c_w00 := cell_alloc_keep (.cells #[.int .i64 (((r.getD Circ.zero)).n), .slice ah00 (((r.getD Circ.zero)).gs).length caph00] 36) (c_w00)
    replace c_w01 := cell_alloc_keep (.cells #[.int .i64 (((r.getD Circ.zero)).n), .slice ah00 (((r.getD Circ.zero)).gs).length caph00] 36) (c_w01)
    replace c_x00 := cell_alloc_keep (.cells #[.int .i64 (((r.getD Circ.zero)).n), .slice ah00 (((r.getD Circ.zero)).gs).length caph00] 36) (c_x00)
    replace c_x01 := cell_alloc_keep (.cells #[.int .i64 (((r.getD Circ.zero)).n), .slice ah00 (((r.getD Circ.zero)).gs).length caph00] 36) (c_x01)
    replace c_x02 := cell_alloc_keep (.cells #[.int .i64 (((r.getD Circ.zero)).n), .slice ah00 (((r.getD Circ.zero)).gs).length caph00] 36) (c_x02)
    replace c_g00 := cell_alloc_keep (.cells #[.int .i64 (((r.getD Circ.zero)).n), .slice ah00 (((r.getD Circ.zero)).gs).length caph00] 36) (c_g00)
    replace c_g01 := cell_alloc_keep (.cells #[.int .i64 (((r.getD Circ.zero)).n), .slice ah00 (((r.getD Circ.zero)).gs).length caph00] 36) (c_g01)
    have c_h00 : (w14.alloc (.cells #[.int .i64 (((r.getD Circ.zero)).n), .slice ah00 (((r.getD Circ.zero)).gs).length caph00] 36)).cell? ⟨w14.heap.size, 0, none⟩ = some (.int .i64 (((r.getD Circ.zero)).n)) := (by repeat (first | (refine Eq.trans (World.cell?_alloc_at _ _ _ _ ?hh) ?_; (case hh => (simp; done)); rfl) | refine cell_alloc_keep _ ?_))
    have c_h01 : (w14.alloc (.cells #[.int .i64 (((r.getD Circ.zero)).n), .slice ah00 (((r.getD Circ.zero)).gs).length caph00] 36)).cell? ⟨w14.heap.size, 1, none⟩ = some (.slice ah00 (((r.getD Circ.zero)).gs).length caph00) := (by repeat (first | (refine Eq.trans (World.cell?_alloc_at _ _ _ _ ?hh) ?_; (case hh => (simp; done)); rfl) | refine cell_alloc_keep _ ?_))
    refine (laws_eqCircuit_same (r.getD Circ.zero) _ _ _ (Oh00.out).rd (Ow00.out).rd).mono ?_; rintro e w15 ⟨rfl, hb15⟩
    replace Ow00 := Lib.hid (show OwnE w15 (w.heap.size) 57 (.slice aw00 (((r.getD Circ.zero)).gs).length capw00) E3.cs 3 (((r.getD Circ.zero)).gs) from OwnE.below Ow00.out hb15 rfl)
    replace Ox00 := Lib.hid (show w15.ownsRow (w.heap.size) 62 3 (.slice ax00 ((d_aT).xs).length capx00) ((d_aT).xs).length (marks (1) (((d_aT).xs).length * 3)) from own_below Ox00.out hb15 rfl)
    replace Ox01 := Lib.hid (show w15.ownsRow (w.heap.size) 62 3 (.slice ax01 ((d_aT).zs).length capx01) ((d_aT).zs).length (marks (1 + ((((d_aT).xs).length * 3 : Nat) : Int)) (((d_aT).zs).length * 3)) from own_below Ox01.out hb15 rfl)
    replace Og00 := Lib.hid (show w15.ownsRow (w.heap.size) 57 3 (.slice ag00 (((r.getD Circ.zero)).gs).length capg00) (((r.getD Circ.zero)).gs).length (marks (1) ((((r.getD Circ.zero)).gs).length * 3)) from own_below Og00.out hb15 rfl)
    replace Oh00 := Lib.hid (show OwnE w15 (w.heap.size) 57 (.slice ah00 (((r.getD Circ.zero)).gs).length caph00) E3.cs 3 (((r.getD Circ.zero)).gs) from OwnE.below Oh00.out hb15 rfl)
    replace c_paT0 := below_cell hb15 rfl c_paT0
    replace c_paT1 := below_cell hb15 rfl c_paT1
    replace c_paT2 := below_cell hb15 rfl c_paT2
    replace c_w00 := below_cell hb15 rfl c_w00
    replace c_w01 := below_cell hb15 rfl c_w01
    replace c_x00 := below_cell hb15 rfl c_x00
    replace c_x01 := below_cell hb15 rfl c_x01
    replace c_x02 := below_cell hb15 rfl c_x02
    replace c_g00 := below_cell hb15 rfl c_g00
    replace c_g01 := below_cell hb15 rfl c_g01
    replace c_h00 := below_cell hb15 rfl c_h00
    replace c_h01 := below_cell hb15 rfl c_h01
    have BB15 : Below w.heap.size w w15 := below_step (below_step BB14 BP14.out) hb15
    have ZZ15 : w14.heap.size + 1 ≤ w15.heap.size := by have := hb15.size; (try simp at this); omega
    clear BP14
    clear LT14_0 LT14_1 LT14_2 LT14_3
    have LT15_0 : w.heap.size < w15.heap.size := World.block_lt_of_cell? w15 _ c_paT0
    have LT15_1 : w3.heap.size < w15.heap.size := World.block_lt_of_cell? w15 _ c_w00
    have LT15_2 : w4.heap.size < w15.heap.size := World.block_lt_of_cell? w15 _ c_x00
    have LT15_3 : w5.heap.size < w15.heap.size := World.block_lt_of_cell? w15 _ c_g00
    have LT15_4 : w14.heap.size < w15.heap.size := World.block_lt_of_cell? w15 _ c_h00
    clear hb15 BB14
    go_wp2_with fail
    refine (laws_heldCircuit_any _ _ _ _ _ (Rd.of_own Og00.out) (by omega) (by omega) (by omega)).mono ?_; rintro e w16 ⟨rfl, hb16⟩
    replace Ow00 := Lib.hid (show OwnE w16 (w.heap.size) 57 (.slice aw00 (((r.getD Circ.zero)).gs).length capw00) E3.cs 3 (((r.getD Circ.zero)).gs) from OwnE.below Ow00.out hb16 rfl)
    replace Ox00 := Lib.hid (show w16.ownsRow (w.heap.size) 62 3 (.slice ax00 ((d_aT).xs).length capx00) ((d_aT).xs).length (marks (1) (((d_aT).xs).length * 3)) from own_below Ox00.out hb16 rfl)
    replace Ox01 := Lib.hid (show w16.ownsRow (w.heap.size) 62 3 (.slice ax01 ((d_aT).zs).length capx01) ((d_aT).zs).length (marks (1 + ((((d_aT).xs).length * 3 : Nat) : Int)) (((d_aT).zs).length * 3)) from own_below Ox01.out hb16 rfl)
    replace Og00 := Lib.hid (show w16.ownsRow (w.heap.size) 57 3 (.slice ag00 (((r.getD Circ.zero)).gs).length capg00) (((r.getD Circ.zero)).gs).length (marks (1) ((((r.getD Circ.zero)).gs).length * 3)) from own_below Og00.out hb16 rfl)
    replace Oh00 := Lib.hid (show OwnE w16 (w.heap.size) 57 (.slice ah00 (((r.getD Circ.zero)).gs).length caph00) E3.cs 3 (((r.getD Circ.zero)).gs) from OwnE.below Oh00.out hb16 rfl)
    replace c_paT0 := below_cell hb16 rfl c_paT0
    replace c_paT1 := below_cell hb16 rfl c_paT1
    replace c_paT2 := below_cell hb16 rfl c_paT2
    replace c_w00 := below_cell hb16 rfl c_w00
    replace c_w01 := below_cell hb16 rfl c_w01
    replace c_x00 := below_cell hb16 rfl c_x00
    replace c_x01 := below_cell hb16 rfl c_x01
    replace c_x02 := below_cell hb16 rfl c_x02
    replace c_g00 := below_cell hb16 rfl c_g00
    replace c_g01 := below_cell hb16 rfl c_g01
    replace c_h00 := below_cell hb16 rfl c_h00
    replace c_h01 := below_cell hb16 rfl c_h01
    have BB16 : Below w.heap.size w w16 := below_step BB15 hb16
    have ZZ16 : w15.heap.size ≤ w16.heap.size := by have := hb16.size; (try simp at this); omega
    clear LT15_0 LT15_1 LT15_2 LT15_3 LT15_4
    have LT16_0 : w.heap.size < w16.heap.size := World.block_lt_of_cell? w16 _ c_paT0
    have LT16_1 : w3.heap.size < w16.heap.size := World.block_lt_of_cell? w16 _ c_w00
    have LT16_2 : w4.heap.size < w16.heap.size := World.block_lt_of_cell? w16 _ c_x00
    have LT16_3 : w5.heap.size < w16.heap.size := World.block_lt_of_cell? w16 _ c_g00
    have LT16_4 : w14.heap.size < w16.heap.size := World.block_lt_of_cell? w16 _ c_h00
    clear hb16 BB15
    have hne16 : ¬ (1 + (((((r.getD Circ.zero)).gs).length * 3 : Nat) : Int) : Int) < 0 := by omega
    go_wp2_with fail
    go_ret
    exact ⟨rfl, BB16⟩
  · skip
    have BB0 := Below.refl w.heap.size w
    go_enter Try.func4, Try.ntmps4
    go_wp2_with fail
    have BP0 := Lib.hid (show Below w.heap.size w (w.alloc (.cells #[.int .i64 ((d_aT).n), .slice a_aT0 ((d_aT).xs).length cap_aT0, .slice a_aT1 ((d_aT).zs).length cap_aT1] 24)) from (by repeat (first | exact Below.refl _ _ | assumption | refine Below.drew ?_ | refine below_drewN ?_ _ | refine Below.alloc ?_ (by first | omega | (simp <;> omega)) _ | refine Below.setCell ?_ (by first | omega | (simp <;> omega)) _ | refine Below.trans ?_ (Below.mono (by assumption) (by first | omega | (simp <;> omega))))))
    have c_paT0 : (w.alloc (.cells #[.int .i64 ((d_aT).n), .slice a_aT0 ((d_aT).xs).length cap_aT0, .slice a_aT1 ((d_aT).zs).length cap_aT1] 24)).cell? ⟨w.heap.size, 0, none⟩ = some (.int .i64 ((d_aT).n)) := (by repeat (first | (refine Eq.trans (World.cell?_alloc_at _ _ _ _ ?hh) ?_; (case hh => (simp; done)); rfl) | refine cell_alloc_keep _ ?_))
    have c_paT1 : (w.alloc (.cells #[.int .i64 ((d_aT).n), .slice a_aT0 ((d_aT).xs).length cap_aT0, .slice a_aT1 ((d_aT).zs).length cap_aT1] 24)).cell? ⟨w.heap.size, 1, none⟩ = some (.slice a_aT0 ((d_aT).xs).length cap_aT0) := (by repeat (first | (refine Eq.trans (World.cell?_alloc_at _ _ _ _ ?hh) ?_; (case hh => (simp; done)); rfl) | refine cell_alloc_keep _ ?_))
    have c_paT2 : (w.alloc (.cells #[.int .i64 ((d_aT).n), .slice a_aT0 ((d_aT).xs).length cap_aT0, .slice a_aT1 ((d_aT).zs).length cap_aT1] 24)).cell? ⟨w.heap.size, 2, none⟩ = some (.slice a_aT1 ((d_aT).zs).length cap_aT1) := (by repeat (first | (refine Eq.trans (World.cell?_alloc_at _ _ _ _ ?hh) ?_; (case hh => (simp; done)); rfl) | refine cell_alloc_keep _ ?_))
    refine (laws_szTableau_no d_aT _ _ _ _ (Rd.below HA_aT0.out (below_step BB0 BP0.out) rfl) (Rd.below HA_aT1.out (below_step BB0 BP0.out) rfl) (by omega) (by omega) (by omega)).mono ?_; rintro e w1 ⟨rfl, hb1⟩
    replace c_paT0 := below_cell hb1 rfl c_paT0
    replace c_paT1 := below_cell hb1 rfl c_paT1
    replace c_paT2 := below_cell hb1 rfl c_paT2
    have BB1 : Below w.heap.size w w1 := below_step (below_step BB0 BP0.out) hb1
    have ZZ1 : w.heap.size + 1 ≤ w1.heap.size := by have := hb1.size; (try simp at this); omega
    clear BP0
    have LT1_0 : w.heap.size < w1.heap.size := World.block_lt_of_cell? w1 _ c_paT0
    clear hb1 BB0
    go_wp2_with fail
    go_ret
    exact ⟨rfl, BB1⟩
end Go.Proofs.Ytjdffjnennodaaa
namespace Go.Proofs.Ytjdffjnennodaaa.lawLeastWord
set_option linter.unusedSimpArgs false
set_option linter.unusedVariables false
set_option linter.unnecessarySimpa false
set_option maxRecDepth 200000
open Go.ChangeShapes Go.WideShapes Go.ChangeAt Go.RowKit

set_option maxRecDepth 100000 in
theorem lifted (os : Os) (started : os.Started) (H : Type) (enc : TypeId × Value → H) :
    ReturnsInHanded {} Try.checked os 4 .any (Rows.fnExactLeastWordSpec.pre6 enc Try.prog Try.f4 Rows.fnExactLeastWordRow.domain false) (Rows.fnExactLeastWordSpec.post enc Try.prog Try.f4 false true false false) := by
  refine law_lifted (C := Try.checked) own started (by kernel_rfl) Try.func4 rfl laidOut (of_decide_eq_true (by kernel_rfl)) rfl Try.underlying4
      (fun ds hds => by match ds, hds with | [_], _ => rfl)
      (ChangeSpec.witness6 (enc := enc) (C := Try.checked) false ⟨#[], #[.agg #[.int .i64 0, .slice none 0 0, .slice none 0 0]], []⟩ 8 (by kernel_rfl) (by kernel_rfl) (by kernel_rfl) (by kernel_rfl)) ?_
  intro W base args ds p hval0 hA0
  have hval : ∀ (j : Nat) t v, Try.f4.params[j]? = some t → args[j]? = some v → Value.okWide Try.prog W .any base t v := hval0
  have hA : DataW.TrodAll enc Try.prog W 0 (fun _ => true) true Try.f4.params.toList args.toList ds p := hA0
  rw [Try.params4] at hA hval
  clear hval0 hA0
  obtain ⟨v0, vs0, d0, ds0, p0, q0, hargs, rfl, rfl, h0, r0⟩ := trodAll_cons hA
  obtain ⟨rfl, rfl, rfl⟩ := trodAll_nil r0
  obtain rfl : args = #[v0] := by cases args; simp_all
  exact walk_FnExactLeastWord v0 W (isTableau_of (hval 0 24 v0 rfl rfl) h0)

theorem proved : Rows.FnExactLeastWordSaid :=
  OpenClaim.holds_of_wide 4 Try.f4 rfl rfl rfl rfl rfl rfl rfl ⟨rfl, rfl, rfl, rfl, rfl⟩ rfl rfl rfl rfl rfl (by kernel_rfl) Try.func4 (by kernel_rfl)
    (of_decide_eq_true (by kernel_rfl)) (by unfold Func.isWrapper; first | (rw [if_pos (by decide +kernel)]; kernel_rfl) | (rw [if_neg (by decide +kernel)]; exact ⟨rfl, rfl⟩))
    (fun os started H enc _ => lifted os started H enc)
#print axioms proved
end Go.Proofs.Ytjdffjnennodaaa.lawLeastWord
