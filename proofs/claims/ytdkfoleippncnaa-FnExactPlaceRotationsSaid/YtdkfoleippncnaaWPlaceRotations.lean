/- The walk through the law FnExactPlaceRotations. -/
import Derived.Test.YtdkfoleippncnaaPls
import Derived.Test.YtdkfoleippncnaaStCircuit
import Derived.Test.YtdkfoleippncnaaTyTerm
import Derived.Test.YtdkfoleippncnaaElTerm
import Derived.Test.YtdkfoleippncnaaOpen1
import Derived.Test.YtdkfoleippncnaaDat
import Derived.Test.YtdkfoleippncnaaCut1
import Derived.Deep.DeepMust
import Derived.Deep.RegionHeld3
namespace Go.Proofs.Ytdkfoleippncnaa
set_option linter.unusedSimpArgs false
set_option linter.unusedVariables false
set_option linter.unnecessarySimpa false
set_option maxRecDepth 200000
open Go.ChangeShapes Go.WideShapes Go.ChangeAt Go.RowKit

set_option maxHeartbeats 2000000 in
set_option maxRecDepth 100000 in
theorem walk_FnExactPlaceRotations (v0 v1 : Value) (w : World) (h0 : IsCircuit w v0) (h1 : IsTermS w v1) :
    Calls Try.prog 4 #[v0, v1] w fun e w' => e = .returned (.bool true) ∧ Below w.heap.size w w' := by
  obtain ⟨d_aC, v_aC0, rfl, HA_aC0, HR_aC⟩ := h0
  obtain ⟨a_aC0, cap_aC0, rfl, LX_aC0⟩ := HA_aC0.form
  replace HA_aC0 := Lib.hid HA_aC0; clear LX_aC0
  replace HR_aC := Lib.hid HR_aC
  obtain ⟨d_aTerms, HA_aTerms0, HR_aTerms⟩ := h1; have v_aTerms0 := v1
  obtain ⟨a_aTerms0, cap_aTerms0, rfl, LX_aTerms0⟩ := HA_aTerms0.form
  replace HA_aTerms0 := Lib.hid HA_aTerms0; clear LX_aTerms0
  replace HR_aTerms := Lib.hid HR_aTerms
  by_cases hsz0 : (((d_aC).gs).length : Int) ≤ 1048576
  · skip
    by_cases hsz1 : (((d_aC).gs).length : Int) + ((d_aTerms).length : Int) ≤ 1048576
    · skip
      have LEN_aC0 : ((d_aC).gs).length ≤ 1048576 := by omega
      have LEN_aTerms0 : (d_aTerms).length ≤ 1048576 := by omega
      obtain ⟨r, hr⟩ : ∃ r, r = plG d_aC d_aTerms := ⟨_, rfl⟩
      have hlen0 : (r.getD Circ.zero).gs.length ≤ 1000000 := by subst hr; exact plG_len _ _
      have Hr := Lib.hid hr; clear hr
      have BB0 := Below.refl w.heap.size w
      go_enter Try.func4, Try.ntmps4
      go_wp2_with fail
      have BP0 := Lib.hid (show Below w.heap.size w (w.alloc (.cells #[.int .i64 ((d_aC).n), .slice a_aC0 ((d_aC).gs).length cap_aC0] 24)) from (by repeat (first | exact Below.refl _ _ | assumption | refine Below.drew ?_ | refine below_drewN ?_ _ | refine Below.alloc ?_ (by first | omega | (simp <;> omega)) _ | refine Below.setCell ?_ (by first | omega | (simp <;> omega)) _ | refine Below.trans ?_ (Below.mono (by assumption) (by first | omega | (simp <;> omega))))))
      have c_paC0 : (w.alloc (.cells #[.int .i64 ((d_aC).n), .slice a_aC0 ((d_aC).gs).length cap_aC0] 24)).cell? ⟨w.heap.size, 0, none⟩ = some (.int .i64 ((d_aC).n)) := (by repeat (first | (refine Eq.trans (World.cell?_alloc_at _ _ _ _ ?hh) ?_; (case hh => (simp; done)); rfl) | refine cell_alloc_keep _ ?_))
      have c_paC1 : (w.alloc (.cells #[.int .i64 ((d_aC).n), .slice a_aC0 ((d_aC).gs).length cap_aC0] 24)).cell? ⟨w.heap.size, 1, none⟩ = some (.slice a_aC0 ((d_aC).gs).length cap_aC0) := (by repeat (first | (refine Eq.trans (World.cell?_alloc_at _ _ _ _ ?hh) ?_; (case hh => (simp; done)); rfl) | refine cell_alloc_keep _ ?_))
      refine (laws_szCircuit_ok d_aC _ _ _ (Rd.below HA_aC0.out (below_step BB0 BP0.out) rfl) (by omega) (by omega)).mono ?_; rintro e w1 ⟨rfl, hb1⟩
      replace c_paC0 := below_cell hb1 rfl c_paC0
      replace c_paC1 := below_cell hb1 rfl c_paC1
      have BB1 : Below w.heap.size w w1 := below_step (below_step BB0 BP0.out) hb1
      have ZZ1 : w.heap.size + 1 ≤ w1.heap.size := by have := hb1.size; (try simp at this); omega
      clear BP0
      have LT1_0 : w.heap.size < w1.heap.size := World.block_lt_of_cell? w1 _ c_paC0
      clear hb1 BB0
      go_wp2_with fail
      refine (laws_szTermS_ok _ d_aTerms _ _ (Rd.below HA_aTerms0.out BB1 rfl) (by omega) (by omega)).mono ?_; rintro e w2 ⟨rfl, hb2⟩
      replace c_paC0 := below_cell hb2 rfl c_paC0
      replace c_paC1 := below_cell hb2 rfl c_paC1
      have BB2 : Below w.heap.size w w2 := below_step BB1 hb2
      have ZZ2 : w1.heap.size ≤ w2.heap.size := by have := hb2.size; (try simp at this); omega
      clear LT1_0
      have LT2_0 : w.heap.size < w2.heap.size := World.block_lt_of_cell? w2 _ c_paC0
      clear hb2 BB1
      go_wp2_with fail
      refine (laws_toCircuit_any d_aC _ _ (Rd.below HA_aC0.out BB2 rfl) LEN_aC0).mono ?_; rintro e w3 ⟨vt10, rfl, hot10, hb3⟩
      obtain ⟨at10, capt10, rfl⟩ := hot10.forms
      have LL_t10 := Lib.hid (show ∀ g, (Value.slice at10 ((d_aC).gs).length capt10).ownBlock = some g → w2.heap.size ≤ g ∧ g < w3.heap.size from fun g hg => by have := hot10.lt g hg; (try simp at this); omega)
      replace hot10 := OwnE.le hot10 (base' := w.heap.size) (by have := BB2.size; first | omega | (simp; omega))
      replace c_paC0 := below_cell hb3 rfl c_paC0
      replace c_paC1 := below_cell hb3 rfl c_paC1
      have BB3 : Below w.heap.size w w3 := below_step BB2 hb3
      have ZZ3 : w2.heap.size ≤ w3.heap.size := by have := hb3.size; (try simp at this); omega
      clear LT2_0
      have LT3_0 : w.heap.size < w3.heap.size := World.block_lt_of_cell? w3 _ c_paC0
      have Ot10 := Lib.hid (show OwnE w3 (w.heap.size) 104 (.slice at10 ((d_aC).gs).length capt10) E3.cs 3 ((d_aC).gs) from hot10); clear hot10
      clear hb3 BB2
      go_wp2_with fail
      refine (laws_toTermS_any _ d_aTerms _ (Rd.below HA_aTerms0.out BB3 rfl) LEN_aTerms0).mono ?_; rintro e w4 ⟨vt20, rfl, hot20, hb4⟩
      obtain ⟨at20, capt20, rfl⟩ := hot20.forms
      have LL_t20 := Lib.hid (show ∀ g, (Value.slice at20 (d_aTerms).length capt20).ownBlock = some g → w3.heap.size ≤ g ∧ g < w4.heap.size from fun g hg => by have := hot20.lt g hg; (try simp at this); omega)
      replace hot20 := OwnE.le hot20 (base' := w.heap.size) (by have := BB3.size; first | omega | (simp; omega))
      replace Ot10 := Lib.hid (show OwnE w4 (w.heap.size) 104 (.slice at10 ((d_aC).gs).length capt10) E3.cs 3 ((d_aC).gs) from OwnE.below Ot10.out hb4 rfl)
      replace c_paC0 := below_cell hb4 rfl c_paC0
      replace c_paC1 := below_cell hb4 rfl c_paC1
      have BB4 : Below w.heap.size w w4 := below_step BB3 hb4
      have ZZ4 : w3.heap.size ≤ w4.heap.size := by have := hb4.size; (try simp at this); omega
      clear LT3_0
      have LT4_0 : w.heap.size < w4.heap.size := World.block_lt_of_cell? w4 _ c_paC0
      have Ot20 := Lib.hid (show OwnE w4 (w.heap.size) 90 (.slice at20 (d_aTerms).length capt20) E2.cs 2 (d_aTerms) from hot20); clear hot20
      clear hb4 BB3
      go_wp2_with fail
      refine (spec_PlaceRotations_any _ _ d_aC d_aTerms _ (Ot10.out).rd (Ot20.out).rd LEN_aC0 LEN_aTerms0).mono ?_; rw [← Hr.out]; rintro e w5 ⟨vw00, rfl, how00, hb5⟩
      obtain ⟨aw00, capw00, rfl⟩ := how00.forms
      have LL_w00 := Lib.hid (show ∀ g, (Value.slice aw00 (((r.getD Circ.zero)).gs).length capw00).ownBlock = some g → w4.heap.size ≤ g ∧ g < w5.heap.size from fun g hg => by have := how00.lt g hg; (try simp at this); omega)
      replace how00 := OwnE.le how00 (base' := w.heap.size) (by have := BB4.size; first | omega | (simp; omega))
      replace Ot10 := Lib.hid (show OwnE w5 (w.heap.size) 104 (.slice at10 ((d_aC).gs).length capt10) E3.cs 3 ((d_aC).gs) from OwnE.below Ot10.out hb5 rfl)
      replace Ot20 := Lib.hid (show OwnE w5 (w.heap.size) 90 (.slice at20 (d_aTerms).length capt20) E2.cs 2 (d_aTerms) from OwnE.below Ot20.out hb5 rfl)
      replace c_paC0 := below_cell hb5 rfl c_paC0
      replace c_paC1 := below_cell hb5 rfl c_paC1
      have BB5 : Below w.heap.size w w5 := below_step BB4 hb5
      have ZZ5 : w4.heap.size ≤ w5.heap.size := by have := hb5.size; (try simp at this); omega
      clear LT4_0
      have LT5_0 : w.heap.size < w5.heap.size := World.block_lt_of_cell? w5 _ c_paC0
      have Ow00 := Lib.hid (show OwnE w5 (w.heap.size) 104 (.slice aw00 (((r.getD Circ.zero)).gs).length capw00) E3.cs 3 (((r.getD Circ.zero)).gs) from how00); clear how00
      clear hb5 BB4
      clear Ot10 LL_t10
      clear Ot20 LL_t20
      go_wp2_with fail
      have BP5 := Lib.hid (show Below w5.heap.size w5 (w5.alloc (.cells #[.int .i64 (((r.getD Circ.zero)).n), .slice aw00 (((r.getD Circ.zero)).gs).length capw00] 30)) from (by repeat (first | exact Below.refl _ _ | assumption | refine Below.drew ?_ | refine below_drewN ?_ _ | refine Below.alloc ?_ (by first | omega | (simp <;> omega)) _ | refine Below.setCell ?_ (by first | omega | (simp <;> omega)) _ | refine Below.trans ?_ (Below.mono (by assumption) (by first | omega | (simp <;> omega))))))
      replace Ow00 := Lib.hid (show OwnE (w5.alloc (.cells #[.int .i64 (((r.getD Circ.zero)).n), .slice aw00 (((r.getD Circ.zero)).gs).length capw00] 30)) (w.heap.size) 104 (.slice aw00 (((r.getD Circ.zero)).gs).length capw00) E3.cs 3 (((r.getD Circ.zero)).gs) from OwnE.below Ow00.out BP5.out rfl)
      replace c_paC0 := cell_alloc_keep (.cells #[.int .i64 (((r.getD Circ.zero)).n), .slice aw00 (((r.getD Circ.zero)).gs).length capw00] 30) (c_paC0)
      replace c_paC1 := cell_alloc_keep (.cells #[.int .i64 (((r.getD Circ.zero)).n), .slice aw00 (((r.getD Circ.zero)).gs).length capw00] 30) (c_paC1)
      have c_w00 : (w5.alloc (.cells #[.int .i64 (((r.getD Circ.zero)).n), .slice aw00 (((r.getD Circ.zero)).gs).length capw00] 30)).cell? ⟨w5.heap.size, 0, none⟩ = some (.int .i64 (((r.getD Circ.zero)).n)) := (by repeat (first | (refine Eq.trans (World.cell?_alloc_at _ _ _ _ ?hh) ?_; (case hh => (simp; done)); rfl) | refine cell_alloc_keep _ ?_))
      have c_w01 : (w5.alloc (.cells #[.int .i64 (((r.getD Circ.zero)).n), .slice aw00 (((r.getD Circ.zero)).gs).length capw00] 30)).cell? ⟨w5.heap.size, 1, none⟩ = some (.slice aw00 (((r.getD Circ.zero)).gs).length capw00) := (by repeat (first | (refine Eq.trans (World.cell?_alloc_at _ _ _ _ ?hh) ?_; (case hh => (simp; done)); rfl) | refine cell_alloc_keep _ ?_))
      refine (laws_toCircuit_any d_aC _ _ (Rd.below HA_aC0.out (below_step BB5 BP5.out) rfl) LEN_aC0).mono ?_; rintro e w6 ⟨vx00, rfl, hox00, hb6⟩
      obtain ⟨ax00, capx00, rfl⟩ := hox00.forms
      have LL_x00 := Lib.hid (show ∀ g, (Value.slice ax00 ((d_aC).gs).length capx00).ownBlock = some g → w5.heap.size + 1 ≤ g ∧ g < w6.heap.size from fun g hg => by have := hox00.lt g hg; (try simp at this); omega)
      replace hox00 := OwnE.le hox00 (base' := w.heap.size) (by have := BB5.size; first | omega | (simp; omega))
      replace Ow00 := Lib.hid (show OwnE w6 (w.heap.size) 104 (.slice aw00 (((r.getD Circ.zero)).gs).length capw00) E3.cs 3 (((r.getD Circ.zero)).gs) from OwnE.below Ow00.out hb6 rfl)
      replace c_paC0 := below_cell hb6 rfl c_paC0
      replace c_paC1 := below_cell hb6 rfl c_paC1
      replace c_w00 := below_cell hb6 rfl c_w00
      replace c_w01 := below_cell hb6 rfl c_w01
      have BB6 : Below w.heap.size w w6 := below_step (below_step BB5 BP5.out) hb6
      have ZZ6 : w5.heap.size + 1 ≤ w6.heap.size := by have := hb6.size; (try simp at this); omega
      clear BP5
      clear LT5_0
      have LT6_0 : w.heap.size < w6.heap.size := World.block_lt_of_cell? w6 _ c_paC0
      have LT6_1 : w5.heap.size < w6.heap.size := World.block_lt_of_cell? w6 _ c_w00
      have Ox00 := Lib.hid (show OwnE w6 (w.heap.size) 104 (.slice ax00 ((d_aC).gs).length capx00) E3.cs 3 ((d_aC).gs) from hox00); clear hox00
      clear hb6 BB5
      go_wp2_with fail
      have BP6 := Lib.hid (show Below w6.heap.size w6 (w6.alloc (.cells #[.int .i64 ((d_aC).n), .slice ax00 ((d_aC).gs).length capx00] 30)) from (by repeat (first | exact Below.refl _ _ | assumption | refine Below.drew ?_ | refine below_drewN ?_ _ | refine Below.alloc ?_ (by first | omega | (simp <;> omega)) _ | refine Below.setCell ?_ (by first | omega | (simp <;> omega)) _ | refine Below.trans ?_ (Below.mono (by assumption) (by first | omega | (simp <;> omega))))))
      replace Ow00 := Lib.hid (show OwnE (w6.alloc (.cells #[.int .i64 ((d_aC).n), .slice ax00 ((d_aC).gs).length capx00] 30)) (w.heap.size) 104 (.slice aw00 (((r.getD Circ.zero)).gs).length capw00) E3.cs 3 (((r.getD Circ.zero)).gs) from OwnE.below Ow00.out BP6.out rfl)
      replace Ox00 := Lib.hid (show OwnE (w6.alloc (.cells #[.int .i64 ((d_aC).n), .slice ax00 ((d_aC).gs).length capx00] 30)) (w.heap.size) 104 (.slice ax00 ((d_aC).gs).length capx00) E3.cs 3 ((d_aC).gs) from OwnE.below Ox00.out BP6.out rfl)
      replace c_paC0 := cell_alloc_keep (.cells #[.int .i64 ((d_aC).n), .slice ax00 ((d_aC).gs).length capx00] 30) (c_paC0)
      replace c_paC1 := cell_alloc_keep (.cells #[.int .i64 ((d_aC).n), .slice ax00 ((d_aC).gs).length capx00] 30) (c_paC1)
      replace c_w00 := cell_alloc_keep (.cells #[.int .i64 ((d_aC).n), .slice ax00 ((d_aC).gs).length capx00] 30) (c_w00)
      replace c_w01 := cell_alloc_keep (.cells #[.int .i64 ((d_aC).n), .slice ax00 ((d_aC).gs).length capx00] 30) (c_w01)
      have c_x00 : (w6.alloc (.cells #[.int .i64 ((d_aC).n), .slice ax00 ((d_aC).gs).length capx00] 30)).cell? ⟨w6.heap.size, 0, none⟩ = some (.int .i64 ((d_aC).n)) := (by repeat (first | (refine Eq.trans (World.cell?_alloc_at _ _ _ _ ?hh) ?_; (case hh => (simp; done)); rfl) | refine cell_alloc_keep _ ?_))
      have c_x01 : (w6.alloc (.cells #[.int .i64 ((d_aC).n), .slice ax00 ((d_aC).gs).length capx00] 30)).cell? ⟨w6.heap.size, 1, none⟩ = some (.slice ax00 ((d_aC).gs).length capx00) := (by repeat (first | (refine Eq.trans (World.cell?_alloc_at _ _ _ _ ?hh) ?_; (case hh => (simp; done)); rfl) | refine cell_alloc_keep _ ?_))
      refine (laws_toTermS_any _ d_aTerms _ (Rd.below HA_aTerms0.out (below_step BB6 BP6.out) rfl) LEN_aTerms0).mono ?_; rintro e w7 ⟨vx10, rfl, hox10, hb7⟩
      obtain ⟨ax10, capx10, rfl⟩ := hox10.forms
      have LL_x10 := Lib.hid (show ∀ g, (Value.slice ax10 (d_aTerms).length capx10).ownBlock = some g → w6.heap.size + 1 ≤ g ∧ g < w7.heap.size from fun g hg => by have := hox10.lt g hg; (try simp at this); omega)
      replace hox10 := OwnE.le hox10 (base' := w.heap.size) (by have := BB6.size; first | omega | (simp; omega))
      replace Ow00 := Lib.hid (show OwnE w7 (w.heap.size) 104 (.slice aw00 (((r.getD Circ.zero)).gs).length capw00) E3.cs 3 (((r.getD Circ.zero)).gs) from OwnE.below Ow00.out hb7 rfl)
      replace Ox00 := Lib.hid (show OwnE w7 (w.heap.size) 104 (.slice ax00 ((d_aC).gs).length capx00) E3.cs 3 ((d_aC).gs) from OwnE.below Ox00.out hb7 rfl)
      replace c_paC0 := below_cell hb7 rfl c_paC0
      replace c_paC1 := below_cell hb7 rfl c_paC1
      replace c_w00 := below_cell hb7 rfl c_w00
      replace c_w01 := below_cell hb7 rfl c_w01
      replace c_x00 := below_cell hb7 rfl c_x00
      replace c_x01 := below_cell hb7 rfl c_x01
      have BB7 : Below w.heap.size w w7 := below_step (below_step BB6 BP6.out) hb7
      have ZZ7 : w6.heap.size + 1 ≤ w7.heap.size := by have := hb7.size; (try simp at this); omega
      clear BP6
      clear LT6_0 LT6_1
      have LT7_0 : w.heap.size < w7.heap.size := World.block_lt_of_cell? w7 _ c_paC0
      have LT7_1 : w5.heap.size < w7.heap.size := World.block_lt_of_cell? w7 _ c_w00
      have LT7_2 : w6.heap.size < w7.heap.size := World.block_lt_of_cell? w7 _ c_x00
      have Ox10 := Lib.hid (show OwnE w7 (w.heap.size) 90 (.slice ax10 (d_aTerms).length capx10) E2.cs 2 (d_aTerms) from hox10); clear hox10
      clear hb7 BB6
      go_wp2_with fail
      refine (impl_PlaceRotations_any _ _ d_aC d_aTerms _ (Ox00.out).rd (Ox10.out).rd LEN_aC0 LEN_aTerms0).mono ?_; rw [← Hr.out]; rintro e w8 ⟨vg00, rfl, hog00, hb8⟩
      obtain ⟨ag00, capg00, rfl⟩ := hog00.forms
      have LL_g00 := Lib.hid (show ∀ g, (Value.slice ag00 (((r.getD Circ.zero)).gs).length capg00).ownBlock = some g → w7.heap.size ≤ g ∧ g < w8.heap.size from fun g hg => by have := hog00.lt g hg; (try simp at this); omega)
      replace hog00 := OwnE.le hog00 (base' := w.heap.size) (by have := BB7.size; first | omega | (simp; omega))
      replace Ow00 := Lib.hid (show OwnE w8 (w.heap.size) 104 (.slice aw00 (((r.getD Circ.zero)).gs).length capw00) E3.cs 3 (((r.getD Circ.zero)).gs) from OwnE.below Ow00.out hb8 rfl)
      replace Ox00 := Lib.hid (show OwnE w8 (w.heap.size) 104 (.slice ax00 ((d_aC).gs).length capx00) E3.cs 3 ((d_aC).gs) from OwnE.below Ox00.out hb8 rfl)
      replace Ox10 := Lib.hid (show OwnE w8 (w.heap.size) 90 (.slice ax10 (d_aTerms).length capx10) E2.cs 2 (d_aTerms) from OwnE.below Ox10.out hb8 rfl)
      replace c_paC0 := below_cell hb8 rfl c_paC0
      replace c_paC1 := below_cell hb8 rfl c_paC1
      replace c_w00 := below_cell hb8 rfl c_w00
      replace c_w01 := below_cell hb8 rfl c_w01
      replace c_x00 := below_cell hb8 rfl c_x00
      replace c_x01 := below_cell hb8 rfl c_x01
      have BB8 : Below w.heap.size w w8 := below_step BB7 hb8
      have ZZ8 : w7.heap.size ≤ w8.heap.size := by have := hb8.size; (try simp at this); omega
      clear LT7_0 LT7_1 LT7_2
      have LT8_0 : w.heap.size < w8.heap.size := World.block_lt_of_cell? w8 _ c_paC0
      have LT8_1 : w5.heap.size < w8.heap.size := World.block_lt_of_cell? w8 _ c_w00
      have LT8_2 : w6.heap.size < w8.heap.size := World.block_lt_of_cell? w8 _ c_x00
      have Og00 := Lib.hid (show OwnE w8 (w.heap.size) 104 (.slice ag00 (((r.getD Circ.zero)).gs).length capg00) E3.cs 3 (((r.getD Circ.zero)).gs) from hog00); clear hog00
      clear hb8 BB7
      go_wp2_with fail
      have BP8 := Lib.hid (show Below w8.heap.size w8 (w8.alloc (.cells #[.int .i64 (((r.getD Circ.zero)).n), .slice ag00 (((r.getD Circ.zero)).gs).length capg00] 30)) from (by repeat (first | exact Below.refl _ _ | assumption | refine Below.drew ?_ | refine below_drewN ?_ _ | refine Below.alloc ?_ (by first | omega | (simp <;> omega)) _ | refine Below.setCell ?_ (by first | omega | (simp <;> omega)) _ | refine Below.trans ?_ (Below.mono (by assumption) (by first | omega | (simp <;> omega))))))
      replace Ow00 := Lib.hid (show OwnE (w8.alloc (.cells #[.int .i64 (((r.getD Circ.zero)).n), .slice ag00 (((r.getD Circ.zero)).gs).length capg00] 30)) (w.heap.size) 104 (.slice aw00 (((r.getD Circ.zero)).gs).length capw00) E3.cs 3 (((r.getD Circ.zero)).gs) from OwnE.below Ow00.out BP8.out rfl)
      replace Ox00 := Lib.hid (show OwnE (w8.alloc (.cells #[.int .i64 (((r.getD Circ.zero)).n), .slice ag00 (((r.getD Circ.zero)).gs).length capg00] 30)) (w.heap.size) 104 (.slice ax00 ((d_aC).gs).length capx00) E3.cs 3 ((d_aC).gs) from OwnE.below Ox00.out BP8.out rfl)
      replace Ox10 := Lib.hid (show OwnE (w8.alloc (.cells #[.int .i64 (((r.getD Circ.zero)).n), .slice ag00 (((r.getD Circ.zero)).gs).length capg00] 30)) (w.heap.size) 90 (.slice ax10 (d_aTerms).length capx10) E2.cs 2 (d_aTerms) from OwnE.below Ox10.out BP8.out rfl)
      replace Og00 := Lib.hid (show OwnE (w8.alloc (.cells #[.int .i64 (((r.getD Circ.zero)).n), .slice ag00 (((r.getD Circ.zero)).gs).length capg00] 30)) (w.heap.size) 104 (.slice ag00 (((r.getD Circ.zero)).gs).length capg00) E3.cs 3 (((r.getD Circ.zero)).gs) from OwnE.below Og00.out BP8.out rfl)
      replace c_paC0 := cell_alloc_keep (.cells #[.int .i64 (((r.getD Circ.zero)).n), .slice ag00 (((r.getD Circ.zero)).gs).length capg00] 30) (c_paC0)
      replace c_paC1 := cell_alloc_keep (.cells #[.int .i64 (((r.getD Circ.zero)).n), .slice ag00 (((r.getD Circ.zero)).gs).length capg00] 30) (c_paC1)
      replace c_w00 := cell_alloc_keep (.cells #[.int .i64 (((r.getD Circ.zero)).n), .slice ag00 (((r.getD Circ.zero)).gs).length capg00] 30) (c_w00)
      replace c_w01 := cell_alloc_keep (.cells #[.int .i64 (((r.getD Circ.zero)).n), .slice ag00 (((r.getD Circ.zero)).gs).length capg00] 30) (c_w01)
      replace c_x00 := cell_alloc_keep (.cells #[.int .i64 (((r.getD Circ.zero)).n), .slice ag00 (((r.getD Circ.zero)).gs).length capg00] 30) (c_x00)
      replace c_x01 := cell_alloc_keep (.cells #[.int .i64 (((r.getD Circ.zero)).n), .slice ag00 (((r.getD Circ.zero)).gs).length capg00] 30) (c_x01)
      have c_g00 : (w8.alloc (.cells #[.int .i64 (((r.getD Circ.zero)).n), .slice ag00 (((r.getD Circ.zero)).gs).length capg00] 30)).cell? ⟨w8.heap.size, 0, none⟩ = some (.int .i64 (((r.getD Circ.zero)).n)) := (by repeat (first | (refine Eq.trans (World.cell?_alloc_at _ _ _ _ ?hh) ?_; (case hh => (simp; done)); rfl) | refine cell_alloc_keep _ ?_))
      have c_g01 : (w8.alloc (.cells #[.int .i64 (((r.getD Circ.zero)).n), .slice ag00 (((r.getD Circ.zero)).gs).length capg00] 30)).cell? ⟨w8.heap.size, 1, none⟩ = some (.slice ag00 (((r.getD Circ.zero)).gs).length capg00) := (by repeat (first | (refine Eq.trans (World.cell?_alloc_at _ _ _ _ ?hh) ?_; (case hh => (simp; done)); rfl) | refine cell_alloc_keep _ ?_))
      refine (laws_eqCircuit_same (r.getD Circ.zero) _ _ _ (Og00.out).rd (Ow00.out).rd).mono ?_; rintro e w9 ⟨rfl, hb9⟩
      replace Ow00 := Lib.hid (show OwnE w9 (w.heap.size) 104 (.slice aw00 (((r.getD Circ.zero)).gs).length capw00) E3.cs 3 (((r.getD Circ.zero)).gs) from OwnE.below Ow00.out hb9 rfl)
      replace Ox00 := Lib.hid (show OwnE w9 (w.heap.size) 104 (.slice ax00 ((d_aC).gs).length capx00) E3.cs 3 ((d_aC).gs) from OwnE.below Ox00.out hb9 rfl)
      replace Ox10 := Lib.hid (show OwnE w9 (w.heap.size) 90 (.slice ax10 (d_aTerms).length capx10) E2.cs 2 (d_aTerms) from OwnE.below Ox10.out hb9 rfl)
      replace Og00 := Lib.hid (show OwnE w9 (w.heap.size) 104 (.slice ag00 (((r.getD Circ.zero)).gs).length capg00) E3.cs 3 (((r.getD Circ.zero)).gs) from OwnE.below Og00.out hb9 rfl)
      replace c_paC0 := below_cell hb9 rfl c_paC0
      replace c_paC1 := below_cell hb9 rfl c_paC1
      replace c_w00 := below_cell hb9 rfl c_w00
      replace c_w01 := below_cell hb9 rfl c_w01
      replace c_x00 := below_cell hb9 rfl c_x00
      replace c_x01 := below_cell hb9 rfl c_x01
      replace c_g00 := below_cell hb9 rfl c_g00
      replace c_g01 := below_cell hb9 rfl c_g01
      have BB9 : Below w.heap.size w w9 := below_step (below_step BB8 BP8.out) hb9
      have ZZ9 : w8.heap.size + 1 ≤ w9.heap.size := by have := hb9.size; (try simp at this); omega
      clear BP8
      clear LT8_0 LT8_1 LT8_2
      have LT9_0 : w.heap.size < w9.heap.size := World.block_lt_of_cell? w9 _ c_paC0
      have LT9_1 : w5.heap.size < w9.heap.size := World.block_lt_of_cell? w9 _ c_w00
      have LT9_2 : w6.heap.size < w9.heap.size := World.block_lt_of_cell? w9 _ c_x00
      have LT9_3 : w8.heap.size < w9.heap.size := World.block_lt_of_cell? w9 _ c_g00
      clear hb9 BB8
      go_wp2_with fail
      go_region_held3 (fun w' => w'.cell? ⟨w.heap.size, 0, none⟩ = some (.int .i64 ((d_aC).n)) ∧ w'.cell? ⟨w.heap.size, 1, none⟩ = some (.slice a_aC0 ((d_aC).gs).length cap_aC0) ∧ w'.cell? ⟨w6.heap.size, 0, none⟩ = some (.int .i64 ((d_aC).n)) ∧ w'.cell? ⟨w6.heap.size, 1, none⟩ = some (.slice ax00 ((d_aC).gs).length capx00)) (first | go_keep | (go_split_ands; refine ⟨?_, ?_, ?_, ?_⟩ <;> first | assumption | (refine cell_alloc_keep _ ?_; assumption) | (simp [*]; done))) (first | (go_at_call 10; go_must ((have BP9 := Lib.hid (show Below w9.heap.size w9 (w9.drew) from (by repeat (first | exact Below.refl _ _ | assumption | refine Below.drew ?_ | refine below_drewN ?_ _ | refine Below.alloc ?_ (by first | omega | (simp <;> omega)) _ | refine Below.setCell ?_ (by first | omega | (simp <;> omega)) _ | refine Below.trans ?_ (Below.mono (by assumption) (by first | omega | (simp <;> omega))))))); (replace Ow00 := Lib.hid (show OwnE (w9.drew) (w.heap.size) 104 (.slice aw00 (((r.getD Circ.zero)).gs).length capw00) E3.cs 3 (((r.getD Circ.zero)).gs) from OwnE.below Ow00.out BP9.out rfl)); (replace Ox00 := Lib.hid (show OwnE (w9.drew) (w.heap.size) 104 (.slice ax00 ((d_aC).gs).length capx00) E3.cs 3 ((d_aC).gs) from OwnE.below Ox00.out BP9.out rfl)); (replace Ox10 := Lib.hid (show OwnE (w9.drew) (w.heap.size) 90 (.slice ax10 (d_aTerms).length capx10) E2.cs 2 (d_aTerms) from OwnE.below Ox10.out BP9.out rfl)); (replace Og00 := Lib.hid (show OwnE (w9.drew) (w.heap.size) 104 (.slice ag00 (((r.getD Circ.zero)).gs).length capg00) E3.cs 3 (((r.getD Circ.zero)).gs) from OwnE.below Og00.out BP9.out rfl)); (replace c_paC0 : (w9.drew).cell? ⟨w.heap.size, 0, none⟩ = some (.int .i64 ((d_aC).n)) := c_paC0); (replace c_paC1 : (w9.drew).cell? ⟨w.heap.size, 1, none⟩ = some (.slice a_aC0 ((d_aC).gs).length cap_aC0) := c_paC1); (replace c_w00 : (w9.drew).cell? ⟨w5.heap.size, 0, none⟩ = some (.int .i64 (((r.getD Circ.zero)).n)) := c_w00); (replace c_w01 : (w9.drew).cell? ⟨w5.heap.size, 1, none⟩ = some (.slice aw00 (((r.getD Circ.zero)).gs).length capw00) := c_w01); (replace c_x00 : (w9.drew).cell? ⟨w6.heap.size, 0, none⟩ = some (.int .i64 ((d_aC).n)) := c_x00); (replace c_x01 : (w9.drew).cell? ⟨w6.heap.size, 1, none⟩ = some (.slice ax00 ((d_aC).gs).length capx00) := c_x01); (replace c_g00 : (w9.drew).cell? ⟨w8.heap.size, 0, none⟩ = some (.int .i64 (((r.getD Circ.zero)).n)) := c_g00); (replace c_g01 : (w9.drew).cell? ⟨w8.heap.size, 1, none⟩ = some (.slice ag00 (((r.getD Circ.zero)).gs).length capg00) := c_g01); (refine (laws_toCircuit_any d_aC _ _ (Rd.below HA_aC0.out (below_step BB9 BP9.out) rfl) LEN_aC0).mono ?_; rintro e w10 ⟨vt30, rfl, hot30, hb10⟩); (obtain ⟨at30, capt30, rfl⟩ := hot30.forms); (have LL_t30 := Lib.hid (show ∀ g, (Value.slice at30 ((d_aC).gs).length capt30).ownBlock = some g → w9.heap.size ≤ g ∧ g < w10.heap.size from fun g hg => by have := hot30.lt g hg; (try simp at this); omega)); (replace hot30 := OwnE.le hot30 (base' := w.heap.size) (by have := BB9.size; first | omega | (simp; omega))); (replace Ow00 := Lib.hid (show OwnE w10 (w.heap.size) 104 (.slice aw00 (((r.getD Circ.zero)).gs).length capw00) E3.cs 3 (((r.getD Circ.zero)).gs) from OwnE.below Ow00.out hb10 rfl)); (replace Ox00 := Lib.hid (show OwnE w10 (w.heap.size) 104 (.slice ax00 ((d_aC).gs).length capx00) E3.cs 3 ((d_aC).gs) from OwnE.below Ox00.out hb10 rfl)); (replace Ox10 := Lib.hid (show OwnE w10 (w.heap.size) 90 (.slice ax10 (d_aTerms).length capx10) E2.cs 2 (d_aTerms) from OwnE.below Ox10.out hb10 rfl)); (replace Og00 := Lib.hid (show OwnE w10 (w.heap.size) 104 (.slice ag00 (((r.getD Circ.zero)).gs).length capg00) E3.cs 3 (((r.getD Circ.zero)).gs) from OwnE.below Og00.out hb10 rfl)); (replace c_paC0 := below_cell hb10 rfl c_paC0); (replace c_paC1 := below_cell hb10 rfl c_paC1); (replace c_w00 := below_cell hb10 rfl c_w00); (replace c_w01 := below_cell hb10 rfl c_w01); (replace c_x00 := below_cell hb10 rfl c_x00); (replace c_x01 := below_cell hb10 rfl c_x01); (replace c_g00 := below_cell hb10 rfl c_g00); (replace c_g01 := below_cell hb10 rfl c_g01); (have BB10 : Below w.heap.size w w10 := below_step (below_step BB9 BP9.out) hb10); (have ZZ10 : w9.heap.size ≤ w10.heap.size := by have := hb10.size; (try simp at this); omega); (clear BP9); (clear LT9_0 LT9_1 LT9_2 LT9_3); (have LT10_0 : w.heap.size < w10.heap.size := World.block_lt_of_cell? w10 _ c_paC0); (have LT10_1 : w5.heap.size < w10.heap.size := World.block_lt_of_cell? w10 _ c_w00); (have LT10_2 : w6.heap.size < w10.heap.size := World.block_lt_of_cell? w10 _ c_x00); (have LT10_3 : w8.heap.size < w10.heap.size := World.block_lt_of_cell? w10 _ c_g00); (have Ot30 := Lib.hid (show OwnE w10 (w.heap.size) 104 (.slice at30 ((d_aC).gs).length capt30) E3.cs 3 ((d_aC).gs) from hot30); clear hot30); (clear hb10 BB9))) | (go_at_call 12; go_must ((refine (laws_eqCircuit_same d_aC _ _ _ (Ox00.out).rd (Ot30.out).rd).mono ?_; rintro e w11 ⟨rfl, hb11⟩); (replace Ow00 := Lib.hid (show OwnE w11 (w.heap.size) 104 (.slice aw00 (((r.getD Circ.zero)).gs).length capw00) E3.cs 3 (((r.getD Circ.zero)).gs) from OwnE.below Ow00.out hb11 rfl)); (replace Ox00 := Lib.hid (show OwnE w11 (w.heap.size) 104 (.slice ax00 ((d_aC).gs).length capx00) E3.cs 3 ((d_aC).gs) from OwnE.below Ox00.out hb11 rfl)); (replace Ox10 := Lib.hid (show OwnE w11 (w.heap.size) 90 (.slice ax10 (d_aTerms).length capx10) E2.cs 2 (d_aTerms) from OwnE.below Ox10.out hb11 rfl)); (replace Og00 := Lib.hid (show OwnE w11 (w.heap.size) 104 (.slice ag00 (((r.getD Circ.zero)).gs).length capg00) E3.cs 3 (((r.getD Circ.zero)).gs) from OwnE.below Og00.out hb11 rfl)); (replace Ot30 := Lib.hid (show OwnE w11 (w.heap.size) 104 (.slice at30 ((d_aC).gs).length capt30) E3.cs 3 ((d_aC).gs) from OwnE.below Ot30.out hb11 rfl)); (replace c_paC0 := below_cell hb11 rfl c_paC0); (replace c_paC1 := below_cell hb11 rfl c_paC1); (replace c_w00 := below_cell hb11 rfl c_w00); (replace c_w01 := below_cell hb11 rfl c_w01); (replace c_x00 := below_cell hb11 rfl c_x00); (replace c_x01 := below_cell hb11 rfl c_x01); (replace c_g00 := below_cell hb11 rfl c_g00); (replace c_g01 := below_cell hb11 rfl c_g01); (have BB11 : Below w.heap.size w w11 := below_step BB10 hb11); (have ZZ11 : w10.heap.size ≤ w11.heap.size := by have := hb11.size; (try simp at this); omega); (clear LT10_0 LT10_1 LT10_2 LT10_3); (have LT11_0 : w.heap.size < w11.heap.size := World.block_lt_of_cell? w11 _ c_paC0); (have LT11_1 : w5.heap.size < w11.heap.size := World.block_lt_of_cell? w11 _ c_w00); (have LT11_2 : w6.heap.size < w11.heap.size := World.block_lt_of_cell? w11 _ c_x00); (have LT11_3 : w8.heap.size < w11.heap.size := World.block_lt_of_cell? w11 _ c_g00); (clear hb11 BB10))))
      clear Ot30 LL_t30
      go_wp2_with fail
      refine (laws_toTermS_any _ d_aTerms _ (Rd.below HA_aTerms0.out BB11 rfl) LEN_aTerms0).mono ?_; rintro e w12 ⟨vt40, rfl, hot40, hb12⟩
      obtain ⟨at40, capt40, rfl⟩ := hot40.forms
      have LL_t40 := Lib.hid (show ∀ g, (Value.slice at40 (d_aTerms).length capt40).ownBlock = some g → w11.heap.size ≤ g ∧ g < w12.heap.size from fun g hg => by have := hot40.lt g hg; (try simp at this); omega)
      replace hot40 := OwnE.le hot40 (base' := w.heap.size) (by have := BB11.size; first | omega | (simp; omega))
      replace Ow00 := Lib.hid (show OwnE w12 (w.heap.size) 104 (.slice aw00 (((r.getD Circ.zero)).gs).length capw00) E3.cs 3 (((r.getD Circ.zero)).gs) from OwnE.below Ow00.out hb12 rfl)
      replace Ox00 := Lib.hid (show OwnE w12 (w.heap.size) 104 (.slice ax00 ((d_aC).gs).length capx00) E3.cs 3 ((d_aC).gs) from OwnE.below Ox00.out hb12 rfl)
      replace Ox10 := Lib.hid (show OwnE w12 (w.heap.size) 90 (.slice ax10 (d_aTerms).length capx10) E2.cs 2 (d_aTerms) from OwnE.below Ox10.out hb12 rfl)
      replace Og00 := Lib.hid (show OwnE w12 (w.heap.size) 104 (.slice ag00 (((r.getD Circ.zero)).gs).length capg00) E3.cs 3 (((r.getD Circ.zero)).gs) from OwnE.below Og00.out hb12 rfl)
      replace c_paC0 := below_cell hb12 rfl c_paC0
      replace c_paC1 := below_cell hb12 rfl c_paC1
      replace c_w00 := below_cell hb12 rfl c_w00
      replace c_w01 := below_cell hb12 rfl c_w01
      replace c_x00 := below_cell hb12 rfl c_x00
      replace c_x01 := below_cell hb12 rfl c_x01
      replace c_g00 := below_cell hb12 rfl c_g00
      replace c_g01 := below_cell hb12 rfl c_g01
      have BB12 : Below w.heap.size w w12 := below_step BB11 hb12
      have ZZ12 : w11.heap.size ≤ w12.heap.size := by have := hb12.size; (try simp at this); omega
      clear LT11_0 LT11_1 LT11_2 LT11_3
      have LT12_0 : w.heap.size < w12.heap.size := World.block_lt_of_cell? w12 _ c_paC0
      have LT12_1 : w5.heap.size < w12.heap.size := World.block_lt_of_cell? w12 _ c_w00
      have LT12_2 : w6.heap.size < w12.heap.size := World.block_lt_of_cell? w12 _ c_x00
      have LT12_3 : w8.heap.size < w12.heap.size := World.block_lt_of_cell? w12 _ c_g00
      have Ot40 := Lib.hid (show OwnE w12 (w.heap.size) 90 (.slice at40 (d_aTerms).length capt40) E2.cs 2 (d_aTerms) from hot40); clear hot40
      clear hb12 BB11
      go_wp2_with fail
      refine (laws_eqTermS_any _ _ _ _ _ (Ox10.out).rd (Ot40.out).rd).mono ?_; rintro e w13 ⟨rfl, hb13⟩
      rw [show decide (d_aTerms = d_aTerms) = true from decide_eq_true rfl]
      replace Ow00 := Lib.hid (show OwnE w13 (w.heap.size) 104 (.slice aw00 (((r.getD Circ.zero)).gs).length capw00) E3.cs 3 (((r.getD Circ.zero)).gs) from OwnE.below Ow00.out hb13 rfl)
      replace Ox00 := Lib.hid (show OwnE w13 (w.heap.size) 104 (.slice ax00 ((d_aC).gs).length capx00) E3.cs 3 ((d_aC).gs) from OwnE.below Ox00.out hb13 rfl)
      replace Ox10 := Lib.hid (show OwnE w13 (w.heap.size) 90 (.slice ax10 (d_aTerms).length capx10) E2.cs 2 (d_aTerms) from OwnE.below Ox10.out hb13 rfl)
      replace Og00 := Lib.hid (show OwnE w13 (w.heap.size) 104 (.slice ag00 (((r.getD Circ.zero)).gs).length capg00) E3.cs 3 (((r.getD Circ.zero)).gs) from OwnE.below Og00.out hb13 rfl)
      replace Ot40 := Lib.hid (show OwnE w13 (w.heap.size) 90 (.slice at40 (d_aTerms).length capt40) E2.cs 2 (d_aTerms) from OwnE.below Ot40.out hb13 rfl)
      replace c_paC0 := below_cell hb13 rfl c_paC0
      replace c_paC1 := below_cell hb13 rfl c_paC1
      replace c_w00 := below_cell hb13 rfl c_w00
      replace c_w01 := below_cell hb13 rfl c_w01
      replace c_x00 := below_cell hb13 rfl c_x00
      replace c_x01 := below_cell hb13 rfl c_x01
      replace c_g00 := below_cell hb13 rfl c_g00
      replace c_g01 := below_cell hb13 rfl c_g01
      have BB13 : Below w.heap.size w w13 := below_step BB12 hb13
      have ZZ13 : w12.heap.size ≤ w13.heap.size := by have := hb13.size; (try simp at this); omega
      clear LT12_0 LT12_1 LT12_2 LT12_3
      have LT13_0 : w.heap.size < w13.heap.size := World.block_lt_of_cell? w13 _ c_paC0
      have LT13_1 : w5.heap.size < w13.heap.size := World.block_lt_of_cell? w13 _ c_w00
      have LT13_2 : w6.heap.size < w13.heap.size := World.block_lt_of_cell? w13 _ c_x00
      have LT13_3 : w8.heap.size < w13.heap.size := World.block_lt_of_cell? w13 _ c_g00
      clear hb13 BB12
      go_wp2_with fail
      clear Ot40 LL_t40
      refine (laws_markCircuit_any _ _ _ _ _ _ _ Ox00.out (by omega) (by omega) (by omega)).mono ?_; rintro e w14 ⟨rfl, hmx00, hg⟩
      have hb14 : Mid (w5.heap.size + 1) (w6.heap.size) w13 w14 := Mid.of_grown hg (fun k hk => LL_x00.out k hk)
      clear hg
      replace Ow00 := Lib.hid (show OwnE w14 (w.heap.size) 104 (.slice aw00 (((r.getD Circ.zero)).gs).length capw00) E3.cs 3 (((r.getD Circ.zero)).gs) from Mid.own hb14 Ow00.out (fun g hg => by have := LL_w00.out g hg; omega))
      replace Ox10 := Lib.hid (show OwnE w14 (w.heap.size) 90 (.slice ax10 (d_aTerms).length capx10) E2.cs 2 (d_aTerms) from Mid.own hb14 Ox10.out (fun g hg => by have := LL_x10.out g hg; omega))
      replace Og00 := Lib.hid (show OwnE w14 (w.heap.size) 104 (.slice ag00 (((r.getD Circ.zero)).gs).length capg00) E3.cs 3 (((r.getD Circ.zero)).gs) from Mid.own hb14 Og00.out (fun g hg => by have := LL_g00.out g hg; omega))
      replace c_paC0 := Mid.cell hb14 (by omega) c_paC0
      replace c_paC1 := Mid.cell hb14 (by omega) c_paC1
      replace c_w00 := Mid.cell hb14 (by omega) c_w00
      replace c_w01 := Mid.cell hb14 (by omega) c_w01
      replace c_x00 := Mid.cell hb14 (by omega) c_x00
      replace c_x01 := Mid.cell hb14 (by omega) c_x01
      replace c_g00 := Mid.cell hb14 (by omega) c_g00
      replace c_g01 := Mid.cell hb14 (by omega) c_g01
      have BB14 : Below w.heap.size w w14 := Below.trans BB13 (Mid.below hb14 (by omega) (by first | omega | (simp <;> omega)))
      have ZZ14 : w13.heap.size ≤ w14.heap.size := by have := hb14.size; (try simp at this); omega
      clear LT13_0 LT13_1 LT13_2 LT13_3
      have LT14_0 : w.heap.size < w14.heap.size := World.block_lt_of_cell? w14 _ c_paC0
      have LT14_1 : w5.heap.size < w14.heap.size := World.block_lt_of_cell? w14 _ c_w00
      have LT14_2 : w6.heap.size < w14.heap.size := World.block_lt_of_cell? w14 _ c_x00
      have LT14_3 : w8.heap.size < w14.heap.size := World.block_lt_of_cell? w14 _ c_g00
      have Ox00 := Lib.hid (show w14.ownsRow (w.heap.size) 104 3 (.slice ax00 ((d_aC).gs).length capx00) ((d_aC).gs).length (marks (1) (((d_aC).gs).length * 3)) from hmx00); clear hmx00
      clear hb14 BB13
      go_wp2_with fail
      refine (laws_markTermS_any _ _ _ _ _ _ Ox10.out (by omega) (by omega) (by omega)).mono ?_; rintro e w15 ⟨rfl, hmx10, hg⟩
      have hb15 : Mid (w6.heap.size + 1) (w7.heap.size) w14 w15 := Mid.of_grown hg (fun k hk => LL_x10.out k hk)
      clear hg
      replace Ow00 := Lib.hid (show OwnE w15 (w.heap.size) 104 (.slice aw00 (((r.getD Circ.zero)).gs).length capw00) E3.cs 3 (((r.getD Circ.zero)).gs) from Mid.own hb15 Ow00.out (fun g hg => by have := LL_w00.out g hg; omega))
      replace Ox00 := Lib.hid (show w15.ownsRow (w.heap.size) 104 3 (.slice ax00 ((d_aC).gs).length capx00) ((d_aC).gs).length (marks (1) (((d_aC).gs).length * 3)) from Mid.own hb15 Ox00.out (fun g hg => by have := LL_x00.out g hg; omega))
      replace Og00 := Lib.hid (show OwnE w15 (w.heap.size) 104 (.slice ag00 (((r.getD Circ.zero)).gs).length capg00) E3.cs 3 (((r.getD Circ.zero)).gs) from Mid.own hb15 Og00.out (fun g hg => by have := LL_g00.out g hg; omega))
      replace c_paC0 := Mid.cell hb15 (by omega) c_paC0
      replace c_paC1 := Mid.cell hb15 (by omega) c_paC1
      replace c_w00 := Mid.cell hb15 (by omega) c_w00
      replace c_w01 := Mid.cell hb15 (by omega) c_w01
      replace c_x00 := Mid.cell hb15 (by omega) c_x00
      replace c_x01 := Mid.cell hb15 (by omega) c_x01
      replace c_g00 := Mid.cell hb15 (by omega) c_g00
      replace c_g01 := Mid.cell hb15 (by omega) c_g01
      have BB15 : Below w.heap.size w w15 := Below.trans BB14 (Mid.below hb15 (by omega) (by first | omega | (simp <;> omega)))
      have ZZ15 : w14.heap.size ≤ w15.heap.size := by have := hb15.size; (try simp at this); omega
      clear LT14_0 LT14_1 LT14_2 LT14_3
      have LT15_0 : w.heap.size < w15.heap.size := World.block_lt_of_cell? w15 _ c_paC0
      have LT15_1 : w5.heap.size < w15.heap.size := World.block_lt_of_cell? w15 _ c_w00
      have LT15_2 : w6.heap.size < w15.heap.size := World.block_lt_of_cell? w15 _ c_x00
      have LT15_3 : w8.heap.size < w15.heap.size := World.block_lt_of_cell? w15 _ c_g00
      have Ox10 := Lib.hid (show w15.ownsRow (w.heap.size) 90 2 (.slice ax10 (d_aTerms).length capx10) (d_aTerms).length (marks (1 + ((((d_aC).gs).length * 3 : Nat) : Int)) ((d_aTerms).length * 2)) from hmx10); clear hmx10
      clear hb15 BB14
      go_wp2_with fail
      refine (laws_eqCircuit_same (r.getD Circ.zero) _ _ _ (Og00.out).rd (Ow00.out).rd).mono ?_; rintro e w16 ⟨rfl, hb16⟩
      replace Ow00 := Lib.hid (show OwnE w16 (w.heap.size) 104 (.slice aw00 (((r.getD Circ.zero)).gs).length capw00) E3.cs 3 (((r.getD Circ.zero)).gs) from OwnE.below Ow00.out hb16 rfl)
      replace Ox00 := Lib.hid (show w16.ownsRow (w.heap.size) 104 3 (.slice ax00 ((d_aC).gs).length capx00) ((d_aC).gs).length (marks (1) (((d_aC).gs).length * 3)) from own_below Ox00.out hb16 rfl)
      replace Ox10 := Lib.hid (show w16.ownsRow (w.heap.size) 90 2 (.slice ax10 (d_aTerms).length capx10) (d_aTerms).length (marks (1 + ((((d_aC).gs).length * 3 : Nat) : Int)) ((d_aTerms).length * 2)) from own_below Ox10.out hb16 rfl)
      replace Og00 := Lib.hid (show OwnE w16 (w.heap.size) 104 (.slice ag00 (((r.getD Circ.zero)).gs).length capg00) E3.cs 3 (((r.getD Circ.zero)).gs) from OwnE.below Og00.out hb16 rfl)
      replace c_paC0 := below_cell hb16 rfl c_paC0
      replace c_paC1 := below_cell hb16 rfl c_paC1
      replace c_w00 := below_cell hb16 rfl c_w00
      replace c_w01 := below_cell hb16 rfl c_w01
      replace c_x00 := below_cell hb16 rfl c_x00
      replace c_x01 := below_cell hb16 rfl c_x01
      replace c_g00 := below_cell hb16 rfl c_g00
      replace c_g01 := below_cell hb16 rfl c_g01
      have BB16 : Below w.heap.size w w16 := below_step BB15 hb16
      have ZZ16 : w15.heap.size ≤ w16.heap.size := by have := hb16.size; (try simp at this); omega
      clear LT15_0 LT15_1 LT15_2 LT15_3
      have LT16_0 : w.heap.size < w16.heap.size := World.block_lt_of_cell? w16 _ c_paC0
      have LT16_1 : w5.heap.size < w16.heap.size := World.block_lt_of_cell? w16 _ c_w00
      have LT16_2 : w6.heap.size < w16.heap.size := World.block_lt_of_cell? w16 _ c_x00
      have LT16_3 : w8.heap.size < w16.heap.size := World.block_lt_of_cell? w16 _ c_g00
      clear hb16 BB15
      go_wp2_with fail
      refine (laws_markCircuit_any _ _ _ _ _ _ _ Og00.out (by omega) (by omega) (by omega)).mono ?_; rintro e w17 ⟨rfl, hmg00, hg⟩
      have hb17 : Mid (w7.heap.size) (w8.heap.size) w16 w17 := Mid.of_grown hg (fun k hk => LL_g00.out k hk)
      clear hg
      replace Ow00 := Lib.hid (show OwnE w17 (w.heap.size) 104 (.slice aw00 (((r.getD Circ.zero)).gs).length capw00) E3.cs 3 (((r.getD Circ.zero)).gs) from Mid.own hb17 Ow00.out (fun g hg => by have := LL_w00.out g hg; omega))
      replace Ox00 := Lib.hid (show w17.ownsRow (w.heap.size) 104 3 (.slice ax00 ((d_aC).gs).length capx00) ((d_aC).gs).length (marks (1) (((d_aC).gs).length * 3)) from Mid.own hb17 Ox00.out (fun g hg => by have := LL_x00.out g hg; omega))
      replace Ox10 := Lib.hid (show w17.ownsRow (w.heap.size) 90 2 (.slice ax10 (d_aTerms).length capx10) (d_aTerms).length (marks (1 + ((((d_aC).gs).length * 3 : Nat) : Int)) ((d_aTerms).length * 2)) from Mid.own hb17 Ox10.out (fun g hg => by have := LL_x10.out g hg; omega))
      replace c_paC0 := Mid.cell hb17 (by omega) c_paC0
      replace c_paC1 := Mid.cell hb17 (by omega) c_paC1
      replace c_w00 := Mid.cell hb17 (by omega) c_w00
      replace c_w01 := Mid.cell hb17 (by omega) c_w01
      replace c_x00 := Mid.cell hb17 (by omega) c_x00
      replace c_x01 := Mid.cell hb17 (by omega) c_x01
      replace c_g00 := Mid.cell hb17 (by omega) c_g00
      replace c_g01 := Mid.cell hb17 (by omega) c_g01
      have BB17 : Below w.heap.size w w17 := Below.trans BB16 (Mid.below hb17 (by omega) (by first | omega | (simp <;> omega)))
      have ZZ17 : w16.heap.size ≤ w17.heap.size := by have := hb17.size; (try simp at this); omega
      clear LT16_0 LT16_1 LT16_2 LT16_3
      have LT17_0 : w.heap.size < w17.heap.size := World.block_lt_of_cell? w17 _ c_paC0
      have LT17_1 : w5.heap.size < w17.heap.size := World.block_lt_of_cell? w17 _ c_w00
      have LT17_2 : w6.heap.size < w17.heap.size := World.block_lt_of_cell? w17 _ c_x00
      have LT17_3 : w8.heap.size < w17.heap.size := World.block_lt_of_cell? w17 _ c_g00
      have Og00 := Lib.hid (show w17.ownsRow (w.heap.size) 104 3 (.slice ag00 (((r.getD Circ.zero)).gs).length capg00) (((r.getD Circ.zero)).gs).length (marks (1) ((((r.getD Circ.zero)).gs).length * 3)) from hmg00); clear hmg00
      clear hb17 BB16
      go_wp2_with fail
      refine (laws_heldCircuit_any _ _ _ _ _ (Rd.of_own Og00.out) (by omega) (by omega) (by omega)).mono ?_; rintro e w18 ⟨rfl, hb18⟩
      replace Ow00 := Lib.hid (show OwnE w18 (w.heap.size) 104 (.slice aw00 (((r.getD Circ.zero)).gs).length capw00) E3.cs 3 (((r.getD Circ.zero)).gs) from OwnE.below Ow00.out hb18 rfl)
      replace Ox00 := Lib.hid (show w18.ownsRow (w.heap.size) 104 3 (.slice ax00 ((d_aC).gs).length capx00) ((d_aC).gs).length (marks (1) (((d_aC).gs).length * 3)) from own_below Ox00.out hb18 rfl)
      replace Ox10 := Lib.hid (show w18.ownsRow (w.heap.size) 90 2 (.slice ax10 (d_aTerms).length capx10) (d_aTerms).length (marks (1 + ((((d_aC).gs).length * 3 : Nat) : Int)) ((d_aTerms).length * 2)) from own_below Ox10.out hb18 rfl)
      replace Og00 := Lib.hid (show w18.ownsRow (w.heap.size) 104 3 (.slice ag00 (((r.getD Circ.zero)).gs).length capg00) (((r.getD Circ.zero)).gs).length (marks (1) ((((r.getD Circ.zero)).gs).length * 3)) from own_below Og00.out hb18 rfl)
      replace c_paC0 := below_cell hb18 rfl c_paC0
      replace c_paC1 := below_cell hb18 rfl c_paC1
      replace c_w00 := below_cell hb18 rfl c_w00
      replace c_w01 := below_cell hb18 rfl c_w01
      replace c_x00 := below_cell hb18 rfl c_x00
      replace c_x01 := below_cell hb18 rfl c_x01
      replace c_g00 := below_cell hb18 rfl c_g00
      replace c_g01 := below_cell hb18 rfl c_g01
      have BB18 : Below w.heap.size w w18 := below_step BB17 hb18
      have ZZ18 : w17.heap.size ≤ w18.heap.size := by have := hb18.size; (try simp at this); omega
      clear LT17_0 LT17_1 LT17_2 LT17_3
      have LT18_0 : w.heap.size < w18.heap.size := World.block_lt_of_cell? w18 _ c_paC0
      have LT18_1 : w5.heap.size < w18.heap.size := World.block_lt_of_cell? w18 _ c_w00
      have LT18_2 : w6.heap.size < w18.heap.size := World.block_lt_of_cell? w18 _ c_x00
      have LT18_3 : w8.heap.size < w18.heap.size := World.block_lt_of_cell? w18 _ c_g00
      clear hb18 BB17
      have hne18 : ¬ (1 + (((((r.getD Circ.zero)).gs).length * 3 : Nat) : Int) : Int) < 0 := by omega
      go_wp2_with fail
      refine (laws_toCircuit_any d_aC _ _ (Rd.below HA_aC0.out BB18 rfl) LEN_aC0).mono ?_; rintro e w19 ⟨vt50, rfl, hot50, hb19⟩
      obtain ⟨at50, capt50, rfl⟩ := hot50.forms
      have LL_t50 := Lib.hid (show ∀ g, (Value.slice at50 ((d_aC).gs).length capt50).ownBlock = some g → w18.heap.size ≤ g ∧ g < w19.heap.size from fun g hg => by have := hot50.lt g hg; (try simp at this); omega)
      replace hot50 := OwnE.le hot50 (base' := w.heap.size) (by have := BB18.size; first | omega | (simp; omega))
      replace Ow00 := Lib.hid (show OwnE w19 (w.heap.size) 104 (.slice aw00 (((r.getD Circ.zero)).gs).length capw00) E3.cs 3 (((r.getD Circ.zero)).gs) from OwnE.below Ow00.out hb19 rfl)
      replace Ox00 := Lib.hid (show w19.ownsRow (w.heap.size) 104 3 (.slice ax00 ((d_aC).gs).length capx00) ((d_aC).gs).length (marks (1) (((d_aC).gs).length * 3)) from own_below Ox00.out hb19 rfl)
      replace Ox10 := Lib.hid (show w19.ownsRow (w.heap.size) 90 2 (.slice ax10 (d_aTerms).length capx10) (d_aTerms).length (marks (1 + ((((d_aC).gs).length * 3 : Nat) : Int)) ((d_aTerms).length * 2)) from own_below Ox10.out hb19 rfl)
      replace Og00 := Lib.hid (show w19.ownsRow (w.heap.size) 104 3 (.slice ag00 (((r.getD Circ.zero)).gs).length capg00) (((r.getD Circ.zero)).gs).length (marks (1) ((((r.getD Circ.zero)).gs).length * 3)) from own_below Og00.out hb19 rfl)
      replace c_paC0 := below_cell hb19 rfl c_paC0
      replace c_paC1 := below_cell hb19 rfl c_paC1
      replace c_w00 := below_cell hb19 rfl c_w00
      replace c_w01 := below_cell hb19 rfl c_w01
      replace c_x00 := below_cell hb19 rfl c_x00
      replace c_x01 := below_cell hb19 rfl c_x01
      replace c_g00 := below_cell hb19 rfl c_g00
      replace c_g01 := below_cell hb19 rfl c_g01
      have BB19 : Below w.heap.size w w19 := below_step BB18 hb19
      have ZZ19 : w18.heap.size ≤ w19.heap.size := by have := hb19.size; (try simp at this); omega
      clear LT18_0 LT18_1 LT18_2 LT18_3
      have LT19_0 : w.heap.size < w19.heap.size := World.block_lt_of_cell? w19 _ c_paC0
      have LT19_1 : w5.heap.size < w19.heap.size := World.block_lt_of_cell? w19 _ c_w00
      have LT19_2 : w6.heap.size < w19.heap.size := World.block_lt_of_cell? w19 _ c_x00
      have LT19_3 : w8.heap.size < w19.heap.size := World.block_lt_of_cell? w19 _ c_g00
      have Ot50 := Lib.hid (show OwnE w19 (w.heap.size) 104 (.slice at50 ((d_aC).gs).length capt50) E3.cs 3 ((d_aC).gs) from hot50); clear hot50
      clear hb19 BB18
      go_wp2_with fail
      refine (laws_toTermS_any _ d_aTerms _ (Rd.below HA_aTerms0.out BB19 rfl) LEN_aTerms0).mono ?_; rintro e w20 ⟨vt60, rfl, hot60, hb20⟩
      obtain ⟨at60, capt60, rfl⟩ := hot60.forms
      have LL_t60 := Lib.hid (show ∀ g, (Value.slice at60 (d_aTerms).length capt60).ownBlock = some g → w19.heap.size ≤ g ∧ g < w20.heap.size from fun g hg => by have := hot60.lt g hg; (try simp at this); omega)
      replace hot60 := OwnE.le hot60 (base' := w.heap.size) (by have := BB19.size; first | omega | (simp; omega))
      replace Ow00 := Lib.hid (show OwnE w20 (w.heap.size) 104 (.slice aw00 (((r.getD Circ.zero)).gs).length capw00) E3.cs 3 (((r.getD Circ.zero)).gs) from OwnE.below Ow00.out hb20 rfl)
      replace Ox00 := Lib.hid (show w20.ownsRow (w.heap.size) 104 3 (.slice ax00 ((d_aC).gs).length capx00) ((d_aC).gs).length (marks (1) (((d_aC).gs).length * 3)) from own_below Ox00.out hb20 rfl)
      replace Ox10 := Lib.hid (show w20.ownsRow (w.heap.size) 90 2 (.slice ax10 (d_aTerms).length capx10) (d_aTerms).length (marks (1 + ((((d_aC).gs).length * 3 : Nat) : Int)) ((d_aTerms).length * 2)) from own_below Ox10.out hb20 rfl)
      replace Og00 := Lib.hid (show w20.ownsRow (w.heap.size) 104 3 (.slice ag00 (((r.getD Circ.zero)).gs).length capg00) (((r.getD Circ.zero)).gs).length (marks (1) ((((r.getD Circ.zero)).gs).length * 3)) from own_below Og00.out hb20 rfl)
      replace Ot50 := Lib.hid (show OwnE w20 (w.heap.size) 104 (.slice at50 ((d_aC).gs).length capt50) E3.cs 3 ((d_aC).gs) from OwnE.below Ot50.out hb20 rfl)
      replace c_paC0 := below_cell hb20 rfl c_paC0
      replace c_paC1 := below_cell hb20 rfl c_paC1
      replace c_w00 := below_cell hb20 rfl c_w00
      replace c_w01 := below_cell hb20 rfl c_w01
      replace c_x00 := below_cell hb20 rfl c_x00
      replace c_x01 := below_cell hb20 rfl c_x01
      replace c_g00 := below_cell hb20 rfl c_g00
      replace c_g01 := below_cell hb20 rfl c_g01
      have BB20 : Below w.heap.size w w20 := below_step BB19 hb20
      have ZZ20 : w19.heap.size ≤ w20.heap.size := by have := hb20.size; (try simp at this); omega
      clear LT19_0 LT19_1 LT19_2 LT19_3
      have LT20_0 : w.heap.size < w20.heap.size := World.block_lt_of_cell? w20 _ c_paC0
      have LT20_1 : w5.heap.size < w20.heap.size := World.block_lt_of_cell? w20 _ c_w00
      have LT20_2 : w6.heap.size < w20.heap.size := World.block_lt_of_cell? w20 _ c_x00
      have LT20_3 : w8.heap.size < w20.heap.size := World.block_lt_of_cell? w20 _ c_g00
      have Ot60 := Lib.hid (show OwnE w20 (w.heap.size) 90 (.slice at60 (d_aTerms).length capt60) E2.cs 2 (d_aTerms) from hot60); clear hot60
      clear hb20 BB19
      go_wp2_with fail
      refine (impl_PlaceRotations_any _ _ d_aC d_aTerms _ (Ot50.out).rd (Ot60.out).rd LEN_aC0 LEN_aTerms0).mono ?_; rw [← Hr.out]; rintro e w21 ⟨vh00, rfl, hoh00, hb21⟩
      obtain ⟨ah00, caph00, rfl⟩ := hoh00.forms
      have LL_h00 := Lib.hid (show ∀ g, (Value.slice ah00 (((r.getD Circ.zero)).gs).length caph00).ownBlock = some g → w20.heap.size ≤ g ∧ g < w21.heap.size from fun g hg => by have := hoh00.lt g hg; (try simp at this); omega)
      replace hoh00 := OwnE.le hoh00 (base' := w.heap.size) (by have := BB20.size; first | omega | (simp; omega))
      replace Ow00 := Lib.hid (show OwnE w21 (w.heap.size) 104 (.slice aw00 (((r.getD Circ.zero)).gs).length capw00) E3.cs 3 (((r.getD Circ.zero)).gs) from OwnE.below Ow00.out hb21 rfl)
      replace Ox00 := Lib.hid (show w21.ownsRow (w.heap.size) 104 3 (.slice ax00 ((d_aC).gs).length capx00) ((d_aC).gs).length (marks (1) (((d_aC).gs).length * 3)) from own_below Ox00.out hb21 rfl)
      replace Ox10 := Lib.hid (show w21.ownsRow (w.heap.size) 90 2 (.slice ax10 (d_aTerms).length capx10) (d_aTerms).length (marks (1 + ((((d_aC).gs).length * 3 : Nat) : Int)) ((d_aTerms).length * 2)) from own_below Ox10.out hb21 rfl)
      replace Og00 := Lib.hid (show w21.ownsRow (w.heap.size) 104 3 (.slice ag00 (((r.getD Circ.zero)).gs).length capg00) (((r.getD Circ.zero)).gs).length (marks (1) ((((r.getD Circ.zero)).gs).length * 3)) from own_below Og00.out hb21 rfl)
      replace Ot50 := Lib.hid (show OwnE w21 (w.heap.size) 104 (.slice at50 ((d_aC).gs).length capt50) E3.cs 3 ((d_aC).gs) from OwnE.below Ot50.out hb21 rfl)
      replace Ot60 := Lib.hid (show OwnE w21 (w.heap.size) 90 (.slice at60 (d_aTerms).length capt60) E2.cs 2 (d_aTerms) from OwnE.below Ot60.out hb21 rfl)
      replace c_paC0 := below_cell hb21 rfl c_paC0
      replace c_paC1 := below_cell hb21 rfl c_paC1
      replace c_w00 := below_cell hb21 rfl c_w00
      replace c_w01 := below_cell hb21 rfl c_w01
      replace c_x00 := below_cell hb21 rfl c_x00
      replace c_x01 := below_cell hb21 rfl c_x01
      replace c_g00 := below_cell hb21 rfl c_g00
      replace c_g01 := below_cell hb21 rfl c_g01
      have BB21 : Below w.heap.size w w21 := below_step BB20 hb21
      have ZZ21 : w20.heap.size ≤ w21.heap.size := by have := hb21.size; (try simp at this); omega
      clear LT20_0 LT20_1 LT20_2 LT20_3
      have LT21_0 : w.heap.size < w21.heap.size := World.block_lt_of_cell? w21 _ c_paC0
      have LT21_1 : w5.heap.size < w21.heap.size := World.block_lt_of_cell? w21 _ c_w00
      have LT21_2 : w6.heap.size < w21.heap.size := World.block_lt_of_cell? w21 _ c_x00
      have LT21_3 : w8.heap.size < w21.heap.size := World.block_lt_of_cell? w21 _ c_g00
      have Oh00 := Lib.hid (show OwnE w21 (w.heap.size) 104 (.slice ah00 (((r.getD Circ.zero)).gs).length caph00) E3.cs 3 (((r.getD Circ.zero)).gs) from hoh00); clear hoh00
      clear hb21 BB20
      clear Ot50 LL_t50
      clear Ot60 LL_t60
      go_wp2_with fail
      have BP21 := Lib.hid (show Below w21.heap.size w21 (w21.alloc (.cells #[.int .i64 (((r.getD Circ.zero)).n), .slice ah00 (((r.getD Circ.zero)).gs).length caph00] 30)) from (by repeat (first | exact Below.refl _ _ | assumption | refine Below.drew ?_ | refine below_drewN ?_ _ | refine Below.alloc ?_ (by first | omega | (simp <;> omega)) _ | refine Below.setCell ?_ (by first | omega | (simp <;> omega)) _ | refine Below.trans ?_ (Below.mono (by assumption) (by first | omega | (simp <;> omega))))))
      replace Ow00 := Lib.hid (show OwnE (w21.alloc (.cells #[.int .i64 (((r.getD Circ.zero)).n), .slice ah00 (((r.getD Circ.zero)).gs).length caph00] 30)) (w.heap.size) 104 (.slice aw00 (((r.getD Circ.zero)).gs).length capw00) E3.cs 3 (((r.getD Circ.zero)).gs) from OwnE.below Ow00.out BP21.out rfl)
      replace Ox00 := Lib.hid (show (w21.alloc (.cells #[.int .i64 (((r.getD Circ.zero)).n), .slice ah00 (((r.getD Circ.zero)).gs).length caph00] 30)).ownsRow (w.heap.size) 104 3 (.slice ax00 ((d_aC).gs).length capx00) ((d_aC).gs).length (marks (1) (((d_aC).gs).length * 3)) from own_below Ox00.out BP21.out rfl)
      replace Ox10 := Lib.hid (show (w21.alloc (.cells #[.int .i64 (((r.getD Circ.zero)).n), .slice ah00 (((r.getD Circ.zero)).gs).length caph00] 30)).ownsRow (w.heap.size) 90 2 (.slice ax10 (d_aTerms).length capx10) (d_aTerms).length (marks (1 + ((((d_aC).gs).length * 3 : Nat) : Int)) ((d_aTerms).length * 2)) from own_below Ox10.out BP21.out rfl)
      replace Og00 := Lib.hid (show (w21.alloc (.cells #[.int .i64 (((r.getD Circ.zero)).n), .slice ah00 (((r.getD Circ.zero)).gs).length caph00] 30)).ownsRow (w.heap.size) 104 3 (.slice ag00 (((r.getD Circ.zero)).gs).length capg00) (((r.getD Circ.zero)).gs).length (marks (1) ((((r.getD Circ.zero)).gs).length * 3)) from own_below Og00.out BP21.out rfl)
      replace Oh00 := Lib.hid (show OwnE (w21.alloc (.cells #[.int .i64 (((r.getD Circ.zero)).n), .slice ah00 (((r.getD Circ.zero)).gs).length caph00] 30)) (w.heap.size) 104 (.slice ah00 (((r.getD Circ.zero)).gs).length caph00) E3.cs 3 (((r.getD Circ.zero)).gs) from OwnE.below Oh00.out BP21.out rfl)
      replace c_paC0 := cell_alloc_keep (.cells #[.int .i64 (((r.getD Circ.zero)).n), .slice ah00 (((r.getD Circ.zero)).gs).length caph00] 30) (c_paC0)
      replace c_paC1 := cell_alloc_keep (.cells #[.int .i64 (((r.getD Circ.zero)).n), .slice ah00 (((r.getD Circ.zero)).gs).length caph00] 30) (c_paC1)
      replace c_w00 := cell_alloc_keep (.cells #[.int .i64 (((r.getD Circ.zero)).n), .slice ah00 (((r.getD Circ.zero)).gs).length caph00] 30) (c_w00)
      replace c_w01 := cell_alloc_keep (.cells #[.int .i64 (((r.getD Circ.zero)).n), .slice ah00 (((r.getD Circ.zero)).gs).length caph00] 30) (c_w01)
      replace c_x00 := cell_alloc_keep (.cells #[.int .i64 (((r.getD Circ.zero)).n), .slice ah00 (((r.getD Circ.zero)).gs).length caph00] 30) (c_x00)
      replace c_x01 := cell_alloc_keep (.cells #[.int .i64 (((r.getD Circ.zero)).n), .slice ah00 (((r.getD Circ.zero)).gs).length caph00] 30) (c_x01)
      replace c_g00 := cell_alloc_keep (.cells #[.int .i64 (((r.getD Circ.zero)).n), .slice ah00 (((r.getD Circ.zero)).gs).length caph00] 30) (c_g00)
      replace c_g01 := cell_alloc_keep (.cells #[.int .i64 (((r.getD Circ.zero)).n), .slice ah00 (((r.getD Circ.zero)).gs).length caph00] 30) (c_g01)
      have c_h00 : (w21.alloc (.cells #[.int .i64 (((r.getD Circ.zero)).n), .slice ah00 (((r.getD Circ.zero)).gs).length caph00] 30)).cell? ⟨w21.heap.size, 0, none⟩ = some (.int .i64 (((r.getD Circ.zero)).n)) := (by repeat (first | (refine Eq.trans (World.cell?_alloc_at _ _ _ _ ?hh) ?_; (case hh => (simp; done)); rfl) | refine cell_alloc_keep _ ?_))
      have c_h01 : (w21.alloc (.cells #[.int .i64 (((r.getD Circ.zero)).n), .slice ah00 (((r.getD Circ.zero)).gs).length caph00] 30)).cell? ⟨w21.heap.size, 1, none⟩ = some (.slice ah00 (((r.getD Circ.zero)).gs).length caph00) := (by repeat (first | (refine Eq.trans (World.cell?_alloc_at _ _ _ _ ?hh) ?_; (case hh => (simp; done)); rfl) | refine cell_alloc_keep _ ?_))
      refine (laws_eqCircuit_same (r.getD Circ.zero) _ _ _ (Oh00.out).rd (Ow00.out).rd).mono ?_; rintro e w22 ⟨rfl, hb22⟩
      replace Ow00 := Lib.hid (show OwnE w22 (w.heap.size) 104 (.slice aw00 (((r.getD Circ.zero)).gs).length capw00) E3.cs 3 (((r.getD Circ.zero)).gs) from OwnE.below Ow00.out hb22 rfl)
      replace Ox00 := Lib.hid (show w22.ownsRow (w.heap.size) 104 3 (.slice ax00 ((d_aC).gs).length capx00) ((d_aC).gs).length (marks (1) (((d_aC).gs).length * 3)) from own_below Ox00.out hb22 rfl)
      replace Ox10 := Lib.hid (show w22.ownsRow (w.heap.size) 90 2 (.slice ax10 (d_aTerms).length capx10) (d_aTerms).length (marks (1 + ((((d_aC).gs).length * 3 : Nat) : Int)) ((d_aTerms).length * 2)) from own_below Ox10.out hb22 rfl)
      replace Og00 := Lib.hid (show w22.ownsRow (w.heap.size) 104 3 (.slice ag00 (((r.getD Circ.zero)).gs).length capg00) (((r.getD Circ.zero)).gs).length (marks (1) ((((r.getD Circ.zero)).gs).length * 3)) from own_below Og00.out hb22 rfl)
      replace Oh00 := Lib.hid (show OwnE w22 (w.heap.size) 104 (.slice ah00 (((r.getD Circ.zero)).gs).length caph00) E3.cs 3 (((r.getD Circ.zero)).gs) from OwnE.below Oh00.out hb22 rfl)
      replace c_paC0 := below_cell hb22 rfl c_paC0
      replace c_paC1 := below_cell hb22 rfl c_paC1
      replace c_w00 := below_cell hb22 rfl c_w00
      replace c_w01 := below_cell hb22 rfl c_w01
      replace c_x00 := below_cell hb22 rfl c_x00
      replace c_x01 := below_cell hb22 rfl c_x01
      replace c_g00 := below_cell hb22 rfl c_g00
      replace c_g01 := below_cell hb22 rfl c_g01
      replace c_h00 := below_cell hb22 rfl c_h00
      replace c_h01 := below_cell hb22 rfl c_h01
      have BB22 : Below w.heap.size w w22 := below_step (below_step BB21 BP21.out) hb22
      have ZZ22 : w21.heap.size + 1 ≤ w22.heap.size := by have := hb22.size; (try simp at this); omega
      clear BP21
      clear LT21_0 LT21_1 LT21_2 LT21_3
      have LT22_0 : w.heap.size < w22.heap.size := World.block_lt_of_cell? w22 _ c_paC0
      have LT22_1 : w5.heap.size < w22.heap.size := World.block_lt_of_cell? w22 _ c_w00
      have LT22_2 : w6.heap.size < w22.heap.size := World.block_lt_of_cell? w22 _ c_x00
      have LT22_3 : w8.heap.size < w22.heap.size := World.block_lt_of_cell? w22 _ c_g00
      have LT22_4 : w21.heap.size < w22.heap.size := World.block_lt_of_cell? w22 _ c_h00
      clear hb22 BB21
      go_wp2_with fail
      refine (laws_heldCircuit_any _ _ _ _ _ (Rd.of_own Og00.out) (by omega) (by omega) (by omega)).mono ?_; rintro e w23 ⟨rfl, hb23⟩
      replace Ow00 := Lib.hid (show OwnE w23 (w.heap.size) 104 (.slice aw00 (((r.getD Circ.zero)).gs).length capw00) E3.cs 3 (((r.getD Circ.zero)).gs) from OwnE.below Ow00.out hb23 rfl)
      replace Ox00 := Lib.hid (show w23.ownsRow (w.heap.size) 104 3 (.slice ax00 ((d_aC).gs).length capx00) ((d_aC).gs).length (marks (1) (((d_aC).gs).length * 3)) from own_below Ox00.out hb23 rfl)
      replace Ox10 := Lib.hid (show w23.ownsRow (w.heap.size) 90 2 (.slice ax10 (d_aTerms).length capx10) (d_aTerms).length (marks (1 + ((((d_aC).gs).length * 3 : Nat) : Int)) ((d_aTerms).length * 2)) from own_below Ox10.out hb23 rfl)
      replace Og00 := Lib.hid (show w23.ownsRow (w.heap.size) 104 3 (.slice ag00 (((r.getD Circ.zero)).gs).length capg00) (((r.getD Circ.zero)).gs).length (marks (1) ((((r.getD Circ.zero)).gs).length * 3)) from own_below Og00.out hb23 rfl)
      replace Oh00 := Lib.hid (show OwnE w23 (w.heap.size) 104 (.slice ah00 (((r.getD Circ.zero)).gs).length caph00) E3.cs 3 (((r.getD Circ.zero)).gs) from OwnE.below Oh00.out hb23 rfl)
      replace c_paC0 := below_cell hb23 rfl c_paC0
      replace c_paC1 := below_cell hb23 rfl c_paC1
      replace c_w00 := below_cell hb23 rfl c_w00
      replace c_w01 := below_cell hb23 rfl c_w01
      replace c_x00 := below_cell hb23 rfl c_x00
      replace c_x01 := below_cell hb23 rfl c_x01
      replace c_g00 := below_cell hb23 rfl c_g00
      replace c_g01 := below_cell hb23 rfl c_g01
      replace c_h00 := below_cell hb23 rfl c_h00
      replace c_h01 := below_cell hb23 rfl c_h01
      have BB23 : Below w.heap.size w w23 := below_step BB22 hb23
      have ZZ23 : w22.heap.size ≤ w23.heap.size := by have := hb23.size; (try simp at this); omega
      clear LT22_0 LT22_1 LT22_2 LT22_3 LT22_4
      have LT23_0 : w.heap.size < w23.heap.size := World.block_lt_of_cell? w23 _ c_paC0
      have LT23_1 : w5.heap.size < w23.heap.size := World.block_lt_of_cell? w23 _ c_w00
      have LT23_2 : w6.heap.size < w23.heap.size := World.block_lt_of_cell? w23 _ c_x00
      have LT23_3 : w8.heap.size < w23.heap.size := World.block_lt_of_cell? w23 _ c_g00
      have LT23_4 : w21.heap.size < w23.heap.size := World.block_lt_of_cell? w23 _ c_h00
      clear hb23 BB22
      have hne23 : ¬ (1 + (((((r.getD Circ.zero)).gs).length * 3 : Nat) : Int) : Int) < 0 := by omega
      go_wp2_with fail
      go_ret
      exact ⟨rfl, BB23⟩
    · skip
      have BB0 := Below.refl w.heap.size w
      go_enter Try.func4, Try.ntmps4
      go_wp2_with fail
      have BP0 := Lib.hid (show Below w.heap.size w (w.alloc (.cells #[.int .i64 ((d_aC).n), .slice a_aC0 ((d_aC).gs).length cap_aC0] 24)) from (by repeat (first | exact Below.refl _ _ | assumption | refine Below.drew ?_ | refine below_drewN ?_ _ | refine Below.alloc ?_ (by first | omega | (simp <;> omega)) _ | refine Below.setCell ?_ (by first | omega | (simp <;> omega)) _ | refine Below.trans ?_ (Below.mono (by assumption) (by first | omega | (simp <;> omega))))))
      have c_paC0 : (w.alloc (.cells #[.int .i64 ((d_aC).n), .slice a_aC0 ((d_aC).gs).length cap_aC0] 24)).cell? ⟨w.heap.size, 0, none⟩ = some (.int .i64 ((d_aC).n)) := (by repeat (first | (refine Eq.trans (World.cell?_alloc_at _ _ _ _ ?hh) ?_; (case hh => (simp; done)); rfl) | refine cell_alloc_keep _ ?_))
      have c_paC1 : (w.alloc (.cells #[.int .i64 ((d_aC).n), .slice a_aC0 ((d_aC).gs).length cap_aC0] 24)).cell? ⟨w.heap.size, 1, none⟩ = some (.slice a_aC0 ((d_aC).gs).length cap_aC0) := (by repeat (first | (refine Eq.trans (World.cell?_alloc_at _ _ _ _ ?hh) ?_; (case hh => (simp; done)); rfl) | refine cell_alloc_keep _ ?_))
      refine (laws_szCircuit_ok d_aC _ _ _ (Rd.below HA_aC0.out (below_step BB0 BP0.out) rfl) (by omega) (by omega)).mono ?_; rintro e w1 ⟨rfl, hb1⟩
      replace c_paC0 := below_cell hb1 rfl c_paC0
      replace c_paC1 := below_cell hb1 rfl c_paC1
      have BB1 : Below w.heap.size w w1 := below_step (below_step BB0 BP0.out) hb1
      have ZZ1 : w.heap.size + 1 ≤ w1.heap.size := by have := hb1.size; (try simp at this); omega
      clear BP0
      have LT1_0 : w.heap.size < w1.heap.size := World.block_lt_of_cell? w1 _ c_paC0
      clear hb1 BB0
      go_wp2_with fail
      refine (laws_szTermS_no _ d_aTerms _ _ (Rd.below HA_aTerms0.out BB1 rfl) (by omega) (by omega) (by omega)).mono ?_; rintro e w2 ⟨rfl, hb2⟩
      replace c_paC0 := below_cell hb2 rfl c_paC0
      replace c_paC1 := below_cell hb2 rfl c_paC1
      have BB2 : Below w.heap.size w w2 := below_step BB1 hb2
      have ZZ2 : w1.heap.size ≤ w2.heap.size := by have := hb2.size; (try simp at this); omega
      clear LT1_0
      have LT2_0 : w.heap.size < w2.heap.size := World.block_lt_of_cell? w2 _ c_paC0
      clear hb2 BB1
      go_wp2_with fail
      go_ret
      exact ⟨rfl, BB2⟩
  · skip
    have BB0 := Below.refl w.heap.size w
    go_enter Try.func4, Try.ntmps4
    go_wp2_with fail
    have BP0 := Lib.hid (show Below w.heap.size w (w.alloc (.cells #[.int .i64 ((d_aC).n), .slice a_aC0 ((d_aC).gs).length cap_aC0] 24)) from (by repeat (first | exact Below.refl _ _ | assumption | refine Below.drew ?_ | refine below_drewN ?_ _ | refine Below.alloc ?_ (by first | omega | (simp <;> omega)) _ | refine Below.setCell ?_ (by first | omega | (simp <;> omega)) _ | refine Below.trans ?_ (Below.mono (by assumption) (by first | omega | (simp <;> omega))))))
    have c_paC0 : (w.alloc (.cells #[.int .i64 ((d_aC).n), .slice a_aC0 ((d_aC).gs).length cap_aC0] 24)).cell? ⟨w.heap.size, 0, none⟩ = some (.int .i64 ((d_aC).n)) := (by repeat (first | (refine Eq.trans (World.cell?_alloc_at _ _ _ _ ?hh) ?_; (case hh => (simp; done)); rfl) | refine cell_alloc_keep _ ?_))
    have c_paC1 : (w.alloc (.cells #[.int .i64 ((d_aC).n), .slice a_aC0 ((d_aC).gs).length cap_aC0] 24)).cell? ⟨w.heap.size, 1, none⟩ = some (.slice a_aC0 ((d_aC).gs).length cap_aC0) := (by repeat (first | (refine Eq.trans (World.cell?_alloc_at _ _ _ _ ?hh) ?_; (case hh => (simp; done)); rfl) | refine cell_alloc_keep _ ?_))
    refine (laws_szCircuit_no d_aC _ _ _ (Rd.below HA_aC0.out (below_step BB0 BP0.out) rfl) (by omega) (by omega) (by omega)).mono ?_; rintro e w1 ⟨rfl, hb1⟩
    replace c_paC0 := below_cell hb1 rfl c_paC0
    replace c_paC1 := below_cell hb1 rfl c_paC1
    have BB1 : Below w.heap.size w w1 := below_step (below_step BB0 BP0.out) hb1
    have ZZ1 : w.heap.size + 1 ≤ w1.heap.size := by have := hb1.size; (try simp at this); omega
    clear BP0
    have LT1_0 : w.heap.size < w1.heap.size := World.block_lt_of_cell? w1 _ c_paC0
    clear hb1 BB0
    go_wp2_with fail
    go_ret
    exact ⟨rfl, BB1⟩
end Go.Proofs.Ytdkfoleippncnaa
