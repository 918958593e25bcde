/- The walk through the law FnExactGrayNetwork. -/
import Derived.Test.YtgonldkgghikiaaGrz
import Derived.Test.YtgonldkgghikiaaStCircuit
import Derived.Test.YtgonldkgghikiaaStLinear
import Derived.Test.YtgonldkgghikiaaOpen1
import Derived.Test.YtgonldkgghikiaaDat
import Derived.Test.YtgonldkgghikiaaCut1
import Derived.Deep.DeepMust
import Derived.Deep.RegionHeld3
namespace Go.Proofs.Ytgonldkgghikiaa
set_option linter.unusedSimpArgs false
set_option linter.unusedVariables false
set_option linter.unnecessarySimpa false
set_option maxRecDepth 200000
open Go.ChangeShapes Go.WideShapes Go.ChangeAt Go.RowKit

set_option maxHeartbeats 2000000 in
set_option maxRecDepth 100000 in
theorem walk_FnExactGrayNetwork (v0 v1 : Value) (w : World) (h0 : IsInt v0) (h1 : IsIntS w v1) :
    Calls Try.prog 3 #[v0, v1] w fun e w' => e = .returned (.bool true) ∧ Below w.heap.size w w' := by
  obtain ⟨d_aN, rfl, aNlo, aNhi⟩ := h0
  obtain ⟨d_aMasks, HA_aMasks0, HR_aMasks⟩ := h1; have v_aMasks0 := v1
  obtain ⟨a_aMasks0, cap_aMasks0, rfl, LX_aMasks0⟩ := HA_aMasks0.form
  replace HA_aMasks0 := Lib.hid HA_aMasks0; clear LX_aMasks0
  replace HR_aMasks := Lib.hid HR_aMasks
  by_cases hsz0 : ((d_aMasks).length : Int) ≤ 1048576
  · skip
    have LEN_aMasks0 : (d_aMasks).length ≤ 1048576 := by omega
    obtain ⟨r, hr⟩ : ∃ r, r = grG d_aN d_aMasks := ⟨_, rfl⟩
    have hlen0 : (r.getD Circ.zero).gs.length ≤ 1000000 := by subst hr; exact grG_len _ _
    have Hr := Lib.hid hr; clear hr
    have BB0 := Below.refl w.heap.size w
    go_enter Try.func3, Try.ntmps3
    go_wp2_with fail
    refine (laws_toIntS_any _ d_aMasks _ (Rd.below HA_aMasks0.out BB0 rfl) LEN_aMasks0).mono ?_; rintro e w1 ⟨vt10, rfl, hot10, hb1⟩
    obtain ⟨at10, capt10, rfl⟩ := hot10.forms
    have LL_t10 := Lib.hid (show ∀ g, (Value.slice at10 (d_aMasks).length capt10).ownBlock = some g → w.heap.size ≤ g ∧ g < w1.heap.size from fun g hg => by have := hot10.lt g hg; (try simp at this); omega)
    replace hot10 := OwnI.le hot10 (base' := w.heap.size) (by have := BB0.size; first | omega | (simp; omega))
    have BB1 : Below w.heap.size w w1 := below_step BB0 hb1
    have ZZ1 : w.heap.size ≤ w1.heap.size := by have := hb1.size; (try simp at this); omega
    have Ot10 := Lib.hid (show OwnI w1 (w.heap.size) (.slice at10 (d_aMasks).length capt10) (d_aMasks) from hot10); clear hot10
    clear hb1 BB0
    go_wp2_with fail
    refine (spec_GrayNetwork_any d_aN d_aMasks _ _ (Ot10.out).rd LEN_aMasks0).mono ?_; rw [← Hr.out]; rintro e w2 ⟨vw00, rfl, how00, hb2⟩
    obtain ⟨aw00, capw00, rfl⟩ := how00.forms
    have LL_w00 := Lib.hid (show ∀ g, (Value.slice aw00 (((r.getD Circ.zero)).gs).length capw00).ownBlock = some g → w1.heap.size ≤ g ∧ g < w2.heap.size from fun g hg => by have := how00.lt g hg; (try simp at this); omega)
    replace how00 := OwnE.le how00 (base' := w.heap.size) (by have := BB1.size; first | omega | (simp; omega))
    replace Ot10 := Lib.hid (show OwnI w2 (w.heap.size) (.slice at10 (d_aMasks).length capt10) (d_aMasks) from OwnI.below Ot10.out hb2 rfl)
    have BB2 : Below w.heap.size w w2 := below_step BB1 hb2
    have ZZ2 : w1.heap.size ≤ w2.heap.size := by have := hb2.size; (try simp at this); omega
    have Ow00 := Lib.hid (show OwnE w2 (w.heap.size) 62 (.slice aw00 (((r.getD Circ.zero)).gs).length capw00) E3.cs 3 (((r.getD Circ.zero)).gs) from how00); clear how00
    clear hb2 BB1
    clear Ot10 LL_t10
    go_wp2_with fail
    have BP2 := Lib.hid (show Below w2.heap.size w2 (w2.alloc (.cells #[.int .i64 (((r.getD Circ.zero)).n), .slice aw00 (((r.getD Circ.zero)).gs).length capw00] 25)) from (by repeat (first | exact Below.refl _ _ | assumption | refine Below.drew ?_ | refine below_drewN ?_ _ | refine Below.alloc ?_ (by first | omega | (simp <;> omega)) _ | refine Below.setCell ?_ (by first | omega | (simp <;> omega)) _ | refine Below.trans ?_ (Below.mono (by assumption) (by first | omega | (simp <;> omega))))))
    replace Ow00 := Lib.hid (show OwnE (w2.alloc (.cells #[.int .i64 (((r.getD Circ.zero)).n), .slice aw00 (((r.getD Circ.zero)).gs).length capw00] 25)) (w.heap.size) 62 (.slice aw00 (((r.getD Circ.zero)).gs).length capw00) E3.cs 3 (((r.getD Circ.zero)).gs) from OwnE.below Ow00.out BP2.out rfl)
    have c_w00 : (w2.alloc (.cells #[.int .i64 (((r.getD Circ.zero)).n), .slice aw00 (((r.getD Circ.zero)).gs).length capw00] 25)).cell? ⟨w2.heap.size, 0, none⟩ = some (.int .i64 (((r.getD Circ.zero)).n)) := (by repeat (first | (refine Eq.trans (World.cell?_alloc_at _ _ _ _ ?hh) ?_; (case hh => (simp; done)); rfl) | refine cell_alloc_keep _ ?_))
    have c_w01 : (w2.alloc (.cells #[.int .i64 (((r.getD Circ.zero)).n), .slice aw00 (((r.getD Circ.zero)).gs).length capw00] 25)).cell? ⟨w2.heap.size, 1, none⟩ = some (.slice aw00 (((r.getD Circ.zero)).gs).length capw00) := (by repeat (first | (refine Eq.trans (World.cell?_alloc_at _ _ _ _ ?hh) ?_; (case hh => (simp; done)); rfl) | refine cell_alloc_keep _ ?_))
    refine (laws_toIntS_any _ d_aMasks _ (Rd.below HA_aMasks0.out (below_step BB2 BP2.out) rfl) LEN_aMasks0).mono ?_; rintro e w3 ⟨vx10, rfl, hox10, hb3⟩
    obtain ⟨ax10, capx10, rfl⟩ := hox10.forms
    have LL_x10 := Lib.hid (show ∀ g, (Value.slice ax10 (d_aMasks).length capx10).ownBlock = some g → w2.heap.size + 1 ≤ g ∧ g < w3.heap.size from fun g hg => by have := hox10.lt g hg; (try simp at this); omega)
    replace hox10 := OwnI.le hox10 (base' := w.heap.size) (by have := BB2.size; first | omega | (simp; omega))
    replace Ow00 := Lib.hid (show OwnE w3 (w.heap.size) 62 (.slice aw00 (((r.getD Circ.zero)).gs).length capw00) E3.cs 3 (((r.getD Circ.zero)).gs) from OwnE.below Ow00.out hb3 rfl)
    replace c_w00 := below_cell hb3 rfl c_w00
    replace c_w01 := below_cell hb3 rfl c_w01
    have BB3 : Below w.heap.size w w3 := below_step (below_step BB2 BP2.out) hb3
    have ZZ3 : w2.heap.size + 1 ≤ w3.heap.size := by have := hb3.size; (try simp at this); omega
    clear BP2
    have LT3_0 : w2.heap.size < w3.heap.size := World.block_lt_of_cell? w3 _ c_w00
    have Ox10 := Lib.hid (show OwnI w3 (w.heap.size) (.slice ax10 (d_aMasks).length capx10) (d_aMasks) from hox10); clear hox10
    clear hb3 BB2
    go_wp2_with fail
    refine (impl_GrayNetwork_any d_aN d_aMasks _ _ (Ox10.out).rd LEN_aMasks0).mono ?_; rw [← Hr.out]; rintro e w4 ⟨vg00, rfl, hog00, hb4⟩
    obtain ⟨ag00, capg00, rfl⟩ := hog00.forms
    have LL_g00 := Lib.hid (show ∀ g, (Value.slice ag00 (((r.getD Circ.zero)).gs).length capg00).ownBlock = some g → w3.heap.size ≤ g ∧ g < w4.heap.size from fun g hg => by have := hog00.lt g hg; (try simp at this); omega)
    replace hog00 := OwnE.le hog00 (base' := w.heap.size) (by have := BB3.size; first | omega | (simp; omega))
    replace Ow00 := Lib.hid (show OwnE w4 (w.heap.size) 62 (.slice aw00 (((r.getD Circ.zero)).gs).length capw00) E3.cs 3 (((r.getD Circ.zero)).gs) from OwnE.below Ow00.out hb4 rfl)
    replace Ox10 := Lib.hid (show OwnI w4 (w.heap.size) (.slice ax10 (d_aMasks).length capx10) (d_aMasks) from OwnI.below Ox10.out hb4 rfl)
    replace c_w00 := below_cell hb4 rfl c_w00
    replace c_w01 := below_cell hb4 rfl c_w01
    have BB4 : Below w.heap.size w w4 := below_step BB3 hb4
    have ZZ4 : w3.heap.size ≤ w4.heap.size := by have := hb4.size; (try simp at this); omega
    clear LT3_0
    have LT4_0 : w2.heap.size < w4.heap.size := World.block_lt_of_cell? w4 _ c_w00
    have Og00 := Lib.hid (show OwnE w4 (w.heap.size) 62 (.slice ag00 (((r.getD Circ.zero)).gs).length capg00) E3.cs 3 (((r.getD Circ.zero)).gs) from hog00); clear hog00
    clear hb4 BB3
    go_wp2_with fail
    have BP4 := Lib.hid (show Below w4.heap.size w4 (w4.alloc (.cells #[.int .i64 (((r.getD Circ.zero)).n), .slice ag00 (((r.getD Circ.zero)).gs).length capg00] 25)) from (by repeat (first | exact Below.refl _ _ | assumption | refine Below.drew ?_ | refine below_drewN ?_ _ | refine Below.alloc ?_ (by first | omega | (simp <;> omega)) _ | refine Below.setCell ?_ (by first | omega | (simp <;> omega)) _ | refine Below.trans ?_ (Below.mono (by assumption) (by first | omega | (simp <;> omega))))))
    replace Ow00 := Lib.hid (show OwnE (w4.alloc (.cells #[.int .i64 (((r.getD Circ.zero)).n), .slice ag00 (((r.getD Circ.zero)).gs).length capg00] 25)) (w.heap.size) 62 (.slice aw00 (((r.getD Circ.zero)).gs).length capw00) E3.cs 3 (((r.getD Circ.zero)).gs) from OwnE.below Ow00.out BP4.out rfl)
    replace Ox10 := Lib.hid (show OwnI (w4.alloc (.cells #[.int .i64 (((r.getD Circ.zero)).n), .slice ag00 (((r.getD Circ.zero)).gs).length capg00] 25)) (w.heap.size) (.slice ax10 (d_aMasks).length capx10) (d_aMasks) from OwnI.below Ox10.out BP4.out rfl)
    replace Og00 := Lib.hid (show OwnE (w4.alloc (.cells #[.int .i64 (((r.getD Circ.zero)).n), .slice ag00 (((r.getD Circ.zero)).gs).length capg00] 25)) (w.heap.size) 62 (.slice ag00 (((r.getD Circ.zero)).gs).length capg00) E3.cs 3 (((r.getD Circ.zero)).gs) from OwnE.below Og00.out BP4.out rfl)
    replace c_w00 := cell_alloc_keep (.cells #[.int .i64 (((r.getD Circ.zero)).n), .slice ag00 (((r.getD Circ.zero)).gs).length capg00] 25) (c_w00)
    replace c_w01 := cell_alloc_keep (.cells #[.int .i64 (((r.getD Circ.zero)).n), .slice ag00 (((r.getD Circ.zero)).gs).length capg00] 25) (c_w01)
    have c_g00 : (w4.alloc (.cells #[.int .i64 (((r.getD Circ.zero)).n), .slice ag00 (((r.getD Circ.zero)).gs).length capg00] 25)).cell? ⟨w4.heap.size, 0, none⟩ = some (.int .i64 (((r.getD Circ.zero)).n)) := (by repeat (first | (refine Eq.trans (World.cell?_alloc_at _ _ _ _ ?hh) ?_; (case hh => (simp; done)); rfl) | refine cell_alloc_keep _ ?_))
    have c_g01 : (w4.alloc (.cells #[.int .i64 (((r.getD Circ.zero)).n), .slice ag00 (((r.getD Circ.zero)).gs).length capg00] 25)).cell? ⟨w4.heap.size, 1, none⟩ = some (.slice ag00 (((r.getD Circ.zero)).gs).length capg00) := (by repeat (first | (refine Eq.trans (World.cell?_alloc_at _ _ _ _ ?hh) ?_; (case hh => (simp; done)); rfl) | refine cell_alloc_keep _ ?_))
    refine (laws_eqCircuit_same (r.getD Circ.zero) _ _ _ (Og00.out).rd (Ow00.out).rd).mono ?_; rintro e w5 ⟨rfl, hb5⟩
    replace Ow00 := Lib.hid (show OwnE w5 (w.heap.size) 62 (.slice aw00 (((r.getD Circ.zero)).gs).length capw00) E3.cs 3 (((r.getD Circ.zero)).gs) from OwnE.below Ow00.out hb5 rfl)
    replace Ox10 := Lib.hid (show OwnI w5 (w.heap.size) (.slice ax10 (d_aMasks).length capx10) (d_aMasks) from OwnI.below Ox10.out hb5 rfl)
    replace Og00 := Lib.hid (show OwnE w5 (w.heap.size) 62 (.slice ag00 (((r.getD Circ.zero)).gs).length capg00) E3.cs 3 (((r.getD Circ.zero)).gs) from OwnE.below Og00.out hb5 rfl)
    replace c_w00 := below_cell hb5 rfl c_w00
    replace c_w01 := below_cell hb5 rfl c_w01
    replace c_g00 := below_cell hb5 rfl c_g00
    replace c_g01 := below_cell hb5 rfl c_g01
    have BB5 : Below w.heap.size w w5 := below_step (below_step BB4 BP4.out) hb5
    have ZZ5 : w4.heap.size + 1 ≤ w5.heap.size := by have := hb5.size; (try simp at this); omega
    clear BP4
    clear LT4_0
    have LT5_0 : w2.heap.size < w5.heap.size := World.block_lt_of_cell? w5 _ c_w00
    have LT5_1 : w4.heap.size < w5.heap.size := World.block_lt_of_cell? w5 _ c_g00
    clear hb5 BB4
    go_wp2_with fail
    refine (laws_toIntS_any _ d_aMasks _ (Rd.below HA_aMasks0.out BB5 rfl) LEN_aMasks0).mono ?_; rintro e w6 ⟨vt20, rfl, hot20, hb6⟩
    obtain ⟨at20, capt20, rfl⟩ := hot20.forms
    have LL_t20 := Lib.hid (show ∀ g, (Value.slice at20 (d_aMasks).length capt20).ownBlock = some g → w5.heap.size ≤ g ∧ g < w6.heap.size from fun g hg => by have := hot20.lt g hg; (try simp at this); omega)
    replace hot20 := OwnI.le hot20 (base' := w.heap.size) (by have := BB5.size; first | omega | (simp; omega))
    replace Ow00 := Lib.hid (show OwnE w6 (w.heap.size) 62 (.slice aw00 (((r.getD Circ.zero)).gs).length capw00) E3.cs 3 (((r.getD Circ.zero)).gs) from OwnE.below Ow00.out hb6 rfl)
    replace Ox10 := Lib.hid (show OwnI w6 (w.heap.size) (.slice ax10 (d_aMasks).length capx10) (d_aMasks) from OwnI.below Ox10.out hb6 rfl)
    replace Og00 := Lib.hid (show OwnE w6 (w.heap.size) 62 (.slice ag00 (((r.getD Circ.zero)).gs).length capg00) E3.cs 3 (((r.getD Circ.zero)).gs) from OwnE.below Og00.out hb6 rfl)
    replace c_w00 := below_cell hb6 rfl c_w00
    replace c_w01 := below_cell hb6 rfl c_w01
    replace c_g00 := below_cell hb6 rfl c_g00
    replace c_g01 := below_cell hb6 rfl c_g01
    have BB6 : Below w.heap.size w w6 := below_step BB5 hb6
    have ZZ6 : w5.heap.size ≤ w6.heap.size := by have := hb6.size; (try simp at this); omega
    clear LT5_0 LT5_1
    have LT6_0 : w2.heap.size < w6.heap.size := World.block_lt_of_cell? w6 _ c_w00
    have LT6_1 : w4.heap.size < w6.heap.size := World.block_lt_of_cell? w6 _ c_g00
    have Ot20 := Lib.hid (show OwnI w6 (w.heap.size) (.slice at20 (d_aMasks).length capt20) (d_aMasks) from hot20); clear hot20
    clear hb6 BB5
    go_wp2_with fail
    refine (laws_eqIntS_any _ _ _ _ _ (Ox10.out).rd (Ot20.out).rd).mono ?_; rintro e w7 ⟨rfl, hb7⟩
    rw [show decide (d_aMasks = d_aMasks) = true from decide_eq_true rfl]
    replace Ow00 := Lib.hid (show OwnE w7 (w.heap.size) 62 (.slice aw00 (((r.getD Circ.zero)).gs).length capw00) E3.cs 3 (((r.getD Circ.zero)).gs) from OwnE.below Ow00.out hb7 rfl)
    replace Ox10 := Lib.hid (show OwnI w7 (w.heap.size) (.slice ax10 (d_aMasks).length capx10) (d_aMasks) from OwnI.below Ox10.out hb7 rfl)
    replace Og00 := Lib.hid (show OwnE w7 (w.heap.size) 62 (.slice ag00 (((r.getD Circ.zero)).gs).length capg00) E3.cs 3 (((r.getD Circ.zero)).gs) from OwnE.below Og00.out hb7 rfl)
    replace Ot20 := Lib.hid (show OwnI w7 (w.heap.size) (.slice at20 (d_aMasks).length capt20) (d_aMasks) from OwnI.below Ot20.out hb7 rfl)
    replace c_w00 := below_cell hb7 rfl c_w00
    replace c_w01 := below_cell hb7 rfl c_w01
    replace c_g00 := below_cell hb7 rfl c_g00
    replace c_g01 := below_cell hb7 rfl c_g01
    have BB7 : Below w.heap.size w w7 := below_step BB6 hb7
    have ZZ7 : w6.heap.size ≤ w7.heap.size := by have := hb7.size; (try simp at this); omega
    clear LT6_0 LT6_1
    have LT7_0 : w2.heap.size < w7.heap.size := World.block_lt_of_cell? w7 _ c_w00
    have LT7_1 : w4.heap.size < w7.heap.size := World.block_lt_of_cell? w7 _ c_g00
    clear hb7 BB6
    go_wp2_with fail
    clear Ot20 LL_t20
    refine (laws_markIntS_any _ _ _ _ _ _ Ox10.out (by omega) (by omega)).mono ?_; rintro e w8 ⟨rfl, hmx10, hg⟩
    have hb8 : Mid (w2.heap.size + 1) (w3.heap.size) w7 w8 := Mid.of_grown hg (fun k hk => LL_x10.out k hk)
    clear hg
    replace Ow00 := Lib.hid (show OwnE w8 (w.heap.size) 62 (.slice aw00 (((r.getD Circ.zero)).gs).length capw00) E3.cs 3 (((r.getD Circ.zero)).gs) from Mid.own hb8 Ow00.out (fun g hg => by have := LL_w00.out g hg; omega))
    replace Og00 := Lib.hid (show OwnE w8 (w.heap.size) 62 (.slice ag00 (((r.getD Circ.zero)).gs).length capg00) E3.cs 3 (((r.getD Circ.zero)).gs) from Mid.own hb8 Og00.out (fun g hg => by have := LL_g00.out g hg; omega))
    replace c_w00 := Mid.cell hb8 (by omega) c_w00
    replace c_w01 := Mid.cell hb8 (by omega) c_w01
    replace c_g00 := Mid.cell hb8 (by omega) c_g00
    replace c_g01 := Mid.cell hb8 (by omega) c_g01
    have BB8 : Below w.heap.size w w8 := Below.trans BB7 (Mid.below hb8 (by omega) (by first | omega | (simp <;> omega)))
    have ZZ8 : w7.heap.size ≤ w8.heap.size := by have := hb8.size; (try simp at this); omega
    clear LT7_0 LT7_1
    have LT8_0 : w2.heap.size < w8.heap.size := World.block_lt_of_cell? w8 _ c_w00
    have LT8_1 : w4.heap.size < w8.heap.size := World.block_lt_of_cell? w8 _ c_g00
    have Ox10 := Lib.hid (show w8.ownsRow (w.heap.size) 3 1 (.slice ax10 (d_aMasks).length capx10) (d_aMasks).length (marks (1) ((d_aMasks).length)) from hmx10); clear hmx10
    clear hb8 BB7
    go_wp2_with fail
    refine (laws_eqCircuit_same (r.getD Circ.zero) _ _ _ (Og00.out).rd (Ow00.out).rd).mono ?_; rintro e w9 ⟨rfl, hb9⟩
    replace Ow00 := Lib.hid (show OwnE w9 (w.heap.size) 62 (.slice aw00 (((r.getD Circ.zero)).gs).length capw00) E3.cs 3 (((r.getD Circ.zero)).gs) from OwnE.below Ow00.out hb9 rfl)
    replace Ox10 := Lib.hid (show w9.ownsRow (w.heap.size) 3 1 (.slice ax10 (d_aMasks).length capx10) (d_aMasks).length (marks (1) ((d_aMasks).length)) from own_below Ox10.out hb9 rfl)
    replace Og00 := Lib.hid (show OwnE w9 (w.heap.size) 62 (.slice ag00 (((r.getD Circ.zero)).gs).length capg00) E3.cs 3 (((r.getD Circ.zero)).gs) from OwnE.below Og00.out hb9 rfl)
    replace c_w00 := below_cell hb9 rfl c_w00
    replace c_w01 := below_cell hb9 rfl c_w01
    replace c_g00 := below_cell hb9 rfl c_g00
    replace c_g01 := below_cell hb9 rfl c_g01
    have BB9 : Below w.heap.size w w9 := below_step BB8 hb9
    have ZZ9 : w8.heap.size ≤ w9.heap.size := by have := hb9.size; (try simp at this); omega
    clear LT8_0 LT8_1
    have LT9_0 : w2.heap.size < w9.heap.size := World.block_lt_of_cell? w9 _ c_w00
    have LT9_1 : w4.heap.size < w9.heap.size := World.block_lt_of_cell? w9 _ c_g00
    clear hb9 BB8
    go_wp2_with fail
    refine (laws_markCircuit_any _ _ _ _ _ _ _ Og00.out (by omega) (by omega) (by omega)).mono ?_; rintro e w10 ⟨rfl, hmg00, hg⟩
    have hb10 : Mid (w3.heap.size) (w4.heap.size) w9 w10 := Mid.of_grown hg (fun k hk => LL_g00.out k hk)
    clear hg
    replace Ow00 := Lib.hid (show OwnE w10 (w.heap.size) 62 (.slice aw00 (((r.getD Circ.zero)).gs).length capw00) E3.cs 3 (((r.getD Circ.zero)).gs) from Mid.own hb10 Ow00.out (fun g hg => by have := LL_w00.out g hg; omega))
    replace Ox10 := Lib.hid (show w10.ownsRow (w.heap.size) 3 1 (.slice ax10 (d_aMasks).length capx10) (d_aMasks).length (marks (1) ((d_aMasks).length)) from Mid.own hb10 Ox10.out (fun g hg => by have := LL_x10.out g hg; omega))
    replace c_w00 := Mid.cell hb10 (by omega) c_w00
    replace c_w01 := Mid.cell hb10 (by omega) c_w01
    replace c_g00 := Mid.cell hb10 (by omega) c_g00
    replace c_g01 := Mid.cell hb10 (by omega) c_g01
    have BB10 : Below w.heap.size w w10 := Below.trans BB9 (Mid.below hb10 (by omega) (by first | omega | (simp <;> omega)))
    have ZZ10 : w9.heap.size ≤ w10.heap.size := by have := hb10.size; (try simp at this); omega
    clear LT9_0 LT9_1
    have LT10_0 : w2.heap.size < w10.heap.size := World.block_lt_of_cell? w10 _ c_w00
    have LT10_1 : w4.heap.size < w10.heap.size := World.block_lt_of_cell? w10 _ c_g00
    have Og00 := Lib.hid (show w10.ownsRow (w.heap.size) 62 3 (.slice ag00 (((r.getD Circ.zero)).gs).length capg00) (((r.getD Circ.zero)).gs).length (marks (1) ((((r.getD Circ.zero)).gs).length * 3)) from hmg00); clear hmg00
    clear hb10 BB9
    go_wp2_with fail
    refine (laws_heldCircuit_any _ _ _ _ _ (Rd.of_own Og00.out) (by omega) (by omega) (by omega)).mono ?_; rintro e w11 ⟨rfl, hb11⟩
    replace Ow00 := Lib.hid (show OwnE w11 (w.heap.size) 62 (.slice aw00 (((r.getD Circ.zero)).gs).length capw00) E3.cs 3 (((r.getD Circ.zero)).gs) from OwnE.below Ow00.out hb11 rfl)
    replace Ox10 := Lib.hid (show w11.ownsRow (w.heap.size) 3 1 (.slice ax10 (d_aMasks).length capx10) (d_aMasks).length (marks (1) ((d_aMasks).length)) from own_below Ox10.out hb11 rfl)
    replace Og00 := Lib.hid (show w11.ownsRow (w.heap.size) 62 3 (.slice ag00 (((r.getD Circ.zero)).gs).length capg00) (((r.getD Circ.zero)).gs).length (marks (1) ((((r.getD Circ.zero)).gs).length * 3)) from own_below Og00.out hb11 rfl)
    replace c_w00 := below_cell hb11 rfl c_w00
    replace c_w01 := below_cell hb11 rfl c_w01
    replace c_g00 := below_cell hb11 rfl c_g00
    replace c_g01 := below_cell hb11 rfl c_g01
    have BB11 : Below w.heap.size w w11 := below_step BB10 hb11
    have ZZ11 : w10.heap.size ≤ w11.heap.size := by have := hb11.size; (try simp at this); omega
    clear LT10_0 LT10_1
    have LT11_0 : w2.heap.size < w11.heap.size := World.block_lt_of_cell? w11 _ c_w00
    have LT11_1 : w4.heap.size < w11.heap.size := World.block_lt_of_cell? w11 _ c_g00
    clear hb11 BB10
    have hne11 : ¬ (1 + (((((r.getD Circ.zero)).gs).length * 3 : Nat) : Int) : Int) < 0 := by omega
    go_wp2_with fail
    refine (laws_toIntS_any _ d_aMasks _ (Rd.below HA_aMasks0.out BB11 rfl) LEN_aMasks0).mono ?_; rintro e w12 ⟨vt30, rfl, hot30, hb12⟩
    obtain ⟨at30, capt30, rfl⟩ := hot30.forms
    have LL_t30 := Lib.hid (show ∀ g, (Value.slice at30 (d_aMasks).length capt30).ownBlock = some g → w11.heap.size ≤ g ∧ g < w12.heap.size from fun g hg => by have := hot30.lt g hg; (try simp at this); omega)
    replace hot30 := OwnI.le hot30 (base' := w.heap.size) (by have := BB11.size; first | omega | (simp; omega))
    replace Ow00 := Lib.hid (show OwnE w12 (w.heap.size) 62 (.slice aw00 (((r.getD Circ.zero)).gs).length capw00) E3.cs 3 (((r.getD Circ.zero)).gs) from OwnE.below Ow00.out hb12 rfl)
    replace Ox10 := Lib.hid (show w12.ownsRow (w.heap.size) 3 1 (.slice ax10 (d_aMasks).length capx10) (d_aMasks).length (marks (1) ((d_aMasks).length)) from own_below Ox10.out hb12 rfl)
    replace Og00 := Lib.hid (show w12.ownsRow (w.heap.size) 62 3 (.slice ag00 (((r.getD Circ.zero)).gs).length capg00) (((r.getD Circ.zero)).gs).length (marks (1) ((((r.getD Circ.zero)).gs).length * 3)) from own_below Og00.out hb12 rfl)
    replace c_w00 := below_cell hb12 rfl c_w00
    replace c_w01 := below_cell hb12 rfl c_w01
    replace c_g00 := below_cell hb12 rfl c_g00
    replace c_g01 := below_cell hb12 rfl c_g01
    have BB12 : Below w.heap.size w w12 := below_step BB11 hb12
    have ZZ12 : w11.heap.size ≤ w12.heap.size := by have := hb12.size; (try simp at this); omega
    clear LT11_0 LT11_1
    have LT12_0 : w2.heap.size < w12.heap.size := World.block_lt_of_cell? w12 _ c_w00
    have LT12_1 : w4.heap.size < w12.heap.size := World.block_lt_of_cell? w12 _ c_g00
    have Ot30 := Lib.hid (show OwnI w12 (w.heap.size) (.slice at30 (d_aMasks).length capt30) (d_aMasks) from hot30); clear hot30
    clear hb12 BB11
    go_wp2_with fail
    refine (impl_GrayNetwork_any d_aN d_aMasks _ _ (Ot30.out).rd LEN_aMasks0).mono ?_; rw [← Hr.out]; rintro e w13 ⟨vh00, rfl, hoh00, hb13⟩
    obtain ⟨ah00, caph00, rfl⟩ := hoh00.forms
    have LL_h00 := Lib.hid (show ∀ g, (Value.slice ah00 (((r.getD Circ.zero)).gs).length caph00).ownBlock = some g → w12.heap.size ≤ g ∧ g < w13.heap.size from fun g hg => by have := hoh00.lt g hg; (try simp at this); omega)
    replace hoh00 := OwnE.le hoh00 (base' := w.heap.size) (by have := BB12.size; first | omega | (simp; omega))
    replace Ow00 := Lib.hid (show OwnE w13 (w.heap.size) 62 (.slice aw00 (((r.getD Circ.zero)).gs).length capw00) E3.cs 3 (((r.getD Circ.zero)).gs) from OwnE.below Ow00.out hb13 rfl)
    replace Ox10 := Lib.hid (show w13.ownsRow (w.heap.size) 3 1 (.slice ax10 (d_aMasks).length capx10) (d_aMasks).length (marks (1) ((d_aMasks).length)) from own_below Ox10.out hb13 rfl)
    replace Og00 := Lib.hid (show w13.ownsRow (w.heap.size) 62 3 (.slice ag00 (((r.getD Circ.zero)).gs).length capg00) (((r.getD Circ.zero)).gs).length (marks (1) ((((r.getD Circ.zero)).gs).length * 3)) from own_below Og00.out hb13 rfl)
    replace Ot30 := Lib.hid (show OwnI w13 (w.heap.size) (.slice at30 (d_aMasks).length capt30) (d_aMasks) from OwnI.below Ot30.out hb13 rfl)
    replace c_w00 := below_cell hb13 rfl c_w00
    replace c_w01 := below_cell hb13 rfl c_w01
    replace c_g00 := below_cell hb13 rfl c_g00
    replace c_g01 := below_cell hb13 rfl c_g01
    have BB13 : Below w.heap.size w w13 := below_step BB12 hb13
    have ZZ13 : w12.heap.size ≤ w13.heap.size := by have := hb13.size; (try simp at this); omega
    clear LT12_0 LT12_1
    have LT13_0 : w2.heap.size < w13.heap.size := World.block_lt_of_cell? w13 _ c_w00
    have LT13_1 : w4.heap.size < w13.heap.size := World.block_lt_of_cell? w13 _ c_g00
    have Oh00 := Lib.hid (show OwnE w13 (w.heap.size) 62 (.slice ah00 (((r.getD Circ.zero)).gs).length caph00) E3.cs 3 (((r.getD Circ.zero)).gs) from hoh00); clear hoh00
    clear hb13 BB12
    clear Ot30 LL_t30
    go_wp2_with fail
    have BP13 := Lib.hid (show Below w13.heap.size w13 (w13.alloc (.cells #[.int .i64 (((r.getD Circ.zero)).n), .slice ah00 (((r.getD Circ.zero)).gs).length caph00] 25)) from (by repeat (first | exact Below.refl _ _ | assumption | refine Below.drew ?_ | refine below_drewN ?_ _ | refine Below.alloc ?_ (by first | omega | (simp <;> omega)) _ | refine Below.setCell ?_ (by first | omega | (simp <;> omega)) _ | refine Below.trans ?_ (Below.mono (by assumption) (by first | omega | (simp <;> omega))))))
    replace Ow00 := Lib.hid (show OwnE (w13.alloc (.cells #[.int .i64 (((r.getD Circ.zero)).n), .slice ah00 (((r.getD Circ.zero)).gs).length caph00] 25)) (w.heap.size) 62 (.slice aw00 (((r.getD Circ.zero)).gs).length capw00) E3.cs 3 (((r.getD Circ.zero)).gs) from OwnE.below Ow00.out BP13.out rfl)
    replace Ox10 := Lib.hid (show (w13.alloc (.cells #[.int .i64 (((r.getD Circ.zero)).n), .slice ah00 (((r.getD Circ.zero)).gs).length caph00] 25)).ownsRow (w.heap.size) 3 1 (.slice ax10 (d_aMasks).length capx10) (d_aMasks).length (marks (1) ((d_aMasks).length)) from own_below Ox10.out BP13.out rfl)
    replace Og00 := Lib.hid (show (w13.alloc (.cells #[.int .i64 (((r.getD Circ.zero)).n), .slice ah00 (((r.getD Circ.zero)).gs).length caph00] 25)).ownsRow (w.heap.size) 62 3 (.slice ag00 (((r.getD Circ.zero)).gs).length capg00) (((r.getD Circ.zero)).gs).length (marks (1) ((((r.getD Circ.zero)).gs).length * 3)) from own_below Og00.out BP13.out rfl)
    replace Oh00 := Lib.hid (show OwnE (w13.alloc (.cells #[.int .i64 (((r.getD Circ.zero)).n), .slice ah00 (((r.getD Circ.zero)).gs).length caph00] 25)) (w.heap.size) 62 (.slice ah00 (((r.getD Circ.zero)).gs).length caph00) E3.cs 3 (((r.getD Circ.zero)).gs) from OwnE.below Oh00.out BP13.out rfl)
    replace c_w00 := cell_alloc_keep (.cells #[.int .i64 (((r.getD Circ.zero)).n), .slice ah00 (((r.getD Circ.zero)).gs).length caph00] 25) (c_w00)
    replace c_w01 := cell_alloc_keep (.cells #[.int .i64 (((r.getD Circ.zero)).n), .slice ah00 (((r.getD Circ.zero)).gs).length caph00] 25) (c_w01)
    replace c_g00 := cell_alloc_keep (.cells #[.int .i64 (((r.getD Circ.zero)).n), .slice ah00 (((r.getD Circ.zero)).gs).length caph00] 25) (c_g00)
    replace c_g01 := cell_alloc_keep (.cells #[.int .i64 (((r.getD Circ.zero)).n), .slice ah00 (((r.getD Circ.zero)).gs).length caph00] 25) (c_g01)
    have c_h00 : (w13.alloc (.cells #[.int .i64 (((r.getD Circ.zero)).n), .slice ah00 (((r.getD Circ.zero)).gs).length caph00] 25)).cell? ⟨w13.heap.size, 0, none⟩ = some (.int .i64 (((r.getD Circ.zero)).n)) := (by repeat (first | (refine Eq.trans (World.cell?_alloc_at _ _ _ _ ?hh) ?_; (case hh => (simp; done)); rfl) | refine cell_alloc_keep _ ?_))
    have c_h01 : (w13.alloc (.cells #[.int .i64 (((r.getD Circ.zero)).n), .slice ah00 (((r.getD Circ.zero)).gs).length caph00] 25)).cell? ⟨w13.heap.size, 1, none⟩ = some (.slice ah00 (((r.getD Circ.zero)).gs).length caph00) := (by repeat (first | (refine Eq.trans (World.cell?_alloc_at _ _ _ _ ?hh) ?_; (case hh => (simp; done)); rfl) | refine cell_alloc_keep _ ?_))
    refine (laws_eqCircuit_same (r.getD Circ.zero) _ _ _ (Oh00.out).rd (Ow00.out).rd).mono ?_; rintro e w14 ⟨rfl, hb14⟩
    replace Ow00 := Lib.hid (show OwnE w14 (w.heap.size) 62 (.slice aw00 (((r.getD Circ.zero)).gs).length capw00) E3.cs 3 (((r.getD Circ.zero)).gs) from OwnE.below Ow00.out hb14 rfl)
    replace Ox10 := Lib.hid (show w14.ownsRow (w.heap.size) 3 1 (.slice ax10 (d_aMasks).length capx10) (d_aMasks).length (marks (1) ((d_aMasks).length)) from own_below Ox10.out hb14 rfl)
    replace Og00 := Lib.hid (show w14.ownsRow (w.heap.size) 62 3 (.slice ag00 (((r.getD Circ.zero)).gs).length capg00) (((r.getD Circ.zero)).gs).length (marks (1) ((((r.getD Circ.zero)).gs).length * 3)) from own_below Og00.out hb14 rfl)
    replace Oh00 := Lib.hid (show OwnE w14 (w.heap.size) 62 (.slice ah00 (((r.getD Circ.zero)).gs).length caph00) E3.cs 3 (((r.getD Circ.zero)).gs) from OwnE.below Oh00.out hb14 rfl)
    replace c_w00 := below_cell hb14 rfl c_w00
    replace c_w01 := below_cell hb14 rfl c_w01
    replace c_g00 := below_cell hb14 rfl c_g00
    replace c_g01 := below_cell hb14 rfl c_g01
    replace c_h00 := below_cell hb14 rfl c_h00
    replace c_h01 := below_cell hb14 rfl c_h01
    have BB14 : Below w.heap.size w w14 := below_step (below_step BB13 BP13.out) hb14
    have ZZ14 : w13.heap.size + 1 ≤ w14.heap.size := by have := hb14.size; (try simp at this); omega
    clear BP13
    clear LT13_0 LT13_1
    have LT14_0 : w2.heap.size < w14.heap.size := World.block_lt_of_cell? w14 _ c_w00
    have LT14_1 : w4.heap.size < w14.heap.size := World.block_lt_of_cell? w14 _ c_g00
    have LT14_2 : w13.heap.size < w14.heap.size := World.block_lt_of_cell? w14 _ c_h00
    clear hb14 BB13
    go_wp2_with fail
    refine (laws_heldCircuit_any _ _ _ _ _ (Rd.of_own Og00.out) (by omega) (by omega) (by omega)).mono ?_; rintro e w15 ⟨rfl, hb15⟩
    replace Ow00 := Lib.hid (show OwnE w15 (w.heap.size) 62 (.slice aw00 (((r.getD Circ.zero)).gs).length capw00) E3.cs 3 (((r.getD Circ.zero)).gs) from OwnE.below Ow00.out hb15 rfl)
    replace Ox10 := Lib.hid (show w15.ownsRow (w.heap.size) 3 1 (.slice ax10 (d_aMasks).length capx10) (d_aMasks).length (marks (1) ((d_aMasks).length)) from own_below Ox10.out hb15 rfl)
    replace Og00 := Lib.hid (show w15.ownsRow (w.heap.size) 62 3 (.slice ag00 (((r.getD Circ.zero)).gs).length capg00) (((r.getD Circ.zero)).gs).length (marks (1) ((((r.getD Circ.zero)).gs).length * 3)) from own_below Og00.out hb15 rfl)
    replace Oh00 := Lib.hid (show OwnE w15 (w.heap.size) 62 (.slice ah00 (((r.getD Circ.zero)).gs).length caph00) E3.cs 3 (((r.getD Circ.zero)).gs) from OwnE.below Oh00.out hb15 rfl)
    replace c_w00 := below_cell hb15 rfl c_w00
    replace c_w01 := below_cell hb15 rfl c_w01
    replace c_g00 := below_cell hb15 rfl c_g00
    replace c_g01 := below_cell hb15 rfl c_g01
    replace c_h00 := below_cell hb15 rfl c_h00
    replace c_h01 := below_cell hb15 rfl c_h01
    have BB15 : Below w.heap.size w w15 := below_step BB14 hb15
    have ZZ15 : w14.heap.size ≤ w15.heap.size := by have := hb15.size; (try simp at this); omega
    clear LT14_0 LT14_1 LT14_2
    have LT15_0 : w2.heap.size < w15.heap.size := World.block_lt_of_cell? w15 _ c_w00
    have LT15_1 : w4.heap.size < w15.heap.size := World.block_lt_of_cell? w15 _ c_g00
    have LT15_2 : w13.heap.size < w15.heap.size := World.block_lt_of_cell? w15 _ c_h00
    clear hb15 BB14
    have hne15 : ¬ (1 + (((((r.getD Circ.zero)).gs).length * 3 : Nat) : Int) : Int) < 0 := by omega
    go_wp2_with fail
    go_ret
    exact ⟨rfl, BB15⟩
  · skip
    have BB0 := Below.refl w.heap.size w
    go_enter Try.func3, Try.ntmps3
    go_wp2_with fail
    go_ret
    exact ⟨rfl, (by repeat (first | exact Below.refl _ _ | assumption | refine Below.drew ?_ | refine below_drewN ?_ _ | refine Below.alloc ?_ (by first | omega | (simp <;> omega)) _ | refine Below.setCell ?_ (by first | omega | (simp <;> omega)) _ | refine Below.trans ?_ (Below.mono (by assumption) (by first | omega | (simp <;> omega)))))⟩
end Go.Proofs.Ytgonldkgghikiaa
