/- The walk through the law FnExactIsParityNetwork. -/
import Derived.Test.YtdgghpbcinmbhaaPar3
import Derived.Test.YtdgghpbcinmbhaaStCircuit
import Derived.Test.YtdgghpbcinmbhaaStLinear
import Derived.Test.YtdgghpbcinmbhaaOpen1
import Derived.Test.YtdgghpbcinmbhaaDat
import Derived.Test.YtdgghpbcinmbhaaCut1
import Derived.Deep.DeepMust
import Derived.Deep.RegionHeld3
namespace Go.Proofs.Ytdgghpbcinmbhaa
set_option linter.unusedSimpArgs false
set_option linter.unusedVariables false
set_option linter.unnecessarySimpa false
set_option maxRecDepth 200000
open Go.ChangeShapes Go.WideShapes Go.ChangeAt Go.RowKit

set_option maxHeartbeats 2000000 in
set_option maxRecDepth 100000 in
theorem walk_FnExactIsParityNetwork (v0 v1 : Value) (w : World) (h0 : IsCircuit w v0) (h1 : IsIntS w v1) :
    Calls Try.prog 11 #[v0, v1] w fun e w' => e = .returned (.bool true) ∧ Below w.heap.size w w' := by
  obtain ⟨d_aC, v_aC0, rfl, HA_aC0, HR_aC⟩ := h0
  obtain ⟨a_aC0, cap_aC0, rfl, LX_aC0⟩ := HA_aC0.form
  replace HA_aC0 := Lib.hid HA_aC0; clear LX_aC0
  replace HR_aC := Lib.hid HR_aC
  obtain ⟨d_aMasks, HA_aMasks0, HR_aMasks⟩ := h1; have v_aMasks0 := v1
  obtain ⟨a_aMasks0, cap_aMasks0, rfl, LX_aMasks0⟩ := HA_aMasks0.form
  replace HA_aMasks0 := Lib.hid HA_aMasks0; clear LX_aMasks0
  replace HR_aMasks := Lib.hid HR_aMasks
  by_cases hsz0 : ((d_aMasks).length : Int) ≤ 1048576
  · skip
    by_cases hsz1 : (((d_aC).gs).length : Int) ≤ 1048576
    · skip
      have LEN_aC0 : ((d_aC).gs).length ≤ 1048576 := by omega
      have LEN_aMasks0 : (d_aMasks).length ≤ 1048576 := by omega
      have BB0 := Below.refl w.heap.size w
      go_enter Try.func11, Try.ntmps11
      go_wp2_with fail
      have BP0 := Lib.hid (show Below w.heap.size w (w.alloc (.cells #[.int .i64 ((d_aC).n), .slice a_aC0 ((d_aC).gs).length cap_aC0] 44)) from (by repeat (first | exact Below.refl _ _ | assumption | refine Below.drew ?_ | refine below_drewN ?_ _ | refine Below.alloc ?_ (by first | omega | (simp <;> omega)) _ | refine Below.setCell ?_ (by first | omega | (simp <;> omega)) _ | refine Below.trans ?_ (Below.mono (by assumption) (by first | omega | (simp <;> omega))))))
      have c_paC0 : (w.alloc (.cells #[.int .i64 ((d_aC).n), .slice a_aC0 ((d_aC).gs).length cap_aC0] 44)).cell? ⟨w.heap.size, 0, none⟩ = some (.int .i64 ((d_aC).n)) := (by repeat (first | (refine Eq.trans (World.cell?_alloc_at _ _ _ _ ?hh) ?_; (case hh => (simp; done)); rfl) | refine cell_alloc_keep _ ?_))
      have c_paC1 : (w.alloc (.cells #[.int .i64 ((d_aC).n), .slice a_aC0 ((d_aC).gs).length cap_aC0] 44)).cell? ⟨w.heap.size, 1, none⟩ = some (.slice a_aC0 ((d_aC).gs).length cap_aC0) := (by repeat (first | (refine Eq.trans (World.cell?_alloc_at _ _ _ _ ?hh) ?_; (case hh => (simp; done)); rfl) | refine cell_alloc_keep _ ?_))
      refine (laws_szCircuit_ok d_aC _ _ _ (Rd.below HA_aC0.out (below_step BB0 BP0.out) rfl) (by omega) (by omega)).mono ?_; rintro e w1 ⟨rfl, hb1⟩
      replace c_paC0 := below_cell hb1 rfl c_paC0
      replace c_paC1 := below_cell hb1 rfl c_paC1
      have BB1 : Below w.heap.size w w1 := below_step (below_step BB0 BP0.out) hb1
      have ZZ1 : w.heap.size + 1 ≤ w1.heap.size := by have := hb1.size; (try simp at this); omega
      clear BP0
      have LT1_0 : w.heap.size < w1.heap.size := World.block_lt_of_cell? w1 _ c_paC0
      clear hb1 BB0
      go_wp2_with fail
      refine (laws_toCircuit_any d_aC _ _ (Rd.below HA_aC0.out BB1 rfl) LEN_aC0).mono ?_; rintro e w2 ⟨vt10, rfl, hot10, hb2⟩
      obtain ⟨at10, capt10, rfl⟩ := hot10.forms
      have LL_t10 := Lib.hid (show ∀ g, (Value.slice at10 ((d_aC).gs).length capt10).ownBlock = some g → w1.heap.size ≤ g ∧ g < w2.heap.size from fun g hg => by have := hot10.lt g hg; (try simp at this); omega)
      replace hot10 := OwnE.le hot10 (base' := w.heap.size) (by have := BB1.size; first | omega | (simp; omega))
      replace c_paC0 := below_cell hb2 rfl c_paC0
      replace c_paC1 := below_cell hb2 rfl c_paC1
      have BB2 : Below w.heap.size w w2 := below_step BB1 hb2
      have ZZ2 : w1.heap.size ≤ w2.heap.size := by have := hb2.size; (try simp at this); omega
      clear LT1_0
      have LT2_0 : w.heap.size < w2.heap.size := World.block_lt_of_cell? w2 _ c_paC0
      have Ot10 := Lib.hid (show OwnE w2 (w.heap.size) 90 (.slice at10 ((d_aC).gs).length capt10) E3.cs 3 ((d_aC).gs) from hot10); clear hot10
      clear hb2 BB1
      go_wp2_with fail
      refine (laws_toIntS_any _ d_aMasks _ (Rd.below HA_aMasks0.out BB2 rfl) LEN_aMasks0).mono ?_; rintro e w3 ⟨vt20, rfl, hot20, hb3⟩
      obtain ⟨at20, capt20, rfl⟩ := hot20.forms
      have LL_t20 := Lib.hid (show ∀ g, (Value.slice at20 (d_aMasks).length capt20).ownBlock = some g → w2.heap.size ≤ g ∧ g < w3.heap.size from fun g hg => by have := hot20.lt g hg; (try simp at this); omega)
      replace hot20 := OwnI.le hot20 (base' := w.heap.size) (by have := BB2.size; first | omega | (simp; omega))
      replace Ot10 := Lib.hid (show OwnE w3 (w.heap.size) 90 (.slice at10 ((d_aC).gs).length capt10) E3.cs 3 ((d_aC).gs) from OwnE.below Ot10.out hb3 rfl)
      replace c_paC0 := below_cell hb3 rfl c_paC0
      replace c_paC1 := below_cell hb3 rfl c_paC1
      have BB3 : Below w.heap.size w w3 := below_step BB2 hb3
      have ZZ3 : w2.heap.size ≤ w3.heap.size := by have := hb3.size; (try simp at this); omega
      clear LT2_0
      have LT3_0 : w.heap.size < w3.heap.size := World.block_lt_of_cell? w3 _ c_paC0
      have Ot20 := Lib.hid (show OwnI w3 (w.heap.size) (.slice at20 (d_aMasks).length capt20) (d_aMasks) from hot20); clear hot20
      clear hb3 BB2
      go_wp2_with fail
      refine (spec_IsParityNetwork_any _ _ d_aC d_aMasks _ (Ot10.out).rd (Ot20.out).rd LEN_aC0 LEN_aMasks0).mono ?_; rintro e w4 ⟨rfl, hb4⟩
      replace Ot10 := Lib.hid (show OwnE w4 (w.heap.size) 90 (.slice at10 ((d_aC).gs).length capt10) E3.cs 3 ((d_aC).gs) from OwnE.below Ot10.out hb4 rfl)
      replace Ot20 := Lib.hid (show OwnI w4 (w.heap.size) (.slice at20 (d_aMasks).length capt20) (d_aMasks) from OwnI.below Ot20.out hb4 rfl)
      replace c_paC0 := below_cell hb4 rfl c_paC0
      replace c_paC1 := below_cell hb4 rfl c_paC1
      have BB4 : Below w.heap.size w w4 := below_step BB3 hb4
      have ZZ4 : w3.heap.size ≤ w4.heap.size := by have := hb4.size; (try simp at this); omega
      clear LT3_0
      have LT4_0 : w.heap.size < w4.heap.size := World.block_lt_of_cell? w4 _ c_paC0
      clear hb4 BB3
      clear Ot10 LL_t10
      clear Ot20 LL_t20
      go_wp2_with fail
      refine (laws_toCircuit_any d_aC _ _ (Rd.below HA_aC0.out BB4 rfl) LEN_aC0).mono ?_; rintro e w5 ⟨vx00, rfl, hox00, hb5⟩
      obtain ⟨ax00, capx00, rfl⟩ := hox00.forms
      have LL_x00 := Lib.hid (show ∀ g, (Value.slice ax00 ((d_aC).gs).length capx00).ownBlock = some g → w4.heap.size ≤ g ∧ g < w5.heap.size from fun g hg => by have := hox00.lt g hg; (try simp at this); omega)
      replace hox00 := OwnE.le hox00 (base' := w.heap.size) (by have := BB4.size; first | omega | (simp; omega))
      replace c_paC0 := below_cell hb5 rfl c_paC0
      replace c_paC1 := below_cell hb5 rfl c_paC1
      have BB5 : Below w.heap.size w w5 := below_step BB4 hb5
      have ZZ5 : w4.heap.size ≤ w5.heap.size := by have := hb5.size; (try simp at this); omega
      clear LT4_0
      have LT5_0 : w.heap.size < w5.heap.size := World.block_lt_of_cell? w5 _ c_paC0
      have Ox00 := Lib.hid (show OwnE w5 (w.heap.size) 90 (.slice ax00 ((d_aC).gs).length capx00) E3.cs 3 ((d_aC).gs) from hox00); clear hox00
      clear hb5 BB4
      go_wp2_with fail
      have BP5 := Lib.hid (show Below w5.heap.size w5 (w5.alloc (.cells #[.int .i64 ((d_aC).n), .slice ax00 ((d_aC).gs).length capx00] 49)) from (by repeat (first | exact Below.refl _ _ | assumption | refine Below.drew ?_ | refine below_drewN ?_ _ | refine Below.alloc ?_ (by first | omega | (simp <;> omega)) _ | refine Below.setCell ?_ (by first | omega | (simp <;> omega)) _ | refine Below.trans ?_ (Below.mono (by assumption) (by first | omega | (simp <;> omega))))))
      replace Ox00 := Lib.hid (show OwnE (w5.alloc (.cells #[.int .i64 ((d_aC).n), .slice ax00 ((d_aC).gs).length capx00] 49)) (w.heap.size) 90 (.slice ax00 ((d_aC).gs).length capx00) E3.cs 3 ((d_aC).gs) from OwnE.below Ox00.out BP5.out rfl)
      replace c_paC0 := cell_alloc_keep (.cells #[.int .i64 ((d_aC).n), .slice ax00 ((d_aC).gs).length capx00] 49) (c_paC0)
      replace c_paC1 := cell_alloc_keep (.cells #[.int .i64 ((d_aC).n), .slice ax00 ((d_aC).gs).length capx00] 49) (c_paC1)
      have c_x00 : (w5.alloc (.cells #[.int .i64 ((d_aC).n), .slice ax00 ((d_aC).gs).length capx00] 49)).cell? ⟨w5.heap.size, 0, none⟩ = some (.int .i64 ((d_aC).n)) := (by repeat (first | (refine Eq.trans (World.cell?_alloc_at _ _ _ _ ?hh) ?_; (case hh => (simp; done)); rfl) | refine cell_alloc_keep _ ?_))
      have c_x01 : (w5.alloc (.cells #[.int .i64 ((d_aC).n), .slice ax00 ((d_aC).gs).length capx00] 49)).cell? ⟨w5.heap.size, 1, none⟩ = some (.slice ax00 ((d_aC).gs).length capx00) := (by repeat (first | (refine Eq.trans (World.cell?_alloc_at _ _ _ _ ?hh) ?_; (case hh => (simp; done)); rfl) | refine cell_alloc_keep _ ?_))
      refine (laws_toIntS_any _ d_aMasks _ (Rd.below HA_aMasks0.out (below_step BB5 BP5.out) rfl) LEN_aMasks0).mono ?_; rintro e w6 ⟨vx10, rfl, hox10, hb6⟩
      obtain ⟨ax10, capx10, rfl⟩ := hox10.forms
      have LL_x10 := Lib.hid (show ∀ g, (Value.slice ax10 (d_aMasks).length capx10).ownBlock = some g → w5.heap.size + 1 ≤ g ∧ g < w6.heap.size from fun g hg => by have := hox10.lt g hg; (try simp at this); omega)
      replace hox10 := OwnI.le hox10 (base' := w.heap.size) (by have := BB5.size; first | omega | (simp; omega))
      replace Ox00 := Lib.hid (show OwnE w6 (w.heap.size) 90 (.slice ax00 ((d_aC).gs).length capx00) E3.cs 3 ((d_aC).gs) from OwnE.below Ox00.out hb6 rfl)
      replace c_paC0 := below_cell hb6 rfl c_paC0
      replace c_paC1 := below_cell hb6 rfl c_paC1
      replace c_x00 := below_cell hb6 rfl c_x00
      replace c_x01 := below_cell hb6 rfl c_x01
      have BB6 : Below w.heap.size w w6 := below_step (below_step BB5 BP5.out) hb6
      have ZZ6 : w5.heap.size + 1 ≤ w6.heap.size := by have := hb6.size; (try simp at this); omega
      clear BP5
      clear LT5_0
      have LT6_0 : w.heap.size < w6.heap.size := World.block_lt_of_cell? w6 _ c_paC0
      have LT6_1 : w5.heap.size < w6.heap.size := World.block_lt_of_cell? w6 _ c_x00
      have Ox10 := Lib.hid (show OwnI w6 (w.heap.size) (.slice ax10 (d_aMasks).length capx10) (d_aMasks) from hox10); clear hox10
      clear hb6 BB5
      go_wp2_with fail
      refine (impl_IsParityNetwork_any _ _ d_aC d_aMasks _ (Ox00.out).rd (Ox10.out).rd LEN_aC0 LEN_aMasks0).mono ?_; rintro e w7 ⟨rfl, hb7⟩
      replace Ox00 := Lib.hid (show OwnE w7 (w.heap.size) 90 (.slice ax00 ((d_aC).gs).length capx00) E3.cs 3 ((d_aC).gs) from OwnE.below Ox00.out hb7 rfl)
      replace Ox10 := Lib.hid (show OwnI w7 (w.heap.size) (.slice ax10 (d_aMasks).length capx10) (d_aMasks) from OwnI.below Ox10.out hb7 rfl)
      replace c_paC0 := below_cell hb7 rfl c_paC0
      replace c_paC1 := below_cell hb7 rfl c_paC1
      replace c_x00 := below_cell hb7 rfl c_x00
      replace c_x01 := below_cell hb7 rfl c_x01
      have BB7 : Below w.heap.size w w7 := below_step BB6 hb7
      have ZZ7 : w6.heap.size ≤ w7.heap.size := by have := hb7.size; (try simp at this); omega
      clear LT6_0 LT6_1
      have LT7_0 : w.heap.size < w7.heap.size := World.block_lt_of_cell? w7 _ c_paC0
      have LT7_1 : w5.heap.size < w7.heap.size := World.block_lt_of_cell? w7 _ c_x00
      clear hb7 BB6
      go_wp2_with fail
      go_region_held3 (fun w' => w'.cell? ⟨w.heap.size, 0, none⟩ = some (.int .i64 ((d_aC).n)) ∧ w'.cell? ⟨w.heap.size, 1, none⟩ = some (.slice a_aC0 ((d_aC).gs).length cap_aC0) ∧ w'.cell? ⟨w5.heap.size, 0, none⟩ = some (.int .i64 ((d_aC).n)) ∧ w'.cell? ⟨w5.heap.size, 1, none⟩ = some (.slice ax00 ((d_aC).gs).length capx00)) (first | go_keep | (go_split_ands; refine ⟨?_, ?_, ?_, ?_⟩ <;> first | assumption | (refine cell_alloc_keep _ ?_; assumption) | (simp [*]; done))) (first | (go_at_call 32; go_must ((have BP7 := Lib.hid (show Below w7.heap.size w7 (w7.drew) from (by repeat (first | exact Below.refl _ _ | assumption | refine Below.drew ?_ | refine below_drewN ?_ _ | refine Below.alloc ?_ (by first | omega | (simp <;> omega)) _ | refine Below.setCell ?_ (by first | omega | (simp <;> omega)) _ | refine Below.trans ?_ (Below.mono (by assumption) (by first | omega | (simp <;> omega))))))); (replace Ox00 := Lib.hid (show OwnE (w7.drew) (w.heap.size) 90 (.slice ax00 ((d_aC).gs).length capx00) E3.cs 3 ((d_aC).gs) from OwnE.below Ox00.out BP7.out rfl)); (replace Ox10 := Lib.hid (show OwnI (w7.drew) (w.heap.size) (.slice ax10 (d_aMasks).length capx10) (d_aMasks) from OwnI.below Ox10.out BP7.out rfl)); (replace c_paC0 : (w7.drew).cell? ⟨w.heap.size, 0, none⟩ = some (.int .i64 ((d_aC).n)) := c_paC0); (replace c_paC1 : (w7.drew).cell? ⟨w.heap.size, 1, none⟩ = some (.slice a_aC0 ((d_aC).gs).length cap_aC0) := c_paC1); (replace c_x00 : (w7.drew).cell? ⟨w5.heap.size, 0, none⟩ = some (.int .i64 ((d_aC).n)) := c_x00); (replace c_x01 : (w7.drew).cell? ⟨w5.heap.size, 1, none⟩ = some (.slice ax00 ((d_aC).gs).length capx00) := c_x01); (refine (laws_toCircuit_any d_aC _ _ (Rd.below HA_aC0.out (below_step BB7 BP7.out) rfl) LEN_aC0).mono ?_; rintro e w8 ⟨vt30, rfl, hot30, hb8⟩); (obtain ⟨at30, capt30, rfl⟩ := hot30.forms); (have LL_t30 := Lib.hid (show ∀ g, (Value.slice at30 ((d_aC).gs).length capt30).ownBlock = some g → w7.heap.size ≤ g ∧ g < w8.heap.size from fun g hg => by have := hot30.lt g hg; (try simp at this); omega)); (replace hot30 := OwnE.le hot30 (base' := w.heap.size) (by have := BB7.size; first | omega | (simp; omega))); (replace Ox00 := Lib.hid (show OwnE w8 (w.heap.size) 90 (.slice ax00 ((d_aC).gs).length capx00) E3.cs 3 ((d_aC).gs) from OwnE.below Ox00.out hb8 rfl)); (replace Ox10 := Lib.hid (show OwnI w8 (w.heap.size) (.slice ax10 (d_aMasks).length capx10) (d_aMasks) from OwnI.below Ox10.out hb8 rfl)); (replace c_paC0 := below_cell hb8 rfl c_paC0); (replace c_paC1 := below_cell hb8 rfl c_paC1); (replace c_x00 := below_cell hb8 rfl c_x00); (replace c_x01 := below_cell hb8 rfl c_x01); (have BB8 : Below w.heap.size w w8 := below_step (below_step BB7 BP7.out) hb8); (have ZZ8 : w7.heap.size ≤ w8.heap.size := by have := hb8.size; (try simp at this); omega); (clear BP7); (clear LT7_0 LT7_1); (have LT8_0 : w.heap.size < w8.heap.size := World.block_lt_of_cell? w8 _ c_paC0); (have LT8_1 : w5.heap.size < w8.heap.size := World.block_lt_of_cell? w8 _ c_x00); (have Ot30 := Lib.hid (show OwnE w8 (w.heap.size) 90 (.slice at30 ((d_aC).gs).length capt30) E3.cs 3 ((d_aC).gs) from hot30); clear hot30); (clear hb8 BB7))) | (go_at_call 34; go_must ((refine (laws_eqCircuit_same d_aC _ _ _ (Ox00.out).rd (Ot30.out).rd).mono ?_; rintro e w9 ⟨rfl, hb9⟩); (replace Ox00 := Lib.hid (show OwnE w9 (w.heap.size) 90 (.slice ax00 ((d_aC).gs).length capx00) E3.cs 3 ((d_aC).gs) from OwnE.below Ox00.out hb9 rfl)); (replace Ox10 := Lib.hid (show OwnI w9 (w.heap.size) (.slice ax10 (d_aMasks).length capx10) (d_aMasks) from OwnI.below Ox10.out hb9 rfl)); (replace Ot30 := Lib.hid (show OwnE w9 (w.heap.size) 90 (.slice at30 ((d_aC).gs).length capt30) E3.cs 3 ((d_aC).gs) from OwnE.below Ot30.out hb9 rfl)); (replace c_paC0 := below_cell hb9 rfl c_paC0); (replace c_paC1 := below_cell hb9 rfl c_paC1); (replace c_x00 := below_cell hb9 rfl c_x00); (replace c_x01 := below_cell hb9 rfl c_x01); (have BB9 : Below w.heap.size w w9 := below_step BB8 hb9); (have ZZ9 : w8.heap.size ≤ w9.heap.size := by have := hb9.size; (try simp at this); omega); (clear LT8_0 LT8_1); (have LT9_0 : w.heap.size < w9.heap.size := World.block_lt_of_cell? w9 _ c_paC0); (have LT9_1 : w5.heap.size < w9.heap.size := World.block_lt_of_cell? w9 _ c_x00); (clear hb9 BB8))))
      clear Ot30 LL_t30
      go_wp2_with fail
      refine (laws_toIntS_any _ d_aMasks _ (Rd.below HA_aMasks0.out BB9 rfl) LEN_aMasks0).mono ?_; rintro e w10 ⟨vt40, rfl, hot40, hb10⟩
      obtain ⟨at40, capt40, rfl⟩ := hot40.forms
      have LL_t40 := Lib.hid (show ∀ g, (Value.slice at40 (d_aMasks).length capt40).ownBlock = some g → w9.heap.size ≤ g ∧ g < w10.heap.size from fun g hg => by have := hot40.lt g hg; (try simp at this); omega)
      replace hot40 := OwnI.le hot40 (base' := w.heap.size) (by have := BB9.size; first | omega | (simp; omega))
      replace Ox00 := Lib.hid (show OwnE w10 (w.heap.size) 90 (.slice ax00 ((d_aC).gs).length capx00) E3.cs 3 ((d_aC).gs) from OwnE.below Ox00.out hb10 rfl)
      replace Ox10 := Lib.hid (show OwnI w10 (w.heap.size) (.slice ax10 (d_aMasks).length capx10) (d_aMasks) from OwnI.below Ox10.out hb10 rfl)
      replace c_paC0 := below_cell hb10 rfl c_paC0
      replace c_paC1 := below_cell hb10 rfl c_paC1
      replace c_x00 := below_cell hb10 rfl c_x00
      replace c_x01 := below_cell hb10 rfl c_x01
      have BB10 : Below w.heap.size w w10 := below_step BB9 hb10
      have ZZ10 : w9.heap.size ≤ w10.heap.size := by have := hb10.size; (try simp at this); omega
      clear LT9_0 LT9_1
      have LT10_0 : w.heap.size < w10.heap.size := World.block_lt_of_cell? w10 _ c_paC0
      have LT10_1 : w5.heap.size < w10.heap.size := World.block_lt_of_cell? w10 _ c_x00
      have Ot40 := Lib.hid (show OwnI w10 (w.heap.size) (.slice at40 (d_aMasks).length capt40) (d_aMasks) from hot40); clear hot40
      clear hb10 BB9
      go_wp2_with fail
      refine (laws_eqIntS_any _ _ _ _ _ (Ox10.out).rd (Ot40.out).rd).mono ?_; rintro e w11 ⟨rfl, hb11⟩
      rw [show decide (d_aMasks = d_aMasks) = true from decide_eq_true rfl]
      replace Ox00 := Lib.hid (show OwnE w11 (w.heap.size) 90 (.slice ax00 ((d_aC).gs).length capx00) E3.cs 3 ((d_aC).gs) from OwnE.below Ox00.out hb11 rfl)
      replace Ox10 := Lib.hid (show OwnI w11 (w.heap.size) (.slice ax10 (d_aMasks).length capx10) (d_aMasks) from OwnI.below Ox10.out hb11 rfl)
      replace Ot40 := Lib.hid (show OwnI w11 (w.heap.size) (.slice at40 (d_aMasks).length capt40) (d_aMasks) from OwnI.below Ot40.out hb11 rfl)
      replace c_paC0 := below_cell hb11 rfl c_paC0
      replace c_paC1 := below_cell hb11 rfl c_paC1
      replace c_x00 := below_cell hb11 rfl c_x00
      replace c_x01 := below_cell hb11 rfl c_x01
      have BB11 : Below w.heap.size w w11 := below_step BB10 hb11
      have ZZ11 : w10.heap.size ≤ w11.heap.size := by have := hb11.size; (try simp at this); omega
      clear LT10_0 LT10_1
      have LT11_0 : w.heap.size < w11.heap.size := World.block_lt_of_cell? w11 _ c_paC0
      have LT11_1 : w5.heap.size < w11.heap.size := World.block_lt_of_cell? w11 _ c_x00
      clear hb11 BB10
      go_wp2_with fail
      clear Ot40 LL_t40
      go_ret
      exact ⟨rfl, BB11⟩
    · skip
      have BB0 := Below.refl w.heap.size w
      go_enter Try.func11, Try.ntmps11
      go_wp2_with fail
      have BP0 := Lib.hid (show Below w.heap.size w (w.alloc (.cells #[.int .i64 ((d_aC).n), .slice a_aC0 ((d_aC).gs).length cap_aC0] 44)) from (by repeat (first | exact Below.refl _ _ | assumption | refine Below.drew ?_ | refine below_drewN ?_ _ | refine Below.alloc ?_ (by first | omega | (simp <;> omega)) _ | refine Below.setCell ?_ (by first | omega | (simp <;> omega)) _ | refine Below.trans ?_ (Below.mono (by assumption) (by first | omega | (simp <;> omega))))))
      have c_paC0 : (w.alloc (.cells #[.int .i64 ((d_aC).n), .slice a_aC0 ((d_aC).gs).length cap_aC0] 44)).cell? ⟨w.heap.size, 0, none⟩ = some (.int .i64 ((d_aC).n)) := (by repeat (first | (refine Eq.trans (World.cell?_alloc_at _ _ _ _ ?hh) ?_; (case hh => (simp; done)); rfl) | refine cell_alloc_keep _ ?_))
      have c_paC1 : (w.alloc (.cells #[.int .i64 ((d_aC).n), .slice a_aC0 ((d_aC).gs).length cap_aC0] 44)).cell? ⟨w.heap.size, 1, none⟩ = some (.slice a_aC0 ((d_aC).gs).length cap_aC0) := (by repeat (first | (refine Eq.trans (World.cell?_alloc_at _ _ _ _ ?hh) ?_; (case hh => (simp; done)); rfl) | refine cell_alloc_keep _ ?_))
      refine (laws_szCircuit_no d_aC _ _ _ (Rd.below HA_aC0.out (below_step BB0 BP0.out) rfl) (by omega) (by omega) (by omega)).mono ?_; rintro e w1 ⟨rfl, hb1⟩
      replace c_paC0 := below_cell hb1 rfl c_paC0
      replace c_paC1 := below_cell hb1 rfl c_paC1
      have BB1 : Below w.heap.size w w1 := below_step (below_step BB0 BP0.out) hb1
      have ZZ1 : w.heap.size + 1 ≤ w1.heap.size := by have := hb1.size; (try simp at this); omega
      clear BP0
      have LT1_0 : w.heap.size < w1.heap.size := World.block_lt_of_cell? w1 _ c_paC0
      clear hb1 BB0
      go_wp2_with fail
      go_ret
      exact ⟨rfl, BB1⟩
  · skip
    have BB0 := Below.refl w.heap.size w
    go_enter Try.func11, Try.ntmps11
    go_wp2_with fail
    go_ret
    exact ⟨rfl, (by repeat (first | exact Below.refl _ _ | assumption | refine Below.drew ?_ | refine below_drewN ?_ _ | refine Below.alloc ?_ (by first | omega | (simp <;> omega)) _ | refine Below.setCell ?_ (by first | omega | (simp <;> omega)) _ | refine Below.trans ?_ (Below.mono (by assumption) (by first | omega | (simp <;> omega)))))⟩
end Go.Proofs.Ytdgghpbcinmbhaa
