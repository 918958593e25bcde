/- The walk through the law FnExactSameClifford. -/
import Derived.Test.YtdkfoleippncnaaSme
import Derived.Test.YtdkfoleippncnaaStCircuit
import Derived.Test.YtdkfoleippncnaaOpen1
import Derived.Test.YtdkfoleippncnaaDat
import Derived.Deep.DeepMust
import Derived.Deep.RegionHeld3
namespace Go.Proofs.Ytdkfoleippncnaa
set_option linter.unusedSimpArgs false
set_option linter.unusedVariables false
set_option linter.unnecessarySimpa false
set_option maxRecDepth 200000
open Go.ChangeShapes Go.WideShapes Go.ChangeAt Go.RowKit

set_option maxHeartbeats 2000000 in
set_option maxRecDepth 100000 in
theorem walk_FnExactSameClifford (v0 v1 : Value) (w : World) (h0 : IsCircuit w v0) (h1 : IsCircuit w v1) :
    Calls Try.prog 3 #[v0, v1] w fun e w' => e = .returned (.bool true) ∧ Below w.heap.size w w' := by
  obtain ⟨d_aA, v_aA0, rfl, HA_aA0, HR_aA⟩ := h0
  obtain ⟨a_aA0, cap_aA0, rfl, LX_aA0⟩ := HA_aA0.form
  replace HA_aA0 := Lib.hid HA_aA0; clear LX_aA0
  replace HR_aA := Lib.hid HR_aA
  obtain ⟨d_aB, v_aB0, rfl, HA_aB0, HR_aB⟩ := h1
  obtain ⟨a_aB0, cap_aB0, rfl, LX_aB0⟩ := HA_aB0.form
  replace HA_aB0 := Lib.hid HA_aB0; clear LX_aB0
  replace HR_aB := Lib.hid HR_aB
  by_cases hsz0 : (((d_aA).gs).length : Int) ≤ 1048576
  · skip
    by_cases hsz1 : (((d_aA).gs).length : Int) + (((d_aB).gs).length : Int) ≤ 1048576
    · skip
      have LEN_aA0 : ((d_aA).gs).length ≤ 1048576 := by omega
      have LEN_aB0 : ((d_aB).gs).length ≤ 1048576 := by omega
      have BB0 := Below.refl w.heap.size w
      go_enter Try.func3, Try.ntmps3
      go_wp2_with fail
      have BP0 := Lib.hid (show Below w.heap.size w ((w.alloc (.cells #[.int .i64 ((d_aA).n), .slice a_aA0 ((d_aA).gs).length cap_aA0] 24)).alloc (.cells #[.int .i64 ((d_aB).n), .slice a_aB0 ((d_aB).gs).length cap_aB0] 24)) from (by repeat (first | exact Below.refl _ _ | assumption | refine Below.drew ?_ | refine below_drewN ?_ _ | refine Below.alloc ?_ (by first | omega | (simp <;> omega)) _ | refine Below.setCell ?_ (by first | omega | (simp <;> omega)) _ | refine Below.trans ?_ (Below.mono (by assumption) (by first | omega | (simp <;> omega))))))
      have c_paA0 : ((w.alloc (.cells #[.int .i64 ((d_aA).n), .slice a_aA0 ((d_aA).gs).length cap_aA0] 24)).alloc (.cells #[.int .i64 ((d_aB).n), .slice a_aB0 ((d_aB).gs).length cap_aB0] 24)).cell? ⟨w.heap.size, 0, none⟩ = some (.int .i64 ((d_aA).n)) := (by repeat (first | (refine Eq.trans (World.cell?_alloc_at _ _ _ _ ?hh) ?_; (case hh => (simp; done)); rfl) | refine cell_alloc_keep _ ?_))
      have c_paA1 : ((w.alloc (.cells #[.int .i64 ((d_aA).n), .slice a_aA0 ((d_aA).gs).length cap_aA0] 24)).alloc (.cells #[.int .i64 ((d_aB).n), .slice a_aB0 ((d_aB).gs).length cap_aB0] 24)).cell? ⟨w.heap.size, 1, none⟩ = some (.slice a_aA0 ((d_aA).gs).length cap_aA0) := (by repeat (first | (refine Eq.trans (World.cell?_alloc_at _ _ _ _ ?hh) ?_; (case hh => (simp; done)); rfl) | refine cell_alloc_keep _ ?_))
      have c_paB0 : ((w.alloc (.cells #[.int .i64 ((d_aA).n), .slice a_aA0 ((d_aA).gs).length cap_aA0] 24)).alloc (.cells #[.int .i64 ((d_aB).n), .slice a_aB0 ((d_aB).gs).length cap_aB0] 24)).cell? ⟨w.heap.size + 1, 0, none⟩ = some (.int .i64 ((d_aB).n)) := (by repeat (first | (refine Eq.trans (World.cell?_alloc_at _ _ _ _ ?hh) ?_; (case hh => (simp; done)); rfl) | refine cell_alloc_keep _ ?_))
      have c_paB1 : ((w.alloc (.cells #[.int .i64 ((d_aA).n), .slice a_aA0 ((d_aA).gs).length cap_aA0] 24)).alloc (.cells #[.int .i64 ((d_aB).n), .slice a_aB0 ((d_aB).gs).length cap_aB0] 24)).cell? ⟨w.heap.size + 1, 1, none⟩ = some (.slice a_aB0 ((d_aB).gs).length cap_aB0) := (by repeat (first | (refine Eq.trans (World.cell?_alloc_at _ _ _ _ ?hh) ?_; (case hh => (simp; done)); rfl) | refine cell_alloc_keep _ ?_))
      refine (laws_szCircuit_ok d_aA _ _ _ (Rd.below HA_aA0.out (below_step BB0 BP0.out) rfl) (by omega) (by omega)).mono ?_; rintro e w1 ⟨rfl, hb1⟩
      replace c_paA0 := below_cell hb1 rfl c_paA0
      replace c_paA1 := below_cell hb1 rfl c_paA1
      replace c_paB0 := below_cell hb1 rfl c_paB0
      replace c_paB1 := below_cell hb1 rfl c_paB1
      have BB1 : Below w.heap.size w w1 := below_step (below_step BB0 BP0.out) hb1
      have ZZ1 : w.heap.size + 2 ≤ w1.heap.size := by have := hb1.size; (try simp at this); omega
      clear BP0
      have LT1_0 : w.heap.size < w1.heap.size := World.block_lt_of_cell? w1 _ c_paA0
      have LT1_1 : w.heap.size + 1 < w1.heap.size := World.block_lt_of_cell? w1 _ c_paB0
      clear hb1 BB0
      go_wp2_with fail
      refine (laws_szCircuit_ok d_aB _ _ _ (Rd.below HA_aB0.out BB1 rfl) (by omega) (by omega)).mono ?_; rintro e w2 ⟨rfl, hb2⟩
      replace c_paA0 := below_cell hb2 rfl c_paA0
      replace c_paA1 := below_cell hb2 rfl c_paA1
      replace c_paB0 := below_cell hb2 rfl c_paB0
      replace c_paB1 := below_cell hb2 rfl c_paB1
      have BB2 : Below w.heap.size w w2 := below_step BB1 hb2
      have ZZ2 : w1.heap.size ≤ w2.heap.size := by have := hb2.size; (try simp at this); omega
      clear LT1_0 LT1_1
      have LT2_0 : w.heap.size < w2.heap.size := World.block_lt_of_cell? w2 _ c_paA0
      have LT2_1 : w.heap.size + 1 < w2.heap.size := World.block_lt_of_cell? w2 _ c_paB0
      clear hb2 BB1
      go_wp2_with fail
      go_region_held3 (fun w' => w'.cell? ⟨w.heap.size, 0, none⟩ = some (.int .i64 ((d_aA).n)) ∧ w'.cell? ⟨w.heap.size, 1, none⟩ = some (.slice a_aA0 ((d_aA).gs).length cap_aA0) ∧ w'.cell? ⟨w.heap.size + 1, 0, none⟩ = some (.int .i64 ((d_aB).n)) ∧ w'.cell? ⟨w.heap.size + 1, 1, none⟩ = some (.slice a_aB0 ((d_aB).gs).length cap_aB0)) (first | go_keep | (go_split_ands; refine ⟨?_, ?_, ?_, ?_⟩ <;> first | assumption | (refine cell_alloc_keep _ ?_; assumption) | (simp [*]; done))) (first | (go_at_call_of 10 a_aA0; go_must ((have BP2 := Lib.hid (show Below w2.heap.size w2 (w2.drew) from (by repeat (first | exact Below.refl _ _ | assumption | refine Below.drew ?_ | refine below_drewN ?_ _ | refine Below.alloc ?_ (by first | omega | (simp <;> omega)) _ | refine Below.setCell ?_ (by first | omega | (simp <;> omega)) _ | refine Below.trans ?_ (Below.mono (by assumption) (by first | omega | (simp <;> omega))))))); (replace c_paA0 : (w2.drew).cell? ⟨w.heap.size, 0, none⟩ = some (.int .i64 ((d_aA).n)) := c_paA0); (replace c_paA1 : (w2.drew).cell? ⟨w.heap.size, 1, none⟩ = some (.slice a_aA0 ((d_aA).gs).length cap_aA0) := c_paA1); (replace c_paB0 : (w2.drew).cell? ⟨w.heap.size + 1, 0, none⟩ = some (.int .i64 ((d_aB).n)) := c_paB0); (replace c_paB1 : (w2.drew).cell? ⟨w.heap.size + 1, 1, none⟩ = some (.slice a_aB0 ((d_aB).gs).length cap_aB0) := c_paB1); (refine (laws_toCircuit_any d_aA _ _ (Rd.below HA_aA0.out (below_step BB2 BP2.out) rfl) LEN_aA0).mono ?_; rintro e w3 ⟨vt10, rfl, hot10, hb3⟩); (obtain ⟨at10, capt10, rfl⟩ := hot10.forms); (have LL_t10 := Lib.hid (show ∀ g, (Value.slice at10 ((d_aA).gs).length capt10).ownBlock = some g → w2.heap.size ≤ g ∧ g < w3.heap.size from fun g hg => by have := hot10.lt g hg; (try simp at this); omega)); (replace hot10 := OwnE.le hot10 (base' := w.heap.size) (by have := BB2.size; first | omega | (simp; omega))); (replace c_paA0 := below_cell hb3 rfl c_paA0); (replace c_paA1 := below_cell hb3 rfl c_paA1); (replace c_paB0 := below_cell hb3 rfl c_paB0); (replace c_paB1 := below_cell hb3 rfl c_paB1); (have BB3 : Below w.heap.size w w3 := below_step (below_step BB2 BP2.out) hb3); (have ZZ3 : w2.heap.size ≤ w3.heap.size := by have := hb3.size; (try simp at this); omega); (clear BP2); (clear LT2_0 LT2_1); (have LT3_0 : w.heap.size < w3.heap.size := World.block_lt_of_cell? w3 _ c_paA0); (have LT3_1 : w.heap.size + 1 < w3.heap.size := World.block_lt_of_cell? w3 _ c_paB0); (have Ot10 := Lib.hid (show OwnE w3 (w.heap.size) 104 (.slice at10 ((d_aA).gs).length capt10) E3.cs 3 ((d_aA).gs) from hot10); clear hot10); (clear hb3 BB2))) | (go_at_call_of 10 a_aB0; go_must ((refine (laws_toCircuit_any d_aB _ _ (Rd.below HA_aB0.out BB3 rfl) LEN_aB0).mono ?_; rintro e w4 ⟨vt20, rfl, hot20, hb4⟩); (obtain ⟨at20, capt20, rfl⟩ := hot20.forms); (have LL_t20 := Lib.hid (show ∀ g, (Value.slice at20 ((d_aB).gs).length capt20).ownBlock = some g → w3.heap.size ≤ g ∧ g < w4.heap.size from fun g hg => by have := hot20.lt g hg; (try simp at this); omega)); (replace hot20 := OwnE.le hot20 (base' := w.heap.size) (by have := BB3.size; first | omega | (simp; omega))); (replace Ot10 := Lib.hid (show OwnE w4 (w.heap.size) 104 (.slice at10 ((d_aA).gs).length capt10) E3.cs 3 ((d_aA).gs) from OwnE.below Ot10.out hb4 rfl)); (replace c_paA0 := below_cell hb4 rfl c_paA0); (replace c_paA1 := below_cell hb4 rfl c_paA1); (replace c_paB0 := below_cell hb4 rfl c_paB0); (replace c_paB1 := below_cell hb4 rfl c_paB1); (have BB4 : Below w.heap.size w w4 := below_step BB3 hb4); (have ZZ4 : w3.heap.size ≤ w4.heap.size := by have := hb4.size; (try simp at this); omega); (clear LT3_0 LT3_1); (have LT4_0 : w.heap.size < w4.heap.size := World.block_lt_of_cell? w4 _ c_paA0); (have LT4_1 : w.heap.size + 1 < w4.heap.size := World.block_lt_of_cell? w4 _ c_paB0); (have Ot20 := Lib.hid (show OwnE w4 (w.heap.size) 104 (.slice at20 ((d_aB).gs).length capt20) E3.cs 3 ((d_aB).gs) from hot20); clear hot20); (clear hb4 BB3))) | (go_at_call 9; go_must ((refine (spec_SameClifford_any _ _ d_aA d_aB _ (Ot10.out).rd (Ot20.out).rd LEN_aA0 LEN_aB0).mono ?_; rintro e w5 ⟨rfl, hb5⟩); (replace Ot10 := Lib.hid (show OwnE w5 (w.heap.size) 104 (.slice at10 ((d_aA).gs).length capt10) E3.cs 3 ((d_aA).gs) from OwnE.below Ot10.out hb5 rfl)); (replace Ot20 := Lib.hid (show OwnE w5 (w.heap.size) 104 (.slice at20 ((d_aB).gs).length capt20) E3.cs 3 ((d_aB).gs) from OwnE.below Ot20.out hb5 rfl)); (replace c_paA0 := below_cell hb5 rfl c_paA0); (replace c_paA1 := below_cell hb5 rfl c_paA1); (replace c_paB0 := below_cell hb5 rfl c_paB0); (replace c_paB1 := below_cell hb5 rfl c_paB1); (have BB5 : Below w.heap.size w w5 := below_step BB4 hb5); (have ZZ5 : w4.heap.size ≤ w5.heap.size := by have := hb5.size; (try simp at this); omega); (clear LT4_0 LT4_1); (have LT5_0 : w.heap.size < w5.heap.size := World.block_lt_of_cell? w5 _ c_paA0); (have LT5_1 : w.heap.size + 1 < w5.heap.size := World.block_lt_of_cell? w5 _ c_paB0); (clear hb5 BB4))))
      clear Ot10 LL_t10
      clear Ot20 LL_t20
      go_wp2_with fail
      refine (laws_toCircuit_any d_aA _ _ (Rd.below HA_aA0.out BB5 rfl) LEN_aA0).mono ?_; rintro e w6 ⟨vx00, rfl, hox00, hb6⟩
      obtain ⟨ax00, capx00, rfl⟩ := hox00.forms
      have LL_x00 := Lib.hid (show ∀ g, (Value.slice ax00 ((d_aA).gs).length capx00).ownBlock = some g → w5.heap.size ≤ g ∧ g < w6.heap.size from fun g hg => by have := hox00.lt g hg; (try simp at this); omega)
      replace hox00 := OwnE.le hox00 (base' := w.heap.size) (by have := BB5.size; first | omega | (simp; omega))
      replace c_paA0 := below_cell hb6 rfl c_paA0
      replace c_paA1 := below_cell hb6 rfl c_paA1
      replace c_paB0 := below_cell hb6 rfl c_paB0
      replace c_paB1 := below_cell hb6 rfl c_paB1
      have BB6 : Below w.heap.size w w6 := below_step BB5 hb6
      have ZZ6 : w5.heap.size ≤ w6.heap.size := by have := hb6.size; (try simp at this); omega
      clear LT5_0 LT5_1
      have LT6_0 : w.heap.size < w6.heap.size := World.block_lt_of_cell? w6 _ c_paA0
      have LT6_1 : w.heap.size + 1 < w6.heap.size := World.block_lt_of_cell? w6 _ c_paB0
      have Ox00 := Lib.hid (show OwnE w6 (w.heap.size) 104 (.slice ax00 ((d_aA).gs).length capx00) E3.cs 3 ((d_aA).gs) from hox00); clear hox00
      clear hb6 BB5
      go_wp2_with fail
      have BP6 := Lib.hid (show Below w6.heap.size w6 (w6.alloc (.cells #[.int .i64 ((d_aA).n), .slice ax00 ((d_aA).gs).length capx00] 30)) from (by repeat (first | exact Below.refl _ _ | assumption | refine Below.drew ?_ | refine below_drewN ?_ _ | refine Below.alloc ?_ (by first | omega | (simp <;> omega)) _ | refine Below.setCell ?_ (by first | omega | (simp <;> omega)) _ | refine Below.trans ?_ (Below.mono (by assumption) (by first | omega | (simp <;> omega))))))
      replace Ox00 := Lib.hid (show OwnE (w6.alloc (.cells #[.int .i64 ((d_aA).n), .slice ax00 ((d_aA).gs).length capx00] 30)) (w.heap.size) 104 (.slice ax00 ((d_aA).gs).length capx00) E3.cs 3 ((d_aA).gs) from OwnE.below Ox00.out BP6.out rfl)
      replace c_paA0 := cell_alloc_keep (.cells #[.int .i64 ((d_aA).n), .slice ax00 ((d_aA).gs).length capx00] 30) (c_paA0)
      replace c_paA1 := cell_alloc_keep (.cells #[.int .i64 ((d_aA).n), .slice ax00 ((d_aA).gs).length capx00] 30) (c_paA1)
      replace c_paB0 := cell_alloc_keep (.cells #[.int .i64 ((d_aA).n), .slice ax00 ((d_aA).gs).length capx00] 30) (c_paB0)
      replace c_paB1 := cell_alloc_keep (.cells #[.int .i64 ((d_aA).n), .slice ax00 ((d_aA).gs).length capx00] 30) (c_paB1)
      have c_x00 : (w6.alloc (.cells #[.int .i64 ((d_aA).n), .slice ax00 ((d_aA).gs).length capx00] 30)).cell? ⟨w6.heap.size, 0, none⟩ = some (.int .i64 ((d_aA).n)) := (by repeat (first | (refine Eq.trans (World.cell?_alloc_at _ _ _ _ ?hh) ?_; (case hh => (simp; done)); rfl) | refine cell_alloc_keep _ ?_))
      have c_x01 : (w6.alloc (.cells #[.int .i64 ((d_aA).n), .slice ax00 ((d_aA).gs).length capx00] 30)).cell? ⟨w6.heap.size, 1, none⟩ = some (.slice ax00 ((d_aA).gs).length capx00) := (by repeat (first | (refine Eq.trans (World.cell?_alloc_at _ _ _ _ ?hh) ?_; (case hh => (simp; done)); rfl) | refine cell_alloc_keep _ ?_))
      refine (laws_toCircuit_any d_aB _ _ (Rd.below HA_aB0.out (below_step BB6 BP6.out) rfl) LEN_aB0).mono ?_; rintro e w7 ⟨vx10, rfl, hox10, hb7⟩
      obtain ⟨ax10, capx10, rfl⟩ := hox10.forms
      have LL_x10 := Lib.hid (show ∀ g, (Value.slice ax10 ((d_aB).gs).length capx10).ownBlock = some g → w6.heap.size + 1 ≤ g ∧ g < w7.heap.size from fun g hg => by have := hox10.lt g hg; (try simp at this); omega)
      replace hox10 := OwnE.le hox10 (base' := w.heap.size) (by have := BB6.size; first | omega | (simp; omega))
      replace Ox00 := Lib.hid (show OwnE w7 (w.heap.size) 104 (.slice ax00 ((d_aA).gs).length capx00) E3.cs 3 ((d_aA).gs) from OwnE.below Ox00.out hb7 rfl)
      replace c_paA0 := below_cell hb7 rfl c_paA0
      replace c_paA1 := below_cell hb7 rfl c_paA1
      replace c_paB0 := below_cell hb7 rfl c_paB0
      replace c_paB1 := below_cell hb7 rfl c_paB1
      replace c_x00 := below_cell hb7 rfl c_x00
      replace c_x01 := below_cell hb7 rfl c_x01
      have BB7 : Below w.heap.size w w7 := below_step (below_step BB6 BP6.out) hb7
      have ZZ7 : w6.heap.size + 1 ≤ w7.heap.size := by have := hb7.size; (try simp at this); omega
      clear BP6
      clear LT6_0 LT6_1
      have LT7_0 : w.heap.size < w7.heap.size := World.block_lt_of_cell? w7 _ c_paA0
      have LT7_1 : w.heap.size + 1 < w7.heap.size := World.block_lt_of_cell? w7 _ c_paB0
      have LT7_2 : w6.heap.size < w7.heap.size := World.block_lt_of_cell? w7 _ c_x00
      have Ox10 := Lib.hid (show OwnE w7 (w.heap.size) 104 (.slice ax10 ((d_aB).gs).length capx10) E3.cs 3 ((d_aB).gs) from hox10); clear hox10
      clear hb7 BB6
      go_wp2_with fail
      have BP7 := Lib.hid (show Below w7.heap.size w7 (w7.alloc (.cells #[.int .i64 ((d_aB).n), .slice ax10 ((d_aB).gs).length capx10] 30)) from (by repeat (first | exact Below.refl _ _ | assumption | refine Below.drew ?_ | refine below_drewN ?_ _ | refine Below.alloc ?_ (by first | omega | (simp <;> omega)) _ | refine Below.setCell ?_ (by first | omega | (simp <;> omega)) _ | refine Below.trans ?_ (Below.mono (by assumption) (by first | omega | (simp <;> omega))))))
      replace Ox00 := Lib.hid (show OwnE (w7.alloc (.cells #[.int .i64 ((d_aB).n), .slice ax10 ((d_aB).gs).length capx10] 30)) (w.heap.size) 104 (.slice ax00 ((d_aA).gs).length capx00) E3.cs 3 ((d_aA).gs) from OwnE.below Ox00.out BP7.out rfl)
      replace Ox10 := Lib.hid (show OwnE (w7.alloc (.cells #[.int .i64 ((d_aB).n), .slice ax10 ((d_aB).gs).length capx10] 30)) (w.heap.size) 104 (.slice ax10 ((d_aB).gs).length capx10) E3.cs 3 ((d_aB).gs) from OwnE.below Ox10.out BP7.out rfl)
      replace c_paA0 := cell_alloc_keep (.cells #[.int .i64 ((d_aB).n), .slice ax10 ((d_aB).gs).length capx10] 30) (c_paA0)
      replace c_paA1 := cell_alloc_keep (.cells #[.int .i64 ((d_aB).n), .slice ax10 ((d_aB).gs).length capx10] 30) (c_paA1)
      replace c_paB0 := cell_alloc_keep (.cells #[.int .i64 ((d_aB).n), .slice ax10 ((d_aB).gs).length capx10] 30) (c_paB0)
      replace c_paB1 := cell_alloc_keep (.cells #[.int .i64 ((d_aB).n), .slice ax10 ((d_aB).gs).length capx10] 30) (c_paB1)
      replace c_x00 := cell_alloc_keep (.cells #[.int .i64 ((d_aB).n), .slice ax10 ((d_aB).gs).length capx10] 30) (c_x00)
      replace c_x01 := cell_alloc_keep (.cells #[.int .i64 ((d_aB).n), .slice ax10 ((d_aB).gs).length capx10] 30) (c_x01)
      have c_x10 : (w7.alloc (.cells #[.int .i64 ((d_aB).n), .slice ax10 ((d_aB).gs).length capx10] 30)).cell? ⟨w7.heap.size, 0, none⟩ = some (.int .i64 ((d_aB).n)) := (by repeat (first | (refine Eq.trans (World.cell?_alloc_at _ _ _ _ ?hh) ?_; (case hh => (simp; done)); rfl) | refine cell_alloc_keep _ ?_))
      have c_x11 : (w7.alloc (.cells #[.int .i64 ((d_aB).n), .slice ax10 ((d_aB).gs).length capx10] 30)).cell? ⟨w7.heap.size, 1, none⟩ = some (.slice ax10 ((d_aB).gs).length capx10) := (by repeat (first | (refine Eq.trans (World.cell?_alloc_at _ _ _ _ ?hh) ?_; (case hh => (simp; done)); rfl) | refine cell_alloc_keep _ ?_))
      refine (impl_SameClifford_any _ _ d_aA d_aB _ (Ox00.out).rd (Ox10.out).rd LEN_aA0 LEN_aB0).mono ?_; rintro e w8 ⟨rfl, hb8⟩
      replace Ox00 := Lib.hid (show OwnE w8 (w.heap.size) 104 (.slice ax00 ((d_aA).gs).length capx00) E3.cs 3 ((d_aA).gs) from OwnE.below Ox00.out hb8 rfl)
      replace Ox10 := Lib.hid (show OwnE w8 (w.heap.size) 104 (.slice ax10 ((d_aB).gs).length capx10) E3.cs 3 ((d_aB).gs) from OwnE.below Ox10.out hb8 rfl)
      replace c_paA0 := below_cell hb8 rfl c_paA0
      replace c_paA1 := below_cell hb8 rfl c_paA1
      replace c_paB0 := below_cell hb8 rfl c_paB0
      replace c_paB1 := below_cell hb8 rfl c_paB1
      replace c_x00 := below_cell hb8 rfl c_x00
      replace c_x01 := below_cell hb8 rfl c_x01
      replace c_x10 := below_cell hb8 rfl c_x10
      replace c_x11 := below_cell hb8 rfl c_x11
      have BB8 : Below w.heap.size w w8 := below_step (below_step BB7 BP7.out) hb8
      have ZZ8 : w7.heap.size + 1 ≤ w8.heap.size := by have := hb8.size; (try simp at this); omega
      clear BP7
      clear LT7_0 LT7_1 LT7_2
      have LT8_0 : w.heap.size < w8.heap.size := World.block_lt_of_cell? w8 _ c_paA0
      have LT8_1 : w.heap.size + 1 < w8.heap.size := World.block_lt_of_cell? w8 _ c_paB0
      have LT8_2 : w6.heap.size < w8.heap.size := World.block_lt_of_cell? w8 _ c_x00
      have LT8_3 : w7.heap.size < w8.heap.size := World.block_lt_of_cell? w8 _ c_x10
      clear hb8 BB7
      go_wp2_with fail
      go_region_held3 (fun w' => w'.cell? ⟨w.heap.size, 0, none⟩ = some (.int .i64 ((d_aA).n)) ∧ w'.cell? ⟨w.heap.size, 1, none⟩ = some (.slice a_aA0 ((d_aA).gs).length cap_aA0) ∧ w'.cell? ⟨w6.heap.size, 0, none⟩ = some (.int .i64 ((d_aA).n)) ∧ w'.cell? ⟨w6.heap.size, 1, none⟩ = some (.slice ax00 ((d_aA).gs).length capx00)) (first | go_keep | (go_split_ands; refine ⟨?_, ?_, ?_, ?_⟩ <;> first | assumption | (refine cell_alloc_keep _ ?_; assumption) | (simp [*]; done))) (first | (go_at_call 10; go_must ((have BP8 := Lib.hid (show Below w8.heap.size w8 (w8.drew) from (by repeat (first | exact Below.refl _ _ | assumption | refine Below.drew ?_ | refine below_drewN ?_ _ | refine Below.alloc ?_ (by first | omega | (simp <;> omega)) _ | refine Below.setCell ?_ (by first | omega | (simp <;> omega)) _ | refine Below.trans ?_ (Below.mono (by assumption) (by first | omega | (simp <;> omega))))))); (replace Ox00 := Lib.hid (show OwnE (w8.drew) (w.heap.size) 104 (.slice ax00 ((d_aA).gs).length capx00) E3.cs 3 ((d_aA).gs) from OwnE.below Ox00.out BP8.out rfl)); (replace Ox10 := Lib.hid (show OwnE (w8.drew) (w.heap.size) 104 (.slice ax10 ((d_aB).gs).length capx10) E3.cs 3 ((d_aB).gs) from OwnE.below Ox10.out BP8.out rfl)); (replace c_paA0 : (w8.drew).cell? ⟨w.heap.size, 0, none⟩ = some (.int .i64 ((d_aA).n)) := c_paA0); (replace c_paA1 : (w8.drew).cell? ⟨w.heap.size, 1, none⟩ = some (.slice a_aA0 ((d_aA).gs).length cap_aA0) := c_paA1); (replace c_paB0 : (w8.drew).cell? ⟨w.heap.size + 1, 0, none⟩ = some (.int .i64 ((d_aB).n)) := c_paB0); (replace c_paB1 : (w8.drew).cell? ⟨w.heap.size + 1, 1, none⟩ = some (.slice a_aB0 ((d_aB).gs).length cap_aB0) := c_paB1); (replace c_x00 : (w8.drew).cell? ⟨w6.heap.size, 0, none⟩ = some (.int .i64 ((d_aA).n)) := c_x00); (replace c_x01 : (w8.drew).cell? ⟨w6.heap.size, 1, none⟩ = some (.slice ax00 ((d_aA).gs).length capx00) := c_x01); (replace c_x10 : (w8.drew).cell? ⟨w7.heap.size, 0, none⟩ = some (.int .i64 ((d_aB).n)) := c_x10); (replace c_x11 : (w8.drew).cell? ⟨w7.heap.size, 1, none⟩ = some (.slice ax10 ((d_aB).gs).length capx10) := c_x11); (refine (laws_toCircuit_any d_aA _ _ (Rd.below HA_aA0.out (below_step BB8 BP8.out) rfl) LEN_aA0).mono ?_; rintro e w9 ⟨vt30, rfl, hot30, hb9⟩); (obtain ⟨at30, capt30, rfl⟩ := hot30.forms); (have LL_t30 := Lib.hid (show ∀ g, (Value.slice at30 ((d_aA).gs).length capt30).ownBlock = some g → w8.heap.size ≤ g ∧ g < w9.heap.size from fun g hg => by have := hot30.lt g hg; (try simp at this); omega)); (replace hot30 := OwnE.le hot30 (base' := w.heap.size) (by have := BB8.size; first | omega | (simp; omega))); (replace Ox00 := Lib.hid (show OwnE w9 (w.heap.size) 104 (.slice ax00 ((d_aA).gs).length capx00) E3.cs 3 ((d_aA).gs) from OwnE.below Ox00.out hb9 rfl)); (replace Ox10 := Lib.hid (show OwnE w9 (w.heap.size) 104 (.slice ax10 ((d_aB).gs).length capx10) E3.cs 3 ((d_aB).gs) from OwnE.below Ox10.out hb9 rfl)); (replace c_paA0 := below_cell hb9 rfl c_paA0); (replace c_paA1 := below_cell hb9 rfl c_paA1); (replace c_paB0 := below_cell hb9 rfl c_paB0); (replace c_paB1 := below_cell hb9 rfl c_paB1); (replace c_x00 := below_cell hb9 rfl c_x00); (replace c_x01 := below_cell hb9 rfl c_x01); (replace c_x10 := below_cell hb9 rfl c_x10); (replace c_x11 := below_cell hb9 rfl c_x11); (have BB9 : Below w.heap.size w w9 := below_step (below_step BB8 BP8.out) hb9); (have ZZ9 : w8.heap.size ≤ w9.heap.size := by have := hb9.size; (try simp at this); omega); (clear BP8); (clear LT8_0 LT8_1 LT8_2 LT8_3); (have LT9_0 : w.heap.size < w9.heap.size := World.block_lt_of_cell? w9 _ c_paA0); (have LT9_1 : w.heap.size + 1 < w9.heap.size := World.block_lt_of_cell? w9 _ c_paB0); (have LT9_2 : w6.heap.size < w9.heap.size := World.block_lt_of_cell? w9 _ c_x00); (have LT9_3 : w7.heap.size < w9.heap.size := World.block_lt_of_cell? w9 _ c_x10); (have Ot30 := Lib.hid (show OwnE w9 (w.heap.size) 104 (.slice at30 ((d_aA).gs).length capt30) E3.cs 3 ((d_aA).gs) from hot30); clear hot30); (clear hb9 BB8))) | (go_at_call 12; go_must ((refine (laws_eqCircuit_same d_aA _ _ _ (Ox00.out).rd (Ot30.out).rd).mono ?_; rintro e w10 ⟨rfl, hb10⟩); (replace Ox00 := Lib.hid (show OwnE w10 (w.heap.size) 104 (.slice ax00 ((d_aA).gs).length capx00) E3.cs 3 ((d_aA).gs) from OwnE.below Ox00.out hb10 rfl)); (replace Ox10 := Lib.hid (show OwnE w10 (w.heap.size) 104 (.slice ax10 ((d_aB).gs).length capx10) E3.cs 3 ((d_aB).gs) from OwnE.below Ox10.out hb10 rfl)); (replace Ot30 := Lib.hid (show OwnE w10 (w.heap.size) 104 (.slice at30 ((d_aA).gs).length capt30) E3.cs 3 ((d_aA).gs) from OwnE.below Ot30.out hb10 rfl)); (replace c_paA0 := below_cell hb10 rfl c_paA0); (replace c_paA1 := below_cell hb10 rfl c_paA1); (replace c_paB0 := below_cell hb10 rfl c_paB0); (replace c_paB1 := below_cell hb10 rfl c_paB1); (replace c_x00 := below_cell hb10 rfl c_x00); (replace c_x01 := below_cell hb10 rfl c_x01); (replace c_x10 := below_cell hb10 rfl c_x10); (replace c_x11 := below_cell hb10 rfl c_x11); (have BB10 : Below w.heap.size w w10 := below_step BB9 hb10); (have ZZ10 : w9.heap.size ≤ w10.heap.size := by have := hb10.size; (try simp at this); omega); (clear LT9_0 LT9_1 LT9_2 LT9_3); (have LT10_0 : w.heap.size < w10.heap.size := World.block_lt_of_cell? w10 _ c_paA0); (have LT10_1 : w.heap.size + 1 < w10.heap.size := World.block_lt_of_cell? w10 _ c_paB0); (have LT10_2 : w6.heap.size < w10.heap.size := World.block_lt_of_cell? w10 _ c_x00); (have LT10_3 : w7.heap.size < w10.heap.size := World.block_lt_of_cell? w10 _ c_x10); (clear hb10 BB9))))
      clear Ot30 LL_t30
      go_wp2_with fail
      go_region_held3 (fun w' => w'.cell? ⟨w.heap.size + 1, 0, none⟩ = some (.int .i64 ((d_aB).n)) ∧ w'.cell? ⟨w.heap.size + 1, 1, none⟩ = some (.slice a_aB0 ((d_aB).gs).length cap_aB0) ∧ w'.cell? ⟨w7.heap.size, 0, none⟩ = some (.int .i64 ((d_aB).n)) ∧ w'.cell? ⟨w7.heap.size, 1, none⟩ = some (.slice ax10 ((d_aB).gs).length capx10)) (first | go_keep | (go_split_ands; refine ⟨?_, ?_, ?_, ?_⟩ <;> first | assumption | (refine cell_alloc_keep _ ?_; assumption) | (simp [*]; done))) (first | (go_at_call 10; go_must ((have BP10 := Lib.hid (show Below w10.heap.size w10 (w10.drew) from (by repeat (first | exact Below.refl _ _ | assumption | refine Below.drew ?_ | refine below_drewN ?_ _ | refine Below.alloc ?_ (by first | omega | (simp <;> omega)) _ | refine Below.setCell ?_ (by first | omega | (simp <;> omega)) _ | refine Below.trans ?_ (Below.mono (by assumption) (by first | omega | (simp <;> omega))))))); (replace Ox00 := Lib.hid (show OwnE (w10.drew) (w.heap.size) 104 (.slice ax00 ((d_aA).gs).length capx00) E3.cs 3 ((d_aA).gs) from OwnE.below Ox00.out BP10.out rfl)); (replace Ox10 := Lib.hid (show OwnE (w10.drew) (w.heap.size) 104 (.slice ax10 ((d_aB).gs).length capx10) E3.cs 3 ((d_aB).gs) from OwnE.below Ox10.out BP10.out rfl)); (replace c_paA0 : (w10.drew).cell? ⟨w.heap.size, 0, none⟩ = some (.int .i64 ((d_aA).n)) := c_paA0); (replace c_paA1 : (w10.drew).cell? ⟨w.heap.size, 1, none⟩ = some (.slice a_aA0 ((d_aA).gs).length cap_aA0) := c_paA1); (replace c_paB0 : (w10.drew).cell? ⟨w.heap.size + 1, 0, none⟩ = some (.int .i64 ((d_aB).n)) := c_paB0); (replace c_paB1 : (w10.drew).cell? ⟨w.heap.size + 1, 1, none⟩ = some (.slice a_aB0 ((d_aB).gs).length cap_aB0) := c_paB1); (replace c_x00 : (w10.drew).cell? ⟨w6.heap.size, 0, none⟩ = some (.int .i64 ((d_aA).n)) := c_x00); (replace c_x01 : (w10.drew).cell? ⟨w6.heap.size, 1, none⟩ = some (.slice ax00 ((d_aA).gs).length capx00) := c_x01); (replace c_x10 : (w10.drew).cell? ⟨w7.heap.size, 0, none⟩ = some (.int .i64 ((d_aB).n)) := c_x10); (replace c_x11 : (w10.drew).cell? ⟨w7.heap.size, 1, none⟩ = some (.slice ax10 ((d_aB).gs).length capx10) := c_x11); (refine (laws_toCircuit_any d_aB _ _ (Rd.below HA_aB0.out (below_step BB10 BP10.out) rfl) LEN_aB0).mono ?_; rintro e w11 ⟨vt40, rfl, hot40, hb11⟩); (obtain ⟨at40, capt40, rfl⟩ := hot40.forms); (have LL_t40 := Lib.hid (show ∀ g, (Value.slice at40 ((d_aB).gs).length capt40).ownBlock = some g → w10.heap.size ≤ g ∧ g < w11.heap.size from fun g hg => by have := hot40.lt g hg; (try simp at this); omega)); (replace hot40 := OwnE.le hot40 (base' := w.heap.size) (by have := BB10.size; first | omega | (simp; omega))); (replace Ox00 := Lib.hid (show OwnE w11 (w.heap.size) 104 (.slice ax00 ((d_aA).gs).length capx00) E3.cs 3 ((d_aA).gs) from OwnE.below Ox00.out hb11 rfl)); (replace Ox10 := Lib.hid (show OwnE w11 (w.heap.size) 104 (.slice ax10 ((d_aB).gs).length capx10) E3.cs 3 ((d_aB).gs) from OwnE.below Ox10.out hb11 rfl)); (replace c_paA0 := below_cell hb11 rfl c_paA0); (replace c_paA1 := below_cell hb11 rfl c_paA1); (replace c_paB0 := below_cell hb11 rfl c_paB0); (replace c_paB1 := below_cell hb11 rfl c_paB1); (replace c_x00 := below_cell hb11 rfl c_x00); (replace c_x01 := below_cell hb11 rfl c_x01); (replace c_x10 := below_cell hb11 rfl c_x10); (replace c_x11 := below_cell hb11 rfl c_x11); (have BB11 : Below w.heap.size w w11 := below_step (below_step BB10 BP10.out) hb11); (have ZZ11 : w10.heap.size ≤ w11.heap.size := by have := hb11.size; (try simp at this); omega); (clear BP10); (clear LT10_0 LT10_1 LT10_2 LT10_3); (have LT11_0 : w.heap.size < w11.heap.size := World.block_lt_of_cell? w11 _ c_paA0); (have LT11_1 : w.heap.size + 1 < w11.heap.size := World.block_lt_of_cell? w11 _ c_paB0); (have LT11_2 : w6.heap.size < w11.heap.size := World.block_lt_of_cell? w11 _ c_x00); (have LT11_3 : w7.heap.size < w11.heap.size := World.block_lt_of_cell? w11 _ c_x10); (have Ot40 := Lib.hid (show OwnE w11 (w.heap.size) 104 (.slice at40 ((d_aB).gs).length capt40) E3.cs 3 ((d_aB).gs) from hot40); clear hot40); (clear hb11 BB10))) | (go_at_call 12; go_must ((refine (laws_eqCircuit_same d_aB _ _ _ (Ox10.out).rd (Ot40.out).rd).mono ?_; rintro e w12 ⟨rfl, hb12⟩); (replace Ox00 := Lib.hid (show OwnE w12 (w.heap.size) 104 (.slice ax00 ((d_aA).gs).length capx00) E3.cs 3 ((d_aA).gs) from OwnE.below Ox00.out hb12 rfl)); (replace Ox10 := Lib.hid (show OwnE w12 (w.heap.size) 104 (.slice ax10 ((d_aB).gs).length capx10) E3.cs 3 ((d_aB).gs) from OwnE.below Ox10.out hb12 rfl)); (replace Ot40 := Lib.hid (show OwnE w12 (w.heap.size) 104 (.slice at40 ((d_aB).gs).length capt40) E3.cs 3 ((d_aB).gs) from OwnE.below Ot40.out hb12 rfl)); (replace c_paA0 := below_cell hb12 rfl c_paA0); (replace c_paA1 := below_cell hb12 rfl c_paA1); (replace c_paB0 := below_cell hb12 rfl c_paB0); (replace c_paB1 := below_cell hb12 rfl c_paB1); (replace c_x00 := below_cell hb12 rfl c_x00); (replace c_x01 := below_cell hb12 rfl c_x01); (replace c_x10 := below_cell hb12 rfl c_x10); (replace c_x11 := below_cell hb12 rfl c_x11); (have BB12 : Below w.heap.size w w12 := below_step BB11 hb12); (have ZZ12 : w11.heap.size ≤ w12.heap.size := by have := hb12.size; (try simp at this); omega); (clear LT11_0 LT11_1 LT11_2 LT11_3); (have LT12_0 : w.heap.size < w12.heap.size := World.block_lt_of_cell? w12 _ c_paA0); (have LT12_1 : w.heap.size + 1 < w12.heap.size := World.block_lt_of_cell? w12 _ c_paB0); (have LT12_2 : w6.heap.size < w12.heap.size := World.block_lt_of_cell? w12 _ c_x00); (have LT12_3 : w7.heap.size < w12.heap.size := World.block_lt_of_cell? w12 _ c_x10); (clear hb12 BB11))))
      clear Ot40 LL_t40
      go_wp2_with fail
      go_ret
      exact ⟨rfl, BB12⟩
    · skip
      have BB0 := Below.refl w.heap.size w
      go_enter Try.func3, Try.ntmps3
      go_wp2_with fail
      have BP0 := Lib.hid (show Below w.heap.size w ((w.alloc (.cells #[.int .i64 ((d_aA).n), .slice a_aA0 ((d_aA).gs).length cap_aA0] 24)).alloc (.cells #[.int .i64 ((d_aB).n), .slice a_aB0 ((d_aB).gs).length cap_aB0] 24)) from (by repeat (first | exact Below.refl _ _ | assumption | refine Below.drew ?_ | refine below_drewN ?_ _ | refine Below.alloc ?_ (by first | omega | (simp <;> omega)) _ | refine Below.setCell ?_ (by first | omega | (simp <;> omega)) _ | refine Below.trans ?_ (Below.mono (by assumption) (by first | omega | (simp <;> omega))))))
      have c_paA0 : ((w.alloc (.cells #[.int .i64 ((d_aA).n), .slice a_aA0 ((d_aA).gs).length cap_aA0] 24)).alloc (.cells #[.int .i64 ((d_aB).n), .slice a_aB0 ((d_aB).gs).length cap_aB0] 24)).cell? ⟨w.heap.size, 0, none⟩ = some (.int .i64 ((d_aA).n)) := (by repeat (first | (refine Eq.trans (World.cell?_alloc_at _ _ _ _ ?hh) ?_; (case hh => (simp; done)); rfl) | refine cell_alloc_keep _ ?_))
      have c_paA1 : ((w.alloc (.cells #[.int .i64 ((d_aA).n), .slice a_aA0 ((d_aA).gs).length cap_aA0] 24)).alloc (.cells #[.int .i64 ((d_aB).n), .slice a_aB0 ((d_aB).gs).length cap_aB0] 24)).cell? ⟨w.heap.size, 1, none⟩ = some (.slice a_aA0 ((d_aA).gs).length cap_aA0) := (by repeat (first | (refine Eq.trans (World.cell?_alloc_at _ _ _ _ ?hh) ?_; (case hh => (simp; done)); rfl) | refine cell_alloc_keep _ ?_))
      have c_paB0 : ((w.alloc (.cells #[.int .i64 ((d_aA).n), .slice a_aA0 ((d_aA).gs).length cap_aA0] 24)).alloc (.cells #[.int .i64 ((d_aB).n), .slice a_aB0 ((d_aB).gs).length cap_aB0] 24)).cell? ⟨w.heap.size + 1, 0, none⟩ = some (.int .i64 ((d_aB).n)) := (by repeat (first | (refine Eq.trans (World.cell?_alloc_at _ _ _ _ ?hh) ?_; (case hh => (simp; done)); rfl) | refine cell_alloc_keep _ ?_))
      have c_paB1 : ((w.alloc (.cells #[.int .i64 ((d_aA).n), .slice a_aA0 ((d_aA).gs).length cap_aA0] 24)).alloc (.cells #[.int .i64 ((d_aB).n), .slice a_aB0 ((d_aB).gs).length cap_aB0] 24)).cell? ⟨w.heap.size + 1, 1, none⟩ = some (.slice a_aB0 ((d_aB).gs).length cap_aB0) := (by repeat (first | (refine Eq.trans (World.cell?_alloc_at _ _ _ _ ?hh) ?_; (case hh => (simp; done)); rfl) | refine cell_alloc_keep _ ?_))
      refine (laws_szCircuit_ok d_aA _ _ _ (Rd.below HA_aA0.out (below_step BB0 BP0.out) rfl) (by omega) (by omega)).mono ?_; rintro e w1 ⟨rfl, hb1⟩
      replace c_paA0 := below_cell hb1 rfl c_paA0
      replace c_paA1 := below_cell hb1 rfl c_paA1
      replace c_paB0 := below_cell hb1 rfl c_paB0
      replace c_paB1 := below_cell hb1 rfl c_paB1
      have BB1 : Below w.heap.size w w1 := below_step (below_step BB0 BP0.out) hb1
      have ZZ1 : w.heap.size + 2 ≤ w1.heap.size := by have := hb1.size; (try simp at this); omega
      clear BP0
      have LT1_0 : w.heap.size < w1.heap.size := World.block_lt_of_cell? w1 _ c_paA0
      have LT1_1 : w.heap.size + 1 < w1.heap.size := World.block_lt_of_cell? w1 _ c_paB0
      clear hb1 BB0
      go_wp2_with fail
      refine (laws_szCircuit_no d_aB _ _ _ (Rd.below HA_aB0.out BB1 rfl) (by omega) (by omega) (by omega)).mono ?_; rintro e w2 ⟨rfl, hb2⟩
      replace c_paA0 := below_cell hb2 rfl c_paA0
      replace c_paA1 := below_cell hb2 rfl c_paA1
      replace c_paB0 := below_cell hb2 rfl c_paB0
      replace c_paB1 := below_cell hb2 rfl c_paB1
      have BB2 : Below w.heap.size w w2 := below_step BB1 hb2
      have ZZ2 : w1.heap.size ≤ w2.heap.size := by have := hb2.size; (try simp at this); omega
      clear LT1_0 LT1_1
      have LT2_0 : w.heap.size < w2.heap.size := World.block_lt_of_cell? w2 _ c_paA0
      have LT2_1 : w.heap.size + 1 < w2.heap.size := World.block_lt_of_cell? w2 _ c_paB0
      clear hb2 BB1
      go_wp2_with fail
      go_ret
      exact ⟨rfl, BB2⟩
  · skip
    have BB0 := Below.refl w.heap.size w
    go_enter Try.func3, Try.ntmps3
    go_wp2_with fail
    have BP0 := Lib.hid (show Below w.heap.size w ((w.alloc (.cells #[.int .i64 ((d_aA).n), .slice a_aA0 ((d_aA).gs).length cap_aA0] 24)).alloc (.cells #[.int .i64 ((d_aB).n), .slice a_aB0 ((d_aB).gs).length cap_aB0] 24)) from (by repeat (first | exact Below.refl _ _ | assumption | refine Below.drew ?_ | refine below_drewN ?_ _ | refine Below.alloc ?_ (by first | omega | (simp <;> omega)) _ | refine Below.setCell ?_ (by first | omega | (simp <;> omega)) _ | refine Below.trans ?_ (Below.mono (by assumption) (by first | omega | (simp <;> omega))))))
    have c_paA0 : ((w.alloc (.cells #[.int .i64 ((d_aA).n), .slice a_aA0 ((d_aA).gs).length cap_aA0] 24)).alloc (.cells #[.int .i64 ((d_aB).n), .slice a_aB0 ((d_aB).gs).length cap_aB0] 24)).cell? ⟨w.heap.size, 0, none⟩ = some (.int .i64 ((d_aA).n)) := (by repeat (first | (refine Eq.trans (World.cell?_alloc_at _ _ _ _ ?hh) ?_; (case hh => (simp; done)); rfl) | refine cell_alloc_keep _ ?_))
    have c_paA1 : ((w.alloc (.cells #[.int .i64 ((d_aA).n), .slice a_aA0 ((d_aA).gs).length cap_aA0] 24)).alloc (.cells #[.int .i64 ((d_aB).n), .slice a_aB0 ((d_aB).gs).length cap_aB0] 24)).cell? ⟨w.heap.size, 1, none⟩ = some (.slice a_aA0 ((d_aA).gs).length cap_aA0) := (by repeat (first | (refine Eq.trans (World.cell?_alloc_at _ _ _ _ ?hh) ?_; (case hh => (simp; done)); rfl) | refine cell_alloc_keep _ ?_))
    have c_paB0 : ((w.alloc (.cells #[.int .i64 ((d_aA).n), .slice a_aA0 ((d_aA).gs).length cap_aA0] 24)).alloc (.cells #[.int .i64 ((d_aB).n), .slice a_aB0 ((d_aB).gs).length cap_aB0] 24)).cell? ⟨w.heap.size + 1, 0, none⟩ = some (.int .i64 ((d_aB).n)) := (by repeat (first | (refine Eq.trans (World.cell?_alloc_at _ _ _ _ ?hh) ?_; (case hh => (simp; done)); rfl) | refine cell_alloc_keep _ ?_))
    have c_paB1 : ((w.alloc (.cells #[.int .i64 ((d_aA).n), .slice a_aA0 ((d_aA).gs).length cap_aA0] 24)).alloc (.cells #[.int .i64 ((d_aB).n), .slice a_aB0 ((d_aB).gs).length cap_aB0] 24)).cell? ⟨w.heap.size + 1, 1, none⟩ = some (.slice a_aB0 ((d_aB).gs).length cap_aB0) := (by repeat (first | (refine Eq.trans (World.cell?_alloc_at _ _ _ _ ?hh) ?_; (case hh => (simp; done)); rfl) | refine cell_alloc_keep _ ?_))
    refine (laws_szCircuit_no d_aA _ _ _ (Rd.below HA_aA0.out (below_step BB0 BP0.out) rfl) (by omega) (by omega) (by omega)).mono ?_; rintro e w1 ⟨rfl, hb1⟩
    replace c_paA0 := below_cell hb1 rfl c_paA0
    replace c_paA1 := below_cell hb1 rfl c_paA1
    replace c_paB0 := below_cell hb1 rfl c_paB0
    replace c_paB1 := below_cell hb1 rfl c_paB1
    have BB1 : Below w.heap.size w w1 := below_step (below_step BB0 BP0.out) hb1
    have ZZ1 : w.heap.size + 2 ≤ w1.heap.size := by have := hb1.size; (try simp at this); omega
    clear BP0
    have LT1_0 : w.heap.size < w1.heap.size := World.block_lt_of_cell? w1 _ c_paA0
    have LT1_1 : w.heap.size + 1 < w1.heap.size := World.block_lt_of_cell? w1 _ c_paB0
    clear hb1 BB0
    go_wp2_with fail
    go_ret
    exact ⟨rfl, BB1⟩
end Go.Proofs.Ytdkfoleippncnaa
