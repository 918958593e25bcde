/- ParseForm: the reference, where there are not three words. -/
import Derived.Test.YtindldkileidmaaDoorPf4
import Derived.BigRegion
namespace Go.Proofs.YtindldkileidmaaDoor
set_option linter.unusedSimpArgs false
set_option linter.unusedVariables false
set_option linter.unnecessarySimpa false
set_option maxRecDepth 200000
open Go.ChangeShapes Go.WideShapes Go.ChangeAt Go.RowKit

set_option maxHeartbeats 4000000 in
theorem spec_ParseForm_few (s : ByteArray) (w : World) (hs : s.size ≤ 1048576) (hw : (cutW 32 s.data.toList).length ≠ 3) :
    Calls Tryd.prog 10 #[.string s] w fun e w' => e = .returned (.tuple #[.agg #[.string ⟨#[]⟩, .int .i64 0, .int .i64 0], .bool false]) ∧ Below w.heap.size w w' := by
  go_enter Tryd.func10, Tryd.ntmps10
  go_wp2_with fail
  refine (spec_l1Split_any s 32 _ hs).mono ?_; rintro e w1 ⟨v, ws, rfl, ho, hww, hb1⟩
  have hl : ws.length ≠ 3 := by
    have := congrArg List.length hww
    rw [List.length_map] at this
    omega
  clear hww hw
  obtain ⟨aU, cU, rfl⟩ : ∃ a c, v = .slice a ws.length c := own_fm1 ho
  obtain ⟨n, hn⟩ : ∃ n, n = ws.length := ⟨_, rfl⟩
  rw [← hn] at hl ⊢
  clear ho hn
  have i1 : ((n : Int) != 3) = true := by simp; omega
  have x0 := bel_pf hb1 (show (w.alloc (.cells #[.string ⟨#[]⟩, .int .i64 0, .int .i64 0] 29)).cell? ⟨w.heap.size, 0, none⟩ = some (.string ⟨#[]⟩) from (by repeat (first | (refine Eq.trans (World.cell?_alloc_at _ _ _ _ ?hh) ?_; (case hh => (simp; done)); rfl) | refine cell_alloc_keep _ ?_)))
  have x1 := bel_pf hb1 (show (w.alloc (.cells #[.string ⟨#[]⟩, .int .i64 0, .int .i64 0] 29)).cell? ⟨w.heap.size, 1, none⟩ = some (.int .i64 0) from (by repeat (first | (refine Eq.trans (World.cell?_alloc_at _ _ _ _ ?hh) ?_; (case hh => (simp; done)); rfl) | refine cell_alloc_keep _ ?_)))
  have x2 := bel_pf hb1 (show (w.alloc (.cells #[.string ⟨#[]⟩, .int .i64 0, .int .i64 0] 29)).cell? ⟨w.heap.size, 2, none⟩ = some (.int .i64 0) from (by repeat (first | (refine Eq.trans (World.cell?_alloc_at _ _ _ _ ?hh) ?_; (case hh => (simp; done)); rfl) | refine cell_alloc_keep _ ?_)))
  have f0 := below_frz hb1 rfl (by simp) (show (w.alloc (.cells #[.string ⟨#[]⟩, .int .i64 0, .int .i64 0] 29)).frozen? ⟨w.heap.size, 0, none⟩ = false from (by repeat (first | (refine World.frozen?_alloc_at _ _ _ _ ?hh; case hh => (simp; done)) | (refine frozen_alloc_lt _ ?hh ?_; case hh => first | omega | (simp <;> omega)))))
  have f1 := below_frz hb1 rfl (by simp) (show (w.alloc (.cells #[.string ⟨#[]⟩, .int .i64 0, .int .i64 0] 29)).frozen? ⟨w.heap.size, 1, none⟩ = false from (by repeat (first | (refine World.frozen?_alloc_at _ _ _ _ ?hh; case hh => (simp; done)) | (refine frozen_alloc_lt _ ?hh ?_; case hh => first | omega | (simp <;> omega)))))
  have f2 := below_frz hb1 rfl (by simp) (show (w.alloc (.cells #[.string ⟨#[]⟩, .int .i64 0, .int .i64 0] 29)).frozen? ⟨w.heap.size, 2, none⟩ = false from (by repeat (first | (refine World.frozen?_alloc_at _ _ _ _ ?hh; case hh => (simp; done)) | (refine frozen_alloc_lt _ ?hh ?_; case hh => first | omega | (simp <;> omega)))))
  have B1 := Lib.hid (show Below w.heap.size w w1 from Below.trans (show Below w.heap.size w (w.alloc (.cells #[.string ⟨#[]⟩, .int .i64 0, .int .i64 0] 29)) from (by repeat (first | exact Below.refl _ _ | assumption | refine Below.drew ?_ | refine below_drewN ?_ _ | refine Below.alloc ?_ (by first | omega | (simp <;> omega)) _ | refine Below.setCell ?_ (by first | omega | (simp <;> omega)) _ | refine Below.trans ?_ (Below.mono (by assumption) (by first | omega | (simp <;> omega)))))) (hb1.mono (by simp)))
  have z1 := hb1.size
  simp at z1
  clear hb1 hl
  have hr0 : (((w1.setCell ⟨w.heap.size, 0, none⟩ (.string ⟨#[]⟩)).setCell ⟨w.heap.size, 1, none⟩ (.int .i64 0)).setCell ⟨w.heap.size, 2, none⟩ (.int .i64 0)).cell? ⟨w.heap.size, 0, none⟩ = some (.string ⟨#[]⟩) := cell_set_oth (cell_set_oth (World.cell?_setCell_same _ _ _ x0) (by decide)) (by decide)
  have hr1 : (((w1.setCell ⟨w.heap.size, 0, none⟩ (.string ⟨#[]⟩)).setCell ⟨w.heap.size, 1, none⟩ (.int .i64 0)).setCell ⟨w.heap.size, 2, none⟩ (.int .i64 0)).cell? ⟨w.heap.size, 1, none⟩ = some (.int .i64 0) := cell_set_oth (World.cell?_setCell_same _ _ _ (cell_set_oth x1 (by decide))) (by decide)
  have hr2 : (((w1.setCell ⟨w.heap.size, 0, none⟩ (.string ⟨#[]⟩)).setCell ⟨w.heap.size, 1, none⟩ (.int .i64 0)).setCell ⟨w.heap.size, 2, none⟩ (.int .i64 0)).cell? ⟨w.heap.size, 2, none⟩ = some (.int .i64 0) := World.cell?_setCell_same _ _ _ (cell_set_oth (cell_set_oth x2 (by decide)) (by decide))
  have bq := B1.out
  go_wp2_with fail
  exact bodyPost_ret (v := .tuple #[.agg #[.string ⟨#[]⟩, .int .i64 0, .int .i64 0], .bool false]) (by simp [results, Tryd.results10, go_sem, hr0, hr1, hr2]) rfl ⟨rfl, (by repeat (first | exact Below.refl _ _ | assumption | refine Below.drew ?_ | refine below_drewN ?_ _ | refine Below.alloc ?_ (by first | omega | (simp <;> omega)) _ | refine Below.setCell ?_ (by first | omega | (simp <;> omega)) _ | refine Below.trans ?_ (Below.mono (by assumption) (by first | omega | (simp <;> omega)))))⟩
end Go.Proofs.YtindldkileidmaaDoor
