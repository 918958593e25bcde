/- The gates of a rotation, in the program and in the reference: the same for each coefficient. -/
import Derived.Test.YtdkfoleippncnaaElGate
import Derived.Deep.DeepMust
namespace Go.Proofs.Ytdkfoleippncnaa
set_option linter.unusedSimpArgs false
set_option linter.unusedVariables false
set_option linter.unnecessarySimpa false
set_option maxRecDepth 200000
open Go.ChangeShapes Go.WideShapes Go.ChangeAt Go.RowKit

theorem info_gate : (Try.prog.info? 104).map (fun i => (i.zero, i.size, i.bytes)) = some (some (.agg #[.int .i64 0, .int .i64 0, .int .i64 0]), 3, 24) := by kernel_rfl
def rotKinds (c : Int) : List Int := if c = 1 then [7] else if c = 2 then [5] else if c = 3 then [5, 7] else if c = 4 then [4] else if c = 5 then [4, 7] else if c = 6 then [6] else if c = 7 then [8] else []
def rotF (q c : Int) : List E3 := (rotKinds c).map fun k => ⟨k, q, 0⟩

theorem spec_l13Rotation_0 (q : Int) (w : World) :
    Calls Try.prog 99 #[.int .i64 q, .int .i64 0] w fun e w' => ∃ v, e = .returned v ∧ OwnE w' w.heap.size 104 v E3.cs 3 ([] : List E3) ∧ Below w.heap.size w w' := by
  obtain ⟨i0, hi, hz0, hz1, hz2⟩ := info_parts info_gate
  go_enter Try.func99, Try.ntmps99
  go_wp2_with fail
  refine wp_loop_rounds 1 ?_
  rw [rounds_succ]
  go_wp2_with fail
  go_ret
  exact ⟨_, rfl, OwnE.nil _ _ _, (by repeat (first | exact Below.refl _ _ | assumption | refine Below.drew ?_ | refine below_drewN ?_ _ | refine Below.alloc ?_ (by first | omega | (simp <;> omega)) _ | refine Below.setCell ?_ (by first | omega | (simp <;> omega)) _ | refine Below.trans ?_ (Below.mono (by assumption) (by first | omega | (simp <;> omega)))))⟩

theorem spec_l13Rotation_1 (q : Int) (w : World) :
    Calls Try.prog 99 #[.int .i64 q, .int .i64 1] w fun e w' => ∃ v, e = .returned v ∧ OwnE w' w.heap.size 104 v E3.cs 3 [⟨7, q, 0⟩] ∧ Below w.heap.size w w' := by
  obtain ⟨i0, hi, hz0, hz1, hz2⟩ := info_parts info_gate
  go_enter Try.func99, Try.ntmps99
  go_wp2_with fail
  go_loopw [5, 20] (fun v i wr => ((i = .int .i64 0 ∧ Hid (OwnE wr (w.heap.size + 7) 104 v E3.cs 3 ([] : List E3))) ∨ (i = .int .i64 1 ∧ Hid (OwnE wr (w.heap.size + 7) 104 v E3.cs 3 [⟨7, q, 0⟩]))) ∧ wr.cell? ⟨w.heap.size, 0, none⟩ = some (.int .i64 7) ∧ wr.frozen? ⟨w.heap.size, 0, none⟩ = false ∧ Below w.heap.size w wr ∧ w.heap.size + 8 ≤ wr.heap.size) (fun _ i _ => 1 - (intOf i).toNat)
  case atStart => exact ⟨.inl ⟨rfl, World.ownsRow_nil _ _ _ _⟩, (by repeat (first | (refine Eq.trans (World.cell?_alloc_at _ _ _ _ ?hh) ?_; (case hh => (simp; done)); rfl) | refine cell_alloc_keep _ ?_)), (by repeat (first | (refine World.frozen?_alloc_at _ _ _ _ ?hh; case hh => (simp; done)) | (refine frozen_alloc_lt _ ?hh ?_; case hh => first | omega | (simp <;> omega)))), (by repeat (first | exact Below.refl _ _ | assumption | refine Below.drew ?_ | refine below_drewN ?_ _ | refine Below.alloc ?_ (by first | omega | (simp <;> omega)) _ | refine Below.setCell ?_ (by first | omega | (simp <;> omega)) _ | refine Below.trans ?_ (Below.mono (by assumption) (by first | omega | (simp <;> omega))))), by simp⟩
  case round =>
    obtain ⟨hown, c0, f0, hbel, hsz⟩ := hrel
    rcases hown with ⟨rfl, hown⟩ | ⟨rfl, hown⟩
    · go_wp2_with (at_builtin; go_must (refine wpList_append_some _ rfl _ _ 28 rfl (w.heap.size + 7) 104 i0 (.agg #[.int .i64 0, .int .i64 0, .int .i64 0]) 3 24 Try.underlying28 hi hz0 hz1 hz2 rfl (by decide) _ 0 _ rfl (hown.out.alloc _) ⟨wr.heap.size, 0, none⟩ 1 1 [.int .i64 7, .int .i64 q, .int .i64 0] rfl rfl (news_cells _ [_, _, _] _) (fun x hx => by simp at hx; rcases hx with rfl | rfl | rfl <;> rfl) (by unfold maxLen; omega) (by omega) (by simp; omega) (by omega) ?_; intro g cap w1 hown1 hg1 hgr1 hsz1))
      have hb1 := grown_below (hbel.alloc (by omega) _) (hown.out.alloc _) hgr1 (by omega) (by simp; omega)
      have hz : w.heap.size + 8 ≤ w1.heap.size := by simp at hsz1; omega
      have d0 := grown_keep _ hown.out hgr1 c0 f0 (by omega)
      go_roundw
      case rel => exact ⟨(.inr (⟨rfl, hown1⟩)), d0.1, d0.2, hb1, hz⟩
      case measure => simp [intOf]
    · go_wp2_with fail
      go_ret
      exact ⟨_, rfl, OwnE.le hown.out (by omega), (by repeat (first | exact Below.refl _ _ | assumption | refine Below.drew ?_ | refine below_drewN ?_ _ | refine Below.alloc ?_ (by first | omega | (simp <;> omega)) _ | refine Below.setCell ?_ (by first | omega | (simp <;> omega)) _ | refine Below.trans ?_ (Below.mono (by assumption) (by first | omega | (simp <;> omega)))))⟩

theorem spec_l13Rotation_2 (q : Int) (w : World) :
    Calls Try.prog 99 #[.int .i64 q, .int .i64 2] w fun e w' => ∃ v, e = .returned v ∧ OwnE w' w.heap.size 104 v E3.cs 3 [⟨5, q, 0⟩] ∧ Below w.heap.size w w' := by
  obtain ⟨i0, hi, hz0, hz1, hz2⟩ := info_parts info_gate
  go_enter Try.func99, Try.ntmps99
  go_wp2_with fail
  go_loopw [5, 20] (fun v i wr => ((i = .int .i64 0 ∧ Hid (OwnE wr (w.heap.size + 7) 104 v E3.cs 3 ([] : List E3))) ∨ (i = .int .i64 1 ∧ Hid (OwnE wr (w.heap.size + 7) 104 v E3.cs 3 [⟨5, q, 0⟩]))) ∧ wr.cell? ⟨w.heap.size + 1, 0, none⟩ = some (.int .i64 5) ∧ wr.frozen? ⟨w.heap.size + 1, 0, none⟩ = false ∧ Below w.heap.size w wr ∧ w.heap.size + 8 ≤ wr.heap.size) (fun _ i _ => 1 - (intOf i).toNat)
  case atStart => exact ⟨.inl ⟨rfl, World.ownsRow_nil _ _ _ _⟩, (by repeat (first | (refine Eq.trans (World.cell?_alloc_at _ _ _ _ ?hh) ?_; (case hh => (simp; done)); rfl) | refine cell_alloc_keep _ ?_)), (by repeat (first | (refine World.frozen?_alloc_at _ _ _ _ ?hh; case hh => (simp; done)) | (refine frozen_alloc_lt _ ?hh ?_; case hh => first | omega | (simp <;> omega)))), (by repeat (first | exact Below.refl _ _ | assumption | refine Below.drew ?_ | refine below_drewN ?_ _ | refine Below.alloc ?_ (by first | omega | (simp <;> omega)) _ | refine Below.setCell ?_ (by first | omega | (simp <;> omega)) _ | refine Below.trans ?_ (Below.mono (by assumption) (by first | omega | (simp <;> omega))))), by simp⟩
  case round =>
    obtain ⟨hown, c0, f0, hbel, hsz⟩ := hrel
    rcases hown with ⟨rfl, hown⟩ | ⟨rfl, hown⟩
    · go_wp2_with (at_builtin; go_must (refine wpList_append_some _ rfl _ _ 28 rfl (w.heap.size + 7) 104 i0 (.agg #[.int .i64 0, .int .i64 0, .int .i64 0]) 3 24 Try.underlying28 hi hz0 hz1 hz2 rfl (by decide) _ 0 _ rfl (hown.out.alloc _) ⟨wr.heap.size, 0, none⟩ 1 1 [.int .i64 5, .int .i64 q, .int .i64 0] rfl rfl (news_cells _ [_, _, _] _) (fun x hx => by simp at hx; rcases hx with rfl | rfl | rfl <;> rfl) (by unfold maxLen; omega) (by omega) (by simp; omega) (by omega) ?_; intro g cap w1 hown1 hg1 hgr1 hsz1))
      have hb1 := grown_below (hbel.alloc (by omega) _) (hown.out.alloc _) hgr1 (by omega) (by simp; omega)
      have hz : w.heap.size + 8 ≤ w1.heap.size := by simp at hsz1; omega
      have d0 := grown_keep _ hown.out hgr1 c0 f0 (by omega)
      go_roundw
      case rel => exact ⟨(.inr (⟨rfl, hown1⟩)), d0.1, d0.2, hb1, hz⟩
      case measure => simp [intOf]
    · go_wp2_with fail
      go_ret
      exact ⟨_, rfl, OwnE.le hown.out (by omega), (by repeat (first | exact Below.refl _ _ | assumption | refine Below.drew ?_ | refine below_drewN ?_ _ | refine Below.alloc ?_ (by first | omega | (simp <;> omega)) _ | refine Below.setCell ?_ (by first | omega | (simp <;> omega)) _ | refine Below.trans ?_ (Below.mono (by assumption) (by first | omega | (simp <;> omega)))))⟩

theorem spec_l13Rotation_3 (q : Int) (w : World) :
    Calls Try.prog 99 #[.int .i64 q, .int .i64 3] w fun e w' => ∃ v, e = .returned v ∧ OwnE w' w.heap.size 104 v E3.cs 3 [⟨5, q, 0⟩, ⟨7, q, 0⟩] ∧ Below w.heap.size w w' := by
  obtain ⟨i0, hi, hz0, hz1, hz2⟩ := info_parts info_gate
  go_enter Try.func99, Try.ntmps99
  go_wp2_with fail
  go_loopw [5, 20] (fun v i wr => ((i = .int .i64 0 ∧ Hid (OwnE wr (w.heap.size + 7) 104 v E3.cs 3 ([] : List E3))) ∨ (i = .int .i64 1 ∧ Hid (OwnE wr (w.heap.size + 7) 104 v E3.cs 3 [⟨5, q, 0⟩])) ∨ (i = .int .i64 2 ∧ Hid (OwnE wr (w.heap.size + 7) 104 v E3.cs 3 [⟨5, q, 0⟩, ⟨7, q, 0⟩]))) ∧ wr.cell? ⟨w.heap.size + 2, 0, none⟩ = some (.int .i64 5) ∧ wr.frozen? ⟨w.heap.size + 2, 0, none⟩ = false ∧ wr.cell? ⟨w.heap.size + 2, 1, none⟩ = some (.int .i64 7) ∧ wr.frozen? ⟨w.heap.size + 2, 1, none⟩ = false ∧ Below w.heap.size w wr ∧ w.heap.size + 8 ≤ wr.heap.size) (fun _ i _ => 2 - (intOf i).toNat)
  case atStart => exact ⟨.inl ⟨rfl, World.ownsRow_nil _ _ _ _⟩, (by repeat (first | (refine Eq.trans (World.cell?_alloc_at _ _ _ _ ?hh) ?_; (case hh => (simp; done)); rfl) | refine cell_alloc_keep _ ?_)), (by repeat (first | (refine World.frozen?_alloc_at _ _ _ _ ?hh; case hh => (simp; done)) | (refine frozen_alloc_lt _ ?hh ?_; case hh => first | omega | (simp <;> omega)))), (by repeat (first | (refine Eq.trans (World.cell?_alloc_at _ _ _ _ ?hh) ?_; (case hh => (simp; done)); rfl) | refine cell_alloc_keep _ ?_)), (by repeat (first | (refine World.frozen?_alloc_at _ _ _ _ ?hh; case hh => (simp; done)) | (refine frozen_alloc_lt _ ?hh ?_; case hh => first | omega | (simp <;> omega)))), (by repeat (first | exact Below.refl _ _ | assumption | refine Below.drew ?_ | refine below_drewN ?_ _ | refine Below.alloc ?_ (by first | omega | (simp <;> omega)) _ | refine Below.setCell ?_ (by first | omega | (simp <;> omega)) _ | refine Below.trans ?_ (Below.mono (by assumption) (by first | omega | (simp <;> omega))))), by simp⟩
  case round =>
    obtain ⟨hown, c0, f0, c1, f1, hbel, hsz⟩ := hrel
    rcases hown with ⟨rfl, hown⟩ | ⟨rfl, hown⟩ | ⟨rfl, hown⟩
    · go_wp2_with (at_builtin; go_must (refine wpList_append_some _ rfl _ _ 28 rfl (w.heap.size + 7) 104 i0 (.agg #[.int .i64 0, .int .i64 0, .int .i64 0]) 3 24 Try.underlying28 hi hz0 hz1 hz2 rfl (by decide) _ 0 _ rfl (hown.out.alloc _) ⟨wr.heap.size, 0, none⟩ 1 1 [.int .i64 5, .int .i64 q, .int .i64 0] rfl rfl (news_cells _ [_, _, _] _) (fun x hx => by simp at hx; rcases hx with rfl | rfl | rfl <;> rfl) (by unfold maxLen; omega) (by omega) (by simp; omega) (by omega) ?_; intro g cap w1 hown1 hg1 hgr1 hsz1))
      have hb1 := grown_below (hbel.alloc (by omega) _) (hown.out.alloc _) hgr1 (by omega) (by simp; omega)
      have hz : w.heap.size + 8 ≤ w1.heap.size := by simp at hsz1; omega
      have d0 := grown_keep _ hown.out hgr1 c0 f0 (by omega)
      have d1 := grown_keep _ hown.out hgr1 c1 f1 (by omega)
      go_roundw
      case rel => exact ⟨(.inr (.inl ⟨rfl, hown1⟩)), d0.1, d0.2, d1.1, d1.2, hb1, hz⟩
      case measure => simp [intOf]
    · go_wp2_with (at_builtin; go_must (refine wpList_append_some _ rfl _ _ 28 rfl (w.heap.size + 7) 104 i0 (.agg #[.int .i64 0, .int .i64 0, .int .i64 0]) 3 24 Try.underlying28 hi hz0 hz1 hz2 rfl (by decide) _ 1 _ rfl (hown.out.alloc _) ⟨wr.heap.size, 0, none⟩ 1 1 [.int .i64 7, .int .i64 q, .int .i64 0] rfl rfl (news_cells _ [_, _, _] _) (fun x hx => by simp at hx; rcases hx with rfl | rfl | rfl <;> rfl) (by unfold maxLen; omega) (by omega) (by simp; omega) (by omega) ?_; intro g cap w1 hown1 hg1 hgr1 hsz1))
      have hb1 := grown_below (hbel.alloc (by omega) _) (hown.out.alloc _) hgr1 (by omega) (by simp; omega)
      have hz : w.heap.size + 8 ≤ w1.heap.size := by simp at hsz1; omega
      have d0 := grown_keep _ hown.out hgr1 c0 f0 (by omega)
      have d1 := grown_keep _ hown.out hgr1 c1 f1 (by omega)
      go_roundw
      case rel => exact ⟨(.inr (.inr (⟨rfl, hown1⟩))), d0.1, d0.2, d1.1, d1.2, hb1, hz⟩
      case measure => simp [intOf]
    · go_wp2_with fail
      go_ret
      exact ⟨_, rfl, OwnE.le hown.out (by omega), (by repeat (first | exact Below.refl _ _ | assumption | refine Below.drew ?_ | refine below_drewN ?_ _ | refine Below.alloc ?_ (by first | omega | (simp <;> omega)) _ | refine Below.setCell ?_ (by first | omega | (simp <;> omega)) _ | refine Below.trans ?_ (Below.mono (by assumption) (by first | omega | (simp <;> omega)))))⟩

theorem spec_l13Rotation_4 (q : Int) (w : World) :
    Calls Try.prog 99 #[.int .i64 q, .int .i64 4] w fun e w' => ∃ v, e = .returned v ∧ OwnE w' w.heap.size 104 v E3.cs 3 [⟨4, q, 0⟩] ∧ Below w.heap.size w w' := by
  obtain ⟨i0, hi, hz0, hz1, hz2⟩ := info_parts info_gate
  go_enter Try.func99, Try.ntmps99
  go_wp2_with fail
  go_loopw [5, 20] (fun v i wr => ((i = .int .i64 0 ∧ Hid (OwnE wr (w.heap.size + 7) 104 v E3.cs 3 ([] : List E3))) ∨ (i = .int .i64 1 ∧ Hid (OwnE wr (w.heap.size + 7) 104 v E3.cs 3 [⟨4, q, 0⟩]))) ∧ wr.cell? ⟨w.heap.size + 3, 0, none⟩ = some (.int .i64 4) ∧ wr.frozen? ⟨w.heap.size + 3, 0, none⟩ = false ∧ Below w.heap.size w wr ∧ w.heap.size + 8 ≤ wr.heap.size) (fun _ i _ => 1 - (intOf i).toNat)
  case atStart => exact ⟨.inl ⟨rfl, World.ownsRow_nil _ _ _ _⟩, (by repeat (first | (refine Eq.trans (World.cell?_alloc_at _ _ _ _ ?hh) ?_; (case hh => (simp; done)); rfl) | refine cell_alloc_keep _ ?_)), (by repeat (first | (refine World.frozen?_alloc_at _ _ _ _ ?hh; case hh => (simp; done)) | (refine frozen_alloc_lt _ ?hh ?_; case hh => first | omega | (simp <;> omega)))), (by repeat (first | exact Below.refl _ _ | assumption | refine Below.drew ?_ | refine below_drewN ?_ _ | refine Below.alloc ?_ (by first | omega | (simp <;> omega)) _ | refine Below.setCell ?_ (by first | omega | (simp <;> omega)) _ | refine Below.trans ?_ (Below.mono (by assumption) (by first | omega | (simp <;> omega))))), by simp⟩
  case round =>
    obtain ⟨hown, c0, f0, hbel, hsz⟩ := hrel
    rcases hown with ⟨rfl, hown⟩ | ⟨rfl, hown⟩
    · go_wp2_with (at_builtin; go_must (refine wpList_append_some _ rfl _ _ 28 rfl (w.heap.size + 7) 104 i0 (.agg #[.int .i64 0, .int .i64 0, .int .i64 0]) 3 24 Try.underlying28 hi hz0 hz1 hz2 rfl (by decide) _ 0 _ rfl (hown.out.alloc _) ⟨wr.heap.size, 0, none⟩ 1 1 [.int .i64 4, .int .i64 q, .int .i64 0] rfl rfl (news_cells _ [_, _, _] _) (fun x hx => by simp at hx; rcases hx with rfl | rfl | rfl <;> rfl) (by unfold maxLen; omega) (by omega) (by simp; omega) (by omega) ?_; intro g cap w1 hown1 hg1 hgr1 hsz1))
      have hb1 := grown_below (hbel.alloc (by omega) _) (hown.out.alloc _) hgr1 (by omega) (by simp; omega)
      have hz : w.heap.size + 8 ≤ w1.heap.size := by simp at hsz1; omega
      have d0 := grown_keep _ hown.out hgr1 c0 f0 (by omega)
      go_roundw
      case rel => exact ⟨(.inr (⟨rfl, hown1⟩)), d0.1, d0.2, hb1, hz⟩
      case measure => simp [intOf]
    · go_wp2_with fail
      go_ret
      exact ⟨_, rfl, OwnE.le hown.out (by omega), (by repeat (first | exact Below.refl _ _ | assumption | refine Below.drew ?_ | refine below_drewN ?_ _ | refine Below.alloc ?_ (by first | omega | (simp <;> omega)) _ | refine Below.setCell ?_ (by first | omega | (simp <;> omega)) _ | refine Below.trans ?_ (Below.mono (by assumption) (by first | omega | (simp <;> omega)))))⟩

theorem spec_l13Rotation_5 (q : Int) (w : World) :
    Calls Try.prog 99 #[.int .i64 q, .int .i64 5] w fun e w' => ∃ v, e = .returned v ∧ OwnE w' w.heap.size 104 v E3.cs 3 [⟨4, q, 0⟩, ⟨7, q, 0⟩] ∧ Below w.heap.size w w' := by
  obtain ⟨i0, hi, hz0, hz1, hz2⟩ := info_parts info_gate
  go_enter Try.func99, Try.ntmps99
  go_wp2_with fail
  go_loopw [5, 20] (fun v i wr => ((i = .int .i64 0 ∧ Hid (OwnE wr (w.heap.size + 7) 104 v E3.cs 3 ([] : List E3))) ∨ (i = .int .i64 1 ∧ Hid (OwnE wr (w.heap.size + 7) 104 v E3.cs 3 [⟨4, q, 0⟩])) ∨ (i = .int .i64 2 ∧ Hid (OwnE wr (w.heap.size + 7) 104 v E3.cs 3 [⟨4, q, 0⟩, ⟨7, q, 0⟩]))) ∧ wr.cell? ⟨w.heap.size + 4, 0, none⟩ = some (.int .i64 4) ∧ wr.frozen? ⟨w.heap.size + 4, 0, none⟩ = false ∧ wr.cell? ⟨w.heap.size + 4, 1, none⟩ = some (.int .i64 7) ∧ wr.frozen? ⟨w.heap.size + 4, 1, none⟩ = false ∧ Below w.heap.size w wr ∧ w.heap.size + 8 ≤ wr.heap.size) (fun _ i _ => 2 - (intOf i).toNat)
  case atStart => exact ⟨.inl ⟨rfl, World.ownsRow_nil _ _ _ _⟩, (by repeat (first | (refine Eq.trans (World.cell?_alloc_at _ _ _ _ ?hh) ?_; (case hh => (simp; done)); rfl) | refine cell_alloc_keep _ ?_)), (by repeat (first | (refine World.frozen?_alloc_at _ _ _ _ ?hh; case hh => (simp; done)) | (refine frozen_alloc_lt _ ?hh ?_; case hh => first | omega | (simp <;> omega)))), (by repeat (first | (refine Eq.trans (World.cell?_alloc_at _ _ _ _ ?hh) ?_; (case hh => (simp; done)); rfl) | refine cell_alloc_keep _ ?_)), (by repeat (first | (refine World.frozen?_alloc_at _ _ _ _ ?hh; case hh => (simp; done)) | (refine frozen_alloc_lt _ ?hh ?_; case hh => first | omega | (simp <;> omega)))), (by repeat (first | exact Below.refl _ _ | assumption | refine Below.drew ?_ | refine below_drewN ?_ _ | refine Below.alloc ?_ (by first | omega | (simp <;> omega)) _ | refine Below.setCell ?_ (by first | omega | (simp <;> omega)) _ | refine Below.trans ?_ (Below.mono (by assumption) (by first | omega | (simp <;> omega))))), by simp⟩
  case round =>
    obtain ⟨hown, c0, f0, c1, f1, hbel, hsz⟩ := hrel
    rcases hown with ⟨rfl, hown⟩ | ⟨rfl, hown⟩ | ⟨rfl, hown⟩
    · go_wp2_with (at_builtin; go_must (refine wpList_append_some _ rfl _ _ 28 rfl (w.heap.size + 7) 104 i0 (.agg #[.int .i64 0, .int .i64 0, .int .i64 0]) 3 24 Try.underlying28 hi hz0 hz1 hz2 rfl (by decide) _ 0 _ rfl (hown.out.alloc _) ⟨wr.heap.size, 0, none⟩ 1 1 [.int .i64 4, .int .i64 q, .int .i64 0] rfl rfl (news_cells _ [_, _, _] _) (fun x hx => by simp at hx; rcases hx with rfl | rfl | rfl <;> rfl) (by unfold maxLen; omega) (by omega) (by simp; omega) (by omega) ?_; intro g cap w1 hown1 hg1 hgr1 hsz1))
      have hb1 := grown_below (hbel.alloc (by omega) _) (hown.out.alloc _) hgr1 (by omega) (by simp; omega)
      have hz : w.heap.size + 8 ≤ w1.heap.size := by simp at hsz1; omega
      have d0 := grown_keep _ hown.out hgr1 c0 f0 (by omega)
      have d1 := grown_keep _ hown.out hgr1 c1 f1 (by omega)
      go_roundw
      case rel => exact ⟨(.inr (.inl ⟨rfl, hown1⟩)), d0.1, d0.2, d1.1, d1.2, hb1, hz⟩
      case measure => simp [intOf]
    · go_wp2_with (at_builtin; go_must (refine wpList_append_some _ rfl _ _ 28 rfl (w.heap.size + 7) 104 i0 (.agg #[.int .i64 0, .int .i64 0, .int .i64 0]) 3 24 Try.underlying28 hi hz0 hz1 hz2 rfl (by decide) _ 1 _ rfl (hown.out.alloc _) ⟨wr.heap.size, 0, none⟩ 1 1 [.int .i64 7, .int .i64 q, .int .i64 0] rfl rfl (news_cells _ [_, _, _] _) (fun x hx => by simp at hx; rcases hx with rfl | rfl | rfl <;> rfl) (by unfold maxLen; omega) (by omega) (by simp; omega) (by omega) ?_; intro g cap w1 hown1 hg1 hgr1 hsz1))
      have hb1 := grown_below (hbel.alloc (by omega) _) (hown.out.alloc _) hgr1 (by omega) (by simp; omega)
      have hz : w.heap.size + 8 ≤ w1.heap.size := by simp at hsz1; omega
      have d0 := grown_keep _ hown.out hgr1 c0 f0 (by omega)
      have d1 := grown_keep _ hown.out hgr1 c1 f1 (by omega)
      go_roundw
      case rel => exact ⟨(.inr (.inr (⟨rfl, hown1⟩))), d0.1, d0.2, d1.1, d1.2, hb1, hz⟩
      case measure => simp [intOf]
    · go_wp2_with fail
      go_ret
      exact ⟨_, rfl, OwnE.le hown.out (by omega), (by repeat (first | exact Below.refl _ _ | assumption | refine Below.drew ?_ | refine below_drewN ?_ _ | refine Below.alloc ?_ (by first | omega | (simp <;> omega)) _ | refine Below.setCell ?_ (by first | omega | (simp <;> omega)) _ | refine Below.trans ?_ (Below.mono (by assumption) (by first | omega | (simp <;> omega)))))⟩

theorem spec_l13Rotation_6 (q : Int) (w : World) :
    Calls Try.prog 99 #[.int .i64 q, .int .i64 6] w fun e w' => ∃ v, e = .returned v ∧ OwnE w' w.heap.size 104 v E3.cs 3 [⟨6, q, 0⟩] ∧ Below w.heap.size w w' := by
  obtain ⟨i0, hi, hz0, hz1, hz2⟩ := info_parts info_gate
  go_enter Try.func99, Try.ntmps99
  go_wp2_with fail
  go_loopw [5, 20] (fun v i wr => ((i = .int .i64 0 ∧ Hid (OwnE wr (w.heap.size + 7) 104 v E3.cs 3 ([] : List E3))) ∨ (i = .int .i64 1 ∧ Hid (OwnE wr (w.heap.size + 7) 104 v E3.cs 3 [⟨6, q, 0⟩]))) ∧ wr.cell? ⟨w.heap.size + 5, 0, none⟩ = some (.int .i64 6) ∧ wr.frozen? ⟨w.heap.size + 5, 0, none⟩ = false ∧ Below w.heap.size w wr ∧ w.heap.size + 8 ≤ wr.heap.size) (fun _ i _ => 1 - (intOf i).toNat)
  case atStart => exact ⟨.inl ⟨rfl, World.ownsRow_nil _ _ _ _⟩, (by repeat (first | (refine Eq.trans (World.cell?_alloc_at _ _ _ _ ?hh) ?_; (case hh => (simp; done)); rfl) | refine cell_alloc_keep _ ?_)), (by repeat (first | (refine World.frozen?_alloc_at _ _ _ _ ?hh; case hh => (simp; done)) | (refine frozen_alloc_lt _ ?hh ?_; case hh => first | omega | (simp <;> omega)))), (by repeat (first | exact Below.refl _ _ | assumption | refine Below.drew ?_ | refine below_drewN ?_ _ | refine Below.alloc ?_ (by first | omega | (simp <;> omega)) _ | refine Below.setCell ?_ (by first | omega | (simp <;> omega)) _ | refine Below.trans ?_ (Below.mono (by assumption) (by first | omega | (simp <;> omega))))), by simp⟩
  case round =>
    obtain ⟨hown, c0, f0, hbel, hsz⟩ := hrel
    rcases hown with ⟨rfl, hown⟩ | ⟨rfl, hown⟩
    · go_wp2_with (at_builtin; go_must (refine wpList_append_some _ rfl _ _ 28 rfl (w.heap.size + 7) 104 i0 (.agg #[.int .i64 0, .int .i64 0, .int .i64 0]) 3 24 Try.underlying28 hi hz0 hz1 hz2 rfl (by decide) _ 0 _ rfl (hown.out.alloc _) ⟨wr.heap.size, 0, none⟩ 1 1 [.int .i64 6, .int .i64 q, .int .i64 0] rfl rfl (news_cells _ [_, _, _] _) (fun x hx => by simp at hx; rcases hx with rfl | rfl | rfl <;> rfl) (by unfold maxLen; omega) (by omega) (by simp; omega) (by omega) ?_; intro g cap w1 hown1 hg1 hgr1 hsz1))
      have hb1 := grown_below (hbel.alloc (by omega) _) (hown.out.alloc _) hgr1 (by omega) (by simp; omega)
      have hz : w.heap.size + 8 ≤ w1.heap.size := by simp at hsz1; omega
      have d0 := grown_keep _ hown.out hgr1 c0 f0 (by omega)
      go_roundw
      case rel => exact ⟨(.inr (⟨rfl, hown1⟩)), d0.1, d0.2, hb1, hz⟩
      case measure => simp [intOf]
    · go_wp2_with fail
      go_ret
      exact ⟨_, rfl, OwnE.le hown.out (by omega), (by repeat (first | exact Below.refl _ _ | assumption | refine Below.drew ?_ | refine below_drewN ?_ _ | refine Below.alloc ?_ (by first | omega | (simp <;> omega)) _ | refine Below.setCell ?_ (by first | omega | (simp <;> omega)) _ | refine Below.trans ?_ (Below.mono (by assumption) (by first | omega | (simp <;> omega)))))⟩

theorem spec_l13Rotation_7 (q : Int) (w : World) :
    Calls Try.prog 99 #[.int .i64 q, .int .i64 7] w fun e w' => ∃ v, e = .returned v ∧ OwnE w' w.heap.size 104 v E3.cs 3 [⟨8, q, 0⟩] ∧ Below w.heap.size w w' := by
  obtain ⟨i0, hi, hz0, hz1, hz2⟩ := info_parts info_gate
  go_enter Try.func99, Try.ntmps99
  go_wp2_with fail
  go_loopw [5, 20] (fun v i wr => ((i = .int .i64 0 ∧ Hid (OwnE wr (w.heap.size + 7) 104 v E3.cs 3 ([] : List E3))) ∨ (i = .int .i64 1 ∧ Hid (OwnE wr (w.heap.size + 7) 104 v E3.cs 3 [⟨8, q, 0⟩]))) ∧ wr.cell? ⟨w.heap.size + 6, 0, none⟩ = some (.int .i64 8) ∧ wr.frozen? ⟨w.heap.size + 6, 0, none⟩ = false ∧ Below w.heap.size w wr ∧ w.heap.size + 8 ≤ wr.heap.size) (fun _ i _ => 1 - (intOf i).toNat)
  case atStart => exact ⟨.inl ⟨rfl, World.ownsRow_nil _ _ _ _⟩, (by repeat (first | (refine Eq.trans (World.cell?_alloc_at _ _ _ _ ?hh) ?_; (case hh => (simp; done)); rfl) | refine cell_alloc_keep _ ?_)), (by repeat (first | (refine World.frozen?_alloc_at _ _ _ _ ?hh; case hh => (simp; done)) | (refine frozen_alloc_lt _ ?hh ?_; case hh => first | omega | (simp <;> omega)))), (by repeat (first | exact Below.refl _ _ | assumption | refine Below.drew ?_ | refine below_drewN ?_ _ | refine Below.alloc ?_ (by first | omega | (simp <;> omega)) _ | refine Below.setCell ?_ (by first | omega | (simp <;> omega)) _ | refine Below.trans ?_ (Below.mono (by assumption) (by first | omega | (simp <;> omega))))), by simp⟩
  case round =>
    obtain ⟨hown, c0, f0, hbel, hsz⟩ := hrel
    rcases hown with ⟨rfl, hown⟩ | ⟨rfl, hown⟩
    · go_wp2_with (at_builtin; go_must (refine wpList_append_some _ rfl _ _ 28 rfl (w.heap.size + 7) 104 i0 (.agg #[.int .i64 0, .int .i64 0, .int .i64 0]) 3 24 Try.underlying28 hi hz0 hz1 hz2 rfl (by decide) _ 0 _ rfl (hown.out.alloc _) ⟨wr.heap.size, 0, none⟩ 1 1 [.int .i64 8, .int .i64 q, .int .i64 0] rfl rfl (news_cells _ [_, _, _] _) (fun x hx => by simp at hx; rcases hx with rfl | rfl | rfl <;> rfl) (by unfold maxLen; omega) (by omega) (by simp; omega) (by omega) ?_; intro g cap w1 hown1 hg1 hgr1 hsz1))
      have hb1 := grown_below (hbel.alloc (by omega) _) (hown.out.alloc _) hgr1 (by omega) (by simp; omega)
      have hz : w.heap.size + 8 ≤ w1.heap.size := by simp at hsz1; omega
      have d0 := grown_keep _ hown.out hgr1 c0 f0 (by omega)
      go_roundw
      case rel => exact ⟨(.inr (⟨rfl, hown1⟩)), d0.1, d0.2, hb1, hz⟩
      case measure => simp [intOf]
    · go_wp2_with fail
      go_ret
      exact ⟨_, rfl, OwnE.le hown.out (by omega), (by repeat (first | exact Below.refl _ _ | assumption | refine Below.drew ?_ | refine below_drewN ?_ _ | refine Below.alloc ?_ (by first | omega | (simp <;> omega)) _ | refine Below.setCell ?_ (by first | omega | (simp <;> omega)) _ | refine Below.trans ?_ (Below.mono (by assumption) (by first | omega | (simp <;> omega)))))⟩

theorem impl_rotation_0 (q : Int) (w : World) :
    Calls Try.prog 64 #[.int .i64 q, .int .i64 0] w fun e w' => ∃ v, e = .returned v ∧ OwnE w' w.heap.size 104 v E3.cs 3 ([] : List E3) ∧ Below w.heap.size w w' := by
  obtain ⟨i0, hi, hz0, hz1, hz2⟩ := info_parts info_gate
  go_enter Try.func64, Try.ntmps64
  go_wp2_with fail
  refine wp_loop_rounds 1 ?_
  rw [rounds_succ]
  go_wp2_with fail
  go_ret
  exact ⟨_, rfl, own_lit0 _ _ _ _ (by simp) (by omega), (by repeat (first | exact Below.refl _ _ | assumption | refine Below.drew ?_ | refine below_drewN ?_ _ | refine Below.alloc ?_ (by first | omega | (simp <;> omega)) _ | refine Below.setCell ?_ (by first | omega | (simp <;> omega)) _ | refine Below.trans ?_ (Below.mono (by assumption) (by first | omega | (simp <;> omega)))))⟩

theorem impl_rotation_1 (q : Int) (w : World) :
    Calls Try.prog 64 #[.int .i64 q, .int .i64 1] w fun e w' => ∃ v, e = .returned v ∧ OwnE w' w.heap.size 104 v E3.cs 3 [⟨7, q, 0⟩] ∧ Below w.heap.size w w' := by
  obtain ⟨i0, hi, hz0, hz1, hz2⟩ := info_parts info_gate
  go_enter Try.func64, Try.ntmps64
  go_wp2_with fail
  go_loopw [6, 22] (fun v i wr => ((i = .int .i64 0 ∧ Hid (OwnE wr (w.heap.size + 8) 104 v E3.cs 3 ([] : List E3))) ∨ (i = .int .i64 1 ∧ Hid (OwnE wr (w.heap.size + 8) 104 v E3.cs 3 [⟨7, q, 0⟩]))) ∧ wr.cell? ⟨w.heap.size, 0, none⟩ = some (.int .i64 7) ∧ wr.frozen? ⟨w.heap.size, 0, none⟩ = false ∧ Below w.heap.size w wr ∧ w.heap.size + 9 ≤ wr.heap.size) (fun _ i _ => 1 - (intOf i).toNat)
  case atStart => exact ⟨.inl ⟨rfl, own_lit0 _ _ _ _ (by simp) (by omega)⟩, (by repeat (first | (refine Eq.trans (World.cell?_alloc_at _ _ _ _ ?hh) ?_; (case hh => (simp; done)); rfl) | refine cell_alloc_keep _ ?_)), (by repeat (first | (refine World.frozen?_alloc_at _ _ _ _ ?hh; case hh => (simp; done)) | (refine frozen_alloc_lt _ ?hh ?_; case hh => first | omega | (simp <;> omega)))), (by repeat (first | exact Below.refl _ _ | assumption | refine Below.drew ?_ | refine below_drewN ?_ _ | refine Below.alloc ?_ (by first | omega | (simp <;> omega)) _ | refine Below.setCell ?_ (by first | omega | (simp <;> omega)) _ | refine Below.trans ?_ (Below.mono (by assumption) (by first | omega | (simp <;> omega))))), by simp⟩
  case round =>
    obtain ⟨hown, c0, f0, hbel, hsz⟩ := hrel
    rcases hown with ⟨rfl, hown⟩ | ⟨rfl, hown⟩
    · go_wp2_with (at_builtin; go_must (refine wpList_append_some _ rfl _ _ 28 rfl (w.heap.size + 8) 104 i0 (.agg #[.int .i64 0, .int .i64 0, .int .i64 0]) 3 24 Try.underlying28 hi hz0 hz1 hz2 rfl (by decide) _ 0 _ rfl (hown.out.alloc _) ⟨wr.heap.size, 0, none⟩ 1 1 [.int .i64 7, .int .i64 q, .int .i64 0] rfl rfl (news_cells _ [_, _, _] _) (fun x hx => by simp at hx; rcases hx with rfl | rfl | rfl <;> rfl) (by unfold maxLen; omega) (by omega) (by simp; omega) (by omega) ?_; intro g cap w1 hown1 hg1 hgr1 hsz1))
      have hb1 := grown_below (hbel.alloc (by omega) _) (hown.out.alloc _) hgr1 (by omega) (by simp; omega)
      have hz : w.heap.size + 9 ≤ w1.heap.size := by simp at hsz1; omega
      have d0 := grown_keep _ hown.out hgr1 c0 f0 (by omega)
      go_roundw
      case rel => exact ⟨(.inr (⟨rfl, hown1⟩)), d0.1, d0.2, hb1, hz⟩
      case measure => simp [intOf]
    · go_wp2_with fail
      go_ret
      exact ⟨_, rfl, OwnE.le hown.out (by omega), (by repeat (first | exact Below.refl _ _ | assumption | refine Below.drew ?_ | refine below_drewN ?_ _ | refine Below.alloc ?_ (by first | omega | (simp <;> omega)) _ | refine Below.setCell ?_ (by first | omega | (simp <;> omega)) _ | refine Below.trans ?_ (Below.mono (by assumption) (by first | omega | (simp <;> omega)))))⟩

theorem impl_rotation_2 (q : Int) (w : World) :
    Calls Try.prog 64 #[.int .i64 q, .int .i64 2] w fun e w' => ∃ v, e = .returned v ∧ OwnE w' w.heap.size 104 v E3.cs 3 [⟨5, q, 0⟩] ∧ Below w.heap.size w w' := by
  obtain ⟨i0, hi, hz0, hz1, hz2⟩ := info_parts info_gate
  go_enter Try.func64, Try.ntmps64
  go_wp2_with fail
  go_loopw [6, 22] (fun v i wr => ((i = .int .i64 0 ∧ Hid (OwnE wr (w.heap.size + 8) 104 v E3.cs 3 ([] : List E3))) ∨ (i = .int .i64 1 ∧ Hid (OwnE wr (w.heap.size + 8) 104 v E3.cs 3 [⟨5, q, 0⟩]))) ∧ wr.cell? ⟨w.heap.size + 1, 0, none⟩ = some (.int .i64 5) ∧ wr.frozen? ⟨w.heap.size + 1, 0, none⟩ = false ∧ Below w.heap.size w wr ∧ w.heap.size + 9 ≤ wr.heap.size) (fun _ i _ => 1 - (intOf i).toNat)
  case atStart => exact ⟨.inl ⟨rfl, own_lit0 _ _ _ _ (by simp) (by omega)⟩, (by repeat (first | (refine Eq.trans (World.cell?_alloc_at _ _ _ _ ?hh) ?_; (case hh => (simp; done)); rfl) | refine cell_alloc_keep _ ?_)), (by repeat (first | (refine World.frozen?_alloc_at _ _ _ _ ?hh; case hh => (simp; done)) | (refine frozen_alloc_lt _ ?hh ?_; case hh => first | omega | (simp <;> omega)))), (by repeat (first | exact Below.refl _ _ | assumption | refine Below.drew ?_ | refine below_drewN ?_ _ | refine Below.alloc ?_ (by first | omega | (simp <;> omega)) _ | refine Below.setCell ?_ (by first | omega | (simp <;> omega)) _ | refine Below.trans ?_ (Below.mono (by assumption) (by first | omega | (simp <;> omega))))), by simp⟩
  case round =>
    obtain ⟨hown, c0, f0, hbel, hsz⟩ := hrel
    rcases hown with ⟨rfl, hown⟩ | ⟨rfl, hown⟩
    · go_wp2_with (at_builtin; go_must (refine wpList_append_some _ rfl _ _ 28 rfl (w.heap.size + 8) 104 i0 (.agg #[.int .i64 0, .int .i64 0, .int .i64 0]) 3 24 Try.underlying28 hi hz0 hz1 hz2 rfl (by decide) _ 0 _ rfl (hown.out.alloc _) ⟨wr.heap.size, 0, none⟩ 1 1 [.int .i64 5, .int .i64 q, .int .i64 0] rfl rfl (news_cells _ [_, _, _] _) (fun x hx => by simp at hx; rcases hx with rfl | rfl | rfl <;> rfl) (by unfold maxLen; omega) (by omega) (by simp; omega) (by omega) ?_; intro g cap w1 hown1 hg1 hgr1 hsz1))
      have hb1 := grown_below (hbel.alloc (by omega) _) (hown.out.alloc _) hgr1 (by omega) (by simp; omega)
      have hz : w.heap.size + 9 ≤ w1.heap.size := by simp at hsz1; omega
      have d0 := grown_keep _ hown.out hgr1 c0 f0 (by omega)
      go_roundw
      case rel => exact ⟨(.inr (⟨rfl, hown1⟩)), d0.1, d0.2, hb1, hz⟩
      case measure => simp [intOf]
    · go_wp2_with fail
      go_ret
      exact ⟨_, rfl, OwnE.le hown.out (by omega), (by repeat (first | exact Below.refl _ _ | assumption | refine Below.drew ?_ | refine below_drewN ?_ _ | refine Below.alloc ?_ (by first | omega | (simp <;> omega)) _ | refine Below.setCell ?_ (by first | omega | (simp <;> omega)) _ | refine Below.trans ?_ (Below.mono (by assumption) (by first | omega | (simp <;> omega)))))⟩

theorem impl_rotation_3 (q : Int) (w : World) :
    Calls Try.prog 64 #[.int .i64 q, .int .i64 3] w fun e w' => ∃ v, e = .returned v ∧ OwnE w' w.heap.size 104 v E3.cs 3 [⟨5, q, 0⟩, ⟨7, q, 0⟩] ∧ Below w.heap.size w w' := by
  obtain ⟨i0, hi, hz0, hz1, hz2⟩ := info_parts info_gate
  go_enter Try.func64, Try.ntmps64
  go_wp2_with fail
  go_loopw [6, 22] (fun v i wr => ((i = .int .i64 0 ∧ Hid (OwnE wr (w.heap.size + 8) 104 v E3.cs 3 ([] : List E3))) ∨ (i = .int .i64 1 ∧ Hid (OwnE wr (w.heap.size + 8) 104 v E3.cs 3 [⟨5, q, 0⟩])) ∨ (i = .int .i64 2 ∧ Hid (OwnE wr (w.heap.size + 8) 104 v E3.cs 3 [⟨5, q, 0⟩, ⟨7, q, 0⟩]))) ∧ wr.cell? ⟨w.heap.size + 2, 0, none⟩ = some (.int .i64 5) ∧ wr.frozen? ⟨w.heap.size + 2, 0, none⟩ = false ∧ wr.cell? ⟨w.heap.size + 2, 1, none⟩ = some (.int .i64 7) ∧ wr.frozen? ⟨w.heap.size + 2, 1, none⟩ = false ∧ Below w.heap.size w wr ∧ w.heap.size + 9 ≤ wr.heap.size) (fun _ i _ => 2 - (intOf i).toNat)
  case atStart => exact ⟨.inl ⟨rfl, own_lit0 _ _ _ _ (by simp) (by omega)⟩, (by repeat (first | (refine Eq.trans (World.cell?_alloc_at _ _ _ _ ?hh) ?_; (case hh => (simp; done)); rfl) | refine cell_alloc_keep _ ?_)), (by repeat (first | (refine World.frozen?_alloc_at _ _ _ _ ?hh; case hh => (simp; done)) | (refine frozen_alloc_lt _ ?hh ?_; case hh => first | omega | (simp <;> omega)))), (by repeat (first | (refine Eq.trans (World.cell?_alloc_at _ _ _ _ ?hh) ?_; (case hh => (simp; done)); rfl) | refine cell_alloc_keep _ ?_)), (by repeat (first | (refine World.frozen?_alloc_at _ _ _ _ ?hh; case hh => (simp; done)) | (refine frozen_alloc_lt _ ?hh ?_; case hh => first | omega | (simp <;> omega)))), (by repeat (first | exact Below.refl _ _ | assumption | refine Below.drew ?_ | refine below_drewN ?_ _ | refine Below.alloc ?_ (by first | omega | (simp <;> omega)) _ | refine Below.setCell ?_ (by first | omega | (simp <;> omega)) _ | refine Below.trans ?_ (Below.mono (by assumption) (by first | omega | (simp <;> omega))))), by simp⟩
  case round =>
    obtain ⟨hown, c0, f0, c1, f1, hbel, hsz⟩ := hrel
    rcases hown with ⟨rfl, hown⟩ | ⟨rfl, hown⟩ | ⟨rfl, hown⟩
    · go_wp2_with (at_builtin; go_must (refine wpList_append_some _ rfl _ _ 28 rfl (w.heap.size + 8) 104 i0 (.agg #[.int .i64 0, .int .i64 0, .int .i64 0]) 3 24 Try.underlying28 hi hz0 hz1 hz2 rfl (by decide) _ 0 _ rfl (hown.out.alloc _) ⟨wr.heap.size, 0, none⟩ 1 1 [.int .i64 5, .int .i64 q, .int .i64 0] rfl rfl (news_cells _ [_, _, _] _) (fun x hx => by simp at hx; rcases hx with rfl | rfl | rfl <;> rfl) (by unfold maxLen; omega) (by omega) (by simp; omega) (by omega) ?_; intro g cap w1 hown1 hg1 hgr1 hsz1))
      have hb1 := grown_below (hbel.alloc (by omega) _) (hown.out.alloc _) hgr1 (by omega) (by simp; omega)
      have hz : w.heap.size + 9 ≤ w1.heap.size := by simp at hsz1; omega
      have d0 := grown_keep _ hown.out hgr1 c0 f0 (by omega)
      have d1 := grown_keep _ hown.out hgr1 c1 f1 (by omega)
      go_roundw
      case rel => exact ⟨(.inr (.inl ⟨rfl, hown1⟩)), d0.1, d0.2, d1.1, d1.2, hb1, hz⟩
      case measure => simp [intOf]
    · go_wp2_with (at_builtin; go_must (refine wpList_append_some _ rfl _ _ 28 rfl (w.heap.size + 8) 104 i0 (.agg #[.int .i64 0, .int .i64 0, .int .i64 0]) 3 24 Try.underlying28 hi hz0 hz1 hz2 rfl (by decide) _ 1 _ rfl (hown.out.alloc _) ⟨wr.heap.size, 0, none⟩ 1 1 [.int .i64 7, .int .i64 q, .int .i64 0] rfl rfl (news_cells _ [_, _, _] _) (fun x hx => by simp at hx; rcases hx with rfl | rfl | rfl <;> rfl) (by unfold maxLen; omega) (by omega) (by simp; omega) (by omega) ?_; intro g cap w1 hown1 hg1 hgr1 hsz1))
      have hb1 := grown_below (hbel.alloc (by omega) _) (hown.out.alloc _) hgr1 (by omega) (by simp; omega)
      have hz : w.heap.size + 9 ≤ w1.heap.size := by simp at hsz1; omega
      have d0 := grown_keep _ hown.out hgr1 c0 f0 (by omega)
      have d1 := grown_keep _ hown.out hgr1 c1 f1 (by omega)
      go_roundw
      case rel => exact ⟨(.inr (.inr (⟨rfl, hown1⟩))), d0.1, d0.2, d1.1, d1.2, hb1, hz⟩
      case measure => simp [intOf]
    · go_wp2_with fail
      go_ret
      exact ⟨_, rfl, OwnE.le hown.out (by omega), (by repeat (first | exact Below.refl _ _ | assumption | refine Below.drew ?_ | refine below_drewN ?_ _ | refine Below.alloc ?_ (by first | omega | (simp <;> omega)) _ | refine Below.setCell ?_ (by first | omega | (simp <;> omega)) _ | refine Below.trans ?_ (Below.mono (by assumption) (by first | omega | (simp <;> omega)))))⟩

theorem impl_rotation_4 (q : Int) (w : World) :
    Calls Try.prog 64 #[.int .i64 q, .int .i64 4] w fun e w' => ∃ v, e = .returned v ∧ OwnE w' w.heap.size 104 v E3.cs 3 [⟨4, q, 0⟩] ∧ Below w.heap.size w w' := by
  obtain ⟨i0, hi, hz0, hz1, hz2⟩ := info_parts info_gate
  go_enter Try.func64, Try.ntmps64
  go_wp2_with fail
  go_loopw [6, 22] (fun v i wr => ((i = .int .i64 0 ∧ Hid (OwnE wr (w.heap.size + 8) 104 v E3.cs 3 ([] : List E3))) ∨ (i = .int .i64 1 ∧ Hid (OwnE wr (w.heap.size + 8) 104 v E3.cs 3 [⟨4, q, 0⟩]))) ∧ wr.cell? ⟨w.heap.size + 3, 0, none⟩ = some (.int .i64 4) ∧ wr.frozen? ⟨w.heap.size + 3, 0, none⟩ = false ∧ Below w.heap.size w wr ∧ w.heap.size + 9 ≤ wr.heap.size) (fun _ i _ => 1 - (intOf i).toNat)
  case atStart => exact ⟨.inl ⟨rfl, own_lit0 _ _ _ _ (by simp) (by omega)⟩, (by repeat (first | (refine Eq.trans (World.cell?_alloc_at _ _ _ _ ?hh) ?_; (case hh => (simp; done)); rfl) | refine cell_alloc_keep _ ?_)), (by repeat (first | (refine World.frozen?_alloc_at _ _ _ _ ?hh; case hh => (simp; done)) | (refine frozen_alloc_lt _ ?hh ?_; case hh => first | omega | (simp <;> omega)))), (by repeat (first | exact Below.refl _ _ | assumption | refine Below.drew ?_ | refine below_drewN ?_ _ | refine Below.alloc ?_ (by first | omega | (simp <;> omega)) _ | refine Below.setCell ?_ (by first | omega | (simp <;> omega)) _ | refine Below.trans ?_ (Below.mono (by assumption) (by first | omega | (simp <;> omega))))), by simp⟩
  case round =>
    obtain ⟨hown, c0, f0, hbel, hsz⟩ := hrel
    rcases hown with ⟨rfl, hown⟩ | ⟨rfl, hown⟩
    · go_wp2_with (at_builtin; go_must (refine wpList_append_some _ rfl _ _ 28 rfl (w.heap.size + 8) 104 i0 (.agg #[.int .i64 0, .int .i64 0, .int .i64 0]) 3 24 Try.underlying28 hi hz0 hz1 hz2 rfl (by decide) _ 0 _ rfl (hown.out.alloc _) ⟨wr.heap.size, 0, none⟩ 1 1 [.int .i64 4, .int .i64 q, .int .i64 0] rfl rfl (news_cells _ [_, _, _] _) (fun x hx => by simp at hx; rcases hx with rfl | rfl | rfl <;> rfl) (by unfold maxLen; omega) (by omega) (by simp; omega) (by omega) ?_; intro g cap w1 hown1 hg1 hgr1 hsz1))
      have hb1 := grown_below (hbel.alloc (by omega) _) (hown.out.alloc _) hgr1 (by omega) (by simp; omega)
      have hz : w.heap.size + 9 ≤ w1.heap.size := by simp at hsz1; omega
      have d0 := grown_keep _ hown.out hgr1 c0 f0 (by omega)
      go_roundw
      case rel => exact ⟨(.inr (⟨rfl, hown1⟩)), d0.1, d0.2, hb1, hz⟩
      case measure => simp [intOf]
    · go_wp2_with fail
      go_ret
      exact ⟨_, rfl, OwnE.le hown.out (by omega), (by repeat (first | exact Below.refl _ _ | assumption | refine Below.drew ?_ | refine below_drewN ?_ _ | refine Below.alloc ?_ (by first | omega | (simp <;> omega)) _ | refine Below.setCell ?_ (by first | omega | (simp <;> omega)) _ | refine Below.trans ?_ (Below.mono (by assumption) (by first | omega | (simp <;> omega)))))⟩

theorem impl_rotation_5 (q : Int) (w : World) :
    Calls Try.prog 64 #[.int .i64 q, .int .i64 5] w fun e w' => ∃ v, e = .returned v ∧ OwnE w' w.heap.size 104 v E3.cs 3 [⟨4, q, 0⟩, ⟨7, q, 0⟩] ∧ Below w.heap.size w w' := by
  obtain ⟨i0, hi, hz0, hz1, hz2⟩ := info_parts info_gate
  go_enter Try.func64, Try.ntmps64
  go_wp2_with fail
  go_loopw [6, 22] (fun v i wr => ((i = .int .i64 0 ∧ Hid (OwnE wr (w.heap.size + 8) 104 v E3.cs 3 ([] : List E3))) ∨ (i = .int .i64 1 ∧ Hid (OwnE wr (w.heap.size + 8) 104 v E3.cs 3 [⟨4, q, 0⟩])) ∨ (i = .int .i64 2 ∧ Hid (OwnE wr (w.heap.size + 8) 104 v E3.cs 3 [⟨4, q, 0⟩, ⟨7, q, 0⟩]))) ∧ wr.cell? ⟨w.heap.size + 4, 0, none⟩ = some (.int .i64 4) ∧ wr.frozen? ⟨w.heap.size + 4, 0, none⟩ = false ∧ wr.cell? ⟨w.heap.size + 4, 1, none⟩ = some (.int .i64 7) ∧ wr.frozen? ⟨w.heap.size + 4, 1, none⟩ = false ∧ Below w.heap.size w wr ∧ w.heap.size + 9 ≤ wr.heap.size) (fun _ i _ => 2 - (intOf i).toNat)
  case atStart => exact ⟨.inl ⟨rfl, own_lit0 _ _ _ _ (by simp) (by omega)⟩, (by repeat (first | (refine Eq.trans (World.cell?_alloc_at _ _ _ _ ?hh) ?_; (case hh => (simp; done)); rfl) | refine cell_alloc_keep _ ?_)), (by repeat (first | (refine World.frozen?_alloc_at _ _ _ _ ?hh; case hh => (simp; done)) | (refine frozen_alloc_lt _ ?hh ?_; case hh => first | omega | (simp <;> omega)))), (by repeat (first | (refine Eq.trans (World.cell?_alloc_at _ _ _ _ ?hh) ?_; (case hh => (simp; done)); rfl) | refine cell_alloc_keep _ ?_)), (by repeat (first | (refine World.frozen?_alloc_at _ _ _ _ ?hh; case hh => (simp; done)) | (refine frozen_alloc_lt _ ?hh ?_; case hh => first | omega | (simp <;> omega)))), (by repeat (first | exact Below.refl _ _ | assumption | refine Below.drew ?_ | refine below_drewN ?_ _ | refine Below.alloc ?_ (by first | omega | (simp <;> omega)) _ | refine Below.setCell ?_ (by first | omega | (simp <;> omega)) _ | refine Below.trans ?_ (Below.mono (by assumption) (by first | omega | (simp <;> omega))))), by simp⟩
  case round =>
    obtain ⟨hown, c0, f0, c1, f1, hbel, hsz⟩ := hrel
    rcases hown with ⟨rfl, hown⟩ | ⟨rfl, hown⟩ | ⟨rfl, hown⟩
    · go_wp2_with (at_builtin; go_must (refine wpList_append_some _ rfl _ _ 28 rfl (w.heap.size + 8) 104 i0 (.agg #[.int .i64 0, .int .i64 0, .int .i64 0]) 3 24 Try.underlying28 hi hz0 hz1 hz2 rfl (by decide) _ 0 _ rfl (hown.out.alloc _) ⟨wr.heap.size, 0, none⟩ 1 1 [.int .i64 4, .int .i64 q, .int .i64 0] rfl rfl (news_cells _ [_, _, _] _) (fun x hx => by simp at hx; rcases hx with rfl | rfl | rfl <;> rfl) (by unfold maxLen; omega) (by omega) (by simp; omega) (by omega) ?_; intro g cap w1 hown1 hg1 hgr1 hsz1))
      have hb1 := grown_below (hbel.alloc (by omega) _) (hown.out.alloc _) hgr1 (by omega) (by simp; omega)
      have hz : w.heap.size + 9 ≤ w1.heap.size := by simp at hsz1; omega
      have d0 := grown_keep _ hown.out hgr1 c0 f0 (by omega)
      have d1 := grown_keep _ hown.out hgr1 c1 f1 (by omega)
      go_roundw
      case rel => exact ⟨(.inr (.inl ⟨rfl, hown1⟩)), d0.1, d0.2, d1.1, d1.2, hb1, hz⟩
      case measure => simp [intOf]
    · go_wp2_with (at_builtin; go_must (refine wpList_append_some _ rfl _ _ 28 rfl (w.heap.size + 8) 104 i0 (.agg #[.int .i64 0, .int .i64 0, .int .i64 0]) 3 24 Try.underlying28 hi hz0 hz1 hz2 rfl (by decide) _ 1 _ rfl (hown.out.alloc _) ⟨wr.heap.size, 0, none⟩ 1 1 [.int .i64 7, .int .i64 q, .int .i64 0] rfl rfl (news_cells _ [_, _, _] _) (fun x hx => by simp at hx; rcases hx with rfl | rfl | rfl <;> rfl) (by unfold maxLen; omega) (by omega) (by simp; omega) (by omega) ?_; intro g cap w1 hown1 hg1 hgr1 hsz1))
      have hb1 := grown_below (hbel.alloc (by omega) _) (hown.out.alloc _) hgr1 (by omega) (by simp; omega)
      have hz : w.heap.size + 9 ≤ w1.heap.size := by simp at hsz1; omega
      have d0 := grown_keep _ hown.out hgr1 c0 f0 (by omega)
      have d1 := grown_keep _ hown.out hgr1 c1 f1 (by omega)
      go_roundw
      case rel => exact ⟨(.inr (.inr (⟨rfl, hown1⟩))), d0.1, d0.2, d1.1, d1.2, hb1, hz⟩
      case measure => simp [intOf]
    · go_wp2_with fail
      go_ret
      exact ⟨_, rfl, OwnE.le hown.out (by omega), (by repeat (first | exact Below.refl _ _ | assumption | refine Below.drew ?_ | refine below_drewN ?_ _ | refine Below.alloc ?_ (by first | omega | (simp <;> omega)) _ | refine Below.setCell ?_ (by first | omega | (simp <;> omega)) _ | refine Below.trans ?_ (Below.mono (by assumption) (by first | omega | (simp <;> omega)))))⟩

theorem impl_rotation_6 (q : Int) (w : World) :
    Calls Try.prog 64 #[.int .i64 q, .int .i64 6] w fun e w' => ∃ v, e = .returned v ∧ OwnE w' w.heap.size 104 v E3.cs 3 [⟨6, q, 0⟩] ∧ Below w.heap.size w w' := by
  obtain ⟨i0, hi, hz0, hz1, hz2⟩ := info_parts info_gate
  go_enter Try.func64, Try.ntmps64
  go_wp2_with fail
  go_loopw [6, 22] (fun v i wr => ((i = .int .i64 0 ∧ Hid (OwnE wr (w.heap.size + 8) 104 v E3.cs 3 ([] : List E3))) ∨ (i = .int .i64 1 ∧ Hid (OwnE wr (w.heap.size + 8) 104 v E3.cs 3 [⟨6, q, 0⟩]))) ∧ wr.cell? ⟨w.heap.size + 5, 0, none⟩ = some (.int .i64 6) ∧ wr.frozen? ⟨w.heap.size + 5, 0, none⟩ = false ∧ Below w.heap.size w wr ∧ w.heap.size + 9 ≤ wr.heap.size) (fun _ i _ => 1 - (intOf i).toNat)
  case atStart => exact ⟨.inl ⟨rfl, own_lit0 _ _ _ _ (by simp) (by omega)⟩, (by repeat (first | (refine Eq.trans (World.cell?_alloc_at _ _ _ _ ?hh) ?_; (case hh => (simp; done)); rfl) | refine cell_alloc_keep _ ?_)), (by repeat (first | (refine World.frozen?_alloc_at _ _ _ _ ?hh; case hh => (simp; done)) | (refine frozen_alloc_lt _ ?hh ?_; case hh => first | omega | (simp <;> omega)))), (by repeat (first | exact Below.refl _ _ | assumption | refine Below.drew ?_ | refine below_drewN ?_ _ | refine Below.alloc ?_ (by first | omega | (simp <;> omega)) _ | refine Below.setCell ?_ (by first | omega | (simp <;> omega)) _ | refine Below.trans ?_ (Below.mono (by assumption) (by first | omega | (simp <;> omega))))), by simp⟩
  case round =>
    obtain ⟨hown, c0, f0, hbel, hsz⟩ := hrel
    rcases hown with ⟨rfl, hown⟩ | ⟨rfl, hown⟩
    · go_wp2_with (at_builtin; go_must (refine wpList_append_some _ rfl _ _ 28 rfl (w.heap.size + 8) 104 i0 (.agg #[.int .i64 0, .int .i64 0, .int .i64 0]) 3 24 Try.underlying28 hi hz0 hz1 hz2 rfl (by decide) _ 0 _ rfl (hown.out.alloc _) ⟨wr.heap.size, 0, none⟩ 1 1 [.int .i64 6, .int .i64 q, .int .i64 0] rfl rfl (news_cells _ [_, _, _] _) (fun x hx => by simp at hx; rcases hx with rfl | rfl | rfl <;> rfl) (by unfold maxLen; omega) (by omega) (by simp; omega) (by omega) ?_; intro g cap w1 hown1 hg1 hgr1 hsz1))
      have hb1 := grown_below (hbel.alloc (by omega) _) (hown.out.alloc _) hgr1 (by omega) (by simp; omega)
      have hz : w.heap.size + 9 ≤ w1.heap.size := by simp at hsz1; omega
      have d0 := grown_keep _ hown.out hgr1 c0 f0 (by omega)
      go_roundw
      case rel => exact ⟨(.inr (⟨rfl, hown1⟩)), d0.1, d0.2, hb1, hz⟩
      case measure => simp [intOf]
    · go_wp2_with fail
      go_ret
      exact ⟨_, rfl, OwnE.le hown.out (by omega), (by repeat (first | exact Below.refl _ _ | assumption | refine Below.drew ?_ | refine below_drewN ?_ _ | refine Below.alloc ?_ (by first | omega | (simp <;> omega)) _ | refine Below.setCell ?_ (by first | omega | (simp <;> omega)) _ | refine Below.trans ?_ (Below.mono (by assumption) (by first | omega | (simp <;> omega)))))⟩

theorem impl_rotation_7 (q : Int) (w : World) :
    Calls Try.prog 64 #[.int .i64 q, .int .i64 7] w fun e w' => ∃ v, e = .returned v ∧ OwnE w' w.heap.size 104 v E3.cs 3 [⟨8, q, 0⟩] ∧ Below w.heap.size w w' := by
  obtain ⟨i0, hi, hz0, hz1, hz2⟩ := info_parts info_gate
  go_enter Try.func64, Try.ntmps64
  go_wp2_with fail
  go_loopw [6, 22] (fun v i wr => ((i = .int .i64 0 ∧ Hid (OwnE wr (w.heap.size + 8) 104 v E3.cs 3 ([] : List E3))) ∨ (i = .int .i64 1 ∧ Hid (OwnE wr (w.heap.size + 8) 104 v E3.cs 3 [⟨8, q, 0⟩]))) ∧ wr.cell? ⟨w.heap.size + 6, 0, none⟩ = some (.int .i64 8) ∧ wr.frozen? ⟨w.heap.size + 6, 0, none⟩ = false ∧ Below w.heap.size w wr ∧ w.heap.size + 9 ≤ wr.heap.size) (fun _ i _ => 1 - (intOf i).toNat)
  case atStart => exact ⟨.inl ⟨rfl, own_lit0 _ _ _ _ (by simp) (by omega)⟩, (by repeat (first | (refine Eq.trans (World.cell?_alloc_at _ _ _ _ ?hh) ?_; (case hh => (simp; done)); rfl) | refine cell_alloc_keep _ ?_)), (by repeat (first | (refine World.frozen?_alloc_at _ _ _ _ ?hh; case hh => (simp; done)) | (refine frozen_alloc_lt _ ?hh ?_; case hh => first | omega | (simp <;> omega)))), (by repeat (first | exact Below.refl _ _ | assumption | refine Below.drew ?_ | refine below_drewN ?_ _ | refine Below.alloc ?_ (by first | omega | (simp <;> omega)) _ | refine Below.setCell ?_ (by first | omega | (simp <;> omega)) _ | refine Below.trans ?_ (Below.mono (by assumption) (by first | omega | (simp <;> omega))))), by simp⟩
  case round =>
    obtain ⟨hown, c0, f0, hbel, hsz⟩ := hrel
    rcases hown with ⟨rfl, hown⟩ | ⟨rfl, hown⟩
    · go_wp2_with (at_builtin; go_must (refine wpList_append_some _ rfl _ _ 28 rfl (w.heap.size + 8) 104 i0 (.agg #[.int .i64 0, .int .i64 0, .int .i64 0]) 3 24 Try.underlying28 hi hz0 hz1 hz2 rfl (by decide) _ 0 _ rfl (hown.out.alloc _) ⟨wr.heap.size, 0, none⟩ 1 1 [.int .i64 8, .int .i64 q, .int .i64 0] rfl rfl (news_cells _ [_, _, _] _) (fun x hx => by simp at hx; rcases hx with rfl | rfl | rfl <;> rfl) (by unfold maxLen; omega) (by omega) (by simp; omega) (by omega) ?_; intro g cap w1 hown1 hg1 hgr1 hsz1))
      have hb1 := grown_below (hbel.alloc (by omega) _) (hown.out.alloc _) hgr1 (by omega) (by simp; omega)
      have hz : w.heap.size + 9 ≤ w1.heap.size := by simp at hsz1; omega
      have d0 := grown_keep _ hown.out hgr1 c0 f0 (by omega)
      go_roundw
      case rel => exact ⟨(.inr (⟨rfl, hown1⟩)), d0.1, d0.2, hb1, hz⟩
      case measure => simp [intOf]
    · go_wp2_with fail
      go_ret
      exact ⟨_, rfl, OwnE.le hown.out (by omega), (by repeat (first | exact Below.refl _ _ | assumption | refine Below.drew ?_ | refine below_drewN ?_ _ | refine Below.alloc ?_ (by first | omega | (simp <;> omega)) _ | refine Below.setCell ?_ (by first | omega | (simp <;> omega)) _ | refine Below.trans ?_ (Below.mono (by assumption) (by first | omega | (simp <;> omega)))))⟩
end Go.Proofs.Ytdkfoleippncnaa
