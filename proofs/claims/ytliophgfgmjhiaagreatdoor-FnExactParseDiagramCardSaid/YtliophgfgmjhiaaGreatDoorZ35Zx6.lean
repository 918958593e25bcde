/- A diagram's validity: the program's order of wires, its ends. -/
import Derived.Test.YtliophgfgmjhiaaGreatDoorZ34Zx5
import Derived.Test.YtliophgfgmjhiaaGreatDoorZ06Zx4
import Derived.Test.YtliophgfgmjhiaaGreatDoorZ04Brk
import Derived.BigRegion
import Derived.BigQuiet
import Derived.Deep.DeepCutAuto
namespace Go.Proofs.YtliophgfgmjhiaaGreatDoor
set_option linter.unusedSimpArgs false
set_option linter.unusedVariables false
set_option linter.unnecessarySimpa false
set_option maxRecDepth 200000
open Go.ChangeShapes Go.WideShapes Go.ChangeAt Go.RowKit

def cmpI (a b : Int) : Int := if a < b then -1 else if b < a then 1 else 0
def orI (p q : Int) : Int := if p = 0 then q else p
def cmpW (x y : EW) : Int := orI (cmpI x.a y.a) (cmpI x.b y.b)
theorem cmpI_lt {a b : Int} (h : a < b) : -1 = cmpI a b := by unfold cmpI; rw [if_pos h]
theorem cmpI_gt {a b : Int} (h0 : ¬ a < b) (h : b < a) : 1 = cmpI a b := by unfold cmpI; rw [if_neg h0, if_pos h]
theorem cmpI_eq {a b : Int} (h0 : ¬ a < b) (h : ¬ b < a) : 0 = cmpI a b := by unfold cmpI; rw [if_neg h0, if_neg h]
theorem cmpI_in (a b : Int) : -1 ≤ cmpI a b ∧ cmpI a b ≤ 1 := by unfold cmpI; split; decide; split <;> decide
theorem cmpW_ge (x y : EW) : decide (0 ≤ cmpW x y) = !lessB x y := by
  unfold cmpW orI lessB cmpI
  rw [Bool.eq_iff_iff]
  simp only [decide_eq_true_eq, Bool.not_eq_true', Bool.or_eq_false_iff, decide_eq_false_iff_not, Bool.and_eq_false_iff]
  split <;> split <;> (try split) <;> (try split) <;> omega
theorem cmp_Compare_any (a b : Int) (w : World) : Calls Tryz.prog 78 #[.int .i64 a, .int .i64 b] w fun e w' => e = .returned (.int .i64 (cmpI a b)) ∧ w' = w := by
  have na : (a != a) = false := by simp
  have nb : (b != b) = false := by simp
  by_cases h : a < b
  · have HR := Lib.hid (cmpI_lt h)
    go_enter Tryz.func78, Tryz.ntmps78
    go_wp2_with (go_at_call 93; go_enter Tryz.func93, Tryz.ntmps93)
    go_ret
    exact ⟨ret_int HR.out, rfl⟩
  · by_cases h2 : b < a
    · have HR := Lib.hid (cmpI_gt h h2)
      go_enter Tryz.func78, Tryz.ntmps78
      go_wp2_with (go_at_call 93; go_enter Tryz.func93, Tryz.ntmps93)
      go_ret
      exact ⟨ret_int HR.out, rfl⟩
    · have HR := Lib.hid (cmpI_eq h h2)
      go_enter Tryz.func78, Tryz.ntmps78
      go_wp2_with (go_at_call 93; go_enter Tryz.func93, Tryz.ntmps93)
      go_ret
      exact ⟨ret_int HR.out, rfl⟩
theorem cmp_Or_two (B : Nat) (p q : Int) (w : World) (h0 : w.cell? ⟨B, 0, none⟩ = some (.int .i64 p)) (h1 : w.cell? ⟨B, 1, none⟩ = some (.int .i64 q)) :
    Calls Tryz.prog 77 #[.slice (some ⟨B, 0, none⟩) 2 2] w fun e w' => e = .returned (.int .i64 (orI p q)) ∧ w' = w := by
  by_cases hp : p = 0
  · have HR := Lib.hid (show q = orI p q from by unfold orI; rw [if_pos hp])
    have b1 : (p != 0) = false := by simpa using hp
    clear hp
    by_cases hq : q = 0
    · have HQ := Lib.hid (show (0 : Int) = orI p q from by rw [← HR.out, hq])
      have b2 : (q != 0) = false := by simpa using hq
      clear hq
      go_enter Tryz.func77, Tryz.ntmps77
      go_wp2_with fail
      refine wp_loop_rounds 3 ?_
      rw [rounds_succ]
      go_wp2_with fail
      rw [rounds_succ]
      go_wp2_with fail
      rw [rounds_succ]
      go_wp2_with fail
      go_ret
      exact ⟨ret_int HQ.out, rfl⟩
    · have b2 : (q != 0) = true := by simpa using hq
      clear hq
      go_enter Tryz.func77, Tryz.ntmps77
      go_wp2_with fail
      refine wp_loop_rounds 3 ?_
      rw [rounds_succ]
      go_wp2_with fail
      rw [rounds_succ]
      go_wp2_with fail
      go_ret
      exact ⟨ret_int HR.out, rfl⟩
  · have HR := Lib.hid (show p = orI p q from by unfold orI; rw [if_neg hp])
    have b1 : (p != 0) = true := by simpa using hp
    clear hp
    go_enter Tryz.func77, Tryz.ntmps77
    go_wp2_with fail
    refine wp_loop_rounds 3 ?_
    rw [rounds_succ]
    go_wp2_with fail
    go_ret
    exact ⟨ret_int HR.out, rfl⟩
set_option maxHeartbeats 4000000 in
theorem impl_compareWires_any (x y : EW) (w : World) :
    Calls Tryz.prog 58 #[.agg #[.int .i64 x.a, .int .i64 x.b, .bool x.h], .agg #[.int .i64 y.a, .int .i64 y.b, .bool y.h]] w fun e w' => e = .returned (.int .i64 (cmpW x y)) ∧ Below w.heap.size w w' := by
  go_enter Tryz.func58, Tryz.ntmps58
  go_upto_region 1 with fail
  obtain ⟨W, hW⟩ : ∃ W, W = (w.alloc (.cells #[.int .i64 x.a, .int .i64 x.b, .bool x.h] 40)).alloc (.cells #[.int .i64 y.a, .int .i64 y.b, .bool y.h] 40) := ⟨_, rfl⟩
  have x0 : W.drew.cell? ⟨w.heap.size, 0, none⟩ = some (.int .i64 x.a) := by rw [hW]; exact (by repeat (first | (refine Eq.trans (World.cell?_alloc_at _ _ _ _ ?hh) ?_; (case hh => (simp; done)); rfl) | refine cell_alloc_keep _ ?_ | refine cell_drew ?_ | refine below_cell (by assumption) rfl ?_))
  have x1 : W.drew.cell? ⟨w.heap.size, 1, none⟩ = some (.int .i64 x.b) := by rw [hW]; exact (by repeat (first | (refine Eq.trans (World.cell?_alloc_at _ _ _ _ ?hh) ?_; (case hh => (simp; done)); rfl) | refine cell_alloc_keep _ ?_ | refine cell_drew ?_ | refine below_cell (by assumption) rfl ?_))
  have y0 : W.drew.cell? ⟨w.heap.size + 1, 0, none⟩ = some (.int .i64 y.a) := by rw [hW]; exact (by repeat (first | (refine Eq.trans (World.cell?_alloc_at _ _ _ _ ?hh) ?_; (case hh => (simp; done)); rfl) | refine cell_alloc_keep _ ?_ | refine cell_drew ?_ | refine below_cell (by assumption) rfl ?_))
  have y1 : W.drew.cell? ⟨w.heap.size + 1, 1, none⟩ = some (.int .i64 y.b) := by rw [hW]; exact (by repeat (first | (refine Eq.trans (World.cell?_alloc_at _ _ _ _ ?hh) ?_; (case hh => (simp; done)); rfl) | refine cell_alloc_keep _ ?_ | refine cell_drew ?_ | refine below_cell (by assumption) rfl ?_))
  have B0 := Lib.hid (show Below w.heap.size w W.drew from by rw [hW]; exact (by repeat (first | exact Below.refl _ _ | assumption | refine Below.drew ?_ | refine below_drewN ?_ _ | refine Below.alloc ?_ (by first | omega | (simp <;> omega)) _ | refine Below.setCell ?_ (by first | omega | (simp <;> omega)) _ | refine Below.trans ?_ (Below.mono (by assumption) (by first | omega | (simp <;> omega))))))
  have z0 : w.heap.size ≤ W.drew.heap.size := B0.out.size
  rw [← hW]
  clear hW
  refine AnyB.begin (S := (fun w' => w'.cell? ⟨w.heap.size, 0, none⟩ = some (.int .i64 x.a) ∧ w'.cell? ⟨w.heap.size, 1, none⟩ = some (.int .i64 x.b) ∧ w'.cell? ⟨w.heap.size + 1, 0, none⟩ = some (.int .i64 y.a) ∧ w'.cell? ⟨w.heap.size + 1, 1, none⟩ = some (.int .i64 y.b))) [] (by kernel_rfl) ?_ (fun hHeld0 => ?_)
  · ((try dsimp only); (first | exact ⟨x0, x1, y0, y1⟩ | exact ⟨cell_alloc_keep _ x0, cell_alloc_keep _ x1, cell_alloc_keep _ y0, cell_alloc_keep _ y1⟩))
  refine AnyB.takeQ (i := 0) (oi := _) (v := ?_) (by simp only [List.getElem?_toArray, List.getElem?_cons_zero, List.getElem?_cons_succ]; rfl) (by kernel_rfl) (by kernel_rfl) (by kernel_rfl) (by intro _ _ _ h; exact h) (Or.inl ⟨by rfl, ?_⟩) ?_
  rotate_left
  · (intro w hSw; (try dsimp only at hSw); go_simp; (try (with_reducible rfl)))
  try simp only [Act.put, List.setIfInBounds_toArray, List.set_cons_zero, List.set_cons_succ]
  refine AnyB.take (i := 1) (oi := _) (v := ?_) (by simp only [List.getElem?_toArray, List.getElem?_cons_zero, List.getElem?_cons_succ]; rfl) (by kernel_rfl) (by kernel_rfl) (by kernel_rfl) (by kernel_rfl) (by kernel_rfl) (by intro _ _ _ h; exact h) (Or.inl ⟨by rfl, ?_⟩) (by assumption) ?_
  rotate_left
  · (intro w hSw; (try dsimp only at hSw); go_simp; (try (with_reducible rfl)))
  try simp only [Act.put, List.setIfInBounds_toArray, List.set_cons_zero, List.set_cons_succ]
  refine AnyB.takeQ (i := 2) (oi := _) (v := ?_) (by simp only [List.getElem?_toArray, List.getElem?_cons_zero, List.getElem?_cons_succ]; rfl) (by kernel_rfl) (by kernel_rfl) (by kernel_rfl) (by intro _ _ _ h; exact h) (Or.inl ⟨by rfl, ?_⟩) ?_
  rotate_left
  · (intro w hSw; (try dsimp only at hSw); go_simp; (try (with_reducible rfl)))
  try simp only [Act.put, List.setIfInBounds_toArray, List.set_cons_zero, List.set_cons_succ]
  refine AnyB.take (i := 3) (oi := _) (v := ?_) (by simp only [List.getElem?_toArray, List.getElem?_cons_zero, List.getElem?_cons_succ]; rfl) (by kernel_rfl) (by kernel_rfl) (by kernel_rfl) (by kernel_rfl) (by kernel_rfl) (by intro _ _ _ h; exact h) (Or.inl ⟨by rfl, ?_⟩) (by assumption) ?_
  rotate_left
  · (intro w hSw; (try dsimp only at hSw); go_simp; (try (with_reducible rfl)))
  try simp only [Act.put, List.setIfInBounds_toArray, List.set_cons_zero, List.set_cons_succ]
  refine AnyB.takeQ (i := 5) (oi := _) (v := ?_) (by simp only [List.getElem?_toArray, List.getElem?_cons_zero, List.getElem?_cons_succ]; rfl) (by kernel_rfl) (by kernel_rfl) (by kernel_rfl) (by intro _ _ _ h; exact h) (Or.inl ⟨by rfl, ?_⟩) ?_
  rotate_left
  · (intro w hSw; (try dsimp only at hSw); go_simp; (try (with_reducible rfl)))
  try simp only [Act.put, List.setIfInBounds_toArray, List.set_cons_zero, List.set_cons_succ]
  refine AnyB.take (i := 6) (oi := _) (v := ?_) (by simp only [List.getElem?_toArray, List.getElem?_cons_zero, List.getElem?_cons_succ]; rfl) (by kernel_rfl) (by kernel_rfl) (by kernel_rfl) (by kernel_rfl) (by kernel_rfl) (by intro _ _ _ h; exact h) (Or.inl ⟨by rfl, ?_⟩) (by assumption) ?_
  rotate_left
  · (intro w hSw; (try dsimp only at hSw); go_simp; (try (with_reducible rfl)))
  try simp only [Act.put, List.setIfInBounds_toArray, List.set_cons_zero, List.set_cons_succ]
  refine AnyB.takeQ (i := 7) (oi := _) (v := ?_) (by simp only [List.getElem?_toArray, List.getElem?_cons_zero, List.getElem?_cons_succ]; rfl) (by kernel_rfl) (by kernel_rfl) (by kernel_rfl) (by intro _ _ _ h; exact h) (Or.inl ⟨by rfl, ?_⟩) ?_
  rotate_left
  · (intro w hSw; (try dsimp only at hSw); go_simp; (try (with_reducible rfl)))
  try simp only [Act.put, List.setIfInBounds_toArray, List.set_cons_zero, List.set_cons_succ]
  refine AnyB.take (i := 8) (oi := _) (v := ?_) (by simp only [List.getElem?_toArray, List.getElem?_cons_zero, List.getElem?_cons_succ]; rfl) (by kernel_rfl) (by kernel_rfl) (by kernel_rfl) (by kernel_rfl) (by kernel_rfl) (by intro _ _ _ h; exact h) (Or.inl ⟨by rfl, ?_⟩) (by assumption) ?_
  rotate_left
  · (intro w hSw; (try dsimp only at hSw); go_simp; (try (with_reducible rfl)))
  try simp only [Act.put, List.setIfInBounds_toArray, List.set_cons_zero, List.set_cons_succ]
  refine AnyB.each (rs := [4]) (by kernel_rfl) (by simp) ?_
  refine EachB.cons rfl (fun K hK hB => ?_) ?_
  · skip
    (go_simp; go_at_call 78; refine (cmp_Compare_any _ _ _).mono ?_; rintro e w1 ⟨rfl, rfl⟩; dsimp only)
    refine hK.out _ _ ?_ (fun hHeld1 => ?_)
    · ((try dsimp only); (first | exact ⟨x0, x1, y0, y1⟩ | exact ⟨cell_alloc_keep _ x0, cell_alloc_keep _ x1, cell_alloc_keep _ y0, cell_alloc_keep _ y1⟩))
    clear hB hK K hHeld0
    refine AnyB.each (rs := [9]) (by kernel_rfl) (by simp) ?_
    refine EachB.cons rfl (fun K hK hB => ?_) ?_
    · skip
      (go_simp; go_at_call 78; refine (cmp_Compare_any _ _ _).mono ?_; rintro e w1 ⟨rfl, rfl⟩; dsimp only)
      refine hK.out _ _ ?_ (fun hHeld2 => ?_)
      · ((try dsimp only); (first | exact ⟨x0, x1, y0, y1⟩ | exact ⟨cell_alloc_keep _ x0, cell_alloc_keep _ x1, cell_alloc_keep _ y0, cell_alloc_keep _ y1⟩))
      clear hB hK K hHeld1
      refine AnyB.each (rs := [10]) (by kernel_rfl) (by simp) ?_
      refine EachB.cons rfl (fun K hK hB => ?_) ?_
      · skip
        go_simp
        refine hK.out _ _ ?_ (fun hHeld3 => ?_)
        · ((try dsimp only); (first | exact ⟨x0, x1, y0, y1⟩ | exact ⟨cell_alloc_keep _ x0, cell_alloc_keep _ x1, cell_alloc_keep _ y0, cell_alloc_keep _ y1⟩))
        clear hB hK K hHeld2
        refine AnyB.each (rs := [11]) (by kernel_rfl) (by simp) ?_
        refine EachB.cons rfl (fun K hK hB => ?_) ?_
        · skip
          (go_simp; go_at_call 77; refine (cmp_Or_two _ (cmpI x.a y.a) (cmpI x.b y.b) _ (by repeat (first | (refine Eq.trans (World.cell?_alloc_at _ _ _ _ ?hh) ?_; (case hh => (simp; done)); rfl) | refine cell_alloc_keep _ ?_)) (by repeat (first | (refine Eq.trans (World.cell?_alloc_at _ _ _ _ ?hh) ?_; (case hh => (simp; done)); rfl) | refine cell_alloc_keep _ ?_))).mono ?_; rintro e w1 ⟨rfl, rfl⟩; dsimp only)
          refine hK.out _ _ ?_ (fun hHeld4 => ?_)
          · ((try dsimp only); (first | exact ⟨x0, x1, y0, y1⟩ | exact ⟨cell_alloc_keep _ x0, cell_alloc_keep _ x1, cell_alloc_keep _ y0, cell_alloc_keep _ y1⟩))
          clear hB hK K hHeld3
          refine AnyB.takeQ (i := 12) (oi := _) (v := ?_) (by simp only [List.getElem?_toArray, List.getElem?_cons_zero, List.getElem?_cons_succ]; rfl) (by kernel_rfl) (by kernel_rfl) (by kernel_rfl) (by intro _ _ _ h; exact h) (Or.inl ⟨by rfl, ?_⟩) ?_
          rotate_left
          · (intro w hSw; (try dsimp only at hSw); go_simp; (try (with_reducible rfl)))
          try simp only [Act.put, List.setIfInBounds_toArray, List.set_cons_zero, List.set_cons_succ]
          refine AnyB.none (by kernel_rfl) ?_ _
          go_wp2_with fail
          go_ret
          exact ⟨rfl, (show Below _ _ _ from Below.alloc B0.out z0 _)⟩
        exact EachB.nil
      exact EachB.nil
    exact EachB.nil
  exact EachB.nil
end Go.Proofs.YtliophgfgmjhiaaGreatDoor
