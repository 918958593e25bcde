/- PhaseNetwork: the program. -/
import Derived.Test.YtbcjligkjoimmaaZ43M
import Derived.Test.YtbcjligkjoimmaaZ32M
import Derived.Test.YtbcjligkjoimmaaZ29Brk
import Derived.BigRegion
import Derived.BigQuiet
import Derived.Deep.DeepCutAuto
namespace Go.Proofs.Ytbcjligkjoimmaa
set_option linter.unusedSimpArgs false
set_option linter.unusedVariables false
set_option linter.unnecessarySimpa false
set_option maxRecDepth 200000
open Go.ChangeShapes Go.WideShapes Go.ChangeAt Go.RowKit

set_option maxHeartbeats 4000000 in
theorem impl_PhaseNetwork_no (v u : Value) (p : PP) (w : World) (h : RdE w v E2.cs 2 p.ts) (k : RdI w u p.out) (hl : p.ts.length ≤ 1048576) (hm : p.out.length ≤ 1048576) (hb : ppB p = false) :
    Calls Try.prog 7 #[.agg #[.int .i64 p.n, .int .i64 p.ph, v, u]] w (CircPost w (phnG p)) := by
  have HH := Lib.hid h; have KT := Lib.hid k
  obtain ⟨A, c, rfl, _⟩ := h.form
  obtain ⟨A2, c2, rfl, _⟩ := k.form
  clear h k
  have HG := Lib.hid (phnG_none hb)
  have HB := Lib.hid hb; clear hb
  go_enter Try.func7, Try.ntmps7
  go_wp2_with fail
  refine (impl_IsValidPhasePoly_any _ _ p _ (Rd.below HH.out (show Below w.heap.size w _ from (by repeat (first | exact Below.refl _ _ | assumption | refine Below.drew ?_ | refine below_drewN ?_ _ | refine Below.alloc ?_ (by first | omega | (simp <;> omega)) _ | refine Below.setCell ?_ (by first | omega | (simp <;> omega)) _ | refine Below.trans ?_ (Below.mono (by assumption) (by first | omega | (simp <;> omega)))))) rfl) (Rd.below KT.out (show Below w.heap.size w _ from (by repeat (first | exact Below.refl _ _ | assumption | refine Below.drew ?_ | refine below_drewN ?_ _ | refine Below.alloc ?_ (by first | omega | (simp <;> omega)) _ | refine Below.setCell ?_ (by first | omega | (simp <;> omega)) _ | refine Below.trans ?_ (Below.mono (by assumption) (by first | omega | (simp <;> omega)))))) rfl) hl hm).mono ?_; rintro e w1 ⟨rfl, hb1⟩; rw [HB.out]
  have t0 := below_cell hb1 rfl (show ((w.alloc (.cells #[.int .i64 p.n, .int .i64 p.ph, .slice A p.ts.length c, .slice A2 p.out.length c2] 37)).alloc (.cells #[.int .i64 0, .slice none 0 0] 31)).cell? ⟨w.heap.size, 0, none⟩ = some (.int .i64 p.n) from (by repeat (first | (refine Eq.trans (World.cell?_alloc_at _ _ _ _ ?hh) ?_; (case hh => (simp; done)); rfl) | refine cell_alloc_keep _ ?_)))
  have t1 := below_cell hb1 rfl (show ((w.alloc (.cells #[.int .i64 p.n, .int .i64 p.ph, .slice A p.ts.length c, .slice A2 p.out.length c2] 37)).alloc (.cells #[.int .i64 0, .slice none 0 0] 31)).cell? ⟨w.heap.size, 1, none⟩ = some (.int .i64 p.ph) from (by repeat (first | (refine Eq.trans (World.cell?_alloc_at _ _ _ _ ?hh) ?_; (case hh => (simp; done)); rfl) | refine cell_alloc_keep _ ?_)))
  have t2 := below_cell hb1 rfl (show ((w.alloc (.cells #[.int .i64 p.n, .int .i64 p.ph, .slice A p.ts.length c, .slice A2 p.out.length c2] 37)).alloc (.cells #[.int .i64 0, .slice none 0 0] 31)).cell? ⟨w.heap.size, 2, none⟩ = some (.slice A p.ts.length c) from (by repeat (first | (refine Eq.trans (World.cell?_alloc_at _ _ _ _ ?hh) ?_; (case hh => (simp; done)); rfl) | refine cell_alloc_keep _ ?_)))
  have t3 := below_cell hb1 rfl (show ((w.alloc (.cells #[.int .i64 p.n, .int .i64 p.ph, .slice A p.ts.length c, .slice A2 p.out.length c2] 37)).alloc (.cells #[.int .i64 0, .slice none 0 0] 31)).cell? ⟨w.heap.size, 3, none⟩ = some (.slice A2 p.out.length c2) from (by repeat (first | (refine Eq.trans (World.cell?_alloc_at _ _ _ _ ?hh) ?_; (case hh => (simp; done)); rfl) | refine cell_alloc_keep _ ?_)))
  have r0 := below_cell hb1 rfl (show ((w.alloc (.cells #[.int .i64 p.n, .int .i64 p.ph, .slice A p.ts.length c, .slice A2 p.out.length c2] 37)).alloc (.cells #[.int .i64 0, .slice none 0 0] 31)).cell? ⟨w.heap.size + 1, 0, none⟩ = some (.int .i64 0) from (by repeat (first | (refine Eq.trans (World.cell?_alloc_at _ _ _ _ ?hh) ?_; (case hh => (simp; done)); rfl) | refine cell_alloc_keep _ ?_)))
  have f0 := below_frz hb1 rfl (by simp) (show ((w.alloc (.cells #[.int .i64 p.n, .int .i64 p.ph, .slice A p.ts.length c, .slice A2 p.out.length c2] 37)).alloc (.cells #[.int .i64 0, .slice none 0 0] 31)).frozen? ⟨w.heap.size + 1, 0, none⟩ = false from (by repeat (first | (refine World.frozen?_alloc_at _ _ _ _ ?hh; case hh => (simp; done)) | (refine frozen_alloc_lt _ ?hh ?_; case hh => first | omega | (simp <;> omega)))))
  have r1 := below_cell hb1 rfl (show ((w.alloc (.cells #[.int .i64 p.n, .int .i64 p.ph, .slice A p.ts.length c, .slice A2 p.out.length c2] 37)).alloc (.cells #[.int .i64 0, .slice none 0 0] 31)).cell? ⟨w.heap.size + 1, 1, none⟩ = some (.slice none 0 0) from (by repeat (first | (refine Eq.trans (World.cell?_alloc_at _ _ _ _ ?hh) ?_; (case hh => (simp; done)); rfl) | refine cell_alloc_keep _ ?_)))
  have f1 := below_frz hb1 rfl (by simp) (show ((w.alloc (.cells #[.int .i64 p.n, .int .i64 p.ph, .slice A p.ts.length c, .slice A2 p.out.length c2] 37)).alloc (.cells #[.int .i64 0, .slice none 0 0] 31)).frozen? ⟨w.heap.size + 1, 1, none⟩ = false from (by repeat (first | (refine World.frozen?_alloc_at _ _ _ _ ?hh; case hh => (simp; done)) | (refine frozen_alloc_lt _ ?hh ?_; case hh => first | omega | (simp <;> omega)))))
  have z1 := hb1.size; (simp at z1)
  have bw1 := Lib.hid (show Below w.heap.size w w1 from (by repeat (first | exact Below.refl _ _ | assumption | refine Below.drew ?_ | refine below_drewN ?_ _ | refine Below.alloc ?_ (by first | omega | (simp <;> omega)) _ | refine Below.setCell ?_ (by first | omega | (simp <;> omega)) _ | refine Below.trans ?_ (Below.mono (by assumption) (by first | omega | (simp <;> omega)))))); clear hb1
  go_wp2_with fail
  have hZ := box_set2 (nb := w.heap.size + 1) (.int .i64 0) (.slice none 0 0) r0 r1
  have bq := bw1.out
  exact bodyPost_ret (v := .tuple #[.agg #[.int .i64 0, .slice none 0 0], .bool false]) (by simp [results, Try.results7, go_sem, hZ]) rfl (CircPost.none HG.out (by repeat (first | exact Below.refl _ _ | assumption | refine Below.drew ?_ | refine below_drewN ?_ _ | refine Below.alloc ?_ (by first | omega | (simp <;> omega)) _ | refine Below.setCell ?_ (by first | omega | (simp <;> omega)) _ | refine Below.trans ?_ (Below.mono (by assumption) (by first | omega | (simp <;> omega))))))
set_option maxHeartbeats 8000000 in
theorem impl_PhaseNetwork_ok (v u : Value) (p : PP) (w : World) (h : RdE w v E2.cs 2 p.ts) (k : RdI w u p.out) (hok : PPOk p) :
    Calls Try.prog 7 #[.agg #[.int .i64 p.n, .int .i64 p.ph, v, u]] w (CircPost w (phnG p)) := by
  obtain ⟨m, hP⟩ := pn_ok hok
  obtain ⟨i0, hi, hz0, hz1, hz2⟩ := info_parts info_Gate
  have hl : p.ts.length ≤ 1048576 := by have := hP.few; omega
  have hm : p.out.length ≤ 1048576 := by have := hP.ol; have := hP.m5; omega
  obtain ⟨N, hN, hN7⟩ := hP.ph
  have HPH := Lib.hid hN
  clear hN
  have hnl := hP.netl
  have hrl := hP.red
  have hel := hP.endl
  have HP := Lib.hid hP
  clear hP
  have HH := Lib.hid h; have KT := Lib.hid k
  obtain ⟨A, c, rfl, _⟩ := h.form
  obtain ⟨A2, c2, rfl, _⟩ := k.form
  clear h k
  have HB := Lib.hid (ppB_true hok); clear hok
  go_enter Try.func7, Try.ntmps7
  go_wp2_with fail
  refine (impl_IsValidPhasePoly_any _ _ p _ (Rd.below HH.out (show Below w.heap.size w _ from (by repeat (first | exact Below.refl _ _ | assumption | refine Below.drew ?_ | refine below_drewN ?_ _ | refine Below.alloc ?_ (by first | omega | (simp <;> omega)) _ | refine Below.setCell ?_ (by first | omega | (simp <;> omega)) _ | refine Below.trans ?_ (Below.mono (by assumption) (by first | omega | (simp <;> omega)))))) rfl) (Rd.below KT.out (show Below w.heap.size w _ from (by repeat (first | exact Below.refl _ _ | assumption | refine Below.drew ?_ | refine below_drewN ?_ _ | refine Below.alloc ?_ (by first | omega | (simp <;> omega)) _ | refine Below.setCell ?_ (by first | omega | (simp <;> omega)) _ | refine Below.trans ?_ (Below.mono (by assumption) (by first | omega | (simp <;> omega)))))) rfl) hl hm).mono ?_; rintro e w1 ⟨rfl, hb1⟩; rw [HB.out]
  have t0 := below_cell hb1 rfl (show ((w.alloc (.cells #[.int .i64 p.n, .int .i64 p.ph, .slice A p.ts.length c, .slice A2 p.out.length c2] 37)).alloc (.cells #[.int .i64 0, .slice none 0 0] 31)).cell? ⟨w.heap.size, 0, none⟩ = some (.int .i64 p.n) from (by repeat (first | (refine Eq.trans (World.cell?_alloc_at _ _ _ _ ?hh) ?_; (case hh => (simp; done)); rfl) | refine cell_alloc_keep _ ?_)))
  have t1 := below_cell hb1 rfl (show ((w.alloc (.cells #[.int .i64 p.n, .int .i64 p.ph, .slice A p.ts.length c, .slice A2 p.out.length c2] 37)).alloc (.cells #[.int .i64 0, .slice none 0 0] 31)).cell? ⟨w.heap.size, 1, none⟩ = some (.int .i64 p.ph) from (by repeat (first | (refine Eq.trans (World.cell?_alloc_at _ _ _ _ ?hh) ?_; (case hh => (simp; done)); rfl) | refine cell_alloc_keep _ ?_)))
  have t2 := below_cell hb1 rfl (show ((w.alloc (.cells #[.int .i64 p.n, .int .i64 p.ph, .slice A p.ts.length c, .slice A2 p.out.length c2] 37)).alloc (.cells #[.int .i64 0, .slice none 0 0] 31)).cell? ⟨w.heap.size, 2, none⟩ = some (.slice A p.ts.length c) from (by repeat (first | (refine Eq.trans (World.cell?_alloc_at _ _ _ _ ?hh) ?_; (case hh => (simp; done)); rfl) | refine cell_alloc_keep _ ?_)))
  have t3 := below_cell hb1 rfl (show ((w.alloc (.cells #[.int .i64 p.n, .int .i64 p.ph, .slice A p.ts.length c, .slice A2 p.out.length c2] 37)).alloc (.cells #[.int .i64 0, .slice none 0 0] 31)).cell? ⟨w.heap.size, 3, none⟩ = some (.slice A2 p.out.length c2) from (by repeat (first | (refine Eq.trans (World.cell?_alloc_at _ _ _ _ ?hh) ?_; (case hh => (simp; done)); rfl) | refine cell_alloc_keep _ ?_)))
  have r0 := below_cell hb1 rfl (show ((w.alloc (.cells #[.int .i64 p.n, .int .i64 p.ph, .slice A p.ts.length c, .slice A2 p.out.length c2] 37)).alloc (.cells #[.int .i64 0, .slice none 0 0] 31)).cell? ⟨w.heap.size + 1, 0, none⟩ = some (.int .i64 0) from (by repeat (first | (refine Eq.trans (World.cell?_alloc_at _ _ _ _ ?hh) ?_; (case hh => (simp; done)); rfl) | refine cell_alloc_keep _ ?_)))
  have f0 := below_frz hb1 rfl (by simp) (show ((w.alloc (.cells #[.int .i64 p.n, .int .i64 p.ph, .slice A p.ts.length c, .slice A2 p.out.length c2] 37)).alloc (.cells #[.int .i64 0, .slice none 0 0] 31)).frozen? ⟨w.heap.size + 1, 0, none⟩ = false from (by repeat (first | (refine World.frozen?_alloc_at _ _ _ _ ?hh; case hh => (simp; done)) | (refine frozen_alloc_lt _ ?hh ?_; case hh => first | omega | (simp <;> omega)))))
  have r1 := below_cell hb1 rfl (show ((w.alloc (.cells #[.int .i64 p.n, .int .i64 p.ph, .slice A p.ts.length c, .slice A2 p.out.length c2] 37)).alloc (.cells #[.int .i64 0, .slice none 0 0] 31)).cell? ⟨w.heap.size + 1, 1, none⟩ = some (.slice none 0 0) from (by repeat (first | (refine Eq.trans (World.cell?_alloc_at _ _ _ _ ?hh) ?_; (case hh => (simp; done)); rfl) | refine cell_alloc_keep _ ?_)))
  have f1 := below_frz hb1 rfl (by simp) (show ((w.alloc (.cells #[.int .i64 p.n, .int .i64 p.ph, .slice A p.ts.length c, .slice A2 p.out.length c2] 37)).alloc (.cells #[.int .i64 0, .slice none 0 0] 31)).frozen? ⟨w.heap.size + 1, 1, none⟩ = false from (by repeat (first | (refine World.frozen?_alloc_at _ _ _ _ ?hh; case hh => (simp; done)) | (refine frozen_alloc_lt _ ?hh ?_; case hh => first | omega | (simp <;> omega)))))
  have z1 := hb1.size; (simp at z1)
  have bw1 := Lib.hid (show Below w.heap.size w w1 from (by repeat (first | exact Below.refl _ _ | assumption | refine Below.drew ?_ | refine below_drewN ?_ _ | refine Below.alloc ?_ (by first | omega | (simp <;> omega)) _ | refine Below.setCell ?_ (by first | omega | (simp <;> omega)) _ | refine Below.trans ?_ (Below.mono (by assumption) (by first | omega | (simp <;> omega)))))); clear hb1
  have T0 := Lib.hid t0; have T1 := Lib.hid t1; have T2 := Lib.hid t2; have T3 := Lib.hid t3; have RR0 := Lib.hid r0; have RR1 := Lib.hid r1; have FF0 := Lib.hid f0; have FF1 := Lib.hid f1
  have bd := Lib.hid (show Below w1.heap.size w1 w1.drew from Below.drew (Below.refl _ _))
  have bq : w1.heap.size ≤ w1.drew.heap.size := Nat.le_refl _
  clear t1 t3 r0 r1 f0 f1
  replace t0 : w1.drew.cell? _ = _ := t0
  replace t2 : w1.drew.cell? _ = _ := t2
  go_upto_region 3 with fail
  refine AnyB.begin (S := (fun w' => w'.cell? ⟨w.heap.size, 0, none⟩ = some (.int .i64 p.n) ∧ w'.cell? ⟨w.heap.size, 2, none⟩ = some (.slice A p.ts.length c))) [] (by kernel_rfl) ?_ (fun hHeld0 => ?_)
  · ((try dsimp only); (first | exact ⟨t0, t2⟩))
  refine AnyB.takeQ (i := 0) (oi := _) (v := ?_) (by simp only [List.getElem?_toArray, List.getElem?_cons_zero, List.getElem?_cons_succ]; rfl) (by kernel_rfl) (by kernel_rfl) (by kernel_rfl) (by intro _ _ _ h; exact h) (Or.inl ⟨by rfl, ?_⟩) ?_
  rotate_left
  · (intro w hSw; (try dsimp only at hSw); go_simp; (try (with_reducible rfl)))
  try simp only [Act.put, List.setIfInBounds_toArray, List.set_cons_zero, List.set_cons_succ]
  refine AnyB.take (i := 1) (oi := _) (v := ?_) (by simp only [List.getElem?_toArray, List.getElem?_cons_zero, List.getElem?_cons_succ]; rfl) (by kernel_rfl) (by kernel_rfl) (by kernel_rfl) (by kernel_rfl) (by kernel_rfl) (by intro _ _ _ h; exact h) (Or.inl ⟨by rfl, ?_⟩) (by assumption) ?_
  rotate_left
  · (intro w hSw; (try dsimp only at hSw); go_simp; (try (with_reducible rfl)))
  try simp only [Act.put, List.setIfInBounds_toArray, List.set_cons_zero, List.set_cons_succ]
  refine AnyB.takeQ (i := 2) (oi := _) (v := ?_) (by simp only [List.getElem?_toArray, List.getElem?_cons_zero, List.getElem?_cons_succ]; rfl) (by kernel_rfl) (by kernel_rfl) (by kernel_rfl) (by intro _ _ _ h; exact h) (Or.inl ⟨by rfl, ?_⟩) ?_
  rotate_left
  · (intro w hSw; (try dsimp only at hSw); go_simp; (try (with_reducible rfl)))
  try simp only [Act.put, List.setIfInBounds_toArray, List.set_cons_zero, List.set_cons_succ]
  refine AnyB.take (i := 3) (oi := _) (v := ?_) (by simp only [List.getElem?_toArray, List.getElem?_cons_zero, List.getElem?_cons_succ]; rfl) (by kernel_rfl) (by kernel_rfl) (by kernel_rfl) (by kernel_rfl) (by kernel_rfl) (by intro _ _ _ h; exact h) (Or.inl ⟨by rfl, ?_⟩) (by assumption) ?_
  rotate_left
  · (intro w hSw; (try dsimp only at hSw); go_simp; (try (with_reducible rfl)))
  try simp only [Act.put, List.setIfInBounds_toArray, List.set_cons_zero, List.set_cons_succ]
  refine AnyB.each (rs := [4]) (by kernel_rfl) (by simp) ?_
  refine EachB.cons rfl (fun K hK hB => ?_) ?_
  · skip
    (go_simp; go_at_call 26; refine (impl_masksOf_any _ p.ts _ (Rd.below HH.out (Below.trans bw1.out (bd.out.mono (by omega))) rfl) hl).mono ?_; rintro e w2 ⟨vM, rfl, ho2, hb2⟩; have HMs := Lib.hid ho2.rd; replace t0 := below_cell hb2 rfl t0; replace t2 := below_cell hb2 rfl t2; replace bd := Lib.hid (show Below w1.heap.size w1 w2 from Below.trans bd.out (hb2.mono bq)); replace bq := Nat.le_trans bq hb2.size; clear hb2 ho2; dsimp only)
    refine hK.out _ _ ?_ (fun hHeld1 => ?_)
    · ((try dsimp only); (first | exact ⟨t0, t2⟩))
    clear hB hK K hHeld0
    refine AnyB.each (rs := [5]) (by kernel_rfl) (by simp) ?_
    refine EachB.cons rfl (fun K hK hB => ?_) ?_
    · skip
      (go_simp; go_at_call 25; refine (impl_gray_p HP.out HMs.out).mono ?_; rintro e w3 ⟨vN, rfl, ho3, hb3⟩; obtain ⟨aN, cN, rfl⟩ := ho3.forms; have HN := Lib.hid ho3.rd; replace t0 := below_cell hb3 rfl t0; replace t2 := below_cell hb3 rfl t2; replace bd := Lib.hid (show Below w1.heap.size w1 w3 from Below.trans bd.out (hb3.mono bq)); replace bq := Nat.le_trans bq hb3.size; clear hb3 ho3; dsimp only)
      refine hK.out _ _ ?_ (fun hHeld2 => ?_)
      · ((try dsimp only); (first | exact ⟨t0, t2⟩))
      clear hB hK K hHeld1
      refine AnyB.takeQ (i := 6) (oi := _) (v := ?_) (by simp only [List.getElem?_toArray, List.getElem?_cons_zero, List.getElem?_cons_succ]; rfl) (by kernel_rfl) (by kernel_rfl) (by kernel_rfl) (by intro _ _ _ h; exact h) (Or.inl ⟨by rfl, ?_⟩) ?_
      rotate_left
      · (intro w hSw; (try dsimp only at hSw); go_simp; (try (with_reducible rfl)))
      try simp only [Act.put, List.setIfInBounds_toArray, List.set_cons_zero, List.set_cons_succ]
      refine AnyB.none (by kernel_rfl) ?_ _
      clear HMs t2
      obtain ⟨lN, hlN⟩ : ∃ l, l = (pnNet p).length := ⟨_, rfl⟩
      go_wp2_with fail
      refine (impl_LinearOf_p HP.out HN.out).mono ?_; rintro e w4 ⟨vR, rfl, ho4, hb4⟩
      obtain ⟨aR, cR, rfl⟩ := ho4.forms
      have HR := Lib.hid (Rd.below ho4.rd (show Below w4.heap.size w4 (w4.alloc (.cells #[.slice aR (ints (pnR p)).length cR] 35)) from (by repeat (first | exact Below.refl _ _ | assumption | refine Below.drew ?_ | refine below_drewN ?_ _ | refine Below.alloc ?_ (by first | omega | (simp <;> omega)) _ | refine Below.setCell ?_ (by first | omega | (simp <;> omega)) _ | refine Below.trans ?_ (Below.mono (by assumption) (by first | omega | (simp <;> omega)))))) rfl)
      have b4 : Below w3.heap.size w3 (w4.alloc (.cells #[.slice aR (ints (pnR p)).length cR] 35)) := below_step hb4 (show Below w4.heap.size w4 _ from (by repeat (first | exact Below.refl _ _ | assumption | refine Below.drew ?_ | refine below_drewN ?_ _ | refine Below.alloc ?_ (by first | omega | (simp <;> omega)) _ | refine Below.setCell ?_ (by first | omega | (simp <;> omega)) _ | refine Below.trans ?_ (Below.mono (by assumption) (by first | omega | (simp <;> omega))))))
      have HN2 := Lib.hid (Rd.below HN.out b4 rfl)
      replace bd := Lib.hid (show Below w1.heap.size w1 (w4.alloc (.cells #[.slice aR (ints (pnR p)).length cR] 35)) from Below.trans bd.out (b4.mono bq))
      replace bq := Nat.le_trans bq b4.size
      have x5 : (w4.alloc (.cells #[.slice aR (ints (pnR p)).length cR] 35)).cell? ⟨w4.heap.size, 0, none⟩ = some (.slice aR (ints (pnR p)).length cR) := (by repeat (first | (refine Eq.trans (World.cell?_alloc_at _ _ _ _ ?hh) ?_; (case hh => (simp; done)); rfl) | refine cell_alloc_keep _ ?_ | refine cell_drew ?_ | refine below_cell (by assumption) rfl ?_))
      have t3 := below_cell bd.out rfl T3.out
      clear HN t0 ho4 hb4 b4
      obtain ⟨b5, hb5⟩ : ∃ b, b = w4.heap.size := ⟨_, rfl⟩
      obtain ⟨W4, hW4⟩ : ∃ W, W = w4.alloc (.cells #[.slice aR (ints (pnR p)).length cR] 35) := ⟨_, rfl⟩
      rw [← hW4] at HR HN2 bd bq x5 t3
      rw [← hb5] at x5
      go_upto_region 5 with fail
      rw [← hW4]
      rw [← hb5]
      clear hW4 hb5
      have bq4 : w1.heap.size ≤ W4.heap.size := bq
      go_cut [7] (fun s7 wx => ∃ (b7 : Nat) (aT : Option Addr) (lT cT : Nat), s7 = .pointer (some ⟨b7, 0, none⟩) ∧ Hid (lT = (ints (pnT p)).length) ∧ Hid (wx.cell? ⟨b7, 0, none⟩ = some (.slice aT lT cT)) ∧ Hid (RdI wx (.slice aT lT cT) (ints (pnT p))) ∧ Hid (RdE wx (.slice aN (pnNet p).length cN) E3.cs 3 (pnNet p)) ∧ Hid (Below w1.heap.size w1 wx) ∧ w1.heap.size ≤ wx.heap.size)
      case first =>
        refine AnyB.begin (S := (fun w' => w'.cell? ⟨b5, 0, none⟩ = some (.slice aR (ints (pnR p)).length cR) ∧ w'.cell? ⟨w.heap.size, 3, none⟩ = some (.slice A2 p.out.length c2))) [9] (by kernel_rfl) ?_ (fun hHeld0 => ?_)
        · ((try dsimp only); (first | exact ⟨x5, t3⟩ | exact ⟨cell_alloc_keep _ x5, cell_alloc_keep _ t3⟩ | exact ⟨cell_drew x5, cell_drew t3⟩ | exact ⟨cell_drew (cell_alloc_keep _ x5), cell_drew (cell_alloc_keep _ t3)⟩))
        refine AnyB.take (i := 0) (oi := _) (v := ?_) (by simp only [List.getElem?_toArray, List.getElem?_cons_zero, List.getElem?_cons_succ]; rfl) (by kernel_rfl) (by kernel_rfl) (by kernel_rfl) (by kernel_rfl) (by kernel_rfl) (by intro _ _ _ h; exact h) (Or.inl ⟨by rfl, ?_⟩) (by assumption) ?_
        rotate_left
        · (intro w hSw; (try dsimp only at hSw); go_simp; (try (with_reducible rfl)))
        try simp only [Act.put, List.setIfInBounds_toArray, List.set_cons_zero, List.set_cons_succ]
        refine AnyB.takeQ (i := 2) (oi := _) (v := ?_) (by simp only [List.getElem?_toArray, List.getElem?_cons_zero, List.getElem?_cons_succ]; rfl) (by kernel_rfl) (by kernel_rfl) (by kernel_rfl) (by intro _ _ _ h; exact h) (Or.inl ⟨by rfl, ?_⟩) ?_
        rotate_left
        · (intro w hSw; (try dsimp only at hSw); go_simp; (try (with_reducible rfl)))
        try simp only [Act.put, List.setIfInBounds_toArray, List.set_cons_zero, List.set_cons_succ]
        refine AnyB.take (i := 3) (oi := _) (v := ?_) (by simp only [List.getElem?_toArray, List.getElem?_cons_zero, List.getElem?_cons_succ]; rfl) (by kernel_rfl) (by kernel_rfl) (by kernel_rfl) (by kernel_rfl) (by kernel_rfl) (by intro _ _ _ h; exact h) (Or.inl ⟨by rfl, ?_⟩) (by assumption) ?_
        rotate_left
        · (intro w hSw; (try dsimp only at hSw); go_simp; (try (with_reducible rfl)))
        try simp only [Act.put, List.setIfInBounds_toArray, List.set_cons_zero, List.set_cons_succ]
        refine AnyB.each (rs := [1, 8]) (by kernel_rfl) (by simp) ?_
        refine EachB.cons rfl (fun K hK hB => ?_) ?_
        · skip
          (go_simp; go_at_call 29; refine (impl_inverted_p HP.out (by first | exact Rd.below HR.out (show Below W4.heap.size W4 W4.drew from (by repeat (first | exact Below.refl _ _ | assumption | refine Below.drew ?_ | refine below_drewN ?_ _ | refine Below.alloc ?_ (by first | omega | (simp <;> omega)) _ | refine Below.setCell ?_ (by first | omega | (simp <;> omega)) _ | refine Below.trans ?_ (Below.mono (by assumption) (by first | omega | (simp <;> omega)))))) rfl | exact Rd.below HR.out (Below.drew (Below.alloc (Below.refl _ _) (Nat.le_refl _) _)) rfl)).mono ?_; rintro e w5 ⟨vI, rfl, ho5, hb5⟩; obtain ⟨aI, cI, rfl⟩ := ho5.forms; have HI := Lib.hid ho5.rd; replace x5 := below_cell hb5 rfl (by first | exact cell_drew x5 | exact cell_drew (cell_alloc_keep _ x5)); replace t3 := below_cell hb5 rfl (by first | exact cell_drew t3 | exact cell_drew (cell_alloc_keep _ t3)); (try have xz := below_cell hb5 rfl (show (W4.alloc (.cells #[.slice none 0 0] 35)).drew.cell? ⟨W4.heap.size, 0, none⟩ = some (.slice none 0 0) from (by repeat (first | (refine Eq.trans (World.cell?_alloc_at _ _ _ _ ?hh) ?_; (case hh => (simp; done)); rfl) | refine cell_alloc_keep _ ?_ | refine cell_drew ?_ | refine below_cell (by assumption) rfl ?_)))); (try have fz := below_frz hb5 rfl (by simp) (show (W4.alloc (.cells #[.slice none 0 0] 35)).drew.frozen? ⟨W4.heap.size, 0, none⟩ = false from (by repeat (first | (refine World.frozen?_alloc_at _ _ _ _ ?hh; (case hh => (simp; done))) | (refine frozen_alloc_lt _ ?hh ?_; (case hh => first | omega | (simp <;> omega))) | refine frz_drew ?_ | refine below_frz (by assumption) rfl (by first | omega | (simp <;> omega)) ?_)))); have BW := Lib.hid (show Below W4.heap.size W4 w5 from by first | exact Below.trans (Below.drew (Below.refl _ _)) hb5 | exact Below.trans (Below.drew (Below.alloc (Below.refl _ _) (Nat.le_refl _) _)) (hb5.mono (by simp))); replace bd := Lib.hid (show Below w1.heap.size w1 w5 from by first | exact Below.trans (Below.drew bd.out) (hb5.mono bq) | exact Below.trans (Below.drew (Below.alloc bd.out bq _)) (hb5.mono (by simp; omega))); replace bq := bd.out.size; have zY := BW.out.size; (try have zX : W4.heap.size < w5.heap.size := World.block_lt_of_cell? _ _ xz); clear hb5 ho5; dsimp only)
          refine hK.out _ _ ?_ (fun hHeld1 => ?_)
          · ((try dsimp only); (first | exact ⟨x5, t3⟩ | exact ⟨cell_alloc_keep _ x5, cell_alloc_keep _ t3⟩ | exact ⟨cell_drew x5, cell_drew t3⟩ | exact ⟨cell_drew (cell_alloc_keep _ x5), cell_drew (cell_alloc_keep _ t3)⟩))
          clear hB hK K hHeld0
          refine AnyB.each (rs := [4, 8]) (by kernel_rfl) (by simp) ?_
          refine EachB.cons rfl (fun K hK hB => ?_) ?_
          · skip
            (go_simp; go_at_call 28; refine (impl_ComposeLinear_p HP.out (by first | exact HI.out | exact Rd.below HI.out (Below.alloc (Below.refl _ _) (Nat.le_refl _) _) rfl) (by first | exact Rd.below KT.out (Below.trans bw1.out (bd.out.mono (by omega))) rfl | exact Rd.below KT.out (Below.alloc (Below.trans bw1.out (bd.out.mono (by omega))) (by omega) _) rfl)).mono ?_; rintro e w6 ⟨vT, rfl, ho6, hb6⟩; obtain ⟨aT, cT, rfl⟩ := ho6.forms; have HT := Lib.hid ho6; replace x5 := below_cell hb6 rfl (by first | exact x5 | exact cell_alloc_keep _ x5); replace t3 := below_cell hb6 rfl (by first | exact t3 | exact cell_alloc_keep _ t3); (try replace fz := below_frz hb6 rfl (World.block_lt_of_cell? _ _ xz) fz); (try replace xz := below_cell hb6 rfl xz); (try have xy := below_cell hb6 rfl (show (w5.alloc (.cells #[.slice none 0 0] 35)).cell? ⟨w5.heap.size, 0, none⟩ = some (.slice none 0 0) from (by repeat (first | (refine Eq.trans (World.cell?_alloc_at _ _ _ _ ?hh) ?_; (case hh => (simp; done)); rfl) | refine cell_alloc_keep _ ?_)))); (try have fy := below_frz hb6 rfl (by simp) (show (w5.alloc (.cells #[.slice none 0 0] 35)).frozen? ⟨w5.heap.size, 0, none⟩ = false from (by repeat (first | (refine World.frozen?_alloc_at _ _ _ _ ?hh; case hh => (simp; done)) | (refine frozen_alloc_lt _ ?hh ?_; case hh => first | omega | (simp <;> omega)))))); replace BW := Lib.hid (show Below W4.heap.size W4 w6 from by first | exact Below.trans BW.out (hb6.mono BW.out.size) | exact Below.trans (Below.alloc BW.out BW.out.size _) (hb6.mono (by have := BW.out.size; simp; omega))); replace bd := Lib.hid (show Below w1.heap.size w1 w6 from by first | exact Below.trans bd.out (hb6.mono bq) | exact Below.trans (Below.alloc bd.out bq _) (hb6.mono (by simp; omega))); replace bq := bd.out.size; clear hb6 ho6; dsimp only)
            refine hK.out _ _ ?_ (fun hHeld2 => ?_)
            · ((try dsimp only); (first | exact ⟨x5, t3⟩ | exact ⟨cell_alloc_keep _ x5, cell_alloc_keep _ t3⟩ | exact ⟨cell_drew x5, cell_drew t3⟩ | exact ⟨cell_drew (cell_alloc_keep _ x5), cell_drew (cell_alloc_keep _ t3)⟩))
            clear hB hK K hHeld1
            refine AnyB.takeQ (i := 5) (oi := _) (v := ?_) (by simp only [List.getElem?_toArray, List.getElem?_cons_zero, List.getElem?_cons_succ]; rfl) (by kernel_rfl) (by kernel_rfl) (by kernel_rfl) (by intro _ _ _ h; exact h) (Or.inl ⟨by rfl, ?_⟩) ?_
            rotate_left
            · (intro w hSw; (try dsimp only at hSw); go_simp; (try (with_reducible rfl)))
            try simp only [Act.put, List.setIfInBounds_toArray, List.set_cons_zero, List.set_cons_succ]
            refine AnyB.takeQ (i := 6) (oi := _) (v := ?_) (by simp only [List.getElem?_toArray, List.getElem?_cons_zero, List.getElem?_cons_succ]; rfl) (by kernel_rfl) (by kernel_rfl) (by kernel_rfl) (by intro _ _ _ h; exact h) (Or.inl ⟨by rfl, ?_⟩) ?_
            rotate_left
            · (intro w hSw; (try dsimp only at hSw); go_simp; (try (with_reducible rfl)))
            try simp only [Act.put, List.setIfInBounds_toArray, List.set_cons_zero, List.set_cons_succ]
            refine AnyB.takeQ (i := 7) (oi := _) (v := ?_) (by simp only [List.getElem?_toArray, List.getElem?_cons_zero, List.getElem?_cons_succ]; rfl) (by kernel_rfl) (by kernel_rfl) (by kernel_rfl) (by intro _ _ _ h; exact h) (Or.inl ⟨by rfl, ?_⟩) ?_
            rotate_left
            · (intro w hSw; (try dsimp only at hSw); go_simp; (try (with_reducible rfl)))
            try simp only [Act.put, List.setIfInBounds_toArray, List.set_cons_zero, List.set_cons_succ]
            refine AnyB.each (rs := [8]) (by kernel_rfl) (by simp) ?_
            refine EachB.cons rfl (fun K hK hB => ?_) ?_
            · skip
              go_simp
              refine hK.out _ _ ?_ (fun hHeld3 => ?_)
              · ((try dsimp only); (first | exact ⟨x5, t3⟩ | exact ⟨cell_alloc_keep _ x5, cell_alloc_keep _ t3⟩ | exact ⟨cell_drew x5, cell_drew t3⟩ | exact ⟨cell_drew (cell_alloc_keep _ x5), cell_drew (cell_alloc_keep _ t3)⟩))
              clear hB hK K hHeld2
              refine AnyB.each (rs := [9]) (by kernel_rfl) (by simp) ?_
              refine EachB.cons rfl (fun K hK hB => ?_) ?_
              · skip
                go_simp
                refine hB.out _ _ rfl ?_
                clear hB hK K
                refine AnyB.takeQ (i := 10) (oi := _) (v := ?_) (by simp only [List.getElem?_toArray, List.getElem?_cons_zero, List.getElem?_cons_succ]; rfl) (by kernel_rfl) (by kernel_rfl) (by kernel_rfl) (by intro _ _ _ h; exact h) (Or.inl ⟨by rfl, ?_⟩) ?_
                rotate_left
                · (intro w hSw; (try dsimp only at hSw); go_simp; (try (with_reducible rfl)))
                try simp only [Act.put, List.setIfInBounds_toArray, List.set_cons_zero, List.set_cons_succ]
                refine AnyB.none (by kernel_rfl) ?_ _
                have zW := BW.out.size
                clear HR HI x5 t3
                go_wp2_with fail
                go_meet
                first
                  | exact ⟨w6.heap.size, aT, (ints (pnT p)).length, cT, rfl, Lib.hid rfl, Lib.hid (show (w6.alloc (.cells #[.slice aT (ints (pnT p)).length cT] 35)).cell? ⟨w6.heap.size, 0, none⟩ = some (.slice aT (ints (pnT p)).length cT) from (by repeat (first | (refine Eq.trans (World.cell?_alloc_at _ _ _ _ ?hh) ?_; (case hh => (simp; done)); rfl) | refine cell_alloc_keep _ ?_))), Lib.hid (Rd.below HT.out.rd (Below.alloc (Below.refl _ _) (Nat.le_refl _) _) rfl), Lib.hid (Rd.below HN2.out (Below.alloc BW.out BW.out.size _) rfl), Lib.hid (Below.alloc bd.out bq _), Nat.le_trans bq (by simp)⟩
                  | exact ⟨w5.heap.size, aT, (ints (pnT p)).length, cT, rfl, Lib.hid rfl, Lib.hid (World.cell?_setCell_same _ _ _ xy), Lib.hid (OwnI.rd (ownsRow_setCell_below HT.out (show w5.heap.size < _ by simp) _)), Lib.hid (Rd.below HN2.out (Below.setCell BW.out (show W4.heap.size ≤ w5.heap.size from zY) _) rfl), Lib.hid (Below.setCell bd.out (show w1.heap.size ≤ w5.heap.size from Nat.le_trans bq4 zY) _), Nat.le_trans bq (by simp)⟩
                  | exact ⟨W4.heap.size, aT, (ints (pnT p)).length, cT, rfl, Lib.hid rfl, Lib.hid (World.cell?_setCell_same _ _ _ xz), Lib.hid (OwnI.rd (ownsRow_setCell_below HT.out (show W4.heap.size < w5.heap.size from zX) _)), Lib.hid (Rd.below HN2.out (Below.setCell BW.out (Nat.le_refl _) _) rfl), Lib.hid (Below.setCell bd.out (show w1.heap.size ≤ W4.heap.size from bq4) _), Nat.le_trans bq (by simp)⟩
              exact EachB.nil
            exact EachB.nil
          refine EachB.cons rfl (fun K hK hB => ?_) ?_
          · skip
            go_simp
            refine hK.out _ _ ?_ (fun hHeld4 => ?_)
            · ((try dsimp only); (first | exact ⟨x5, t3⟩ | exact ⟨cell_alloc_keep _ x5, cell_alloc_keep _ t3⟩ | exact ⟨cell_drew x5, cell_drew t3⟩ | exact ⟨cell_drew (cell_alloc_keep _ x5), cell_drew (cell_alloc_keep _ t3)⟩))
            clear hB hK K hHeld1
            refine AnyB.each (rs := [4]) (by kernel_rfl) (by simp) ?_
            refine EachB.cons rfl (fun K hK hB => ?_) ?_
            · skip
              (go_simp; go_at_call 28; refine (impl_ComposeLinear_p HP.out (by first | exact HI.out | exact Rd.below HI.out (Below.alloc (Below.refl _ _) (Nat.le_refl _) _) rfl) (by first | exact Rd.below KT.out (Below.trans bw1.out (bd.out.mono (by omega))) rfl | exact Rd.below KT.out (Below.alloc (Below.trans bw1.out (bd.out.mono (by omega))) (by omega) _) rfl)).mono ?_; rintro e w6 ⟨vT, rfl, ho6, hb6⟩; obtain ⟨aT, cT, rfl⟩ := ho6.forms; have HT := Lib.hid ho6; replace x5 := below_cell hb6 rfl (by first | exact x5 | exact cell_alloc_keep _ x5); replace t3 := below_cell hb6 rfl (by first | exact t3 | exact cell_alloc_keep _ t3); (try replace fz := below_frz hb6 rfl (World.block_lt_of_cell? _ _ xz) fz); (try replace xz := below_cell hb6 rfl xz); (try have xy := below_cell hb6 rfl (show (w5.alloc (.cells #[.slice none 0 0] 35)).cell? ⟨w5.heap.size, 0, none⟩ = some (.slice none 0 0) from (by repeat (first | (refine Eq.trans (World.cell?_alloc_at _ _ _ _ ?hh) ?_; (case hh => (simp; done)); rfl) | refine cell_alloc_keep _ ?_)))); (try have fy := below_frz hb6 rfl (by simp) (show (w5.alloc (.cells #[.slice none 0 0] 35)).frozen? ⟨w5.heap.size, 0, none⟩ = false from (by repeat (first | (refine World.frozen?_alloc_at _ _ _ _ ?hh; case hh => (simp; done)) | (refine frozen_alloc_lt _ ?hh ?_; case hh => first | omega | (simp <;> omega)))))); replace BW := Lib.hid (show Below W4.heap.size W4 w6 from by first | exact Below.trans BW.out (hb6.mono BW.out.size) | exact Below.trans (Below.alloc BW.out BW.out.size _) (hb6.mono (by have := BW.out.size; simp; omega))); replace bd := Lib.hid (show Below w1.heap.size w1 w6 from by first | exact Below.trans bd.out (hb6.mono bq) | exact Below.trans (Below.alloc bd.out bq _) (hb6.mono (by simp; omega))); replace bq := bd.out.size; clear hb6 ho6; dsimp only)
              refine hK.out _ _ ?_ (fun hHeld5 => ?_)
              · ((try dsimp only); (first | exact ⟨x5, t3⟩ | exact ⟨cell_alloc_keep _ x5, cell_alloc_keep _ t3⟩ | exact ⟨cell_drew x5, cell_drew t3⟩ | exact ⟨cell_drew (cell_alloc_keep _ x5), cell_drew (cell_alloc_keep _ t3)⟩))
              clear hB hK K hHeld4
              refine AnyB.takeQ (i := 5) (oi := _) (v := ?_) (by simp only [List.getElem?_toArray, List.getElem?_cons_zero, List.getElem?_cons_succ]; rfl) (by kernel_rfl) (by kernel_rfl) (by kernel_rfl) (by intro _ _ _ h; exact h) (Or.inl ⟨by rfl, ?_⟩) ?_
              rotate_left
              · (intro w hSw; (try dsimp only at hSw); go_simp; (try (with_reducible rfl)))
              try simp only [Act.put, List.setIfInBounds_toArray, List.set_cons_zero, List.set_cons_succ]
              refine AnyB.takeQ (i := 6) (oi := _) (v := ?_) (by simp only [List.getElem?_toArray, List.getElem?_cons_zero, List.getElem?_cons_succ]; rfl) (by kernel_rfl) (by kernel_rfl) (by kernel_rfl) (by intro _ _ _ h; exact h) (Or.inl ⟨by rfl, ?_⟩) ?_
              rotate_left
              · (intro w hSw; (try dsimp only at hSw); go_simp; (try (with_reducible rfl)))
              try simp only [Act.put, List.setIfInBounds_toArray, List.set_cons_zero, List.set_cons_succ]
              refine AnyB.takeQ (i := 7) (oi := _) (v := ?_) (by simp only [List.getElem?_toArray, List.getElem?_cons_zero, List.getElem?_cons_succ]; rfl) (by kernel_rfl) (by kernel_rfl) (by kernel_rfl) (by intro _ _ _ h; exact h) (Or.inl ⟨by rfl, ?_⟩) ?_
              rotate_left
              · (intro w hSw; (try dsimp only at hSw); go_simp; (try (with_reducible rfl)))
              try simp only [Act.put, List.setIfInBounds_toArray, List.set_cons_zero, List.set_cons_succ]
              refine AnyB.each (rs := [9]) (by kernel_rfl) (by simp) ?_
              refine EachB.cons rfl (fun K hK hB => ?_) ?_
              · skip
                go_simp
                refine hB.out _ _ rfl ?_
                clear hB hK K
                refine AnyB.takeQ (i := 10) (oi := _) (v := ?_) (by simp only [List.getElem?_toArray, List.getElem?_cons_zero, List.getElem?_cons_succ]; rfl) (by kernel_rfl) (by kernel_rfl) (by kernel_rfl) (by intro _ _ _ h; exact h) (Or.inl ⟨by rfl, ?_⟩) ?_
                rotate_left
                · (intro w hSw; (try dsimp only at hSw); go_simp; (try (with_reducible rfl)))
                try simp only [Act.put, List.setIfInBounds_toArray, List.set_cons_zero, List.set_cons_succ]
                refine AnyB.none (by kernel_rfl) ?_ _
                have zW := BW.out.size
                clear HR HI x5 t3
                go_wp2_with fail
                go_meet
                first
                  | exact ⟨w6.heap.size, aT, (ints (pnT p)).length, cT, rfl, Lib.hid rfl, Lib.hid (show (w6.alloc (.cells #[.slice aT (ints (pnT p)).length cT] 35)).cell? ⟨w6.heap.size, 0, none⟩ = some (.slice aT (ints (pnT p)).length cT) from (by repeat (first | (refine Eq.trans (World.cell?_alloc_at _ _ _ _ ?hh) ?_; (case hh => (simp; done)); rfl) | refine cell_alloc_keep _ ?_))), Lib.hid (Rd.below HT.out.rd (Below.alloc (Below.refl _ _) (Nat.le_refl _) _) rfl), Lib.hid (Rd.below HN2.out (Below.alloc BW.out BW.out.size _) rfl), Lib.hid (Below.alloc bd.out bq _), Nat.le_trans bq (by simp)⟩
                  | exact ⟨w5.heap.size, aT, (ints (pnT p)).length, cT, rfl, Lib.hid rfl, Lib.hid (World.cell?_setCell_same _ _ _ xy), Lib.hid (OwnI.rd (ownsRow_setCell_below HT.out (show w5.heap.size < _ by simp) _)), Lib.hid (Rd.below HN2.out (Below.setCell BW.out (show W4.heap.size ≤ w5.heap.size from zY) _) rfl), Lib.hid (Below.setCell bd.out (show w1.heap.size ≤ w5.heap.size from Nat.le_trans bq4 zY) _), Nat.le_trans bq (by simp)⟩
                  | exact ⟨W4.heap.size, aT, (ints (pnT p)).length, cT, rfl, Lib.hid rfl, Lib.hid (World.cell?_setCell_same _ _ _ xz), Lib.hid (OwnI.rd (ownsRow_setCell_below HT.out (show W4.heap.size < w5.heap.size from zX) _)), Lib.hid (Rd.below HN2.out (Below.setCell BW.out (Nat.le_refl _) _) rfl), Lib.hid (Below.setCell bd.out (show w1.heap.size ≤ W4.heap.size from bq4) _), Nat.le_trans bq (by simp)⟩
              exact EachB.nil
            exact EachB.nil
          exact EachB.nil
        refine EachB.cons rfl (fun K hK hB => ?_) ?_
        · skip
          go_simp
          refine hK.out _ _ ?_ (fun hHeld6 => ?_)
          · ((try dsimp only); (first | exact ⟨x5, t3⟩ | exact ⟨cell_alloc_keep _ x5, cell_alloc_keep _ t3⟩ | exact ⟨cell_drew x5, cell_drew t3⟩ | exact ⟨cell_drew (cell_alloc_keep _ x5), cell_drew (cell_alloc_keep _ t3)⟩))
          clear hB hK K hHeld0
          refine AnyB.each (rs := [1]) (by kernel_rfl) (by simp) ?_
          refine EachB.cons rfl (fun K hK hB => ?_) ?_
          · skip
            (go_simp; go_at_call 29; refine (impl_inverted_p HP.out (by first | exact Rd.below HR.out (show Below W4.heap.size W4 W4.drew from (by repeat (first | exact Below.refl _ _ | assumption | refine Below.drew ?_ | refine below_drewN ?_ _ | refine Below.alloc ?_ (by first | omega | (simp <;> omega)) _ | refine Below.setCell ?_ (by first | omega | (simp <;> omega)) _ | refine Below.trans ?_ (Below.mono (by assumption) (by first | omega | (simp <;> omega)))))) rfl | exact Rd.below HR.out (Below.drew (Below.alloc (Below.refl _ _) (Nat.le_refl _) _)) rfl)).mono ?_; rintro e w5 ⟨vI, rfl, ho5, hb5⟩; obtain ⟨aI, cI, rfl⟩ := ho5.forms; have HI := Lib.hid ho5.rd; replace x5 := below_cell hb5 rfl (by first | exact cell_drew x5 | exact cell_drew (cell_alloc_keep _ x5)); replace t3 := below_cell hb5 rfl (by first | exact cell_drew t3 | exact cell_drew (cell_alloc_keep _ t3)); (try have xz := below_cell hb5 rfl (show (W4.alloc (.cells #[.slice none 0 0] 35)).drew.cell? ⟨W4.heap.size, 0, none⟩ = some (.slice none 0 0) from (by repeat (first | (refine Eq.trans (World.cell?_alloc_at _ _ _ _ ?hh) ?_; (case hh => (simp; done)); rfl) | refine cell_alloc_keep _ ?_ | refine cell_drew ?_ | refine below_cell (by assumption) rfl ?_)))); (try have fz := below_frz hb5 rfl (by simp) (show (W4.alloc (.cells #[.slice none 0 0] 35)).drew.frozen? ⟨W4.heap.size, 0, none⟩ = false from (by repeat (first | (refine World.frozen?_alloc_at _ _ _ _ ?hh; (case hh => (simp; done))) | (refine frozen_alloc_lt _ ?hh ?_; (case hh => first | omega | (simp <;> omega))) | refine frz_drew ?_ | refine below_frz (by assumption) rfl (by first | omega | (simp <;> omega)) ?_)))); have BW := Lib.hid (show Below W4.heap.size W4 w5 from by first | exact Below.trans (Below.drew (Below.refl _ _)) hb5 | exact Below.trans (Below.drew (Below.alloc (Below.refl _ _) (Nat.le_refl _) _)) (hb5.mono (by simp))); replace bd := Lib.hid (show Below w1.heap.size w1 w5 from by first | exact Below.trans (Below.drew bd.out) (hb5.mono bq) | exact Below.trans (Below.drew (Below.alloc bd.out bq _)) (hb5.mono (by simp; omega))); replace bq := bd.out.size; have zY := BW.out.size; (try have zX : W4.heap.size < w5.heap.size := World.block_lt_of_cell? _ _ xz); clear hb5 ho5; dsimp only)
            refine hK.out _ _ ?_ (fun hHeld7 => ?_)
            · ((try dsimp only); (first | exact ⟨x5, t3⟩ | exact ⟨cell_alloc_keep _ x5, cell_alloc_keep _ t3⟩ | exact ⟨cell_drew x5, cell_drew t3⟩ | exact ⟨cell_drew (cell_alloc_keep _ x5), cell_drew (cell_alloc_keep _ t3)⟩))
            clear hB hK K hHeld6
            refine AnyB.each (rs := [4]) (by kernel_rfl) (by simp) ?_
            refine EachB.cons rfl (fun K hK hB => ?_) ?_
            · skip
              (go_simp; go_at_call 28; refine (impl_ComposeLinear_p HP.out (by first | exact HI.out | exact Rd.below HI.out (Below.alloc (Below.refl _ _) (Nat.le_refl _) _) rfl) (by first | exact Rd.below KT.out (Below.trans bw1.out (bd.out.mono (by omega))) rfl | exact Rd.below KT.out (Below.alloc (Below.trans bw1.out (bd.out.mono (by omega))) (by omega) _) rfl)).mono ?_; rintro e w6 ⟨vT, rfl, ho6, hb6⟩; obtain ⟨aT, cT, rfl⟩ := ho6.forms; have HT := Lib.hid ho6; replace x5 := below_cell hb6 rfl (by first | exact x5 | exact cell_alloc_keep _ x5); replace t3 := below_cell hb6 rfl (by first | exact t3 | exact cell_alloc_keep _ t3); (try replace fz := below_frz hb6 rfl (World.block_lt_of_cell? _ _ xz) fz); (try replace xz := below_cell hb6 rfl xz); (try have xy := below_cell hb6 rfl (show (w5.alloc (.cells #[.slice none 0 0] 35)).cell? ⟨w5.heap.size, 0, none⟩ = some (.slice none 0 0) from (by repeat (first | (refine Eq.trans (World.cell?_alloc_at _ _ _ _ ?hh) ?_; (case hh => (simp; done)); rfl) | refine cell_alloc_keep _ ?_)))); (try have fy := below_frz hb6 rfl (by simp) (show (w5.alloc (.cells #[.slice none 0 0] 35)).frozen? ⟨w5.heap.size, 0, none⟩ = false from (by repeat (first | (refine World.frozen?_alloc_at _ _ _ _ ?hh; case hh => (simp; done)) | (refine frozen_alloc_lt _ ?hh ?_; case hh => first | omega | (simp <;> omega)))))); replace BW := Lib.hid (show Below W4.heap.size W4 w6 from by first | exact Below.trans BW.out (hb6.mono BW.out.size) | exact Below.trans (Below.alloc BW.out BW.out.size _) (hb6.mono (by have := BW.out.size; simp; omega))); replace bd := Lib.hid (show Below w1.heap.size w1 w6 from by first | exact Below.trans bd.out (hb6.mono bq) | exact Below.trans (Below.alloc bd.out bq _) (hb6.mono (by simp; omega))); replace bq := bd.out.size; clear hb6 ho6; dsimp only)
              refine hK.out _ _ ?_ (fun hHeld8 => ?_)
              · ((try dsimp only); (first | exact ⟨x5, t3⟩ | exact ⟨cell_alloc_keep _ x5, cell_alloc_keep _ t3⟩ | exact ⟨cell_drew x5, cell_drew t3⟩ | exact ⟨cell_drew (cell_alloc_keep _ x5), cell_drew (cell_alloc_keep _ t3)⟩))
              clear hB hK K hHeld7
              refine AnyB.takeQ (i := 5) (oi := _) (v := ?_) (by simp only [List.getElem?_toArray, List.getElem?_cons_zero, List.getElem?_cons_succ]; rfl) (by kernel_rfl) (by kernel_rfl) (by kernel_rfl) (by intro _ _ _ h; exact h) (Or.inl ⟨by rfl, ?_⟩) ?_
              rotate_left
              · (intro w hSw; (try dsimp only at hSw); go_simp; (try (with_reducible rfl)))
              try simp only [Act.put, List.setIfInBounds_toArray, List.set_cons_zero, List.set_cons_succ]
              refine AnyB.takeQ (i := 6) (oi := _) (v := ?_) (by simp only [List.getElem?_toArray, List.getElem?_cons_zero, List.getElem?_cons_succ]; rfl) (by kernel_rfl) (by kernel_rfl) (by kernel_rfl) (by intro _ _ _ h; exact h) (Or.inl ⟨by rfl, ?_⟩) ?_
              rotate_left
              · (intro w hSw; (try dsimp only at hSw); go_simp; (try (with_reducible rfl)))
              try simp only [Act.put, List.setIfInBounds_toArray, List.set_cons_zero, List.set_cons_succ]
              refine AnyB.takeQ (i := 7) (oi := _) (v := ?_) (by simp only [List.getElem?_toArray, List.getElem?_cons_zero, List.getElem?_cons_succ]; rfl) (by kernel_rfl) (by kernel_rfl) (by kernel_rfl) (by intro _ _ _ h; exact h) (Or.inl ⟨by rfl, ?_⟩) ?_
              rotate_left
              · (intro w hSw; (try dsimp only at hSw); go_simp; (try (with_reducible rfl)))
              try simp only [Act.put, List.setIfInBounds_toArray, List.set_cons_zero, List.set_cons_succ]
              refine AnyB.each (rs := [9]) (by kernel_rfl) (by simp) ?_
              refine EachB.cons rfl (fun K hK hB => ?_) ?_
              · skip
                go_simp
                refine hB.out _ _ rfl ?_
                clear hB hK K
                refine AnyB.takeQ (i := 10) (oi := _) (v := ?_) (by simp only [List.getElem?_toArray, List.getElem?_cons_zero, List.getElem?_cons_succ]; rfl) (by kernel_rfl) (by kernel_rfl) (by kernel_rfl) (by intro _ _ _ h; exact h) (Or.inl ⟨by rfl, ?_⟩) ?_
                rotate_left
                · (intro w hSw; (try dsimp only at hSw); go_simp; (try (with_reducible rfl)))
                try simp only [Act.put, List.setIfInBounds_toArray, List.set_cons_zero, List.set_cons_succ]
                refine AnyB.none (by kernel_rfl) ?_ _
                have zW := BW.out.size
                clear HR HI x5 t3
                go_wp2_with fail
                go_meet
                first
                  | exact ⟨w6.heap.size, aT, (ints (pnT p)).length, cT, rfl, Lib.hid rfl, Lib.hid (show (w6.alloc (.cells #[.slice aT (ints (pnT p)).length cT] 35)).cell? ⟨w6.heap.size, 0, none⟩ = some (.slice aT (ints (pnT p)).length cT) from (by repeat (first | (refine Eq.trans (World.cell?_alloc_at _ _ _ _ ?hh) ?_; (case hh => (simp; done)); rfl) | refine cell_alloc_keep _ ?_))), Lib.hid (Rd.below HT.out.rd (Below.alloc (Below.refl _ _) (Nat.le_refl _) _) rfl), Lib.hid (Rd.below HN2.out (Below.alloc BW.out BW.out.size _) rfl), Lib.hid (Below.alloc bd.out bq _), Nat.le_trans bq (by simp)⟩
                  | exact ⟨w5.heap.size, aT, (ints (pnT p)).length, cT, rfl, Lib.hid rfl, Lib.hid (World.cell?_setCell_same _ _ _ xy), Lib.hid (OwnI.rd (ownsRow_setCell_below HT.out (show w5.heap.size < _ by simp) _)), Lib.hid (Rd.below HN2.out (Below.setCell BW.out (show W4.heap.size ≤ w5.heap.size from zY) _) rfl), Lib.hid (Below.setCell bd.out (show w1.heap.size ≤ w5.heap.size from Nat.le_trans bq4 zY) _), Nat.le_trans bq (by simp)⟩
                  | exact ⟨W4.heap.size, aT, (ints (pnT p)).length, cT, rfl, Lib.hid rfl, Lib.hid (World.cell?_setCell_same _ _ _ xz), Lib.hid (OwnI.rd (ownsRow_setCell_below HT.out (show W4.heap.size < w5.heap.size from zX) _)), Lib.hid (Rd.below HN2.out (Below.setCell BW.out (Nat.le_refl _) _) rfl), Lib.hid (Below.setCell bd.out (show w1.heap.size ≤ W4.heap.size from bq4) _), Nat.le_trans bq (by simp)⟩
              exact EachB.nil
            exact EachB.nil
          exact EachB.nil
        exact EachB.nil
      case rest =>
        clear HN2 HR bd x5 t3
        obtain ⟨b7, aT, lT, cT, rfl, hlT, hx7, hT, hN, hbd, hbq⟩ := hcut
        have e7 := hlT.out
        subst e7
        clear hlT
        have hT2 := hT.out
        have bd := Lib.hid (show Below w1.heap.size w1 wc.drew from Below.drew hbd.out)
        have bq : w1.heap.size ≤ wc.drew.heap.size := hbq
        have HN := Lib.hid (show RdE wc.drew (.slice aN (pnNet p).length cN) E3.cs 3 (pnNet p) from Rd.below hN.out (show Below wc.heap.size wc wc.drew from (by repeat (first | exact Below.refl _ _ | assumption | refine Below.drew ?_ | refine below_drewN ?_ _ | refine Below.alloc ?_ (by first | omega | (simp <;> omega)) _ | refine Below.setCell ?_ (by first | omega | (simp <;> omega)) _ | refine Below.trans ?_ (Below.mono (by assumption) (by first | omega | (simp <;> omega)))))) rfl)
        have HT := Lib.hid (show RdI wc.drew (.slice aT (ints (pnT p)).length cT) (ints (pnT p)) from Rd.below hT.out (show Below wc.heap.size wc wc.drew from (by repeat (first | exact Below.refl _ _ | assumption | refine Below.drew ?_ | refine below_drewN ?_ _ | refine Below.alloc ?_ (by first | omega | (simp <;> omega)) _ | refine Below.setCell ?_ (by first | omega | (simp <;> omega)) _ | refine Below.trans ?_ (Below.mono (by assumption) (by first | omega | (simp <;> omega)))))) rfl)
        have x7 : wc.drew.cell? ⟨b7, 0, none⟩ = some (.slice aT (ints (pnT p)).length cT) := hx7.out
        have t0 : wc.drew.cell? ⟨w.heap.size, 0, none⟩ = some (.int .i64 p.n) := below_cell bd.out rfl T0.out
        have t2 : wc.drew.cell? ⟨w.heap.size, 2, none⟩ = some (.slice A p.ts.length c) := below_cell bd.out rfl T2.out
        clear hbd hbq hT hT2 hx7 hN
        obtain ⟨G, hG⟩ : ∃ G, G = (redG (pnT p)).reverse := ⟨_, rfl⟩
        have hGl : G.length ≤ 50 := by rw [hG, List.length_reverse]; exact hrl
        have HGG := Lib.hid hG
        obtain ⟨F, hF⟩ : ∃ F, F = pnNet p ++ G := ⟨_, rfl⟩
        have HFF := Lib.hid hF
        have HFU := Lib.hid (show F = pnFull p from by rw [hF, hG]; rfl)
        clear hG hF
        go_upto_region 6 with fail
        refine AnyB.begin (S := (fun w' => w'.cell? ⟨b7, 0, none⟩ = some (.slice aT (ints (pnT p)).length cT) ∧ w'.cell? ⟨w.heap.size, 0, none⟩ = some (.int .i64 p.n) ∧ w'.cell? ⟨w.heap.size, 2, none⟩ = some (.slice A p.ts.length c))) [] (by kernel_rfl) ?_ (fun hHeld0 => ?_)
        · ((try dsimp only); (first | exact ⟨x7, t0, t2⟩ | exact ⟨cell_alloc_keep _ x7, cell_alloc_keep _ t0, cell_alloc_keep _ t2⟩))
        refine AnyB.takeQ (i := 0) (oi := _) (v := ?_) (by simp only [List.getElem?_toArray, List.getElem?_cons_zero, List.getElem?_cons_succ]; rfl) (by kernel_rfl) (by kernel_rfl) (by kernel_rfl) (by intro _ _ _ h; exact h) (Or.inl ⟨by rfl, ?_⟩) ?_
        rotate_left
        · (intro w hSw; (try dsimp only at hSw); go_simp; (try (with_reducible rfl)))
        try simp only [Act.put, List.setIfInBounds_toArray, List.set_cons_zero, List.set_cons_succ]
        refine AnyB.take (i := 1) (oi := _) (v := ?_) (by simp only [List.getElem?_toArray, List.getElem?_cons_zero, List.getElem?_cons_succ]; rfl) (by kernel_rfl) (by kernel_rfl) (by kernel_rfl) (by kernel_rfl) (by kernel_rfl) (by intro _ _ _ h; exact h) (Or.inl ⟨by rfl, ?_⟩) (by assumption) ?_
        rotate_left
        · (intro w hSw; (try dsimp only at hSw); go_simp; (try (with_reducible rfl)))
        try simp only [Act.put, List.setIfInBounds_toArray, List.set_cons_zero, List.set_cons_succ]
        refine AnyB.takeQ (i := 2) (oi := _) (v := ?_) (by simp only [List.getElem?_toArray, List.getElem?_cons_zero, List.getElem?_cons_succ]; rfl) (by kernel_rfl) (by kernel_rfl) (by kernel_rfl) (by intro _ _ _ h; exact h) (Or.inl ⟨by rfl, ?_⟩) ?_
        rotate_left
        · (intro w hSw; (try dsimp only at hSw); go_simp; (try (with_reducible rfl)))
        try simp only [Act.put, List.setIfInBounds_toArray, List.set_cons_zero, List.set_cons_succ]
        refine AnyB.take (i := 3) (oi := _) (v := ?_) (by simp only [List.getElem?_toArray, List.getElem?_cons_zero, List.getElem?_cons_succ]; rfl) (by kernel_rfl) (by kernel_rfl) (by kernel_rfl) (by kernel_rfl) (by kernel_rfl) (by intro _ _ _ h; exact h) (Or.inl ⟨by rfl, ?_⟩) (by assumption) ?_
        rotate_left
        · (intro w hSw; (try dsimp only at hSw); go_simp; (try (with_reducible rfl)))
        try simp only [Act.put, List.setIfInBounds_toArray, List.set_cons_zero, List.set_cons_succ]
        refine AnyB.takeQ (i := 7) (oi := _) (v := ?_) (by simp only [List.getElem?_toArray, List.getElem?_cons_zero, List.getElem?_cons_succ]; rfl) (by kernel_rfl) (by kernel_rfl) (by kernel_rfl) (by intro _ _ _ h; exact h) (Or.inl ⟨by rfl, ?_⟩) ?_
        rotate_left
        · (intro w hSw; (try dsimp only at hSw); go_simp; (try (with_reducible rfl)))
        try simp only [Act.put, List.setIfInBounds_toArray, List.set_cons_zero, List.set_cons_succ]
        refine AnyB.take (i := 8) (oi := _) (v := ?_) (by simp only [List.getElem?_toArray, List.getElem?_cons_zero, List.getElem?_cons_succ]; rfl) (by kernel_rfl) (by kernel_rfl) (by kernel_rfl) (by kernel_rfl) (by kernel_rfl) (by intro _ _ _ h; exact h) (Or.inl ⟨by rfl, ?_⟩) (by assumption) ?_
        rotate_left
        · (intro w hSw; (try dsimp only at hSw); go_simp; (try (with_reducible rfl)))
        try simp only [Act.put, List.setIfInBounds_toArray, List.set_cons_zero, List.set_cons_succ]
        refine AnyB.each (rs := [4]) (by kernel_rfl) (by simp) ?_
        refine EachB.cons rfl (fun K hK hB => ?_) ?_
        · skip
          (go_simp; go_at_call 32; refine (impl_synthesized_p HP.out HT.out).mono ?_; rintro e w7 ⟨vS, rfl, ho7, hb7⟩; rw [← HGG.out] at ho7; obtain ⟨aS, cS, rfl⟩ := ho7.forms; have HS := Lib.hid ho7.rd; replace x7 := below_cell hb7 rfl x7; replace t0 := below_cell hb7 rfl t0; replace t2 := below_cell hb7 rfl t2; replace HN := Lib.hid (Rd.below HN.out hb7 rfl); replace bd := Lib.hid (show Below w1.heap.size w1 w7 from Below.trans bd.out (hb7.mono bq)); replace bq := Nat.le_trans bq hb7.size; clear hb7 ho7; dsimp only)
          refine hK.out _ _ ?_ (fun hHeld1 => ?_)
          · ((try dsimp only); (first | exact ⟨x7, t0, t2⟩ | exact ⟨cell_alloc_keep _ x7, cell_alloc_keep _ t0, cell_alloc_keep _ t2⟩))
          clear hB hK K hHeld0
          refine AnyB.each (rs := [5]) (by kernel_rfl) (by simp) ?_
          refine EachB.cons rfl (fun K hK hB => ?_) ?_
          · skip
            go_simp
            refine hK.out _ _ ?_ (fun hHeld2 => ?_)
            · ((try dsimp only); (first | exact ⟨x7, t0, t2⟩ | exact ⟨cell_alloc_keep _ x7, cell_alloc_keep _ t0, cell_alloc_keep _ t2⟩))
            clear hB hK K hHeld1
            refine AnyB.each (rs := [6]) (by kernel_rfl) (by simp) ?_
            refine EachB.cons rfl (fun K hK hB => ?_) ?_
            · skip
              (go_simp; have b8 : Below w7.heap.size w7 (w7.alloc (.cells #[.slice aN (pnNet p).length cN, .slice aS G.length cS] 29)) := Below.alloc (Below.refl _ _) (Nat.le_refl _) _; have c8 : (w7.alloc (.cells #[.slice aN (pnNet p).length cN, .slice aS G.length cS] 29)).cell? ⟨w7.heap.size, 0, none⟩ = some (.slice aN (pnNet p).length cN) := (by repeat (first | (refine Eq.trans (World.cell?_alloc_at _ _ _ _ ?hh) ?_; (case hh => (simp; done)); rfl) | refine cell_alloc_keep _ ?_)); have d8 : (w7.alloc (.cells #[.slice aN (pnNet p).length cN, .slice aS G.length cS] 29)).cell? ⟨w7.heap.size, 1, none⟩ = some (.slice aS G.length cS) := (by repeat (first | (refine Eq.trans (World.cell?_alloc_at _ _ _ _ ?hh) ?_; (case hh => (simp; done)); rfl) | refine cell_alloc_keep _ ?_)); go_at_call 31; refine (slices_Concat_Gate_all w7.heap.size (.slice aN (pnNet p).length cN) (.slice aS G.length cS) (pnNet p) G (w7.alloc (.cells #[.slice aN (pnNet p).length cN, .slice aS G.length cS] 29)) c8 d8 (Rd.below HN.out b8 rfl) (Rd.below HS.out b8 rfl) (by omega) (by omega)).mono ?_; rintro e w8 ⟨vF, rfl, ho8, hb8⟩; rw [← HFF.out] at ho8; obtain ⟨aF, cF, rfl⟩ := ho8.forms; have HF := Lib.hid (show RdE w8 (.slice aF F.length cF) E3.cs 3 (pnFull p) from by rw [← HFU.out]; exact ho8.rd); replace x7 := below_cell hb8 rfl (cell_alloc_keep _ x7); replace t0 := below_cell hb8 rfl (cell_alloc_keep _ t0); replace t2 := below_cell hb8 rfl (cell_alloc_keep _ t2); replace bd := Lib.hid (show Below w1.heap.size w1 w8 from Below.trans (Below.alloc bd.out bq _) (hb8.mono (by simp; omega))); replace bq := bd.out.size; clear hb8 ho8 b8 c8 d8; dsimp only)
              refine hK.out _ _ ?_ (fun hHeld3 => ?_)
              · ((try dsimp only); (first | exact ⟨x7, t0, t2⟩ | exact ⟨cell_alloc_keep _ x7, cell_alloc_keep _ t0, cell_alloc_keep _ t2⟩))
              clear hB hK K hHeld2
              refine AnyB.each (rs := [9]) (by kernel_rfl) (by simp) ?_
              refine EachB.cons rfl (fun K hK hB => ?_) ?_
              · skip
                (go_simp; go_at_call 30; refine (impl_placed_p HP.out HF.out (Rd.below HH.out (Below.trans bw1.out (bd.out.mono (by omega))) rfl)).mono ?_; rintro e w9 ⟨vO, qO, rfl, ho9, hb9⟩; obtain ⟨aO, cO, rfl⟩ := ho9.forms; replace t0 := below_cell hb9 rfl t0; have HO := Lib.hid (OwnE.le ho9 bq); replace bd := Lib.hid (show Below w1.heap.size w1 w9 from Below.trans bd.out (hb9.mono bq)); replace bq := Nat.le_trans bq hb9.size; replace x7 := below_cell hb9 rfl x7; replace t2 := below_cell hb9 rfl t2; clear hb9 ho9; dsimp only)
                refine hK.out _ _ ?_ (fun hHeld4 => ?_)
                · ((try dsimp only); (first | exact ⟨x7, t0, t2⟩ | exact ⟨cell_alloc_keep _ x7, cell_alloc_keep _ t0, cell_alloc_keep _ t2⟩))
                clear hB hK K hHeld3
                refine AnyB.takeQ (i := 10) (oi := _) (v := ?_) (by simp only [List.getElem?_toArray, List.getElem?_cons_zero, List.getElem?_cons_succ]; rfl) (by kernel_rfl) (by kernel_rfl) (by kernel_rfl) (by intro _ _ _ h; exact h) (Or.inl ⟨by rfl, ?_⟩) ?_
                rotate_left
                · (intro w hSw; (try dsimp only at hSw); go_simp; (try (with_reducible rfl)))
                try simp only [Act.put, List.setIfInBounds_toArray, List.set_cons_zero, List.set_cons_succ]
                refine AnyB.takeQ (i := 11) (oi := _) (v := ?_) (by simp only [List.getElem?_toArray, List.getElem?_cons_zero, List.getElem?_cons_succ]; rfl) (by kernel_rfl) (by kernel_rfl) (by kernel_rfl) (by intro _ _ _ h; exact h) (Or.inl ⟨by rfl, ?_⟩) ?_
                rotate_left
                · (intro w hSw; (try dsimp only at hSw); go_simp; (try (with_reducible rfl)))
                try simp only [Act.put, List.setIfInBounds_toArray, List.set_cons_zero, List.set_cons_succ]
                refine AnyB.takeQ (i := 12) (oi := _) (v := ?_) (by simp only [List.getElem?_toArray, List.getElem?_cons_zero, List.getElem?_cons_succ]; rfl) (by kernel_rfl) (by kernel_rfl) (by kernel_rfl) (by intro _ _ _ h; exact h) (Or.inl ⟨by rfl, ?_⟩) ?_
                rotate_left
                · (intro w hSw; (try dsimp only at hSw); go_simp; (try (with_reducible rfl)))
                try simp only [Act.put, List.setIfInBounds_toArray, List.set_cons_zero, List.set_cons_succ]
                refine AnyB.takeQ (i := 13) (oi := _) (v := ?_) (by simp only [List.getElem?_toArray, List.getElem?_cons_zero, List.getElem?_cons_succ]; rfl) (by kernel_rfl) (by kernel_rfl) (by kernel_rfl) (by intro _ _ _ h; exact h) (Or.inl ⟨by rfl, ?_⟩) ?_
                rotate_left
                · (intro w hSw; (try dsimp only at hSw); go_simp; (try (with_reducible rfl)))
                try simp only [Act.put, List.setIfInBounds_toArray, List.set_cons_zero, List.set_cons_succ]
                refine AnyB.takeQ (i := 14) (oi := _) (v := ?_) (by simp only [List.getElem?_toArray, List.getElem?_cons_zero, List.getElem?_cons_succ]; rfl) (by kernel_rfl) (by kernel_rfl) (by kernel_rfl) (by intro _ _ _ h; exact h) (Or.inl ⟨by rfl, ?_⟩) ?_
                rotate_left
                · (intro w hSw; (try dsimp only at hSw); go_simp; (try (with_reducible rfl)))
                try simp only [Act.put, List.setIfInBounds_toArray, List.set_cons_zero, List.set_cons_succ]
                refine AnyB.none (by kernel_rfl) ?_ _
                clear HN HS HT HF x7 t2
                have e1 := HPH.out
                have t1 := below_cell bd.out rfl T1.out
                rw [e1] at t1
                obtain ⟨Rp, hRp⟩ : ∃ Rp, Rp = List.replicate N (⟨12, 0, 0⟩ : E3) := ⟨_, rfl⟩
                have hRl : Rp.length ≤ 7 := by rw [hRp, List.length_replicate]; exact hN7
                have HRR := Lib.hid hRp
                clear hRp
                have HA := Lib.hid (show pnEnd p ++ Rp = pnOut p from by unfold pnOut; rw [HRR.out, HPH.out, Int.toNat_natCast])
                have hal : (pnEnd p).length + Rp.length = (pnOut p).length := by rw [← HA.out, List.length_append]
                have HAL := Lib.hid hal
                clear hal
                replace bd := Lib.hid (show Below w1.heap.size w1 w9.drew from Below.drew bd.out)
                replace bq : w1.heap.size ≤ w9.drew.heap.size := bq
                replace t0 : w9.drew.cell? ⟨w.heap.size, 0, none⟩ = some (.int .i64 p.n) := t0
                replace t1 : w9.drew.cell? ⟨w.heap.size, 1, none⟩ = some (.int .i64 (N : Int)) := t1
                have HO3 := Lib.hid (show w9.drew.ownsRow w1.heap.size 58 3 (.slice aO (pnEnd p).length cO) (pnEnd p).length ((pnEnd p).flatMap E3.cs) from own_below HO.out (show Below w9.heap.size w9 w9.drew from (by repeat (first | exact Below.refl _ _ | assumption | refine Below.drew ?_ | refine below_drewN ?_ _ | refine Below.alloc ?_ (by first | omega | (simp <;> omega)) _ | refine Below.setCell ?_ (by first | omega | (simp <;> omega)) _ | refine Below.trans ?_ (Below.mono (by assumption) (by first | omega | (simp <;> omega)))))) rfl)
                clear HO
                have HO := HO3
                clear HO3
                go_upto_region 7 with fail
                refine AnyB.begin (S := (fun w' => w'.cell? ⟨w.heap.size, 0, none⟩ = some (.int .i64 p.n) ∧ w'.cell? ⟨w.heap.size, 1, none⟩ = some (.int .i64 (N : Int)))) [10] (by kernel_rfl) ?_ (fun hHeld0 => ?_)
                · ((try dsimp only); (first | exact ⟨t0, t1⟩))
                refine AnyB.takeQ (i := 0) (oi := _) (v := ?_) (by simp only [List.getElem?_toArray, List.getElem?_cons_zero, List.getElem?_cons_succ]; rfl) (by kernel_rfl) (by kernel_rfl) (by kernel_rfl) (by intro _ _ _ h; exact h) (Or.inl ⟨by rfl, ?_⟩) ?_
                rotate_left
                · (intro w hSw; (try dsimp only at hSw); go_simp; (try (with_reducible rfl)))
                try simp only [Act.put, List.setIfInBounds_toArray, List.set_cons_zero, List.set_cons_succ]
                refine AnyB.take (i := 1) (oi := _) (v := ?_) (by simp only [List.getElem?_toArray, List.getElem?_cons_zero, List.getElem?_cons_succ]; rfl) (by kernel_rfl) (by kernel_rfl) (by kernel_rfl) (by kernel_rfl) (by kernel_rfl) (by intro _ _ _ h; exact h) (Or.inl ⟨by rfl, ?_⟩) (by assumption) ?_
                rotate_left
                · (intro w hSw; (try dsimp only at hSw); go_simp; (try (with_reducible rfl)))
                try simp only [Act.put, List.setIfInBounds_toArray, List.set_cons_zero, List.set_cons_succ]
                refine AnyB.takeQ (i := 2) (oi := _) (v := ?_) (by simp only [List.getElem?_toArray, List.getElem?_cons_zero, List.getElem?_cons_succ]; rfl) (by kernel_rfl) (by kernel_rfl) (by kernel_rfl) (by intro _ _ _ h; exact h) (Or.inl ⟨by rfl, ?_⟩) ?_
                rotate_left
                · (intro w hSw; (try dsimp only at hSw); go_simp; (try (with_reducible rfl)))
                try simp only [Act.put, List.setIfInBounds_toArray, List.set_cons_zero, List.set_cons_succ]
                refine AnyB.takeQ (i := 3) (oi := _) (v := ?_) (by simp only [List.getElem?_toArray, List.getElem?_cons_zero, List.getElem?_cons_succ]; rfl) (by kernel_rfl) (by kernel_rfl) (by kernel_rfl) (by intro _ _ _ h; exact h) (Or.inl ⟨by rfl, ?_⟩) ?_
                rotate_left
                · (intro w hSw; (try dsimp only at hSw); go_simp; (try (with_reducible rfl)))
                try simp only [Act.put, List.setIfInBounds_toArray, List.set_cons_zero, List.set_cons_succ]
                refine AnyB.take (i := 4) (oi := _) (v := ?_) (by simp only [List.getElem?_toArray, List.getElem?_cons_zero, List.getElem?_cons_succ]; rfl) (by kernel_rfl) (by kernel_rfl) (by kernel_rfl) (by kernel_rfl) (by kernel_rfl) (by intro _ _ _ h; exact h) (Or.inl ⟨by rfl, ?_⟩) (by assumption) ?_
                rotate_left
                · (intro w hSw; (try dsimp only at hSw); go_simp; (try (with_reducible rfl)))
                try simp only [Act.put, List.setIfInBounds_toArray, List.set_cons_zero, List.set_cons_succ]
                refine AnyB.each (rs := [5]) (by kernel_rfl) (by simp) ?_
                refine EachB.cons rfl (fun K hK hB => ?_) ?_
                · skip
                  (go_simp; go_at_call 34; refine (impl_phases_any N hN7 _).mono ?_; rintro e w10 ⟨v5, rfl, ho5, hb5⟩; rw [← HRR.out] at ho5; obtain ⟨a5, c5, rfl⟩ := ho5.forms; have PHS := Lib.hid (Reads.of_rd ho5.rd); replace HO := Lib.hid (own_below HO.out hb5 rfl); replace t0 := below_cell hb5 rfl t0; replace t1 := below_cell hb5 rfl t1; replace bd := Lib.hid (show Below w1.heap.size w1 w10 from Below.trans bd.out (hb5.mono bq)); replace bq := Nat.le_trans bq hb5.size; clear hb5 ho5; dsimp only)
                  refine hK.out _ _ ?_ (fun hHeld1 => ?_)
                  · ((try dsimp only); (first | exact ⟨t0, t1⟩))
                  clear hB hK K hHeld0
                  refine AnyB.each (rs := [6]) (by kernel_rfl) (by simp) ?_
                  refine EachB.cons rfl (fun K hK hB => ?_) ?_
                  · skip
                    (refine step_append_any _ (by rfl) (.tmp 52) (.tmp 55) 29 (by rfl) w1.heap.size 58 i0 (.agg #[.int .i64 0, .int .i64 0, .int .i64 0]) 3 24 Try.underlying29 hi hz0 hz1 hz2 rfl (by omega) _ (pnEnd p).length _ (by rfl) HO.out _ a5 Rp.length c5 _ (by rfl) PHS.out (flat_one E3.one _) (by unfold maxLen; omega) (by omega) bq ?_; intro v6 w11 hown6 hg6 hat6; obtain ⟨a6, c6, rfl⟩ := own_form hown6; replace t0 := cell_grown hg6 t0 (fun e => by have := (World.ownsRow.lt HO.out _ e).1; omega); replace t1 := cell_grown hg6 t1 (fun e => by have := (World.ownsRow.lt HO.out _ e).1; omega); replace bd := Lib.hid (bd.out.grown hg6 bq (fun k hk => (World.ownsRow.lt HO.out k hk).1)); replace bq := Nat.le_trans bq hg6.size; replace HO := Lib.hid (show World.ownsRow _ _ _ _ _ _ ((pnEnd p ++ Rp).flatMap E3.cs) from (by rw [List.flatMap_append]; exact hown6)); clear hown6 hg6 hat6 PHS)
                    refine hK.out _ _ ?_ (fun hHeld2 => ?_)
                    · ((try dsimp only); (first | exact ⟨t0, t1⟩))
                    clear hB hK K hHeld1
                    refine AnyB.each (rs := [7]) (by kernel_rfl) (by simp) ?_
                    refine EachB.cons rfl (fun K hK hB => ?_) ?_
                    · skip
                      (go_simp; have HO2 := Lib.hid (show RdE w11 (.slice a6 ((pnEnd p).length + Rp.length) c6) E3.cs 3 (pnOut p) from Rd.of_own (base := w1.heap.size) (e := 58) (by rw [← HAL.out, ← HA.out]; exact HO.out)); go_at_call 33; refine (impl_circuitIf_p HP.out HB.out HO2.out).mono ?_; obtain ⟨SG, hSG⟩ : ∃ SG, SG = phnG p := ⟨_, rfl⟩; have HSG := Lib.hid hSG; rw [← hSG]; clear hSG; rintro e w12 ⟨u9, rfl, ho9, hb9⟩; obtain ⟨aV, cV, rfl⟩ := ho9.forms; replace t0 := below_cell hb9 rfl t0; replace t1 := below_cell hb9 rfl t1; replace bd := Lib.hid (show Below w1.heap.size w1 w12 from Below.trans bd.out (hb9.mono bq)); have HO9 := Lib.hid (OwnE.le ho9 (base' := w.heap.size + 2) (by omega)); replace bq := Nat.le_trans bq hb9.size; have r0 := below_cell bd.out rfl RR0.out; have r1 := below_cell bd.out rfl RR1.out; have f0 := below_frz bd.out rfl (by omega) FF0.out; have f1 := below_frz bd.out rfl (by omega) FF1.out; clear hb9 ho9 HO; dsimp only)
                      refine hK.out _ _ ?_ (fun hHeld3 => ?_)
                      · ((try dsimp only); (first | exact ⟨t0, t1⟩))
                      clear hB hK K hHeld2
                      refine AnyB.takeQ (i := 8) (oi := _) (v := ?_) (by simp only [List.getElem?_toArray, List.getElem?_cons_zero, List.getElem?_cons_succ]; rfl) (by kernel_rfl) (by kernel_rfl) (by kernel_rfl) (by intro _ _ _ h; exact h) (Or.inl ⟨by rfl, ?_⟩) ?_
                      rotate_left
                      · (intro w hSw; (try dsimp only at hSw); go_simp; (try (with_reducible rfl)))
                      try simp only [Act.put, List.setIfInBounds_toArray, List.set_cons_zero, List.set_cons_succ]
                      refine AnyB.takeQ (i := 9) (oi := _) (v := ?_) (by simp only [List.getElem?_toArray, List.getElem?_cons_zero, List.getElem?_cons_succ]; rfl) (by kernel_rfl) (by kernel_rfl) (by kernel_rfl) (by intro _ _ _ h; exact h) (Or.inl ⟨by rfl, ?_⟩) ?_
                      rotate_left
                      · (intro w hSw; (try dsimp only at hSw); go_simp; (try (with_reducible rfl)))
                      try simp only [Act.put, List.setIfInBounds_toArray, List.set_cons_zero, List.set_cons_succ]
                      refine AnyB.each (rs := [10]) (by kernel_rfl) (by simp) ?_
                      refine EachB.cons rfl (fun K hK hB => ?_) ?_
                      · skip
                        go_simp
                        refine hB.out _ _ rfl ?_
                        clear hB hK K
                        refine AnyB.takeQ (i := 11) (oi := _) (v := ?_) (by simp only [List.getElem?_toArray, List.getElem?_cons_zero, List.getElem?_cons_succ]; rfl) (by kernel_rfl) (by kernel_rfl) (by kernel_rfl) (by intro _ _ _ h; exact h) (Or.inl ⟨by rfl, ?_⟩) ?_
                        rotate_left
                        · (intro w hSw; (try dsimp only at hSw); go_simp; (try (with_reducible rfl)))
                        try simp only [Act.put, List.setIfInBounds_toArray, List.set_cons_zero, List.set_cons_succ]
                        refine AnyB.none (by kernel_rfl) ?_ _
                        have bww := Lib.hid (show Below w.heap.size w w12 from Below.trans bw1.out (bd.out.mono (by omega)))
                        clear t0 t1
                        have hZ := box_set2 (nb := w.heap.size + 1) (.int .i64 (SG.getD Circ.zero).n) (.slice aV (SG.getD Circ.zero).gs.length cV) r0 r1
                        have bqq := bww.out
                        go_wp2_with fail
                        exact bodyPost_ret (v := .tuple #[.agg #[.int .i64 (SG.getD Circ.zero).n, .slice aV (SG.getD Circ.zero).gs.length cV], .bool SG.isSome]) (by simp [results, Try.results7, go_sem, hZ]) rfl (by rw [← HSG.out]; exact ⟨_, rfl, OwnE.le (OwnE.set (OwnE.set HO9.out (by simp) _) (by simp) _) (by omega), (by repeat (first | exact Below.refl _ _ | assumption | refine Below.drew ?_ | refine below_drewN ?_ _ | refine Below.alloc ?_ (by first | omega | (simp <;> omega)) _ | refine Below.setCell ?_ (by first | omega | (simp <;> omega)) _ | refine Below.trans ?_ (Below.mono (by assumption) (by first | omega | (simp <;> omega)))))⟩)
                      exact EachB.nil
                    exact EachB.nil
                  exact EachB.nil
                exact EachB.nil
              exact EachB.nil
            exact EachB.nil
          exact EachB.nil
        exact EachB.nil
    exact EachB.nil
  exact EachB.nil
theorem impl_PhaseNetwork_any (v u : Value) (p : PP) (w : World) (h : RdE w v E2.cs 2 p.ts) (k : RdI w u p.out) (hl : p.ts.length ≤ 1048576) (hm : p.out.length ≤ 1048576) :
    Calls Try.prog 7 #[.agg #[.int .i64 p.n, .int .i64 p.ph, v, u]] w (CircPost w (phnG p)) := by
  by_cases hok : PPOk p
  · exact impl_PhaseNetwork_ok v u p w h k hok
  · exact impl_PhaseNetwork_no v u p w h k hl hm (ppB_false hok)
end Go.Proofs.Ytbcjligkjoimmaa
