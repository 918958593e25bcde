/- PhaseNetwork: the reference. -/
import Derived.Test.YtbcjligkjoimmaaZ43M
import Derived.Test.YtbcjligkjoimmaaZ32M
import Derived.Test.YtbcjligkjoimmaaZ29Brk
import Derived.BigRegion
import Derived.BigQuiet
import Derived.Deep.DeepCutAuto
namespace Go.Proofs.Ytbcjligkjoimmaa
set_option linter.unusedSimpArgs false
set_option linter.unusedVariables false
set_option linter.unnecessarySimpa false
set_option maxRecDepth 200000
open Go.ChangeShapes Go.WideShapes Go.ChangeAt Go.RowKit

theorem reads_gate (w : World) (a b c : Int) : Reads (w.alloc (.cells #[.int .i64 a, .int .i64 b, .int .i64 c] 58)) (w.heap.size + 1) 3 (some ⟨w.heap.size, 0, none⟩) 1 (E3.cs ⟨a, b, c⟩) :=
  ⟨rfl, fun _ => ⟨_, rfl, by simp, news_cells w [_, _, _] _⟩⟩
theorem cset_oth {w : World} {b i j : Nat} {u v : Value} (h : w.cell? ⟨b, i, none⟩ = some u) (hne : j ≠ i) : (w.setCell ⟨b, j, none⟩ v).cell? ⟨b, i, none⟩ = some u :=
  (World.cell?_setCell_other _ _ _ _ (fun e => hne (by injection e))).trans h
theorem fset {w : World} {a b : Addr} {v : Value} (h : w.frozen? a = false) : (w.setCell b v).frozen? a = false := by simpa using h
theorem ne_of_lt {v : Value} {b H : Nat} (h : ∀ g, v.ownBlock = some g → g < H) (hb : H ≤ b) : ∀ g, v.ownBlock = some g → g ≠ b := fun g hg e => by have := h g hg; omega
set_option maxHeartbeats 4000000 in
theorem spec_PhaseNetwork_no (v u : Value) (p : PP) (w : World) (h : RdE w v E2.cs 2 p.ts) (k : RdI w u p.out) (hl : p.ts.length ≤ 1048576) (hm : p.out.length ≤ 1048576) (hb : ppB p = false) :
    Calls Try.prog 5 #[.agg #[.int .i64 p.n, .int .i64 p.ph, v, u]] w (CircPost w (phnG p)) := by
  have HH := Lib.hid h; have KT := Lib.hid k
  obtain ⟨A, c, rfl, _⟩ := h.form
  obtain ⟨A2, c2, rfl, _⟩ := k.form
  clear h k
  have HG := Lib.hid (phnG_none hb)
  have HB := Lib.hid hb; clear hb
  go_enter Try.func5, Try.ntmps5
  go_wp2_with fail
  refine (spec_l13Valid_any _ _ p _ (Rd.below HH.out (show Below w.heap.size w _ from (by repeat (first | exact Below.refl _ _ | assumption | refine Below.drew ?_ | refine below_drewN ?_ _ | refine Below.alloc ?_ (by first | omega | (simp <;> omega)) _ | refine Below.setCell ?_ (by first | omega | (simp <;> omega)) _ | refine Below.trans ?_ (Below.mono (by assumption) (by first | omega | (simp <;> omega)))))) rfl) (Rd.below KT.out (show Below w.heap.size w _ from (by repeat (first | exact Below.refl _ _ | assumption | refine Below.drew ?_ | refine below_drewN ?_ _ | refine Below.alloc ?_ (by first | omega | (simp <;> omega)) _ | refine Below.setCell ?_ (by first | omega | (simp <;> omega)) _ | refine Below.trans ?_ (Below.mono (by assumption) (by first | omega | (simp <;> omega)))))) rfl) hl hm).mono ?_; rintro e w1 ⟨rfl, hb1⟩; rw [HB.out]
  have t0 := below_cell hb1 rfl (show ((w.alloc (.cells #[.int .i64 p.n, .int .i64 p.ph, .slice A p.ts.length c, .slice A2 p.out.length c2] 37)).alloc (.cells #[.int .i64 0, .slice none 0 0] 31)).cell? ⟨w.heap.size, 0, none⟩ = some (.int .i64 p.n) from (by repeat (first | (refine Eq.trans (World.cell?_alloc_at _ _ _ _ ?hh) ?_; (case hh => (simp; done)); rfl) | refine cell_alloc_keep _ ?_)))
  have t1 := below_cell hb1 rfl (show ((w.alloc (.cells #[.int .i64 p.n, .int .i64 p.ph, .slice A p.ts.length c, .slice A2 p.out.length c2] 37)).alloc (.cells #[.int .i64 0, .slice none 0 0] 31)).cell? ⟨w.heap.size, 1, none⟩ = some (.int .i64 p.ph) from (by repeat (first | (refine Eq.trans (World.cell?_alloc_at _ _ _ _ ?hh) ?_; (case hh => (simp; done)); rfl) | refine cell_alloc_keep _ ?_)))
  have t2 := below_cell hb1 rfl (show ((w.alloc (.cells #[.int .i64 p.n, .int .i64 p.ph, .slice A p.ts.length c, .slice A2 p.out.length c2] 37)).alloc (.cells #[.int .i64 0, .slice none 0 0] 31)).cell? ⟨w.heap.size, 2, none⟩ = some (.slice A p.ts.length c) from (by repeat (first | (refine Eq.trans (World.cell?_alloc_at _ _ _ _ ?hh) ?_; (case hh => (simp; done)); rfl) | refine cell_alloc_keep _ ?_)))
  have t3 := below_cell hb1 rfl (show ((w.alloc (.cells #[.int .i64 p.n, .int .i64 p.ph, .slice A p.ts.length c, .slice A2 p.out.length c2] 37)).alloc (.cells #[.int .i64 0, .slice none 0 0] 31)).cell? ⟨w.heap.size, 3, none⟩ = some (.slice A2 p.out.length c2) from (by repeat (first | (refine Eq.trans (World.cell?_alloc_at _ _ _ _ ?hh) ?_; (case hh => (simp; done)); rfl) | refine cell_alloc_keep _ ?_)))
  have r0 := below_cell hb1 rfl (show ((w.alloc (.cells #[.int .i64 p.n, .int .i64 p.ph, .slice A p.ts.length c, .slice A2 p.out.length c2] 37)).alloc (.cells #[.int .i64 0, .slice none 0 0] 31)).cell? ⟨w.heap.size + 1, 0, none⟩ = some (.int .i64 0) from (by repeat (first | (refine Eq.trans (World.cell?_alloc_at _ _ _ _ ?hh) ?_; (case hh => (simp; done)); rfl) | refine cell_alloc_keep _ ?_)))
  have f0 := below_frz hb1 rfl (by simp) (show ((w.alloc (.cells #[.int .i64 p.n, .int .i64 p.ph, .slice A p.ts.length c, .slice A2 p.out.length c2] 37)).alloc (.cells #[.int .i64 0, .slice none 0 0] 31)).frozen? ⟨w.heap.size + 1, 0, none⟩ = false from (by repeat (first | (refine World.frozen?_alloc_at _ _ _ _ ?hh; case hh => (simp; done)) | (refine frozen_alloc_lt _ ?hh ?_; case hh => first | omega | (simp <;> omega)))))
  have r1 := below_cell hb1 rfl (show ((w.alloc (.cells #[.int .i64 p.n, .int .i64 p.ph, .slice A p.ts.length c, .slice A2 p.out.length c2] 37)).alloc (.cells #[.int .i64 0, .slice none 0 0] 31)).cell? ⟨w.heap.size + 1, 1, none⟩ = some (.slice none 0 0) from (by repeat (first | (refine Eq.trans (World.cell?_alloc_at _ _ _ _ ?hh) ?_; (case hh => (simp; done)); rfl) | refine cell_alloc_keep _ ?_)))
  have f1 := below_frz hb1 rfl (by simp) (show ((w.alloc (.cells #[.int .i64 p.n, .int .i64 p.ph, .slice A p.ts.length c, .slice A2 p.out.length c2] 37)).alloc (.cells #[.int .i64 0, .slice none 0 0] 31)).frozen? ⟨w.heap.size + 1, 1, none⟩ = false from (by repeat (first | (refine World.frozen?_alloc_at _ _ _ _ ?hh; case hh => (simp; done)) | (refine frozen_alloc_lt _ ?hh ?_; case hh => first | omega | (simp <;> omega)))))
  have z1 := hb1.size; (simp at z1)
  have bw1 := Lib.hid (show Below w.heap.size w w1 from (by repeat (first | exact Below.refl _ _ | assumption | refine Below.drew ?_ | refine below_drewN ?_ _ | refine Below.alloc ?_ (by first | omega | (simp <;> omega)) _ | refine Below.setCell ?_ (by first | omega | (simp <;> omega)) _ | refine Below.trans ?_ (Below.mono (by assumption) (by first | omega | (simp <;> omega)))))); clear hb1
  go_wp2_with fail
  have hZ := box_set2 (nb := w.heap.size + 1) (.int .i64 0) (.slice none 0 0) r0 r1
  have bq := bw1.out
  exact bodyPost_ret (v := .tuple #[.agg #[.int .i64 0, .slice none 0 0], .bool false]) (by simp [results, Try.results5, go_sem, hZ]) rfl (CircPost.none HG.out (by repeat (first | exact Below.refl _ _ | assumption | refine Below.drew ?_ | refine below_drewN ?_ _ | refine Below.alloc ?_ (by first | omega | (simp <;> omega)) _ | refine Below.setCell ?_ (by first | omega | (simp <;> omega)) _ | refine Below.trans ?_ (Below.mono (by assumption) (by first | omega | (simp <;> omega))))))
set_option maxHeartbeats 8000000 in
theorem spec_PhaseNetwork_ok (v u : Value) (p : PP) (w : World) (h : RdE w v E2.cs 2 p.ts) (k : RdI w u p.out) (hok : PPOk p) :
    Calls Try.prog 5 #[.agg #[.int .i64 p.n, .int .i64 p.ph, v, u]] w (CircPost w (phnG p)) := by
  obtain ⟨m, hP⟩ := pn_ok hok
  obtain ⟨i0, hi, hz0, hz1, hz2⟩ := info_parts info_Gate
  obtain ⟨j0, hj, hy0, hy1, hy2⟩ := info_parts info_intP
  have hl : p.ts.length ≤ 1048576 := by have := hP.few; omega
  have hm : p.out.length ≤ 1048576 := by have := hP.ol; have := hP.m5; omega
  obtain ⟨N, hN, hN7⟩ := hP.ph
  have HPH := Lib.hid hN
  clear hN
  have hnl := hP.netl
  have hrl := hP.red
  have hel := hP.endl
  have HP := Lib.hid hP
  clear hP
  have HH := Lib.hid h; have KT := Lib.hid k
  obtain ⟨A, c, rfl, HTC⟩ := term_at2 h
  obtain ⟨A2, c2, rfl, _⟩ := k.form
  clear h k
  have HG := Lib.hid (phnG_some (ppB_true hok))
  have HB := Lib.hid (ppB_true hok); clear hok
  go_enter Try.func5, Try.ntmps5
  go_wp2_with fail
  refine (spec_l13Valid_any _ _ p _ (Rd.below HH.out (show Below w.heap.size w _ from (by repeat (first | exact Below.refl _ _ | assumption | refine Below.drew ?_ | refine below_drewN ?_ _ | refine Below.alloc ?_ (by first | omega | (simp <;> omega)) _ | refine Below.setCell ?_ (by first | omega | (simp <;> omega)) _ | refine Below.trans ?_ (Below.mono (by assumption) (by first | omega | (simp <;> omega)))))) rfl) (Rd.below KT.out (show Below w.heap.size w _ from (by repeat (first | exact Below.refl _ _ | assumption | refine Below.drew ?_ | refine below_drewN ?_ _ | refine Below.alloc ?_ (by first | omega | (simp <;> omega)) _ | refine Below.setCell ?_ (by first | omega | (simp <;> omega)) _ | refine Below.trans ?_ (Below.mono (by assumption) (by first | omega | (simp <;> omega)))))) rfl) hl hm).mono ?_; rintro e w1 ⟨rfl, hb1⟩; rw [HB.out]
  have t0 := below_cell hb1 rfl (show ((w.alloc (.cells #[.int .i64 p.n, .int .i64 p.ph, .slice A p.ts.length c, .slice A2 p.out.length c2] 37)).alloc (.cells #[.int .i64 0, .slice none 0 0] 31)).cell? ⟨w.heap.size, 0, none⟩ = some (.int .i64 p.n) from (by repeat (first | (refine Eq.trans (World.cell?_alloc_at _ _ _ _ ?hh) ?_; (case hh => (simp; done)); rfl) | refine cell_alloc_keep _ ?_)))
  have t1 := below_cell hb1 rfl (show ((w.alloc (.cells #[.int .i64 p.n, .int .i64 p.ph, .slice A p.ts.length c, .slice A2 p.out.length c2] 37)).alloc (.cells #[.int .i64 0, .slice none 0 0] 31)).cell? ⟨w.heap.size, 1, none⟩ = some (.int .i64 p.ph) from (by repeat (first | (refine Eq.trans (World.cell?_alloc_at _ _ _ _ ?hh) ?_; (case hh => (simp; done)); rfl) | refine cell_alloc_keep _ ?_)))
  have t2 := below_cell hb1 rfl (show ((w.alloc (.cells #[.int .i64 p.n, .int .i64 p.ph, .slice A p.ts.length c, .slice A2 p.out.length c2] 37)).alloc (.cells #[.int .i64 0, .slice none 0 0] 31)).cell? ⟨w.heap.size, 2, none⟩ = some (.slice A p.ts.length c) from (by repeat (first | (refine Eq.trans (World.cell?_alloc_at _ _ _ _ ?hh) ?_; (case hh => (simp; done)); rfl) | refine cell_alloc_keep _ ?_)))
  have t3 := below_cell hb1 rfl (show ((w.alloc (.cells #[.int .i64 p.n, .int .i64 p.ph, .slice A p.ts.length c, .slice A2 p.out.length c2] 37)).alloc (.cells #[.int .i64 0, .slice none 0 0] 31)).cell? ⟨w.heap.size, 3, none⟩ = some (.slice A2 p.out.length c2) from (by repeat (first | (refine Eq.trans (World.cell?_alloc_at _ _ _ _ ?hh) ?_; (case hh => (simp; done)); rfl) | refine cell_alloc_keep _ ?_)))
  have r0 := below_cell hb1 rfl (show ((w.alloc (.cells #[.int .i64 p.n, .int .i64 p.ph, .slice A p.ts.length c, .slice A2 p.out.length c2] 37)).alloc (.cells #[.int .i64 0, .slice none 0 0] 31)).cell? ⟨w.heap.size + 1, 0, none⟩ = some (.int .i64 0) from (by repeat (first | (refine Eq.trans (World.cell?_alloc_at _ _ _ _ ?hh) ?_; (case hh => (simp; done)); rfl) | refine cell_alloc_keep _ ?_)))
  have f0 := below_frz hb1 rfl (by simp) (show ((w.alloc (.cells #[.int .i64 p.n, .int .i64 p.ph, .slice A p.ts.length c, .slice A2 p.out.length c2] 37)).alloc (.cells #[.int .i64 0, .slice none 0 0] 31)).frozen? ⟨w.heap.size + 1, 0, none⟩ = false from (by repeat (first | (refine World.frozen?_alloc_at _ _ _ _ ?hh; case hh => (simp; done)) | (refine frozen_alloc_lt _ ?hh ?_; case hh => first | omega | (simp <;> omega)))))
  have r1 := below_cell hb1 rfl (show ((w.alloc (.cells #[.int .i64 p.n, .int .i64 p.ph, .slice A p.ts.length c, .slice A2 p.out.length c2] 37)).alloc (.cells #[.int .i64 0, .slice none 0 0] 31)).cell? ⟨w.heap.size + 1, 1, none⟩ = some (.slice none 0 0) from (by repeat (first | (refine Eq.trans (World.cell?_alloc_at _ _ _ _ ?hh) ?_; (case hh => (simp; done)); rfl) | refine cell_alloc_keep _ ?_)))
  have f1 := below_frz hb1 rfl (by simp) (show ((w.alloc (.cells #[.int .i64 p.n, .int .i64 p.ph, .slice A p.ts.length c, .slice A2 p.out.length c2] 37)).alloc (.cells #[.int .i64 0, .slice none 0 0] 31)).frozen? ⟨w.heap.size + 1, 1, none⟩ = false from (by repeat (first | (refine World.frozen?_alloc_at _ _ _ _ ?hh; case hh => (simp; done)) | (refine frozen_alloc_lt _ ?hh ?_; case hh => first | omega | (simp <;> omega)))))
  have z1 := hb1.size; (simp at z1)
  have bw1 := Lib.hid (show Below w.heap.size w w1 from (by repeat (first | exact Below.refl _ _ | assumption | refine Below.drew ?_ | refine below_drewN ?_ _ | refine Below.alloc ?_ (by first | omega | (simp <;> omega)) _ | refine Below.setCell ?_ (by first | omega | (simp <;> omega)) _ | refine Below.trans ?_ (Below.mono (by assumption) (by first | omega | (simp <;> omega)))))); clear hb1
  have T0 := Lib.hid t0; have T1 := Lib.hid t1; have T2 := Lib.hid t2; have T3 := Lib.hid t3; have RR0 := Lib.hid r0; have RR1 := Lib.hid r1; have FF0 := Lib.hid f0; have FF1 := Lib.hid f1
  clear t0 t1 t3 r0 r1 f0 f1
  go_wp2_with fail
  clear t2
  go_loopw [4, 22] (fun so si wr => ∃ (k : Nat) (u : Value), u = so ∧ k ≤ p.ts.length ∧ si = .int .i64 k ∧ Hid (wr.ownsRow w1.heap.size 3 1 u k (((p.ts.take k).map (·.a)).map (Value.int .i64))) ∧ Hid (Below w1.heap.size w1 wr) ∧ w1.heap.size ≤ wr.heap.size) (fun _ si _ => p.ts.length - (intOf si).toNat)
  case atStart => exact ⟨0, _, rfl, Nat.zero_le _, rfl, (show World.ownsRow _ _ _ _ _ _ _ from World.ownsRow_nil _ _ _ _), (show Below _ _ _ from (by repeat (first | exact Below.refl _ _ | assumption | refine Below.drew ?_ | refine below_drewN ?_ _ | refine Below.alloc ?_ (by first | omega | (simp <;> omega)) _ | refine Below.setCell ?_ (by first | omega | (simp <;> omega)) _ | refine Below.trans ?_ (Below.mono (by assumption) (by first | omega | (simp <;> omega)))))), Nat.le_refl _⟩
  case round =>
    obtain ⟨k, u, rfl, hk, rfl, hO, hB, hsz⟩ := hrel
    obtain ⟨aU, cU, rfl⟩ : ∃ a c, u = .slice a k c := own_form hO.out
    by_cases hlt : k < p.ts.length
    · have j1 : (k : Int) < (p.ts.length : Int) := by omega
      obtain ⟨b, off, rfl, hb, c0, c1⟩ := HTC.out k hlt
      have bww := Below.trans bw1.out (hB.out.mono (by omega))
      replace c0 := (bww.cell hb).trans c0
      replace c1 := (bww.cell hb).trans c1
      have HNX := Lib.hid (show ((p.ts.take (k + 1)).map (·.a)).map (Value.int .i64) = ((p.ts.take k).map (·.a)).map (Value.int .i64) ++ [.int .i64 (p.ts.getD k ⟨0, 0⟩).a] from by
        rw [List.take_succ_eq_append_getElem hlt, List.map_append, List.map_append]; simp [List.getD, hlt])
      obtain ⟨x, hx⟩ : ∃ x, x = p.ts.getD k ⟨0, 0⟩ := ⟨_, rfl⟩
      rw [← hx] at c0 c1 HNX
      clear hx bww
      have OX := Lib.hid (World.ownsRow.alloc (World.ownsRow.alloc hO.out (.cells #[.int .i64 x.a, .int .i64 x.b] 48)) (.cells #[.int .i64 x.a] 3))
      have hbX := Lib.hid (show Below w1.heap.size w1 ((wr.alloc (.cells #[.int .i64 x.a, .int .i64 x.b] 48)).alloc (.cells #[.int .i64 x.a] 3)) from Below.alloc (Below.alloc hB.out hsz _) (by simp; omega) _)
      have g3 : w1.heap.size ≤ ((wr.alloc (.cells #[.int .i64 x.a, .int .i64 x.b] 48)).alloc (.cells #[.int .i64 x.a] 3)).heap.size := hbX.out.size
      have g1 : k + 1 ≤ maxLen := by unfold maxLen; omega
      have g2 : (k + 1) * 8 ≤ 140737488355328 := by omega
      have g5 : Reads ((wr.alloc (.cells #[.int .i64 x.a, .int .i64 x.b] 48)).alloc (.cells #[.int .i64 x.a] 3)) (wr.heap.size + 1 + 1) 1 (some ⟨wr.heap.size + 1, 0, none⟩) 1 [.int .i64 x.a] := by
        have h9 := reads_int (wr.alloc (.cells #[.int .i64 x.a, .int .i64 x.b] 48)) x.a
        rwa [show (wr.alloc (.cells #[.int .i64 x.a, .int .i64 x.b] 48)).heap.size = wr.heap.size + 1 from by simp] at h9
      have g6 : ∀ u ∈ [Value.int .i64 x.a], u.oneCell' = true := fun u hu => by simp at hu; subst hu; rfl
      go_wp2_with (at_builtin; go_loud (refine wpList_append_any _ rfl (.tmp 26) (.tmp 29) 23 rfl w1.heap.size 3 j0 (.int .i64 0) 1 8 Try.underlying23 hj hy0 hy1 hy2 rfl (by decide) (.slice aU k cU) k (((p.ts.take k).map (·.a)).map (Value.int .i64)) ?hs ?ho (wr.heap.size + 1 + 1) (some ⟨wr.heap.size + 1, 0, none⟩) 1 1 [.int .i64 x.a] ?hx ?hr ?h1 ?h63 ?hb ?hbs ?_; (case ho => with_reducible exact OX.out); (case hs => rfl); (case h63 => exact g1); (case hb => exact g2); (case hbs => exact g3); (case h1 => exact g6); (case hx => rfl); (case hr => exact g5); intro v3 w4 hown3 hg3 hat3; have S4 := Lib.hid (show w4.ownsRow w1.heap.size 3 1 v3 (k + 1) (((p.ts.take (k + 1)).map (·.a)).map (Value.int .i64)) from (by rw [HNX.out]; exact hown3)); have B4 := Lib.hid (grown_below hbX.out OX.out hg3 (Nat.le_refl _) g3); have z4 := hg3.size; clear hown3 hg3 hat3))
      go_roundw
      case rel => exact ⟨k + 1, v3, rfl, by omega, by go_num, S4, B4, by omega⟩
      case measure => simp [intOf]; omega
    · have ek : k = p.ts.length := by omega
      subst ek
      have i2 : ¬ (p.ts.length : Int) < (p.ts.length : Int) := by omega
      have hO2 := hO.out
      rw [List.take_of_length_le (Nat.le_refl _)] at hO2
      have HMs := Lib.hid (show RdI wr (.slice aU p.ts.length cU) (p.ts.map (·.a)) from OwnI.rd (base := w1.heap.size) (by unfold OwnI; rw [List.length_map]; exact hO2))
      clear hO2 hO
      have t0 := below_cell hB.out rfl T0.out
      go_wp2_with fail
      refine (spec_l14Gray_p HP.out HMs.out).mono ?_; rintro e w2 ⟨vN, rfl, ho2, hb2⟩
      obtain ⟨aN, cN, rfl⟩ := ho2.forms
      have bd2 := Below.trans hB.out (hb2.mono hsz)
      have z2 := hb2.size
      have HNo := Lib.hid (OwnE.le ho2 hsz)
      have ltN := ho2.lt
      clear HMs t0 hb2 hB ho2
      go_wp2_with fail
      refine (spec_LinearOf_p HP.out (Rd.below HNo.out.rd (show Below w2.heap.size w2 (w2.alloc (.cells #[.int .i64 p.n, .slice aN (pnNet p).length cN] 31)) from (by repeat (first | exact Below.refl _ _ | assumption | refine Below.drew ?_ | refine below_drewN ?_ _ | refine Below.alloc ?_ (by first | omega | (simp <;> omega)) _ | refine Below.setCell ?_ (by first | omega | (simp <;> omega)) _ | refine Below.trans ?_ (Below.mono (by assumption) (by first | omega | (simp <;> omega)))))) rfl)).mono ?_; rintro e w3 ⟨vR, rfl, ho3, hb3⟩
      obtain ⟨aR, cR, rfl⟩ := ho3.forms
      have b23 := Below.trans (show Below w2.heap.size w2 (w2.alloc (.cells #[.int .i64 p.n, .slice aN (pnNet p).length cN] 31)) from (by repeat (first | exact Below.refl _ _ | assumption | refine Below.drew ?_ | refine below_drewN ?_ _ | refine Below.alloc ?_ (by first | omega | (simp <;> omega)) _ | refine Below.setCell ?_ (by first | omega | (simp <;> omega)) _ | refine Below.trans ?_ (Below.mono (by assumption) (by first | omega | (simp <;> omega)))))) (hb3.mono (by simp))
      have y0 := below_cell hb3 rfl (show (w2.alloc (.cells #[.int .i64 p.n, .slice aN (pnNet p).length cN] 31)).cell? ⟨w2.heap.size, 0, none⟩ = some (.int .i64 p.n) from (by repeat (first | (refine Eq.trans (World.cell?_alloc_at _ _ _ _ ?hh) ?_; (case hh => (simp; done)); rfl) | refine cell_alloc_keep _ ?_)))
      have y1 := below_cell hb3 rfl (show (w2.alloc (.cells #[.int .i64 p.n, .slice aN (pnNet p).length cN] 31)).cell? ⟨w2.heap.size, 1, none⟩ = some (.slice aN (pnNet p).length cN) from (by repeat (first | (refine Eq.trans (World.cell?_alloc_at _ _ _ _ ?hh) ?_; (case hh => (simp; done)); rfl) | refine cell_alloc_keep _ ?_)))
      have k1 := below_frz hb3 rfl (by simp) (show (w2.alloc (.cells #[.int .i64 p.n, .slice aN (pnNet p).length cN] 31)).frozen? ⟨w2.heap.size, 1, none⟩ = false from (by repeat (first | (refine World.frozen?_alloc_at _ _ _ _ ?hh; case hh => (simp; done)) | (refine frozen_alloc_lt _ ?hh ?_; case hh => first | omega | (simp <;> omega)))))
      have z3 := b23.size
      have y1l := World.block_lt_of_cell? _ _ y1
      clear hb3
      go_wp2_with fail
      refine (spec_InvertLinear_p HP.out (Rd.below ho3.rd (show Below w3.heap.size w3 (w3.alloc (.cells #[.slice aR (ints (pnR p)).length cR] 35)) from (by repeat (first | exact Below.refl _ _ | assumption | refine Below.drew ?_ | refine below_drewN ?_ _ | refine Below.alloc ?_ (by first | omega | (simp <;> omega)) _ | refine Below.setCell ?_ (by first | omega | (simp <;> omega)) _ | refine Below.trans ?_ (Below.mono (by assumption) (by first | omega | (simp <;> omega)))))) rfl)).mono ?_; rintro e w4 ⟨vI, rfl, ho4, hb4⟩
      obtain ⟨aI, cI, rfl⟩ := ho4.forms
      have b34 := Below.trans (show Below w3.heap.size w3 (w3.alloc (.cells #[.slice aR (ints (pnR p)).length cR] 35)) from (by repeat (first | exact Below.refl _ _ | assumption | refine Below.drew ?_ | refine below_drewN ?_ _ | refine Below.alloc ?_ (by first | omega | (simp <;> omega)) _ | refine Below.setCell ?_ (by first | omega | (simp <;> omega)) _ | refine Below.trans ?_ (Below.mono (by assumption) (by first | omega | (simp <;> omega)))))) (hb4.mono (by simp))
      have z4 := b34.size
      obtain ⟨W5, hW5⟩ : ∃ W, W = w4.alloc (.cells #[.slice aI (ints (pnI p)).length cI] 35) := ⟨_, rfl⟩
      have b45 : Below w4.heap.size w4 W5 := by rw [hW5]; exact (by repeat (first | exact Below.refl _ _ | assumption | refine Below.drew ?_ | refine below_drewN ?_ _ | refine Below.alloc ?_ (by first | omega | (simp <;> omega)) _ | refine Below.setCell ?_ (by first | omega | (simp <;> omega)) _ | refine Below.trans ?_ (Below.mono (by assumption) (by first | omega | (simp <;> omega)))))
      have b35 := below_step b34 b45
      have x10 : W5.cell? ⟨w4.heap.size, 0, none⟩ = some (.slice aI (ints (pnI p)).length cI) := by rw [hW5]; exact (by repeat (first | (refine Eq.trans (World.cell?_alloc_at _ _ _ _ ?hh) ?_; (case hh => (simp; done)); rfl) | refine cell_alloc_keep _ ?_))
      replace y0 := below_cell b35 rfl y0
      replace y1 := below_cell b35 rfl y1
      replace k1 := below_frz b35 rfl y1l k1
      have b25 := Below.trans b23 (b35.mono z3)
      have bd := Lib.hid (Below.trans bd2 (b25.mono (by have := bd2.size; omega)))
      have HO := Lib.hid (own_below (show w2.ownsRow w1.heap.size 58 3 (.slice aN (pnNet p).length cN) (pnNet p).length ((pnNet p).flatMap E3.cs) from HNo.out) b25 rfl)
      have HI := Lib.hid (Rd.below ho4.rd b45 rfl)
      have t3 := below_cell bd.out rfl T3.out
      have bq := bd.out.size
      have b2W := b25.size
      clear ho3 ho4 hb4 b34 b45 b35 b23 HNo bd2
      go_upto_region 12 with fail
      rw [← hW5]
      clear hW5
      obtain ⟨b7, hb7⟩ : ∃ b, b = w2.heap.size := ⟨_, rfl⟩
      obtain ⟨b10, hb10⟩ : ∃ b, b = w4.heap.size := ⟨_, rfl⟩
      rw [← hb7, ← hb10]
      rw [← hb7] at y0 y1 k1
      rw [← hb10] at x10
      have NB := Lib.hid (show ∀ g, (Value.slice aN (pnNet p).length cN).ownBlock = some g → g ≠ b7 from ne_of_lt (fun g hg => (ltN g hg).2) (by omega))
      have XB := Lib.hid (show ∀ g, (Value.slice aN (pnNet p).length cN).ownBlock = some g → g ≠ b10 from ne_of_lt (fun g hg => (ltN g hg).2) (by omega))
      have hq7 : w1.heap.size ≤ b7 := by rw [hb7]; omega
      have h7l := World.block_lt_of_cell? _ _ y1
      clear hb7 hb10 ltN
      obtain ⟨G, hG⟩ : ∃ G, G = (redG (pnT p)).reverse := ⟨_, rfl⟩
      have hGl : G.length ≤ 50 := by rw [hG, List.length_reverse]; exact hrl
      have HGG := Lib.hid hG
      obtain ⟨F, hF⟩ : ∃ F, F = pnNet p ++ G := ⟨_, rfl⟩
      have HFF := Lib.hid hF
      have hFl : F.length = (pnNet p).length + G.length := by rw [hF, List.length_append]
      have HFL := Lib.hid hFl
      have HFU := Lib.hid (show F = pnFull p from by rw [hF, hG]; rfl)
      clear hG hF hFl
      replace bd := Lib.hid (show Below w1.heap.size w1 W5.drew from Below.drew bd.out)
      replace bq : w1.heap.size ≤ W5.drew.heap.size := bq
      replace y0 : W5.drew.cell? _ = _ := y0
      replace y1 : W5.drew.cell? _ = _ := y1
      replace k1 : W5.drew.frozen? _ = _ := k1
      replace x10 : W5.drew.cell? _ = _ := x10
      replace t3 : W5.drew.cell? _ = _ := t3
      replace h7l : b7 < W5.drew.heap.size := h7l
      replace HI := Lib.hid (Rd.below HI.out (show Below W5.heap.size W5 W5.drew from (by repeat (first | exact Below.refl _ _ | assumption | refine Below.drew ?_ | refine below_drewN ?_ _ | refine Below.alloc ?_ (by first | omega | (simp <;> omega)) _ | refine Below.setCell ?_ (by first | omega | (simp <;> omega)) _ | refine Below.trans ?_ (Below.mono (by assumption) (by first | omega | (simp <;> omega)))))) rfl)
      replace HO := Lib.hid (own_below HO.out (show Below W5.heap.size W5 W5.drew from (by repeat (first | exact Below.refl _ _ | assumption | refine Below.drew ?_ | refine below_drewN ?_ _ | refine Below.alloc ?_ (by first | omega | (simp <;> omega)) _ | refine Below.setCell ?_ (by first | omega | (simp <;> omega)) _ | refine Below.trans ?_ (Below.mono (by assumption) (by first | omega | (simp <;> omega)))))) rfl)
      refine AnyB.begin (S := (fun w' => w'.cell? ⟨b7, 1, none⟩ = some (.slice aN (pnNet p).length cN) ∧ w'.cell? ⟨b10, 0, none⟩ = some (.slice aI (ints (pnI p)).length cI) ∧ w'.cell? ⟨w.heap.size, 3, none⟩ = some (.slice A2 p.out.length c2))) [10] (by kernel_rfl) ?_ (fun hHeld0 => ?_)
      · ((try dsimp only); (first | exact ⟨y1, x10, t3⟩))
      refine AnyB.takeQ (i := 0) (oi := _) (v := ?_) (by simp only [List.getElem?_toArray, List.getElem?_cons_zero, List.getElem?_cons_succ]; rfl) (by kernel_rfl) (by kernel_rfl) (by kernel_rfl) (by intro _ _ _ h; exact h) (Or.inl ⟨by rfl, ?_⟩) ?_
      rotate_left
      · (intro w hSw; (try dsimp only at hSw); go_simp; (try (with_reducible rfl)))
      try simp only [Act.put, List.setIfInBounds_toArray, List.set_cons_zero, List.set_cons_succ]
      refine AnyB.take (i := 1) (oi := _) (v := ?_) (by simp only [List.getElem?_toArray, List.getElem?_cons_zero, List.getElem?_cons_succ]; rfl) (by kernel_rfl) (by kernel_rfl) (by kernel_rfl) (by kernel_rfl) (by kernel_rfl) (by intro _ _ _ h; exact h) (Or.inl ⟨by rfl, ?_⟩) (by assumption) ?_
      rotate_left
      · (intro w hSw; (try dsimp only at hSw); go_simp; (try (with_reducible rfl)))
      try simp only [Act.put, List.setIfInBounds_toArray, List.set_cons_zero, List.set_cons_succ]
      refine AnyB.take (i := 2) (oi := _) (v := ?_) (by simp only [List.getElem?_toArray, List.getElem?_cons_zero, List.getElem?_cons_succ]; rfl) (by kernel_rfl) (by kernel_rfl) (by kernel_rfl) (by kernel_rfl) (by kernel_rfl) (by intro _ _ _ h; exact h) (Or.inl ⟨by rfl, ?_⟩) (by assumption) ?_
      rotate_left
      · (intro w hSw; (try dsimp only at hSw); go_simp; (try (with_reducible rfl)))
      try simp only [Act.put, List.setIfInBounds_toArray, List.set_cons_zero, List.set_cons_succ]
      refine AnyB.takeQ (i := 3) (oi := _) (v := ?_) (by simp only [List.getElem?_toArray, List.getElem?_cons_zero, List.getElem?_cons_succ]; rfl) (by kernel_rfl) (by kernel_rfl) (by kernel_rfl) (by intro _ _ _ h; exact h) (Or.inl ⟨by rfl, ?_⟩) ?_
      rotate_left
      · (intro w hSw; (try dsimp only at hSw); go_simp; (try (with_reducible rfl)))
      try simp only [Act.put, List.setIfInBounds_toArray, List.set_cons_zero, List.set_cons_succ]
      refine AnyB.take (i := 4) (oi := _) (v := ?_) (by simp only [List.getElem?_toArray, List.getElem?_cons_zero, List.getElem?_cons_succ]; rfl) (by kernel_rfl) (by kernel_rfl) (by kernel_rfl) (by kernel_rfl) (by kernel_rfl) (by intro _ _ _ h; exact h) (Or.inl ⟨by rfl, ?_⟩) (by assumption) ?_
      rotate_left
      · (intro w hSw; (try dsimp only at hSw); go_simp; (try (with_reducible rfl)))
      try simp only [Act.put, List.setIfInBounds_toArray, List.set_cons_zero, List.set_cons_succ]
      refine AnyB.each (rs := [5]) (by kernel_rfl) (by simp) ?_
      refine EachB.cons rfl (fun K hK hB => ?_) ?_
      · skip
        (go_simp; go_at_call 20; refine (spec_l12Then_p HP.out HI.out (Rd.below KT.out (Below.trans bw1.out (bd.out.mono (by omega))) rfl)).mono ?_; rintro e w6 ⟨vT, rfl, ho6, hb6⟩; obtain ⟨aT, cT, rfl⟩ := ho6.forms; have HT := Lib.hid ho6.rd; replace y0 := below_cell hb6 rfl y0; replace y1 := below_cell hb6 rfl y1; replace x10 := below_cell hb6 rfl x10; replace t3 := below_cell hb6 rfl t3; replace k1 := below_frz hb6 rfl h7l k1; replace h7l := Nat.lt_of_lt_of_le h7l hb6.size; replace HO := Lib.hid (own_below HO.out hb6 rfl); replace bd := Lib.hid (show Below w1.heap.size w1 w6 from Below.trans bd.out (hb6.mono bq)); replace bq := Nat.le_trans bq hb6.size; clear hb6 ho6; dsimp only)
        refine hK.out _ _ ?_ (fun hHeld1 => ?_)
        · ((try dsimp only); (first | exact ⟨y1, x10, t3⟩))
        clear hB hK K hHeld0
        refine AnyB.each (rs := [6]) (by kernel_rfl) (by simp) ?_
        refine EachB.cons rfl (fun K hK hB => ?_) ?_
        · skip
          (go_simp; go_at_call 19; refine (spec_l12Synthesize_p HP.out HT.out).mono ?_; rintro e w7 ⟨vS, rfl, ho7, hb7⟩; rw [← HGG.out] at ho7; obtain ⟨aS, cS, rfl⟩ := ho7.forms; have hfd : ∀ w : World, (Instr.field 31 (.agg #[.int .i64 p.n, .slice aS G.length cS]) 1).run Try.prog w = .ok (.slice aS G.length cS) w := fun _ => (by kernel_rfl); have HS := Lib.hid (Reads.of_rd ho7.rd); replace y0 := below_cell hb7 rfl y0; replace y1 := below_cell hb7 rfl y1; replace x10 := below_cell hb7 rfl x10; replace t3 := below_cell hb7 rfl t3; replace k1 := below_frz hb7 rfl h7l k1; replace h7l := Nat.lt_of_lt_of_le h7l hb7.size; replace HO := Lib.hid (own_below HO.out hb7 rfl); replace bd := Lib.hid (show Below w1.heap.size w1 w7 from Below.trans bd.out (hb7.mono bq)); replace bq := Nat.le_trans bq hb7.size; clear hb7 ho7; dsimp only)
          refine hK.out _ _ ?_ (fun hHeld2 => ?_)
          · ((try dsimp only); (first | exact ⟨y1, x10, t3⟩))
          clear hB hK K hHeld1
          refine AnyB.takeQ (i := 7) (oi := _) (v := ?_) (by simp only [List.getElem?_toArray, List.getElem?_cons_zero, List.getElem?_cons_succ]; rfl) (by kernel_rfl) (by kernel_rfl) (by kernel_rfl) (by intro _ _ _ h; exact h) (Or.inl ⟨by rfl, ?_⟩) ?_
          rotate_left
          · (intro w hSw; (try dsimp only at hSw); go_simp; (try (with_reducible rfl)))
          try simp only [Act.put, List.setIfInBounds_toArray, List.set_cons_zero, List.set_cons_succ]
          refine AnyB.each (rs := [8]) (by kernel_rfl) (by simp) ?_
          refine EachB.cons rfl (fun K hK hB => ?_) ?_
          · skip
            (refine step_append_any _ (by rfl) (.tmp 47) (.tmp 53) 29 (by rfl) w1.heap.size 58 i0 (.agg #[.int .i64 0, .int .i64 0, .int .i64 0]) 3 24 Try.underlying29 hi hz0 hz1 hz2 rfl (by omega) _ (pnNet p).length _ (by rfl) HO.out _ aS G.length cS _ (by rfl) HS.out (flat_one E3.one _) (by unfold maxLen; omega) (by omega) bq ?_; intro v8 w8 hown8 hg8 hat8; obtain ⟨a8, c8, rfl⟩ := own_form hown8; have NB8 := Lib.hid (ne_step hat8 NB.out h7l); replace y0 := cell_grown hg8 y0 (fun e => NB.out _ e rfl); replace y1 := cell_grown hg8 y1 (fun e => NB.out _ e rfl); have k8 : w8.frozen? ⟨b7, 1, none⟩ = false := frz_grown hg8 h7l k1 (fun e => NB.out _ e rfl); replace t3 := cell_grown hg8 t3 (fun e => by have := (World.ownsRow.lt HO.out _ e).1; omega); replace x10 := cell_grown hg8 x10 (fun e => XB.out _ e rfl); replace bd := Lib.hid (bd.out.grown hg8 bq (fun k hk => (World.ownsRow.lt HO.out k hk).1)); replace bq := Nat.le_trans bq hg8.size; have HO8 := Lib.hid (show w8.ownsRow w1.heap.size 58 3 (.slice a8 ((pnNet p).length + G.length) c8) F.length (F.flatMap E3.cs) from (by rw [HFL.out, HFF.out, List.flatMap_append]; exact hown8)); clear hown8 hg8 hat8 HS HO NB k1)
            refine hK.out _ _ ?_ (fun hHeld3 => ?_)
            · ((try dsimp only); (first | exact ⟨y1, x10, t3⟩))
            clear hB hK K hHeld2
            refine AnyB.takeQ (i := 9) (oi := _) (v := ?_) (by simp only [List.getElem?_toArray, List.getElem?_cons_zero, List.getElem?_cons_succ]; rfl) (by kernel_rfl) (by kernel_rfl) (by kernel_rfl) (by intro _ _ _ h; exact h) (Or.inl ⟨by rfl, ?_⟩) ?_
            rotate_left
            · (intro w hSw; (try dsimp only at hSw); go_simp; (try (with_reducible rfl)))
            try simp only [Act.put, List.setIfInBounds_toArray, List.set_cons_zero, List.set_cons_succ]
            refine AnyB.each (rs := [10]) (by kernel_rfl) (by simp) ?_
            refine EachB.cons rfl (fun K hK hB => ?_) ?_
            · skip
              go_simp
              refine hB.out _ _ rfl ?_
              clear hB hK K
              refine AnyB.none (by kernel_rfl) ?_ _
              have bd8 : Below w1.heap.size w1 (w8.setCell ⟨b7, 1, none⟩ (.slice a8 ((pnNet p).length + G.length) c8)) := Below.setCell bd.out hq7 _
              have z0 : (w8.setCell ⟨b7, 1, none⟩ (.slice a8 ((pnNet p).length + G.length) c8)).cell? ⟨b7, 0, none⟩ = some (.int .i64 p.n) := cset_oth y0 (by decide)
              have z1' : (w8.setCell ⟨b7, 1, none⟩ (.slice a8 ((pnNet p).length + G.length) c8)).cell? ⟨b7, 1, none⟩ = some (.slice a8 ((pnNet p).length + G.length) c8) := World.cell?_setCell_same _ _ _ y1
              have HF := Lib.hid (show RdE (w8.setCell ⟨b7, 1, none⟩ (.slice a8 ((pnNet p).length + G.length) c8)) (.slice a8 ((pnNet p).length + G.length) c8) E3.cs 3 (pnFull p) from by rw [← HFU.out]; exact Rd.of_own (own_set_ne HO8.out (fun g hg => NB8.out g hg) _))
              have t2 := below_cell bd8 rfl T2.out
              have hb8 : w1.heap.size ≤ (w8.setCell ⟨b7, 1, none⟩ (.slice a8 ((pnNet p).length + G.length) c8)).heap.size := bd8.size
              clear y0 x10 t3 NB8 HO8
              go_wp2_with fail
              refine (spec_l14Place_p HP.out HF.out (Rd.below HH.out (Below.trans bw1.out (bd8.mono (by omega))) rfl)).mono ?_; rintro e w9 ⟨vO, q9, rfl, ho9, hb9⟩
              obtain ⟨aO, cO, rfl⟩ := ho9.forms
              have bd9 := Below.trans bd8 (hb9.mono hb8)
              have HO9 := Lib.hid (OwnE.le ho9 hb8)
              have ltO := ho9.lt
              have z9 := bd9.size
              clear hb9 ho9 HF t2 z0 z1' bd8 y1 hb8
              have bd10 := Lib.hid (show Below w1.heap.size w1 (w9.alloc (.cells #[.int .i64 p.n, .slice aO (pnEnd p).length cO] 31)) from Below.alloc bd9 z9 _)
              have t1 := below_cell bd10.out rfl T1.out
              have e1 := HPH.out
              rw [e1] at t1
              have v0 : (w9.alloc (.cells #[.int .i64 p.n, .slice aO (pnEnd p).length cO] 31)).cell? ⟨w9.heap.size, 0, none⟩ = some (.int .i64 p.n) := (by repeat (first | (refine Eq.trans (World.cell?_alloc_at _ _ _ _ ?hh) ?_; (case hh => (simp; done)); rfl) | refine cell_alloc_keep _ ?_))
              have v1 : (w9.alloc (.cells #[.int .i64 p.n, .slice aO (pnEnd p).length cO] 31)).cell? ⟨w9.heap.size, 1, none⟩ = some (.slice aO (pnEnd p).length cO) := (by repeat (first | (refine Eq.trans (World.cell?_alloc_at _ _ _ _ ?hh) ?_; (case hh => (simp; done)); rfl) | refine cell_alloc_keep _ ?_))
              have fv : (w9.alloc (.cells #[.int .i64 p.n, .slice aO (pnEnd p).length cO] 31)).frozen? ⟨w9.heap.size, 1, none⟩ = false := (by repeat (first | (refine World.frozen?_alloc_at _ _ _ _ ?hh; case hh => (simp; done)) | (refine frozen_alloc_lt _ ?hh ?_; case hh => first | omega | (simp <;> omega))))
              have HO10 := Lib.hid (show (w9.alloc (.cells #[.int .i64 p.n, .slice aO (pnEnd p).length cO] 31)).ownsRow w1.heap.size 58 3 (.slice aO (pnEnd p).length cO) (pnEnd p).length ((pnEnd p).flatMap E3.cs) from World.ownsRow.alloc HO9.out _)
              have NE0 := Lib.hid (show ∀ g, (Value.slice aO (pnEnd p).length cO).ownBlock = some g → g ≠ w9.heap.size from ne_of_lt (fun g hg => (ltO g hg).2) (Nat.le_refl _))
              clear e1 HO9 bd9 ltO
              go_wp2_with fail
              go_loopw [14] (fun s14 wr => ∃ (j : Nat) (u : Value) (D : List E3), j ≤ N ∧ s14 = .int .i64 (j : Int) ∧ Hid (D = pnEnd p ++ List.replicate (N - j) ⟨12, 0, 0⟩) ∧ wr.cell? ⟨w9.heap.size, 0, none⟩ = some (.int .i64 p.n) ∧ wr.cell? ⟨w9.heap.size, 1, none⟩ = some u ∧ wr.frozen? ⟨w9.heap.size, 1, none⟩ = false ∧ Hid (wr.ownsRow w1.heap.size 58 3 u D.length (D.flatMap E3.cs)) ∧ Hid (∀ g, u.ownBlock = some g → g ≠ w9.heap.size) ∧ Hid (Below w1.heap.size w1 wr) ∧ w1.heap.size ≤ wr.heap.size) (fun s14 _ => (intOf s14).toNat)
              case atStart => exact ⟨N, _, pnEnd p, Nat.le_refl _, rfl, Lib.hid (by rw [Nat.sub_self]; simp), v0, v1, fv, HO10, NE0, bd10, bd10.out.size⟩
              case round =>
                clear v0 v1 fv HO10 NE0 bd10
                obtain ⟨j, u, D, hjN, rfl, hD, v0, v1, fv, hO, hNE, hB, hsz⟩ := hrel
                obtain ⟨aU, cU, rfl⟩ := own_form hO.out
                have hDl : D.length ≤ 371 := by rw [hD.out, List.length_append, List.length_replicate]; omega
                have h9l : w9.heap.size < wr.heap.size := World.block_lt_of_cell? _ _ v1
                by_cases hj0 : 0 < j
                · have i1 : (j : Int) > 0 := by omega
                  have OX := Lib.hid (World.ownsRow.alloc hO.out (.cells #[.int .i64 12, .int .i64 0, .int .i64 0] 58))
                  have hbX := Lib.hid (show Below w1.heap.size w1 (wr.alloc (.cells #[.int .i64 12, .int .i64 0, .int .i64 0] 58)) from Below.alloc hB.out hsz _)
                  have g3 : w1.heap.size ≤ (wr.alloc (.cells #[.int .i64 12, .int .i64 0, .int .i64 0] 58)).heap.size := hbX.out.size
                  have g1 : D.length + 1 ≤ maxLen := by unfold maxLen; omega
                  have g2 : (D.length + 1) * 24 ≤ 140737488355328 := by omega
                  have g4 : (Value.agg #[.int .i64 0, .int .i64 0, .int .i64 0]).cells.size = 3 := rfl
                  have g5 := reads_gate wr 12 0 0
                  have g6 := E3.one ⟨12, 0, 0⟩
                  have HDN := Lib.hid (show D ++ [(⟨12, 0, 0⟩ : E3)] = pnEnd p ++ List.replicate (N - (j - 1)) ⟨12, 0, 0⟩ from by rw [hD.out, List.append_assoc, show N - (j - 1) = N - j + 1 by omega, List.replicate_succ'])
                  go_wp2_with (at_builtin; go_loud (refine wpList_append_any _ rfl (.tmp 70) (.tmp 72) 29 rfl w1.heap.size 58 i0 (.agg #[.int .i64 0, .int .i64 0, .int .i64 0]) 3 24 Try.underlying29 hi hz0 hz1 hz2 g4 (by decide) (.slice aU D.length cU) D.length (D.flatMap E3.cs) ?hs ?ho (wr.heap.size + 1) (some ⟨wr.heap.size, 0, none⟩) 1 1 (E3.cs ⟨12, 0, 0⟩) ?hx ?hr ?h1 ?h63 ?hb ?hbs ?_; (case ho => with_reducible exact OX.out); (case hs => rfl); (case h63 => exact g1); (case hb => exact g2); (case hbs => exact g3); (case h1 => exact g6); (case hx => rfl); (case hr => exact g5); intro v3 w4 hown3 hg3 hat3; obtain ⟨a3, c3, rfl⟩ := own_form hown3; have NE3 := Lib.hid (ne_step hat3 hNE.out (show w9.heap.size < (wr.alloc (.cells #[.int .i64 12, .int .i64 0, .int .i64 0] 58)).heap.size by simp; omega)); have B4 := Lib.hid (grown_below hbX.out OX.out hg3 (Nat.le_refl _) g3); have z4 := hg3.size; have v0' := cell_grown hg3 (cell_alloc_keep _ v0) (fun e => hNE.out _ e rfl); have v1' := cell_grown hg3 (cell_alloc_keep _ v1) (fun e => hNE.out _ e rfl); have fv' := frz_grown hg3 (show w9.heap.size < (wr.alloc (.cells #[.int .i64 12, .int .i64 0, .int .i64 0] 58)).heap.size by simp; omega) (frozen_alloc_lt _ h9l fv) (fun e => hNE.out _ e rfl); have S3 : w4.ownsRow w1.heap.size 58 3 (.slice a3 (D.length + 1) c3) (D ++ [(⟨12, 0, 0⟩ : E3)]).length ((D ++ [(⟨12, 0, 0⟩ : E3)]).flatMap E3.cs) := (by rw [List.length_append, List.flatMap_append]; simpa using hown3); have S4 := Lib.hid (show (w4.setCell ⟨w9.heap.size, 1, none⟩ (.slice a3 (D.length + 1) c3)).ownsRow w1.heap.size 58 3 (.slice a3 (D.length + 1) c3) (D ++ [(⟨12, 0, 0⟩ : E3)]).length ((D ++ [(⟨12, 0, 0⟩ : E3)]).flatMap E3.cs) from own_set_ne S3 (fun g hg => NE3.out g hg) _); clear S3 hown3 hg3 hat3))
                  go_roundw
                  case rel => exact ⟨j - 1, .slice a3 (D.length + 1) c3, D ++ [(⟨12, 0, 0⟩ : E3)], by omega, by go_num, HDN, cset_oth v0' (by decide), World.cell?_setCell_same _ _ _ v1', fset fv', S4, NE3, Lib.hid (Below.setCell B4.out (show w1.heap.size ≤ w9.heap.size from z9) _), by simp; omega⟩
                  case measure => simp [intOf]; omega
                · have ej : j = 0 := by omega
                  subst ej
                  have hDO : D = pnOut p := by rw [hD.out]; unfold pnOut; rw [HPH.out, Int.toNat_natCast]; rfl
                  have HDO := Lib.hid hDO
                  have r0 := below_cell hB.out rfl RR0.out
                  have r1 := below_cell hB.out rfl RR1.out
                  have f0 := below_frz hB.out rfl (by omega) FF0.out
                  have f1 := below_frz hB.out rfl (by omega) FF1.out
                  have bqq := Below.trans bw1.out (hB.out.mono (by omega))
                  have hZ := box_set2 (nb := w.heap.size + 1) (.int .i64 p.n) (.slice aU D.length cU) r0 r1
                  have HO9 := Lib.hid (show OwnE wr w1.heap.size 58 (.slice aU D.length cU) E3.cs 3 (pnOut p) from by rw [← HDO.out]; exact hO.out)
                  clear hDO
                  go_wp2_with fail
                  exact bodyPost_ret (v := .tuple #[.agg #[.int .i64 p.n, .slice aU D.length cU], .bool true]) (by simp [results, Try.results5, go_sem, hZ]) rfl (CircPost.some HG.out (OwnE.le (OwnE.set (OwnE.set HO9.out (show w.heap.size + 1 < w1.heap.size by omega) _) (show w.heap.size + 1 < w1.heap.size by omega) _) (by omega)) (by repeat (first | exact Below.refl _ _ | assumption | refine Below.drew ?_ | refine below_drewN ?_ _ | refine Below.alloc ?_ (by first | omega | (simp <;> omega)) _ | refine Below.setCell ?_ (by first | omega | (simp <;> omega)) _ | refine Below.trans ?_ (Below.mono (by assumption) (by first | omega | (simp <;> omega))))))
            exact EachB.nil
          exact EachB.nil
        exact EachB.nil
      exact EachB.nil
theorem spec_PhaseNetwork_any (v u : Value) (p : PP) (w : World) (h : RdE w v E2.cs 2 p.ts) (k : RdI w u p.out) (hl : p.ts.length ≤ 1048576) (hm : p.out.length ≤ 1048576) :
    Calls Try.prog 5 #[.agg #[.int .i64 p.n, .int .i64 p.ph, v, u]] w (CircPost w (phnG p)) := by
  by_cases hok : PPOk p
  · exact spec_PhaseNetwork_ok v u p w h k hok
  · exact spec_PhaseNetwork_no v u p w h k hl hm (ppB_false hok)
end Go.Proofs.Ytbcjligkjoimmaa
