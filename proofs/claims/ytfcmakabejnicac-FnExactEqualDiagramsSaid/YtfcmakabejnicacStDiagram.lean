/- Diagram: the laws' helpers. -/
import Derived.Test.YtfcmakabejnicacTyNode
import Derived.Test.YtfcmakabejnicacTyWire
import Derived.Test.YtfcmakabejnicacDat
namespace Go.Proofs.Ytfcmakabejnicac
set_option linter.unusedSimpArgs false
set_option linter.unusedVariables false
set_option linter.unnecessarySimpa false
set_option maxRecDepth 200000
open Go.ChangeShapes Go.WideShapes Go.ChangeAt Go.RowKit

theorem laws_szDiagram_ok (d : Dia) (v0 v1 : Value) (left : Int) (w : World) (h0 : RdE w v0 E2.cs 2 d.ns) (h1 : RdE w v1 EW.cs 3 d.ws) (q0 : ((d.ns).length : Int) + ((d.ws).length : Int) ≤ left) (q1 : left ≤ 1048576) :
    Calls Try.prog 5 #[.agg #[.int .i64 d.n, v0, v1, .int .i64 d.turn, .int .i64 d.root], .int .i64 left] w fun e w' => e = .returned (.int .i64 (left - (d.ns).length - (d.ws).length)) ∧ Below w.heap.size w w' := by
  obtain ⟨a0, cap0, rfl, hl0⟩ := h0.form
  have H0 := Lib.hid h0; clear h0
  obtain ⟨a1, cap1, rfl, hl1⟩ := h1.form
  have H1 := Lib.hid h1; clear h1
  go_enter Try.func5, Try.ntmps5
  go_wp2_with fail
  refine (laws_szNodeS_ok _ _ _ _ (Rd.below H0.out (show Below w.heap.size w _ from (by repeat (first | exact Below.refl _ _ | assumption | refine Below.drew ?_ | refine below_drewN ?_ _ | refine Below.alloc ?_ (by first | omega | (simp <;> omega)) _ | refine Below.setCell ?_ (by first | omega | (simp <;> omega)) _ | refine Below.trans ?_ (Below.mono (by assumption) (by first | omega | (simp <;> omega)))))) rfl) (by omega) (by omega)).mono ?_; rintro e w1 ⟨rfl, hb1⟩
  obtain ⟨hc_hb1, hf_hb1⟩ := bcell hb1; have hz_hb1 := hb1.size; (try simp at hz_hb1); have hs0_hb1 : w.heap.size < w1.heap.size := (by omega)
  go_wp2_with fail
  refine (laws_szWireS_ok _ _ _ _ (Rd.below H1.out (show Below w.heap.size w w1 from (by repeat (first | exact Below.refl _ _ | assumption | refine Below.drew ?_ | refine below_drewN ?_ _ | refine Below.alloc ?_ (by first | omega | (simp <;> omega)) _ | refine Below.setCell ?_ (by first | omega | (simp <;> omega)) _ | refine Below.trans ?_ (Below.mono (by assumption) (by first | omega | (simp <;> omega)))))) rfl) (by omega) (by omega)).mono ?_; rintro e w2 ⟨rfl, hb2⟩
  obtain ⟨hc_hb2, hf_hb2⟩ := bcell hb2; have hz_hb2 := hb2.size; (try simp at hz_hb2); have hs0_hb2 : w.heap.size < w2.heap.size := (by omega)
  go_wp2_with fail
  go_ret
  exact ⟨rfl, (by repeat (first | exact Below.refl _ _ | assumption | refine Below.drew ?_ | refine below_drewN ?_ _ | refine Below.alloc ?_ (by first | omega | (simp <;> omega)) _ | refine Below.setCell ?_ (by first | omega | (simp <;> omega)) _ | refine Below.trans ?_ (Below.mono (by assumption) (by first | omega | (simp <;> omega)))))⟩
theorem laws_szDiagram_no (d : Dia) (v0 v1 : Value) (left : Int) (w : World) (h0 : RdE w v0 E2.cs 2 d.ns) (h1 : RdE w v1 EW.cs 3 d.ws) (q0 : left < ((d.ns).length : Int) + ((d.ws).length : Int)) (q1 : left ≤ 1048576) (q2 : 0 ≤ left) :
    Calls Try.prog 5 #[.agg #[.int .i64 d.n, v0, v1, .int .i64 d.turn, .int .i64 d.root], .int .i64 left] w fun e w' => e = .returned (.int .i64 (-1)) ∧ Below w.heap.size w w' := by
  obtain ⟨a0, cap0, rfl, hl0⟩ := h0.form
  have H0 := Lib.hid h0; clear h0
  obtain ⟨a1, cap1, rfl, hl1⟩ := h1.form
  have H1 := Lib.hid h1; clear h1
  by_cases hf : ((d.ns).length : Int) ≤ left
  · go_enter Try.func5, Try.ntmps5
    go_wp2_with fail
    refine (laws_szNodeS_ok _ _ _ _ (Rd.below H0.out (show Below w.heap.size w _ from (by repeat (first | exact Below.refl _ _ | assumption | refine Below.drew ?_ | refine below_drewN ?_ _ | refine Below.alloc ?_ (by first | omega | (simp <;> omega)) _ | refine Below.setCell ?_ (by first | omega | (simp <;> omega)) _ | refine Below.trans ?_ (Below.mono (by assumption) (by first | omega | (simp <;> omega)))))) rfl) (by omega) (by omega)).mono ?_; rintro e w1 ⟨rfl, hb1⟩
    obtain ⟨hc_hb1, hf_hb1⟩ := bcell hb1; have hz_hb1 := hb1.size; (try simp at hz_hb1); have hs0_hb1 : w.heap.size < w1.heap.size := (by omega)
    go_wp2_with fail
    refine (laws_szWireS_no _ _ _ _ (Rd.below H1.out (show Below w.heap.size w w1 from (by repeat (first | exact Below.refl _ _ | assumption | refine Below.drew ?_ | refine below_drewN ?_ _ | refine Below.alloc ?_ (by first | omega | (simp <;> omega)) _ | refine Below.setCell ?_ (by first | omega | (simp <;> omega)) _ | refine Below.trans ?_ (Below.mono (by assumption) (by first | omega | (simp <;> omega)))))) rfl) (by omega) (by omega) (by omega)).mono ?_; rintro e w2 ⟨rfl, hb2⟩
    obtain ⟨hc_hb2, hf_hb2⟩ := bcell hb2; have hz_hb2 := hb2.size; (try simp at hz_hb2); have hs0_hb2 : w.heap.size < w2.heap.size := (by omega)
    go_wp2_with fail
    go_ret
    exact ⟨rfl, (by repeat (first | exact Below.refl _ _ | assumption | refine Below.drew ?_ | refine below_drewN ?_ _ | refine Below.alloc ?_ (by first | omega | (simp <;> omega)) _ | refine Below.setCell ?_ (by first | omega | (simp <;> omega)) _ | refine Below.trans ?_ (Below.mono (by assumption) (by first | omega | (simp <;> omega)))))⟩
  · go_enter Try.func5, Try.ntmps5
    go_wp2_with fail
    refine (laws_szNodeS_no _ _ _ _ (Rd.below H0.out (show Below w.heap.size w _ from (by repeat (first | exact Below.refl _ _ | assumption | refine Below.drew ?_ | refine below_drewN ?_ _ | refine Below.alloc ?_ (by first | omega | (simp <;> omega)) _ | refine Below.setCell ?_ (by first | omega | (simp <;> omega)) _ | refine Below.trans ?_ (Below.mono (by assumption) (by first | omega | (simp <;> omega)))))) rfl) (by omega) (by omega) (by omega)).mono ?_; rintro e w1 ⟨rfl, hb1⟩
    obtain ⟨hc_hb1, hf_hb1⟩ := bcell hb1; have hz_hb1 := hb1.size; (try simp at hz_hb1); have hs0_hb1 : w.heap.size < w1.heap.size := (by omega)
    go_wp2_with fail
    go_ret
    exact ⟨rfl, (by repeat (first | exact Below.refl _ _ | assumption | refine Below.drew ?_ | refine below_drewN ?_ _ | refine Below.alloc ?_ (by first | omega | (simp <;> omega)) _ | refine Below.setCell ?_ (by first | omega | (simp <;> omega)) _ | refine Below.trans ?_ (Below.mono (by assumption) (by first | omega | (simp <;> omega)))))⟩
set_option maxHeartbeats 1000000 in
theorem laws_toDiagram_any (d : Dia) (v0 v1 : Value) (w : World) (h0 : RdE w v0 E2.cs 2 d.ns) (h1 : RdE w v1 EW.cs 3 d.ws) (n0 : (d.ns).length ≤ 1048576) (n1 : (d.ws).length ≤ 1048576) :
    Calls Try.prog 7 #[.agg #[.int .i64 d.n, v0, v1, .int .i64 d.turn, .int .i64 d.root]] w fun e w' => ∃ u0 u1, e = .returned (.agg #[.int .i64 d.n, u0, u1, .int .i64 d.turn, .int .i64 d.root]) ∧ OwnE w' w.heap.size 59 u0 E2.cs 2 d.ns ∧ OwnE w' w.heap.size 61 u1 EW.cs 3 d.ws ∧ Apart u0 u1 ∧ Below w.heap.size w w' := by
  obtain ⟨a0, cap0, rfl, hl0⟩ := h0.form
  have H0 := Lib.hid h0; clear h0
  obtain ⟨a1, cap1, rfl, hl1⟩ := h1.form
  have H1 := Lib.hid h1; clear h1
  go_enter Try.func7, Try.ntmps7
  go_wp2_with fail
  refine (laws_toNodeS_any _ _ _ (Rd.below H0.out (show Below w.heap.size w _ from (by repeat (first | exact Below.refl _ _ | assumption | refine Below.drew ?_ | refine below_drewN ?_ _ | refine Below.alloc ?_ (by first | omega | (simp <;> omega)) _ | refine Below.setCell ?_ (by first | omega | (simp <;> omega)) _ | refine Below.trans ?_ (Below.mono (by assumption) (by first | omega | (simp <;> omega)))))) rfl) n0).mono ?_; rintro e w1 ⟨u0, rfl, ho0, hb1⟩
  obtain ⟨b0, c0, rfl⟩ := ho0.forms
  have L0 := Lib.hid (show ∀ g, (Value.slice b0 (d.ns).length c0).ownBlock = some g → g < w1.heap.size from fun g hg => (ho0.lt g hg).2)
  have O0 := Lib.hid (OwnE.le ho0 (base' := w.heap.size + 3) (by simp)); clear ho0
  obtain ⟨hc_hb1, hf_hb1⟩ := bcell hb1; have hz_hb1 := hb1.size; (try simp at hz_hb1); have hs0_hb1 : w.heap.size < w1.heap.size := (by omega); have hs1_hb1 : w.heap.size + 1 < w1.heap.size := (by omega); have hs2_hb1 : w.heap.size + 1 + 1 < w1.heap.size := (by omega)
  go_wp2_with fail
  refine (laws_toWireS_any _ _ _ (Rd.below H1.out (show Below w.heap.size w _ from (by repeat (first | exact Below.refl _ _ | assumption | refine Below.drew ?_ | refine below_drewN ?_ _ | refine Below.alloc ?_ (by first | omega | (simp <;> omega)) _ | refine Below.setCell ?_ (by first | omega | (simp <;> omega)) _ | refine Below.trans ?_ (Below.mono (by assumption) (by first | omega | (simp <;> omega)))))) rfl) n1).mono ?_; rintro e w2 ⟨u1, rfl, ho1, hb2⟩
  obtain ⟨b1, c1, rfl⟩ := ho1.forms
  have L1 := Lib.hid (show ∀ g, (Value.slice b1 (d.ws).length c1).ownBlock = some g → w1.heap.size ≤ g from fun g hg => by have := (ho1.lt g hg).1; simpa using this)
  have O1 := Lib.hid (OwnE.le ho1 (base' := w.heap.size + 3) (by have := hb1.size; simp at this ⊢; omega)); clear ho1
  replace O0 := Lib.hid (OwnE.below (show OwnE (w1.setCell (⟨w.heap.size + 1 + 1, 1, none⟩ : Addr) _) (w.heap.size + 3) 59 (.slice b0 (d.ns).length c0) E2.cs 2 d.ns from OwnE.set O0.out (by simp) _) hb2 rfl)
  obtain ⟨hc_hb2, hf_hb2⟩ := bcell hb2; have hz_hb2 := hb2.size; (try simp at hz_hb2); have hs0_hb2 : w.heap.size < w2.heap.size := (by omega); have hs1_hb2 : w.heap.size + 1 < w2.heap.size := (by omega); have hs2_hb2 : w.heap.size + 1 + 1 < w2.heap.size := (by omega)
  have hs9 : w.heap.size + 3 ≤ w1.heap.size := by simpa using hz_hb1
  go_wp2_with fail
  have z0 : (((w2.setCell (⟨w.heap.size + 1 + 1, 2, none⟩ : Addr) (.slice b1 (d.ws).length c1)).setCell (⟨w.heap.size + 1 + 1, 3, none⟩ : Addr) (.int .i64 d.turn)).setCell (⟨w.heap.size + 1 + 1, 4, none⟩ : Addr) (.int .i64 d.root)).cell? ⟨w.heap.size + 1, 0, none⟩ = some (.int .i64 0) := by rw [World.cell?_setCell_other _ _ _ _ (by intro h; injection h with h; omega), World.cell?_setCell_other _ _ _ _ (by intro h; injection h with h; omega), World.cell?_setCell_other _ _ _ _ (by intro h; injection h with h; omega), hc_hb2 _ _ (by simp; omega), World.cell?_setCell_other _ _ _ _ (by intro h; injection h with h; omega), hc_hb1 _ _ (by simp)]; exact (by repeat (first | (refine Eq.trans (World.cell?_alloc_at _ _ _ _ ?hh) ?_; (case hh => (simp; done)); rfl) | refine cell_alloc_keep _ ?_))
  have z1 : (((w2.setCell (⟨w.heap.size + 1 + 1, 2, none⟩ : Addr) (.slice b1 (d.ws).length c1)).setCell (⟨w.heap.size + 1 + 1, 3, none⟩ : Addr) (.int .i64 d.turn)).setCell (⟨w.heap.size + 1 + 1, 4, none⟩ : Addr) (.int .i64 d.root)).cell? ⟨w.heap.size + 1, 1, none⟩ = some (.slice none 0 0) := by rw [World.cell?_setCell_other _ _ _ _ (by intro h; injection h with h; omega), World.cell?_setCell_other _ _ _ _ (by intro h; injection h with h; omega), World.cell?_setCell_other _ _ _ _ (by intro h; injection h with h; omega), hc_hb2 _ _ (by simp; omega), World.cell?_setCell_other _ _ _ _ (by intro h; injection h with h; omega), hc_hb1 _ _ (by simp)]; exact (by repeat (first | (refine Eq.trans (World.cell?_alloc_at _ _ _ _ ?hh) ?_; (case hh => (simp; done)); rfl) | refine cell_alloc_keep _ ?_))
  have z2 : (((w2.setCell (⟨w.heap.size + 1 + 1, 2, none⟩ : Addr) (.slice b1 (d.ws).length c1)).setCell (⟨w.heap.size + 1 + 1, 3, none⟩ : Addr) (.int .i64 d.turn)).setCell (⟨w.heap.size + 1 + 1, 4, none⟩ : Addr) (.int .i64 d.root)).cell? ⟨w.heap.size + 1, 2, none⟩ = some (.slice none 0 0) := by rw [World.cell?_setCell_other _ _ _ _ (by intro h; injection h with h; omega), World.cell?_setCell_other _ _ _ _ (by intro h; injection h with h; omega), World.cell?_setCell_other _ _ _ _ (by intro h; injection h with h; omega), hc_hb2 _ _ (by simp; omega), World.cell?_setCell_other _ _ _ _ (by intro h; injection h with h; omega), hc_hb1 _ _ (by simp)]; exact (by repeat (first | (refine Eq.trans (World.cell?_alloc_at _ _ _ _ ?hh) ?_; (case hh => (simp; done)); rfl) | refine cell_alloc_keep _ ?_))
  have z3 : (((w2.setCell (⟨w.heap.size + 1 + 1, 2, none⟩ : Addr) (.slice b1 (d.ws).length c1)).setCell (⟨w.heap.size + 1 + 1, 3, none⟩ : Addr) (.int .i64 d.turn)).setCell (⟨w.heap.size + 1 + 1, 4, none⟩ : Addr) (.int .i64 d.root)).cell? ⟨w.heap.size + 1, 3, none⟩ = some (.int .i64 0) := by rw [World.cell?_setCell_other _ _ _ _ (by intro h; injection h with h; omega), World.cell?_setCell_other _ _ _ _ (by intro h; injection h with h; omega), World.cell?_setCell_other _ _ _ _ (by intro h; injection h with h; omega), hc_hb2 _ _ (by simp; omega), World.cell?_setCell_other _ _ _ _ (by intro h; injection h with h; omega), hc_hb1 _ _ (by simp)]; exact (by repeat (first | (refine Eq.trans (World.cell?_alloc_at _ _ _ _ ?hh) ?_; (case hh => (simp; done)); rfl) | refine cell_alloc_keep _ ?_))
  have z4 : (((w2.setCell (⟨w.heap.size + 1 + 1, 2, none⟩ : Addr) (.slice b1 (d.ws).length c1)).setCell (⟨w.heap.size + 1 + 1, 3, none⟩ : Addr) (.int .i64 d.turn)).setCell (⟨w.heap.size + 1 + 1, 4, none⟩ : Addr) (.int .i64 d.root)).cell? ⟨w.heap.size + 1, 4, none⟩ = some (.int .i64 0) := by rw [World.cell?_setCell_other _ _ _ _ (by intro h; injection h with h; omega), World.cell?_setCell_other _ _ _ _ (by intro h; injection h with h; omega), World.cell?_setCell_other _ _ _ _ (by intro h; injection h with h; omega), hc_hb2 _ _ (by simp; omega), World.cell?_setCell_other _ _ _ _ (by intro h; injection h with h; omega), hc_hb1 _ _ (by simp)]; exact (by repeat (first | (refine Eq.trans (World.cell?_alloc_at _ _ _ _ ?hh) ?_; (case hh => (simp; done)); rfl) | refine cell_alloc_keep _ ?_))
  have ZB := box_set5 (.int .i64 d.n) (.slice b0 (d.ns).length c0) (.slice b1 (d.ws).length c1) (.int .i64 d.turn) (.int .i64 d.root) z0 z1 z2 z3 z4
  refine bodyPost_ret (v := .agg #[.int .i64 d.n, .slice b0 (d.ns).length c0, .slice b1 (d.ws).length c1, .int .i64 d.turn, .int .i64 d.root]) (by simp [results, Try.results7, go_sem, hc_hb1, hc_hb2, ZB]) rfl ⟨_, _, rfl, ?_, ?_, ?_, ?_⟩
  · refine OwnE.le (base := w.heap.size + 3) ?_ (by omega)
    repeat (first | (with_reducible exact O0.out) | (with_reducible refine OwnE.set ?_ (by simp) _))
  · refine OwnE.le (base := w.heap.size + 3) ?_ (by omega)
    repeat (first | (with_reducible exact O1.out) | (with_reducible refine OwnE.set ?_ (by simp) _))
  · exact fun g h1 h2 => by have := L0.out g h1; have := L1.out g h2; omega
  · exact (by repeat (first | (with_reducible exact Below.refl _ _) | (with_reducible assumption) | (with_reducible refine Below.drew ?_) | (with_reducible refine below_drewN ?_ _) | (with_reducible refine Below.alloc ?_ (by first | omega | (simp <;> omega)) _) | (with_reducible refine Below.setCell ?_ (by first | omega | (simp <;> omega)) _) | (with_reducible refine Below.trans ?_ (Below.mono (by with_reducible assumption) (by first | omega | (simp <;> omega))))))
set_option maxHeartbeats 4000000 in
theorem laws_eqDiagram_same (d : Dia) (w : World) (v0 v1 u0 u1 : Value) (h0 : RdE w v0 E2.cs 2 d.ns) (h1 : RdE w v1 EW.cs 3 d.ws) (k0 : RdE w u0 E2.cs 2 d.ns) (k1 : RdE w u1 EW.cs 3 d.ws) :
    Calls Try.prog 9 #[.agg #[.int .i64 d.n, v0, v1, .int .i64 d.turn, .int .i64 d.root], .agg #[.int .i64 d.n, u0, u1, .int .i64 d.turn, .int .i64 d.root]] w fun e w' => e = .returned (.bool true) ∧ Below w.heap.size w w' := by
  obtain ⟨a0, cap0, rfl, hl0⟩ := h0.form
  have H0 := Lib.hid h0; clear h0
  obtain ⟨a1, cap1, rfl, hl1⟩ := h1.form
  have H1 := Lib.hid h1; clear h1
  obtain ⟨a0k, cap0k, rfl, kl0⟩ := k0.form
  have K0 := Lib.hid k0; clear k0
  obtain ⟨a1k, cap1k, rfl, kl1⟩ := k1.form
  have K1 := Lib.hid k1; clear k1
  have z0 : ((d.n : Int) != d.n) = false := by simp
  have z3 : ((d.turn : Int) != d.turn) = false := by simp
  have z4 : ((d.root : Int) != d.root) = false := by simp
  go_enter Try.func9, Try.ntmps9
  go_wp2_with fail
  refine (laws_eqNodeS_any _ _ d.ns d.ns _ (Rd.below H0.out (show Below w.heap.size w _ from (by repeat (first | exact Below.refl _ _ | assumption | refine Below.drew ?_ | refine below_drewN ?_ _ | refine Below.alloc ?_ (by first | omega | (simp <;> omega)) _ | refine Below.setCell ?_ (by first | omega | (simp <;> omega)) _ | refine Below.trans ?_ (Below.mono (by assumption) (by first | omega | (simp <;> omega)))))) rfl) (Rd.below K0.out (show Below w.heap.size w _ from (by repeat (first | exact Below.refl _ _ | assumption | refine Below.drew ?_ | refine below_drewN ?_ _ | refine Below.alloc ?_ (by first | omega | (simp <;> omega)) _ | refine Below.setCell ?_ (by first | omega | (simp <;> omega)) _ | refine Below.trans ?_ (Below.mono (by assumption) (by first | omega | (simp <;> omega)))))) rfl)).mono ?_; rintro e w1 ⟨rfl, hb1⟩
  rw [show decide (d.ns = d.ns) = true from decide_eq_true rfl]
  obtain ⟨hc_hb1, hf_hb1⟩ := bcell hb1; have hz_hb1 := hb1.size; (try simp at hz_hb1); have hs0_hb1 : w.heap.size < w1.heap.size := (by omega); have hs1_hb1 : w.heap.size + 1 < w1.heap.size := (by omega)
  go_wp2_with fail
  refine (laws_eqWireS_any _ _ d.ws d.ws _ (Rd.below H1.out (show Below w.heap.size w _ from (by repeat (first | exact Below.refl _ _ | assumption | refine Below.drew ?_ | refine below_drewN ?_ _ | refine Below.alloc ?_ (by first | omega | (simp <;> omega)) _ | refine Below.setCell ?_ (by first | omega | (simp <;> omega)) _ | refine Below.trans ?_ (Below.mono (by assumption) (by first | omega | (simp <;> omega)))))) rfl) (Rd.below K1.out (show Below w.heap.size w _ from (by repeat (first | exact Below.refl _ _ | assumption | refine Below.drew ?_ | refine below_drewN ?_ _ | refine Below.alloc ?_ (by first | omega | (simp <;> omega)) _ | refine Below.setCell ?_ (by first | omega | (simp <;> omega)) _ | refine Below.trans ?_ (Below.mono (by assumption) (by first | omega | (simp <;> omega)))))) rfl)).mono ?_; rintro e w2 ⟨rfl, hb2⟩
  rw [show decide (d.ws = d.ws) = true from decide_eq_true rfl]
  obtain ⟨hc_hb2, hf_hb2⟩ := bcell hb2; have hz_hb2 := hb2.size; (try simp at hz_hb2); have hs0_hb2 : w.heap.size < w2.heap.size := (by omega); have hs1_hb2 : w.heap.size + 1 < w2.heap.size := (by omega)
  go_wp2_with fail
  go_ret
  exact ⟨rfl, (by repeat (first | exact Below.refl _ _ | assumption | refine Below.drew ?_ | refine below_drewN ?_ _ | refine Below.alloc ?_ (by first | omega | (simp <;> omega)) _ | refine Below.setCell ?_ (by first | omega | (simp <;> omega)) _ | refine Below.trans ?_ (Below.mono (by assumption) (by first | omega | (simp <;> omega)))))⟩
end Go.Proofs.Ytfcmakabejnicac
