/- Tableau: the laws' helpers. -/
import Derived.Test.YtjdffjnennodaaaZ16M
import Derived.Test.YtjdffjnennodaaaZ06Dat
namespace Go.Proofs.Ytjdffjnennodaaa
set_option linter.unusedSimpArgs false
set_option linter.unusedVariables false
set_option linter.unnecessarySimpa false
set_option maxRecDepth 200000
open Go.ChangeShapes Go.WideShapes Go.ChangeAt Go.RowKit

theorem laws_szTableau_ok (d : Tab) (v0 v1 : Value) (left : Int) (w : World) (h0 : RdE w v0 E3.cs 3 d.xs) (h1 : RdE w v1 E3.cs 3 d.zs) (q0 : ((d.xs).length : Int) + ((d.zs).length : Int) ≤ left) (q1 : left ≤ 1048576) :
    Calls Try.prog 5 #[.agg #[.int .i64 d.n, v0, v1], .int .i64 left] w fun e w' => e = .returned (.int .i64 (left - (d.xs).length - (d.zs).length)) ∧ Below w.heap.size w w' := by
  obtain ⟨a0, cap0, rfl, hl0⟩ := h0.form
  have H0 := Lib.hid h0; clear h0
  obtain ⟨a1, cap1, rfl, hl1⟩ := h1.form
  have H1 := Lib.hid h1; clear h1
  go_enter Try.func5, Try.ntmps5
  go_wp2_with fail
  refine (laws_szPauliS_ok _ _ _ _ (Rd.below H0.out (show Below w.heap.size w _ from (by repeat (first | exact Below.refl _ _ | assumption | refine Below.drew ?_ | refine below_drewN ?_ _ | refine Below.alloc ?_ (by first | omega | (simp <;> omega)) _ | refine Below.setCell ?_ (by first | omega | (simp <;> omega)) _ | refine Below.trans ?_ (Below.mono (by assumption) (by first | omega | (simp <;> omega)))))) rfl) (by omega) (by omega)).mono ?_; rintro e w1 ⟨rfl, hb1⟩
  obtain ⟨hc_hb1, hf_hb1⟩ := bcell hb1; have hz_hb1 := hb1.size; (try simp at hz_hb1); have hs0_hb1 : w.heap.size < w1.heap.size := (by omega)
  go_wp2_with fail
  refine (laws_szPauliS_ok _ _ _ _ (Rd.below H1.out (show Below w.heap.size w w1 from (by repeat (first | exact Below.refl _ _ | assumption | refine Below.drew ?_ | refine below_drewN ?_ _ | refine Below.alloc ?_ (by first | omega | (simp <;> omega)) _ | refine Below.setCell ?_ (by first | omega | (simp <;> omega)) _ | refine Below.trans ?_ (Below.mono (by assumption) (by first | omega | (simp <;> omega)))))) rfl) (by omega) (by omega)).mono ?_; rintro e w2 ⟨rfl, hb2⟩
  obtain ⟨hc_hb2, hf_hb2⟩ := bcell hb2; have hz_hb2 := hb2.size; (try simp at hz_hb2); have hs0_hb2 : w.heap.size < w2.heap.size := (by omega)
  go_wp2_with fail
  go_ret
  exact ⟨rfl, (by repeat (first | exact Below.refl _ _ | assumption | refine Below.drew ?_ | refine below_drewN ?_ _ | refine Below.alloc ?_ (by first | omega | (simp <;> omega)) _ | refine Below.setCell ?_ (by first | omega | (simp <;> omega)) _ | refine Below.trans ?_ (Below.mono (by assumption) (by first | omega | (simp <;> omega)))))⟩
theorem laws_szTableau_no (d : Tab) (v0 v1 : Value) (left : Int) (w : World) (h0 : RdE w v0 E3.cs 3 d.xs) (h1 : RdE w v1 E3.cs 3 d.zs) (q0 : left < ((d.xs).length : Int) + ((d.zs).length : Int)) (q1 : left ≤ 1048576) (q2 : 0 ≤ left) :
    Calls Try.prog 5 #[.agg #[.int .i64 d.n, v0, v1], .int .i64 left] w fun e w' => e = .returned (.int .i64 (-1)) ∧ Below w.heap.size w w' := by
  obtain ⟨a0, cap0, rfl, hl0⟩ := h0.form
  have H0 := Lib.hid h0; clear h0
  obtain ⟨a1, cap1, rfl, hl1⟩ := h1.form
  have H1 := Lib.hid h1; clear h1
  by_cases hf : ((d.xs).length : Int) ≤ left
  · go_enter Try.func5, Try.ntmps5
    go_wp2_with fail
    refine (laws_szPauliS_ok _ _ _ _ (Rd.below H0.out (show Below w.heap.size w _ from (by repeat (first | exact Below.refl _ _ | assumption | refine Below.drew ?_ | refine below_drewN ?_ _ | refine Below.alloc ?_ (by first | omega | (simp <;> omega)) _ | refine Below.setCell ?_ (by first | omega | (simp <;> omega)) _ | refine Below.trans ?_ (Below.mono (by assumption) (by first | omega | (simp <;> omega)))))) rfl) (by omega) (by omega)).mono ?_; rintro e w1 ⟨rfl, hb1⟩
    obtain ⟨hc_hb1, hf_hb1⟩ := bcell hb1; have hz_hb1 := hb1.size; (try simp at hz_hb1); have hs0_hb1 : w.heap.size < w1.heap.size := (by omega)
    go_wp2_with fail
    refine (laws_szPauliS_no _ _ _ _ (Rd.below H1.out (show Below w.heap.size w w1 from (by repeat (first | exact Below.refl _ _ | assumption | refine Below.drew ?_ | refine below_drewN ?_ _ | refine Below.alloc ?_ (by first | omega | (simp <;> omega)) _ | refine Below.setCell ?_ (by first | omega | (simp <;> omega)) _ | refine Below.trans ?_ (Below.mono (by assumption) (by first | omega | (simp <;> omega)))))) rfl) (by omega) (by omega) (by omega)).mono ?_; rintro e w2 ⟨rfl, hb2⟩
    obtain ⟨hc_hb2, hf_hb2⟩ := bcell hb2; have hz_hb2 := hb2.size; (try simp at hz_hb2); have hs0_hb2 : w.heap.size < w2.heap.size := (by omega)
    go_wp2_with fail
    go_ret
    exact ⟨rfl, (by repeat (first | exact Below.refl _ _ | assumption | refine Below.drew ?_ | refine below_drewN ?_ _ | refine Below.alloc ?_ (by first | omega | (simp <;> omega)) _ | refine Below.setCell ?_ (by first | omega | (simp <;> omega)) _ | refine Below.trans ?_ (Below.mono (by assumption) (by first | omega | (simp <;> omega)))))⟩
  · go_enter Try.func5, Try.ntmps5
    go_wp2_with fail
    refine (laws_szPauliS_no _ _ _ _ (Rd.below H0.out (show Below w.heap.size w _ from (by repeat (first | exact Below.refl _ _ | assumption | refine Below.drew ?_ | refine below_drewN ?_ _ | refine Below.alloc ?_ (by first | omega | (simp <;> omega)) _ | refine Below.setCell ?_ (by first | omega | (simp <;> omega)) _ | refine Below.trans ?_ (Below.mono (by assumption) (by first | omega | (simp <;> omega)))))) rfl) (by omega) (by omega) (by omega)).mono ?_; rintro e w1 ⟨rfl, hb1⟩
    obtain ⟨hc_hb1, hf_hb1⟩ := bcell hb1; have hz_hb1 := hb1.size; (try simp at hz_hb1); have hs0_hb1 : w.heap.size < w1.heap.size := (by omega)
    go_wp2_with fail
    go_ret
    exact ⟨rfl, (by repeat (first | exact Below.refl _ _ | assumption | refine Below.drew ?_ | refine below_drewN ?_ _ | refine Below.alloc ?_ (by first | omega | (simp <;> omega)) _ | refine Below.setCell ?_ (by first | omega | (simp <;> omega)) _ | refine Below.trans ?_ (Below.mono (by assumption) (by first | omega | (simp <;> omega)))))⟩
set_option maxHeartbeats 1000000 in
theorem laws_toTableau_any (d : Tab) (v0 v1 : Value) (w : World) (h0 : RdE w v0 E3.cs 3 d.xs) (h1 : RdE w v1 E3.cs 3 d.zs) (n0 : (d.xs).length ≤ 1048576) (n1 : (d.zs).length ≤ 1048576) :
    Calls Try.prog 7 #[.agg #[.int .i64 d.n, v0, v1]] w fun e w' => ∃ u0 u1, e = .returned (.agg #[.int .i64 d.n, u0, u1]) ∧ OwnE w' w.heap.size 62 u0 E3.cs 3 d.xs ∧ OwnE w' w.heap.size 62 u1 E3.cs 3 d.zs ∧ Apart u0 u1 ∧ Below w.heap.size w w' := by
  obtain ⟨a0, cap0, rfl, hl0⟩ := h0.form
  have H0 := Lib.hid h0; clear h0
  obtain ⟨a1, cap1, rfl, hl1⟩ := h1.form
  have H1 := Lib.hid h1; clear h1
  go_enter Try.func7, Try.ntmps7
  go_wp2_with fail
  refine (laws_toPauliS_any _ _ _ (Rd.below H0.out (show Below w.heap.size w _ from (by repeat (first | exact Below.refl _ _ | assumption | refine Below.drew ?_ | refine below_drewN ?_ _ | refine Below.alloc ?_ (by first | omega | (simp <;> omega)) _ | refine Below.setCell ?_ (by first | omega | (simp <;> omega)) _ | refine Below.trans ?_ (Below.mono (by assumption) (by first | omega | (simp <;> omega)))))) rfl) n0).mono ?_; rintro e w1 ⟨u0, rfl, ho0, hb1⟩
  obtain ⟨b0, c0, rfl⟩ := ho0.forms
  have L0 := Lib.hid (show ∀ g, (Value.slice b0 (d.xs).length c0).ownBlock = some g → g < w1.heap.size from fun g hg => (ho0.lt g hg).2)
  have O0 := Lib.hid (OwnE.le ho0 (base' := w.heap.size + 3) (by simp)); clear ho0
  obtain ⟨hc_hb1, hf_hb1⟩ := bcell hb1; have hz_hb1 := hb1.size; (try simp at hz_hb1); have hs0_hb1 : w.heap.size < w1.heap.size := (by omega); have hs1_hb1 : w.heap.size + 1 < w1.heap.size := (by omega); have hs2_hb1 : w.heap.size + 1 + 1 < w1.heap.size := (by omega)
  go_wp2_with fail
  refine (laws_toPauliS_any _ _ _ (Rd.below H1.out (show Below w.heap.size w _ from (by repeat (first | exact Below.refl _ _ | assumption | refine Below.drew ?_ | refine below_drewN ?_ _ | refine Below.alloc ?_ (by first | omega | (simp <;> omega)) _ | refine Below.setCell ?_ (by first | omega | (simp <;> omega)) _ | refine Below.trans ?_ (Below.mono (by assumption) (by first | omega | (simp <;> omega)))))) rfl) n1).mono ?_; rintro e w2 ⟨u1, rfl, ho1, hb2⟩
  obtain ⟨b1, c1, rfl⟩ := ho1.forms
  have L1 := Lib.hid (show ∀ g, (Value.slice b1 (d.zs).length c1).ownBlock = some g → w1.heap.size ≤ g from fun g hg => by have := (ho1.lt g hg).1; simpa using this)
  have O1 := Lib.hid (OwnE.le ho1 (base' := w.heap.size + 3) (by have := hb1.size; simp at this ⊢; omega)); clear ho1
  replace O0 := Lib.hid (OwnE.below (show OwnE (w1.setCell (⟨w.heap.size + 1 + 1, 1, none⟩ : Addr) _) (w.heap.size + 3) 62 (.slice b0 (d.xs).length c0) E3.cs 3 d.xs from OwnE.set O0.out (by simp) _) hb2 rfl)
  obtain ⟨hc_hb2, hf_hb2⟩ := bcell hb2; have hz_hb2 := hb2.size; (try simp at hz_hb2); have hs0_hb2 : w.heap.size < w2.heap.size := (by omega); have hs1_hb2 : w.heap.size + 1 < w2.heap.size := (by omega); have hs2_hb2 : w.heap.size + 1 + 1 < w2.heap.size := (by omega)
  have hs9 : w.heap.size + 3 ≤ w1.heap.size := by simpa using hz_hb1
  go_wp2_with fail
  have z0 : (w2.setCell (⟨w.heap.size + 1 + 1, 2, none⟩ : Addr) (.slice b1 (d.zs).length c1)).cell? ⟨w.heap.size + 1, 0, none⟩ = some (.int .i64 0) := by rw [World.cell?_setCell_other _ _ _ _ (by intro h; injection h with h; omega), hc_hb2 _ _ (by simp; omega), World.cell?_setCell_other _ _ _ _ (by intro h; injection h with h; omega), hc_hb1 _ _ (by simp)]; exact (by repeat (first | (refine Eq.trans (World.cell?_alloc_at _ _ _ _ ?hh) ?_; (case hh => (simp; done)); rfl) | refine cell_alloc_keep _ ?_))
  have z1 : (w2.setCell (⟨w.heap.size + 1 + 1, 2, none⟩ : Addr) (.slice b1 (d.zs).length c1)).cell? ⟨w.heap.size + 1, 1, none⟩ = some (.slice none 0 0) := by rw [World.cell?_setCell_other _ _ _ _ (by intro h; injection h with h; omega), hc_hb2 _ _ (by simp; omega), World.cell?_setCell_other _ _ _ _ (by intro h; injection h with h; omega), hc_hb1 _ _ (by simp)]; exact (by repeat (first | (refine Eq.trans (World.cell?_alloc_at _ _ _ _ ?hh) ?_; (case hh => (simp; done)); rfl) | refine cell_alloc_keep _ ?_))
  have z2 : (w2.setCell (⟨w.heap.size + 1 + 1, 2, none⟩ : Addr) (.slice b1 (d.zs).length c1)).cell? ⟨w.heap.size + 1, 2, none⟩ = some (.slice none 0 0) := by rw [World.cell?_setCell_other _ _ _ _ (by intro h; injection h with h; omega), hc_hb2 _ _ (by simp; omega), World.cell?_setCell_other _ _ _ _ (by intro h; injection h with h; omega), hc_hb1 _ _ (by simp)]; exact (by repeat (first | (refine Eq.trans (World.cell?_alloc_at _ _ _ _ ?hh) ?_; (case hh => (simp; done)); rfl) | refine cell_alloc_keep _ ?_))
  have ZB := box_set3 (.int .i64 d.n) (.slice b0 (d.xs).length c0) (.slice b1 (d.zs).length c1) z0 z1 z2
  refine bodyPost_ret (v := .agg #[.int .i64 d.n, .slice b0 (d.xs).length c0, .slice b1 (d.zs).length c1]) (by simp [results, Try.results7, go_sem, hc_hb1, hc_hb2, ZB]) rfl ⟨_, _, rfl, ?_, ?_, ?_, ?_⟩
  · refine OwnE.le (base := w.heap.size + 3) ?_ (by omega)
    repeat (first | exact O0.out | refine OwnE.set ?_ (by simp) _)
  · refine OwnE.le (base := w.heap.size + 3) ?_ (by omega)
    repeat (first | exact O1.out | refine OwnE.set ?_ (by simp) _)
  · exact fun g h1 h2 => by have := L0.out g h1; have := L1.out g h2; omega
  · exact (by repeat (first | exact Below.refl _ _ | assumption | refine Below.drew ?_ | refine below_drewN ?_ _ | refine Below.alloc ?_ (by first | omega | (simp <;> omega)) _ | refine Below.setCell ?_ (by first | omega | (simp <;> omega)) _ | refine Below.trans ?_ (Below.mono (by assumption) (by first | omega | (simp <;> omega)))))
theorem laws_eqTableau_same (d : Tab) (w : World) (v0 v1 u0 u1 : Value) (h0 : RdE w v0 E3.cs 3 d.xs) (h1 : RdE w v1 E3.cs 3 d.zs) (k0 : RdE w u0 E3.cs 3 d.xs) (k1 : RdE w u1 E3.cs 3 d.zs) :
    Calls Try.prog 9 #[.agg #[.int .i64 d.n, v0, v1], .agg #[.int .i64 d.n, u0, u1]] w fun e w' => e = .returned (.bool true) ∧ Below w.heap.size w w' := by
  obtain ⟨a0, cap0, rfl, hl0⟩ := h0.form
  have H0 := Lib.hid h0; clear h0
  obtain ⟨a1, cap1, rfl, hl1⟩ := h1.form
  have H1 := Lib.hid h1; clear h1
  obtain ⟨a0k, cap0k, rfl, kl0⟩ := k0.form
  have K0 := Lib.hid k0; clear k0
  obtain ⟨a1k, cap1k, rfl, kl1⟩ := k1.form
  have K1 := Lib.hid k1; clear k1
  have z0 : ((d.n : Int) != d.n) = false := by simp
  go_enter Try.func9, Try.ntmps9
  go_wp2_with fail
  all_goals (try go_quiet (fail))
  go_wp2_with fail
  refine (laws_eqPauliS_any _ _ d.xs d.xs _ (Rd.below H0.out (show Below w.heap.size w _ from (by repeat (first | exact Below.refl _ _ | assumption | refine Below.drew ?_ | refine below_drewN ?_ _ | refine Below.alloc ?_ (by first | omega | (simp <;> omega)) _ | refine Below.setCell ?_ (by first | omega | (simp <;> omega)) _ | refine Below.trans ?_ (Below.mono (by assumption) (by first | omega | (simp <;> omega)))))) rfl) (Rd.below K0.out (show Below w.heap.size w _ from (by repeat (first | exact Below.refl _ _ | assumption | refine Below.drew ?_ | refine below_drewN ?_ _ | refine Below.alloc ?_ (by first | omega | (simp <;> omega)) _ | refine Below.setCell ?_ (by first | omega | (simp <;> omega)) _ | refine Below.trans ?_ (Below.mono (by assumption) (by first | omega | (simp <;> omega)))))) rfl)).mono ?_; rintro e w1 ⟨rfl, hb1⟩
  rw [show decide (d.xs = d.xs) = true from decide_eq_true rfl]
  obtain ⟨hc_hb1, hf_hb1⟩ := bcell hb1; have hz_hb1 := hb1.size; (try simp at hz_hb1); have hs0_hb1 : w.heap.size < w1.heap.size := (by omega); have hs1_hb1 : w.heap.size + 1 < w1.heap.size := (by omega)
  go_wp2_with fail
  refine (laws_eqPauliS_any _ _ d.zs d.zs _ (Rd.below H1.out (show Below w.heap.size w _ from (by repeat (first | exact Below.refl _ _ | assumption | refine Below.drew ?_ | refine below_drewN ?_ _ | refine Below.alloc ?_ (by first | omega | (simp <;> omega)) _ | refine Below.setCell ?_ (by first | omega | (simp <;> omega)) _ | refine Below.trans ?_ (Below.mono (by assumption) (by first | omega | (simp <;> omega)))))) rfl) (Rd.below K1.out (show Below w.heap.size w _ from (by repeat (first | exact Below.refl _ _ | assumption | refine Below.drew ?_ | refine below_drewN ?_ _ | refine Below.alloc ?_ (by first | omega | (simp <;> omega)) _ | refine Below.setCell ?_ (by first | omega | (simp <;> omega)) _ | refine Below.trans ?_ (Below.mono (by assumption) (by first | omega | (simp <;> omega)))))) rfl)).mono ?_; rintro e w2 ⟨rfl, hb2⟩
  rw [show decide (d.zs = d.zs) = true from decide_eq_true rfl]
  obtain ⟨hc_hb2, hf_hb2⟩ := bcell hb2; have hz_hb2 := hb2.size; (try simp at hz_hb2); have hs0_hb2 : w.heap.size < w2.heap.size := (by omega); have hs1_hb2 : w.heap.size + 1 < w2.heap.size := (by omega)
  go_wp2_with fail
  go_ret
  exact ⟨rfl, (by repeat (first | exact Below.refl _ _ | assumption | refine Below.drew ?_ | refine below_drewN ?_ _ | refine Below.alloc ?_ (by first | omega | (simp <;> omega)) _ | refine Below.setCell ?_ (by first | omega | (simp <;> omega)) _ | refine Below.trans ?_ (Below.mono (by assumption) (by first | omega | (simp <;> omega)))))⟩
set_option maxHeartbeats 1000000 in
theorem laws_markTableau_any (z0 : Int) (v0 v1 : Value) (base n0 n1 : Nat) (x0 : List Value) (x1 : List Value) (k : Int) (w : World) (h0 : w.ownsRow base 62 3 v0 n0 (x0)) (h1 : w.ownsRow base 62 3 v1 n1 (x1)) (hap : Apart v0 v1) (hk0 : 0 ≤ k) (hk1 : k ≤ 1000000000000) (hn0 : n0 ≤ 10000000) (hn1 : n1 ≤ 10000000) :
    Calls Try.prog 13 #[.agg #[.int .i64 z0, v0, v1], .int .i64 k] w fun e w' => e = .returned (.int .i64 (k + ((n0 * 3 : Nat) : Int) + ((n1 * 3 : Nat) : Int))) ∧ w'.ownsRow base 62 3 v0 n0 (marks (k) (n0 * 3)) ∧ w'.ownsRow base 62 3 v1 n1 (marks (k + ((n0 * 3 : Nat) : Int)) (n1 * 3)) ∧
      ∀ lo hi, (∀ g, v0.ownBlock = some g → lo ≤ g ∧ g < hi) → (∀ g, v1.ownBlock = some g → lo ≤ g ∧ g < hi) → Mid lo hi w w' := by
  have F0 := own_form h0
  have F1 := own_form h1
  obtain ⟨a0, cap0, rfl⟩ := F0
  obtain ⟨a1, cap1, rfl⟩ := F1
  have H0 := Lib.hid h0; have H1 := Lib.hid h1; have HA := Lib.hid hap; clear h0 h1 hap
  go_enter Try.func13, Try.ntmps13
  go_wp2_with fail
  refine (laws_markPauliS_any _ base n0 x0 k _ (H0.out.alloc _) hk0 (by omega) (by omega)).mono ?_; rintro e w1 ⟨rfl, ho0, hg0⟩
  have K1 := Lib.hid (own_other hg0 (H1.out.alloc _) (fun g h1 h2 => HA.out g h2 h1))
  have C1 := Lib.hid (fun o u (h : (w.alloc (.cells #[.int .i64 z0, .slice a0 n0 cap0, .slice a1 n1 cap1] 30)).cell? ⟨w.heap.size, o, none⟩ = some u) => grown_cell_new hg0 H0.out h)
  have c1 : w1.cell? ⟨w.heap.size, 2, none⟩ = some (.slice a1 n1 cap1) := C1.out _ _ (by repeat (first | (refine Eq.trans (World.cell?_alloc_at _ _ _ _ ?hh) ?_; (case hh => (simp; done)); rfl) | refine cell_alloc_keep _ ?_))
  have G0 := Lib.hid hg0; have O0 := Lib.hid ho0; clear hg0 ho0 C1
  go_wp2_with fail
  refine (laws_markPauliS_any _ base n1 x1 _ _ K1.out (by omega) (by omega) (by omega)).mono ?_; rintro e w2 ⟨rfl, ho1, hg1⟩
  have G1 := Lib.hid hg1; have O1 := Lib.hid ho1; clear hg1 ho1
  go_wp2_with fail
  go_ret
  refine ⟨ret_int (by omega), own_other G1.out O0.out (fun g h1 h2 => HA.out g h1 h2), O1.out, fun lo hi h1 h2 => ?_⟩
  exact ((Mid.alloc w lo hi _).trans (Mid.of_grown G0.out h1)).trans (Mid.of_grown G1.out h2)
end Go.Proofs.Ytjdffjnennodaaa
