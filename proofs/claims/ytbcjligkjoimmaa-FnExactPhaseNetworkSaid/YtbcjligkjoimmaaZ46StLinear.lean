/- Linear: the laws' helpers. -/
import Derived.Test.YtbcjligkjoimmaaZ05Arg1
import Derived.Test.YtbcjligkjoimmaaZ07Dat
namespace Go.Proofs.Ytbcjligkjoimmaa
set_option linter.unusedSimpArgs false
set_option linter.unusedVariables false
set_option linter.unnecessarySimpa false
set_option maxRecDepth 200000
open Go.ChangeShapes Go.WideShapes Go.ChangeAt Go.RowKit

theorem laws_szLinear_ok (v0 : Value) (d : List Int) (left : Int) (w : World) (h0 : RdI w v0 d) (q0 : ((d).length : Int) ≤ left) (q1 : left ≤ 1048576) :
    Calls Try.prog 14 #[.agg #[v0], .int .i64 left] w fun e w' => e = .returned (.int .i64 (left - (d).length)) ∧ Below w.heap.size w w' := by
  obtain ⟨a0, cap0, rfl, hl0⟩ := h0.form
  have H0 := Lib.hid h0; clear h0
  go_enter Try.func14, Try.ntmps14
  go_wp2_with fail
  refine (laws_szIntS_ok _ _ _ _ (Rd.below H0.out (show Below w.heap.size w _ from (by repeat (first | exact Below.refl _ _ | assumption | refine Below.drew ?_ | refine below_drewN ?_ _ | refine Below.alloc ?_ (by first | omega | (simp <;> omega)) _ | refine Below.setCell ?_ (by first | omega | (simp <;> omega)) _ | refine Below.trans ?_ (Below.mono (by assumption) (by first | omega | (simp <;> omega)))))) rfl) (by omega) (by omega)).mono ?_; rintro e w1 ⟨rfl, hb1⟩
  obtain ⟨hc_hb1, hf_hb1⟩ := bcell hb1; have hz_hb1 := hb1.size; (try simp at hz_hb1); have hs0_hb1 : w.heap.size < w1.heap.size := (by omega)
  go_wp2_with fail
  go_ret
  exact ⟨rfl, (by repeat (first | exact Below.refl _ _ | assumption | refine Below.drew ?_ | refine below_drewN ?_ _ | refine Below.alloc ?_ (by first | omega | (simp <;> omega)) _ | refine Below.setCell ?_ (by first | omega | (simp <;> omega)) _ | refine Below.trans ?_ (Below.mono (by assumption) (by first | omega | (simp <;> omega)))))⟩
theorem laws_szLinear_no (v0 : Value) (d : List Int) (left : Int) (w : World) (h0 : RdI w v0 d) (q0 : left < ((d).length : Int)) (q1 : left ≤ 1048576) (q2 : 0 ≤ left) :
    Calls Try.prog 14 #[.agg #[v0], .int .i64 left] w fun e w' => e = .returned (.int .i64 (-1)) ∧ Below w.heap.size w w' := by
  obtain ⟨a0, cap0, rfl, hl0⟩ := h0.form
  have H0 := Lib.hid h0; clear h0
  go_enter Try.func14, Try.ntmps14
  go_wp2_with fail
  refine (laws_szIntS_no _ _ _ _ (Rd.below H0.out (show Below w.heap.size w _ from (by repeat (first | exact Below.refl _ _ | assumption | refine Below.drew ?_ | refine below_drewN ?_ _ | refine Below.alloc ?_ (by first | omega | (simp <;> omega)) _ | refine Below.setCell ?_ (by first | omega | (simp <;> omega)) _ | refine Below.trans ?_ (Below.mono (by assumption) (by first | omega | (simp <;> omega)))))) rfl) (by omega) (by omega) (by omega)).mono ?_; rintro e w1 ⟨rfl, hb1⟩
  obtain ⟨hc_hb1, hf_hb1⟩ := bcell hb1; have hz_hb1 := hb1.size; (try simp at hz_hb1); have hs0_hb1 : w.heap.size < w1.heap.size := (by omega)
  go_wp2_with fail
  go_ret
  exact ⟨rfl, (by repeat (first | exact Below.refl _ _ | assumption | refine Below.drew ?_ | refine below_drewN ?_ _ | refine Below.alloc ?_ (by first | omega | (simp <;> omega)) _ | refine Below.setCell ?_ (by first | omega | (simp <;> omega)) _ | refine Below.trans ?_ (Below.mono (by assumption) (by first | omega | (simp <;> omega)))))⟩
set_option maxHeartbeats 1000000 in
theorem laws_toLinear_any (v0 : Value) (d : List Int) (w : World) (h0 : RdI w v0 d) (n0 : (d).length ≤ 1048576) :
    Calls Try.prog 23 #[.agg #[v0]] w fun e w' => ∃ u0, e = .returned (.agg #[u0]) ∧ OwnI w' w.heap.size u0 d ∧ Below w.heap.size w w' := by
  obtain ⟨a0, cap0, rfl, hl0⟩ := h0.form
  have H0 := Lib.hid h0; clear h0
  go_enter Try.func23, Try.ntmps23
  go_wp2_with fail
  refine (laws_toIntS_any _ _ _ (Rd.below H0.out (show Below w.heap.size w _ from (by repeat (first | exact Below.refl _ _ | assumption | refine Below.drew ?_ | refine below_drewN ?_ _ | refine Below.alloc ?_ (by first | omega | (simp <;> omega)) _ | refine Below.setCell ?_ (by first | omega | (simp <;> omega)) _ | refine Below.trans ?_ (Below.mono (by assumption) (by first | omega | (simp <;> omega)))))) rfl) n0).mono ?_; rintro e w1 ⟨u0, rfl, ho0, hb1⟩
  obtain ⟨b0, c0, rfl⟩ := ho0.forms
  have L0 := Lib.hid (show ∀ g, (Value.slice b0 (d).length c0).ownBlock = some g → g < w1.heap.size from fun g hg => (ho0.lt g hg).2)
  have O0 := Lib.hid (OwnI.le ho0 (base' := w.heap.size + 3) (by simp)); clear ho0
  obtain ⟨hc_hb1, hf_hb1⟩ := bcell hb1; have hz_hb1 := hb1.size; (try simp at hz_hb1); have hs0_hb1 : w.heap.size < w1.heap.size := (by omega); have hs1_hb1 : w.heap.size + 1 < w1.heap.size := (by omega); have hs2_hb1 : w.heap.size + 1 + 1 < w1.heap.size := (by omega)
  go_wp2_with fail
  refine bodyPost_ret (v := .agg #[.slice b0 (d).length c0]) (by simp [results, Try.results23, go_sem, hc_hb1]) rfl ⟨_, rfl, ?_, ?_⟩
  · refine OwnI.le (base := w.heap.size + 3) ?_ (by omega)
    repeat (first | exact O0.out | refine OwnI.set ?_ (by simp) _)
  · exact (by repeat (first | exact Below.refl _ _ | assumption | refine Below.drew ?_ | refine below_drewN ?_ _ | refine Below.alloc ?_ (by first | omega | (simp <;> omega)) _ | refine Below.setCell ?_ (by first | omega | (simp <;> omega)) _ | refine Below.trans ?_ (Below.mono (by assumption) (by first | omega | (simp <;> omega)))))
end Go.Proofs.Ytbcjligkjoimmaa
