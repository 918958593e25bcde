/- The walk through the law FnExactFormatForm. -/
import Derived.Test.YtgonldkgghikiaaDoorFmf1
import Derived.Test.YtgonldkgghikiaaDoorOpen1
namespace Go.Proofs.YtgonldkgghikiaaDoor
set_option linter.unusedSimpArgs false
set_option linter.unusedVariables false
set_option linter.unnecessarySimpa false
set_option maxRecDepth 200000
open Go.ChangeShapes Go.WideShapes Go.ChangeAt Go.RowKit

theorem walk_FnExactFormatForm (v0 : Value) (w : World) (h0 : IsNormalForm v0) :
    Calls Tryd.prog 3 #[v0] w fun e w' => e = .returned (.bool true) ∧ Below w.heap.size w w' := by
  obtain ⟨_, _, _, rfl, ⟨s, rfl, hs⟩, ⟨c, rfl, hc0, hc1⟩, ⟨p, rfl, hp0, hp1⟩⟩ := h0
  by_cases hl : (1048576 : Int) - s.size < 0
  · have hx : (if (1048576 : Int) - s.size < 0 then -1 else (1048576 : Int) - s.size) = -1 := if_pos hl
    have Hx := Lib.hid hx; clear hx
    go_enter Tryd.func3, Tryd.ntmps3
    go_wp2_with fail
    refine (szNormalForm_any _ _ _ _ _ hs (by omega) (by omega)).mono ?_; rintro e w1 ⟨rfl, hb1⟩
    rw [Hx.out]; obtain ⟨hc_hb1, hf_hb1⟩ := bcell hb1; have hz_hb1 := hb1.size; (try simp at hz_hb1); have hs0_hb1 : w.heap.size < w1.heap.size := (by omega)
    go_wp2_with fail
    go_ret
    exact ⟨rfl, (by repeat (first | exact Below.refl _ _ | assumption | refine Below.drew ?_ | refine below_drewN ?_ _ | refine Below.alloc ?_ (by first | omega | (simp <;> omega)) _ | refine Below.setCell ?_ (by first | omega | (simp <;> omega)) _ | refine Below.trans ?_ (Below.mono (by assumption) (by first | omega | (simp <;> omega)))))⟩
  · have hx : (if (1048576 : Int) - s.size < 0 then -1 else (1048576 : Int) - s.size) = (1048576 : Int) - s.size := if_neg hl
    have Hx := Lib.hid hx; clear hx
    go_enter Tryd.func3, Tryd.ntmps3
    go_wp2_with fail
    refine (szNormalForm_any _ _ _ _ _ hs (by omega) (by omega)).mono ?_; rintro e w1 ⟨rfl, hb1⟩
    rw [Hx.out]; obtain ⟨hc_hb1, hf_hb1⟩ := bcell hb1; have hz_hb1 := hb1.size; (try simp at hz_hb1); have hs0_hb1 : w.heap.size < w1.heap.size := (by omega)
    go_wp2_with fail
    refine (toNormalForm_any _ _ _ _).mono ?_; rintro e w2 ⟨rfl, hb2⟩
    replace hb2 := Below.trans hb1 (Below.mono hb2 hb1.size); clear hb1 hc_hb1 hf_hb1; obtain ⟨hc_hb2, hf_hb2⟩ := bcell hb2; have hz_hb2 := hb2.size; (try simp at hz_hb2)
    go_wp2_with fail
    obtain ⟨T, hT⟩ : ∃ T, T = formStr s c p := ⟨_, rfl⟩
    obtain ⟨B, hB⟩ : ∃ B, B = validForm s c p := ⟨_, rfl⟩
    have HT := Lib.hid hT; have HB := Lib.hid hB; clear hT hB
    refine (spec_FormatForm_any _ _ _ _ hs).mono ?_; rintro e w3 ⟨rfl, hb3⟩; rw [← HT.out, ← HB.out]
    replace hb3 := Below.trans hb2 (Below.mono hb3 hb2.size); clear hb2 hc_hb2 hf_hb2; obtain ⟨hc_hb3, hf_hb3⟩ := bcell hb3; have hz_hb3 := hb3.size; (try simp at hz_hb3)
    go_wp2_with fail
    refine (toNormalForm_any _ _ _ _).mono ?_; rintro e w4 ⟨rfl, hb4⟩
    replace hb4 := Below.trans hb3 (Below.mono hb4 hb3.size); clear hb3 hc_hb3 hf_hb3; obtain ⟨hc_hb4, hf_hb4⟩ := bcell hb4; have hz_hb4 := hb4.size; (try simp at hz_hb4)
    go_wp2_with fail
    refine (impl_FormatForm_any _ _ _ _ hs).mono ?_; rintro e w5 ⟨rfl, hb5⟩; rw [← HT.out, ← HB.out]
    replace hb5 := Below.trans hb4 (Below.mono hb5 hb4.size); clear hb4 hc_hb4 hf_hb4; obtain ⟨hc_hb5, hf_hb5⟩ := bcell hb5; have hz_hb5 := hb5.size; (try simp at hz_hb5)
    go_wp2_with fail
    go_ret
    exact ⟨rfl, (by repeat (first | exact Below.refl _ _ | assumption | refine Below.drew ?_ | refine below_drewN ?_ _ | refine Below.alloc ?_ (by first | omega | (simp <;> omega)) _ | refine Below.setCell ?_ (by first | omega | (simp <;> omega)) _ | refine Below.trans ?_ (Below.mono (by assumption) (by first | omega | (simp <;> omega)))))⟩

end Go.Proofs.YtgonldkgghikiaaDoor
