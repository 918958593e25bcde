/- FormatLog: the reference. -/
import Derived.Test.YtgonldkgghikiaaDoorLg3
namespace Go.Proofs.YtgonldkgghikiaaDoor
set_option linter.unusedSimpArgs false
set_option linter.unusedVariables false
set_option linter.unnecessarySimpa false
set_option maxRecDepth 200000
open Go.ChangeShapes Go.WideShapes Go.ChangeAt Go.RowKit

theorem logStr_no {xs : List E3} (h : logB xs = false) : logStr xs = ⟨#[]⟩ := by unfold logStr; rw [h]; rfl
theorem logStr_yes {xs : List E3} (h : logB xs = true) : logStr xs = logText xs := by unfold logStr; rw [h]; rfl
theorem logB_parts {xs : List E3} (h : logB xs = true) : xs.all okStep = true ∧ xs.length ≤ 60 := by
  unfold logB at h
  rw [Bool.and_eq_true] at h
  exact ⟨h.1, of_decide_eq_true h.2⟩
theorem spec_FormatLog_any (v : Value) (xs : List E3) (w : World) (h : RdE w v E3.cs 3 xs) (hl : xs.length ≤ 1048576) :
    Calls Tryd.prog 10 #[v] w fun e w' => e = .returned (.tuple #[.string (logStr xs), .bool (logB xs)]) ∧ Below w.heap.size w w' := by
  have H := Lib.hid h
  obtain ⟨A, c, rfl, _⟩ := rw_at h
  clear h
  cases hv : logB xs with
  | false =>
    have HV := Lib.hid hv
    have HS := Lib.hid (logStr_no hv); clear hv
    go_enter Tryd.func10, Tryd.ntmps10
    go_wp2_with fail
    refine (spec_l17Log_any _ xs _ H.out hl).mono ?_; rintro e w1 ⟨rfl, hb1⟩; rw [HV.out]
    have bw := Lib.hid hb1; clear hb1
    go_wp2_with fail
    go_ret2
    exact ⟨by rw [HS.out] <;> rfl, bw.out⟩
  | true =>
    have HV := Lib.hid hv
    have HS := Lib.hid (logStr_yes hv)
    obtain ⟨hp, hq⟩ := logB_parts hv
    have HP := Lib.hid hp
    clear hv hp
    go_enter Tryd.func10, Tryd.ntmps10
    go_wp2_with fail
    refine (spec_l17Log_any _ xs _ H.out hl).mono ?_; rintro e w1 ⟨rfl, hb1⟩; rw [HV.out]
    have bw := Lib.hid hb1; clear hb1
    go_wp2_with fail
    refine (spec_l17Text_any _ xs _ (Rd.below H.out bw.out rfl) HP.out hq).mono ?_; rintro e w2 ⟨rfl, hb2⟩
    rw [← HS.out]
    obtain ⟨R, hR⟩ : ∃ R, R = logStr xs := ⟨_, rfl⟩
    rw [← hR]
    have HR := Lib.hid hR; clear hR
    have bw2 := Lib.hid (Below.trans bw.out (hb2.mono bw.out.size))
    clear hb2
    go_wp2_with fail
    go_ret2
    exact ⟨by rw [← HR.out] <;> rfl, bw2.out⟩
end Go.Proofs.YtgonldkgghikiaaDoor
