/- The walk through the law FnExactFormatLog. -/
import Derived.Test.YtgonldkgghikiaaDoorLg5
import Derived.Test.YtgonldkgghikiaaDoorTyRewrite
import Derived.Test.YtgonldkgghikiaaDoorDat
namespace Go.Proofs.YtgonldkgghikiaaDoor
set_option linter.unusedSimpArgs false
set_option linter.unusedVariables false
set_option linter.unnecessarySimpa false
set_option maxRecDepth 200000
open Go.ChangeShapes Go.WideShapes Go.ChangeAt Go.RowKit

set_option maxHeartbeats 2000000 in
theorem walk_FnExactFormatLog (v0 : Value) (w : World) (h0 : IsRewriteS w v0) (ht : Table w) :
    Calls Tryd.prog 4 #[v0] w fun e w' => e = .returned (.bool true) ∧ Below w.heap.size w w' := by
  obtain ⟨xs, hx, _⟩ := h0
  have H := Lib.hid hx
  have HT := Lib.hid ht
  obtain ⟨A, c, rfl, _⟩ := hx.form
  clear hx ht
  by_cases hl : xs.length ≤ 1048576
  · have i1 : ¬ (1048576 : Int) - (xs.length : Int) < 0 := by omega
    go_enter Tryd.func4, Tryd.ntmps4
    go_wp2_with fail
    refine (laws_szRewriteS_ok _ xs 1048576 _ H.out (by omega) (by omega)).mono ?_; rintro e w1 ⟨rfl, hb1⟩
    have B1 := Lib.hid hb1; clear hb1
    go_wp2_with fail
    refine (laws_toRewriteS_any _ xs _ (Rd.below H.out B1.out rfl) hl).mono ?_; rintro e w2 ⟨v2, rfl, ho2, hb2⟩
    have B2 := Lib.hid (below_step B1.out hb2)
    have R2 := Lib.hid (OwnE.rd ho2)
    obtain ⟨a2, c2, rfl⟩ := ho2.forms
    clear hb2 ho2 B1
    go_wp2_with fail
    obtain ⟨T, hT⟩ : ∃ T, T = logStr xs := ⟨_, rfl⟩
    obtain ⟨B, hB⟩ : ∃ B, B = logB xs := ⟨_, rfl⟩
    have HT2 := Lib.hid hT; have HB2 := Lib.hid hB; clear hT hB
    refine (spec_FormatLog_any _ xs _ R2.out hl).mono ?_; rintro e w3 ⟨rfl, hb3⟩; rw [← HT2.out, ← HB2.out]
    have B3 := Lib.hid (below_step B2.out hb3)
    clear hb3 B2 R2
    go_wp2_with fail
    refine (laws_toRewriteS_any _ xs _ (Rd.below H.out B3.out rfl) hl).mono ?_; rintro e w4 ⟨v4, rfl, ho4, hb4⟩
    have B4 := Lib.hid (below_step B3.out hb4)
    have R4 := Lib.hid (OwnE.rd ho4)
    obtain ⟨a4, c4, rfl⟩ := ho4.forms
    clear hb4 ho4 B3
    go_wp2_with fail
    refine (impl_FormatLog_any _ xs _ R4.out hl (HT.out.call B4.out)).mono ?_; rintro e w5 ⟨rfl, hb5⟩; rw [← HT2.out, ← HB2.out]
    have B5 := Lib.hid (below_step B4.out hb5)
    have R5 := Lib.hid (Rd.below R4.out hb5 rfl)
    clear hb5 B4 R4
    go_wp2_with fail
    refine (laws_toRewriteS_any _ xs _ (Rd.below H.out B5.out rfl) hl).mono ?_; rintro e w6 ⟨v6, rfl, ho6, hb6⟩
    have B6 := Lib.hid (below_step B5.out hb6)
    have R6 := Lib.hid (OwnE.rd ho6)
    have R7 := Lib.hid (Rd.below R5.out hb6 rfl)
    obtain ⟨a6, c6, rfl⟩ := ho6.forms
    clear hb6 ho6 B5 R5
    go_wp2_with fail
    refine (laws_eqRewriteS_any _ _ xs xs _ R7.out R6.out).mono ?_; rintro e w7 ⟨rfl, hb7⟩
    rw [show decide (xs = xs) = true from by simp]
    have B7 := Lib.hid (below_step B6.out hb7)
    have bq := B7.out
    clear hb7
    go_wp2_with fail
    go_ret
    exact ⟨rfl, (by repeat (first | exact Below.refl _ _ | assumption | refine Below.drew ?_ | refine below_drewN ?_ _ | refine Below.alloc ?_ (by first | omega | (simp <;> omega)) _ | refine Below.setCell ?_ (by first | omega | (simp <;> omega)) _ | refine Below.trans ?_ (Below.mono (by assumption) (by first | omega | (simp <;> omega)))))⟩
  · have i1 : (1048576 : Int) < (xs.length : Int) := by omega
    go_enter Tryd.func4, Tryd.ntmps4
    go_wp2_with fail
    refine (laws_szRewriteS_no _ xs 1048576 _ H.out (by omega) (by omega) (by omega)).mono ?_; rintro e w1 ⟨rfl, hb1⟩
    have bq := hb1
    go_wp2_with fail
    go_ret
    exact ⟨rfl, (by repeat (first | exact Below.refl _ _ | assumption | refine Below.drew ?_ | refine below_drewN ?_ _ | refine Below.alloc ?_ (by first | omega | (simp <;> omega)) _ | refine Below.setCell ?_ (by first | omega | (simp <;> omega)) _ | refine Below.trans ?_ (Below.mono (by assumption) (by first | omega | (simp <;> omega)))))⟩
end Go.Proofs.YtgonldkgghikiaaDoor
