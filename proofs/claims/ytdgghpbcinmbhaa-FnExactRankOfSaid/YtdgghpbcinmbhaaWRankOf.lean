/- The walk through the law FnExactRankOf. -/
import Derived.Test.YtdgghpbcinmbhaaRank3
import Derived.Test.YtdgghpbcinmbhaaOpen1
import Derived.Test.YtdgghpbcinmbhaaDat
namespace Go.Proofs.Ytdgghpbcinmbhaa
set_option linter.unusedSimpArgs false
set_option linter.unusedVariables false
set_option linter.unnecessarySimpa false
set_option maxRecDepth 200000
open Go.ChangeShapes Go.WideShapes Go.ChangeAt Go.RowKit

set_option maxRecDepth 100000 in
theorem walk_FnExactRankOf (v0 : Value) (w : World) (h0 : IsIntS w v0) :
    Calls Try.prog 3 #[v0] w fun e w' => e = .returned (.bool true) ∧ Below w.heap.size w w' := by
  obtain ⟨d_aRows, HA_aRows0, HR_aRows⟩ := h0; have v_aRows0 := v0
  obtain ⟨a_aRows0, cap_aRows0, rfl, LX_aRows0⟩ := HA_aRows0.form
  replace HA_aRows0 := Lib.hid HA_aRows0; clear LX_aRows0
  replace HR_aRows := Lib.hid HR_aRows
  by_cases hsz0 : ((d_aRows).length : Int) ≤ 1048576
  · skip
    have LEN_aRows0 : (d_aRows).length ≤ 1048576 := by omega
    have BB0 := Below.refl w.heap.size w
    go_enter Try.func3, Try.ntmps3
    go_wp2_with fail
    refine (laws_toIntS_any _ d_aRows _ (Rd.below HA_aRows0.out BB0 rfl) LEN_aRows0).mono ?_; rintro e w1 ⟨vt10, rfl, hot10, hb1⟩
    obtain ⟨at10, capt10, rfl⟩ := hot10.forms
    have LL_t10 := Lib.hid (show ∀ g, (Value.slice at10 (d_aRows).length capt10).ownBlock = some g → w.heap.size ≤ g ∧ g < w1.heap.size from fun g hg => by have := hot10.lt g hg; (try simp at this); omega)
    replace hot10 := OwnI.le hot10 (base' := w.heap.size) (by have := BB0.size; first | omega | (simp; omega))
    have BB1 : Below w.heap.size w w1 := below_step BB0 hb1
    have ZZ1 : w.heap.size ≤ w1.heap.size := by have := hb1.size; (try simp at this); omega
    have Ot10 := Lib.hid (show OwnI w1 (w.heap.size) (.slice at10 (d_aRows).length capt10) (d_aRows) from hot10); clear hot10
    clear hb1 BB0
    go_wp2_with fail
    refine (spec_RankOf_any _ _ _ (Ot10.out).rd LEN_aRows0).mono ?_; rintro e w2 ⟨rfl, hb2⟩
    replace Ot10 := Lib.hid (show OwnI w2 (w.heap.size) (.slice at10 (d_aRows).length capt10) (d_aRows) from OwnI.below Ot10.out hb2 rfl)
    have BB2 : Below w.heap.size w w2 := below_step BB1 hb2
    have ZZ2 : w1.heap.size ≤ w2.heap.size := by have := hb2.size; (try simp at this); omega
    clear hb2 BB1
    clear Ot10 LL_t10
    go_wp2_with fail
    refine (laws_toIntS_any _ d_aRows _ (Rd.below HA_aRows0.out BB2 rfl) LEN_aRows0).mono ?_; rintro e w3 ⟨vx00, rfl, hox00, hb3⟩
    obtain ⟨ax00, capx00, rfl⟩ := hox00.forms
    have LL_x00 := Lib.hid (show ∀ g, (Value.slice ax00 (d_aRows).length capx00).ownBlock = some g → w2.heap.size ≤ g ∧ g < w3.heap.size from fun g hg => by have := hox00.lt g hg; (try simp at this); omega)
    replace hox00 := OwnI.le hox00 (base' := w.heap.size) (by have := BB2.size; first | omega | (simp; omega))
    have BB3 : Below w.heap.size w w3 := below_step BB2 hb3
    have ZZ3 : w2.heap.size ≤ w3.heap.size := by have := hb3.size; (try simp at this); omega
    have Ox00 := Lib.hid (show OwnI w3 (w.heap.size) (.slice ax00 (d_aRows).length capx00) (d_aRows) from hox00); clear hox00
    clear hb3 BB2
    go_wp2_with fail
    refine (impl_RankOf_any _ _ _ (Ox00.out).rd LEN_aRows0).mono ?_; rintro e w4 ⟨rfl, hb4⟩
    replace Ox00 := Lib.hid (show OwnI w4 (w.heap.size) (.slice ax00 (d_aRows).length capx00) (d_aRows) from OwnI.below Ox00.out hb4 rfl)
    have BB4 : Below w.heap.size w w4 := below_step BB3 hb4
    have ZZ4 : w3.heap.size ≤ w4.heap.size := by have := hb4.size; (try simp at this); omega
    clear hb4 BB3
    go_wp2_with fail
    refine (laws_toIntS_any _ d_aRows _ (Rd.below HA_aRows0.out BB4 rfl) LEN_aRows0).mono ?_; rintro e w5 ⟨vt20, rfl, hot20, hb5⟩
    obtain ⟨at20, capt20, rfl⟩ := hot20.forms
    have LL_t20 := Lib.hid (show ∀ g, (Value.slice at20 (d_aRows).length capt20).ownBlock = some g → w4.heap.size ≤ g ∧ g < w5.heap.size from fun g hg => by have := hot20.lt g hg; (try simp at this); omega)
    replace hot20 := OwnI.le hot20 (base' := w.heap.size) (by have := BB4.size; first | omega | (simp; omega))
    replace Ox00 := Lib.hid (show OwnI w5 (w.heap.size) (.slice ax00 (d_aRows).length capx00) (d_aRows) from OwnI.below Ox00.out hb5 rfl)
    have BB5 : Below w.heap.size w w5 := below_step BB4 hb5
    have ZZ5 : w4.heap.size ≤ w5.heap.size := by have := hb5.size; (try simp at this); omega
    have Ot20 := Lib.hid (show OwnI w5 (w.heap.size) (.slice at20 (d_aRows).length capt20) (d_aRows) from hot20); clear hot20
    clear hb5 BB4
    go_wp2_with fail
    refine (laws_eqIntS_any _ _ _ _ _ (Ox00.out).rd (Ot20.out).rd).mono ?_; rintro e w6 ⟨rfl, hb6⟩
    rw [show decide (d_aRows = d_aRows) = true from decide_eq_true rfl]
    replace Ox00 := Lib.hid (show OwnI w6 (w.heap.size) (.slice ax00 (d_aRows).length capx00) (d_aRows) from OwnI.below Ox00.out hb6 rfl)
    replace Ot20 := Lib.hid (show OwnI w6 (w.heap.size) (.slice at20 (d_aRows).length capt20) (d_aRows) from OwnI.below Ot20.out hb6 rfl)
    have BB6 : Below w.heap.size w w6 := below_step BB5 hb6
    have ZZ6 : w5.heap.size ≤ w6.heap.size := by have := hb6.size; (try simp at this); omega
    clear hb6 BB5
    go_wp2_with fail
    clear Ot20 LL_t20
    go_ret
    exact ⟨rfl, BB6⟩
  · skip
    have BB0 := Below.refl w.heap.size w
    go_enter Try.func3, Try.ntmps3
    go_wp2_with fail
    go_ret
    exact ⟨rfl, (by repeat (first | exact Below.refl _ _ | assumption | refine Below.drew ?_ | refine below_drewN ?_ _ | refine Below.alloc ?_ (by first | omega | (simp <;> omega)) _ | refine Below.setCell ?_ (by first | omega | (simp <;> omega)) _ | refine Below.trans ?_ (Below.mono (by assumption) (by first | omega | (simp <;> omega)))))⟩
end Go.Proofs.Ytdgghpbcinmbhaa
