/- The walk through the law FnExactCodeWords. -/
import Derived.Test.YtlelcnlibacnaaaRm5
import Derived.Test.YtlelcnlibacnaaaStLinear
import Derived.Test.YtlelcnlibacnaaaOpen1
import Derived.Test.YtlelcnlibacnaaaDat
import Derived.Test.YtlelcnlibacnaaaCut1
import Derived.Deep.DeepMust
import Derived.Deep.RegionHeld3
namespace Go.Proofs.Ytlelcnlibacnaaa
set_option linter.unusedSimpArgs false
set_option linter.unusedVariables false
set_option linter.unnecessarySimpa false
set_option maxRecDepth 200000
open Go.ChangeShapes Go.WideShapes Go.ChangeAt Go.RowKit

set_option maxHeartbeats 2000000 in
set_option maxRecDepth 100000 in
theorem walk_FnExactCodeWords (v0 : Value) (w : World) (h0 : IsInt v0) :
    Calls Try.prog 6 #[v0] w fun e w' => e = .returned (.bool true) ∧ Below w.heap.size w w' := by
  obtain ⟨d_aN, rfl, aNlo, aNhi⟩ := h0
  obtain ⟨r, hr⟩ : ∃ r, r = codeG d_aN := ⟨_, rfl⟩
  have hlen0 : (r.getD []).length ≤ 1000000 := by subst hr; exact codeG_len _
  have Hr := Lib.hid hr; clear hr
  have BB0 := Below.refl w.heap.size w
  go_enter Try.func6, Try.ntmps6
  go_wp2_with fail
  refine (spec_CodeWords_any _ _).mono ?_; rw [← Hr.out]; rintro e w1 ⟨vw00, rfl, how00, hb1⟩
  obtain ⟨aw00, capw00, rfl⟩ := how00.forms
  have LL_w00 := Lib.hid (show ∀ g, (Value.slice aw00 ((r.getD [])).length capw00).ownBlock = some g → w.heap.size ≤ g ∧ g < w1.heap.size from fun g hg => by have := how00.lt g hg; (try simp at this); omega)
  replace how00 := OwnI.le how00 (base' := w.heap.size) (by have := BB0.size; first | omega | (simp; omega))
  have BB1 : Below w.heap.size w w1 := below_step BB0 hb1
  have ZZ1 : w.heap.size ≤ w1.heap.size := by have := hb1.size; (try simp at this); omega
  have Ow00 := Lib.hid (show OwnI w1 (w.heap.size) (.slice aw00 ((r.getD [])).length capw00) ((r.getD [])) from how00); clear how00
  clear hb1 BB0
  go_wp2_with fail
  refine (impl_CodeWords_any _ _).mono ?_; rw [← Hr.out]; rintro e w2 ⟨vg00, rfl, hog00, hb2⟩
  obtain ⟨ag00, capg00, rfl⟩ := hog00.forms
  have LL_g00 := Lib.hid (show ∀ g, (Value.slice ag00 ((r.getD [])).length capg00).ownBlock = some g → w1.heap.size ≤ g ∧ g < w2.heap.size from fun g hg => by have := hog00.lt g hg; (try simp at this); omega)
  replace hog00 := OwnI.le hog00 (base' := w.heap.size) (by have := BB1.size; first | omega | (simp; omega))
  replace Ow00 := Lib.hid (show OwnI w2 (w.heap.size) (.slice aw00 ((r.getD [])).length capw00) ((r.getD [])) from OwnI.below Ow00.out hb2 rfl)
  have BB2 : Below w.heap.size w w2 := below_step BB1 hb2
  have ZZ2 : w1.heap.size ≤ w2.heap.size := by have := hb2.size; (try simp at this); omega
  have Og00 := Lib.hid (show OwnI w2 (w.heap.size) (.slice ag00 ((r.getD [])).length capg00) ((r.getD [])) from hog00); clear hog00
  clear hb2 BB1
  go_wp2_with fail
  refine (laws_eqIntS_any _ _ _ _ _ (Og00.out).rd (Ow00.out).rd).mono ?_; rintro e w3 ⟨rfl, hb3⟩
  rw [show decide ((r.getD []) = (r.getD [])) = true from decide_eq_true rfl]
  replace Ow00 := Lib.hid (show OwnI w3 (w.heap.size) (.slice aw00 ((r.getD [])).length capw00) ((r.getD [])) from OwnI.below Ow00.out hb3 rfl)
  replace Og00 := Lib.hid (show OwnI w3 (w.heap.size) (.slice ag00 ((r.getD [])).length capg00) ((r.getD [])) from OwnI.below Og00.out hb3 rfl)
  have BB3 : Below w.heap.size w w3 := below_step BB2 hb3
  have ZZ3 : w2.heap.size ≤ w3.heap.size := by have := hb3.size; (try simp at this); omega
  clear hb3 BB2
  go_wp2_with fail
  refine (laws_markIntS_any _ _ _ _ _ _ Og00.out (by omega) (by omega)).mono ?_; rintro e w4 ⟨rfl, hmg00, hg⟩
  have hb4 : Mid (w1.heap.size) (w2.heap.size) w3 w4 := Mid.of_grown hg (fun k hk => LL_g00.out k hk)
  clear hg
  replace Ow00 := Lib.hid (show OwnI w4 (w.heap.size) (.slice aw00 ((r.getD [])).length capw00) ((r.getD [])) from Mid.own hb4 Ow00.out (fun g hg => by have := LL_w00.out g hg; omega))
  have BB4 : Below w.heap.size w w4 := Below.trans BB3 (Mid.below hb4 (by omega) (by first | omega | (simp <;> omega)))
  have ZZ4 : w3.heap.size ≤ w4.heap.size := by have := hb4.size; (try simp at this); omega
  have Og00 := Lib.hid (show w4.ownsRow (w.heap.size) 3 1 (.slice ag00 ((r.getD [])).length capg00) ((r.getD [])).length (marks (1) (((r.getD [])).length)) from hmg00); clear hmg00
  clear hb4 BB3
  go_wp2_with fail
  refine (calls_below (laws_heldIntS_any _ _ _ _ (Rd.of_own Og00.out) (by omega) (by omega))).mono ?_; rintro e w5 ⟨rfl, hb5⟩
  replace Ow00 := Lib.hid (show OwnI w5 (w.heap.size) (.slice aw00 ((r.getD [])).length capw00) ((r.getD [])) from OwnI.below Ow00.out hb5 rfl)
  replace Og00 := Lib.hid (show w5.ownsRow (w.heap.size) 3 1 (.slice ag00 ((r.getD [])).length capg00) ((r.getD [])).length (marks (1) (((r.getD [])).length)) from own_below Og00.out hb5 rfl)
  have BB5 : Below w.heap.size w w5 := below_step BB4 hb5
  have ZZ5 : w4.heap.size ≤ w5.heap.size := by have := hb5.size; (try simp at this); omega
  clear hb5 BB4
  have hne5 : ¬ (1 + ((((r.getD [])).length : Nat) : Int) : Int) < 0 := by omega
  go_wp2_with fail
  refine (impl_CodeWords_any _ _).mono ?_; rw [← Hr.out]; rintro e w6 ⟨vh00, rfl, hoh00, hb6⟩
  obtain ⟨ah00, caph00, rfl⟩ := hoh00.forms
  have LL_h00 := Lib.hid (show ∀ g, (Value.slice ah00 ((r.getD [])).length caph00).ownBlock = some g → w5.heap.size ≤ g ∧ g < w6.heap.size from fun g hg => by have := hoh00.lt g hg; (try simp at this); omega)
  replace hoh00 := OwnI.le hoh00 (base' := w.heap.size) (by have := BB5.size; first | omega | (simp; omega))
  replace Ow00 := Lib.hid (show OwnI w6 (w.heap.size) (.slice aw00 ((r.getD [])).length capw00) ((r.getD [])) from OwnI.below Ow00.out hb6 rfl)
  replace Og00 := Lib.hid (show w6.ownsRow (w.heap.size) 3 1 (.slice ag00 ((r.getD [])).length capg00) ((r.getD [])).length (marks (1) (((r.getD [])).length)) from own_below Og00.out hb6 rfl)
  have BB6 : Below w.heap.size w w6 := below_step BB5 hb6
  have ZZ6 : w5.heap.size ≤ w6.heap.size := by have := hb6.size; (try simp at this); omega
  have Oh00 := Lib.hid (show OwnI w6 (w.heap.size) (.slice ah00 ((r.getD [])).length caph00) ((r.getD [])) from hoh00); clear hoh00
  clear hb6 BB5
  go_wp2_with fail
  refine (laws_eqIntS_any _ _ _ _ _ (Oh00.out).rd (Ow00.out).rd).mono ?_; rintro e w7 ⟨rfl, hb7⟩
  rw [show decide ((r.getD []) = (r.getD [])) = true from decide_eq_true rfl]
  replace Ow00 := Lib.hid (show OwnI w7 (w.heap.size) (.slice aw00 ((r.getD [])).length capw00) ((r.getD [])) from OwnI.below Ow00.out hb7 rfl)
  replace Og00 := Lib.hid (show w7.ownsRow (w.heap.size) 3 1 (.slice ag00 ((r.getD [])).length capg00) ((r.getD [])).length (marks (1) (((r.getD [])).length)) from own_below Og00.out hb7 rfl)
  replace Oh00 := Lib.hid (show OwnI w7 (w.heap.size) (.slice ah00 ((r.getD [])).length caph00) ((r.getD [])) from OwnI.below Oh00.out hb7 rfl)
  have BB7 : Below w.heap.size w w7 := below_step BB6 hb7
  have ZZ7 : w6.heap.size ≤ w7.heap.size := by have := hb7.size; (try simp at this); omega
  clear hb7 BB6
  go_wp2_with fail
  refine (calls_below (laws_heldIntS_any _ _ _ _ (Rd.of_own Og00.out) (by omega) (by omega))).mono ?_; rintro e w8 ⟨rfl, hb8⟩
  replace Ow00 := Lib.hid (show OwnI w8 (w.heap.size) (.slice aw00 ((r.getD [])).length capw00) ((r.getD [])) from OwnI.below Ow00.out hb8 rfl)
  replace Og00 := Lib.hid (show w8.ownsRow (w.heap.size) 3 1 (.slice ag00 ((r.getD [])).length capg00) ((r.getD [])).length (marks (1) (((r.getD [])).length)) from own_below Og00.out hb8 rfl)
  replace Oh00 := Lib.hid (show OwnI w8 (w.heap.size) (.slice ah00 ((r.getD [])).length caph00) ((r.getD [])) from OwnI.below Oh00.out hb8 rfl)
  have BB8 : Below w.heap.size w w8 := below_step BB7 hb8
  have ZZ8 : w7.heap.size ≤ w8.heap.size := by have := hb8.size; (try simp at this); omega
  clear hb8 BB7
  have hne8 : ¬ (1 + ((((r.getD [])).length : Nat) : Int) : Int) < 0 := by omega
  go_wp2_with fail
  go_ret
  exact ⟨rfl, BB8⟩
end Go.Proofs.Ytlelcnlibacnaaa
