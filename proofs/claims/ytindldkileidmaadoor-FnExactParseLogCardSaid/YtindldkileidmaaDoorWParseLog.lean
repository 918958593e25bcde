/- The walk through the law FnExactParseLog. -/
import Derived.Test.YtindldkileidmaaDoorPl3
import Derived.Test.YtindldkileidmaaDoorPl4
import Derived.Test.YtindldkileidmaaDoorElRewrite
namespace Go.Proofs.YtindldkileidmaaDoor
set_option linter.unusedSimpArgs false
set_option linter.unusedVariables false
set_option linter.unnecessarySimpa false
set_option maxRecDepth 200000
open Go.ChangeShapes Go.WideShapes Go.ChangeAt Go.RowKit

set_option maxRecDepth 100000 in
set_option maxHeartbeats 1000000 in
theorem walk_FnExactParseLog (s : ByteArray) (w : World) (hz : s.size ≤ 9223372036854775807) (hml : MaxL w) (hst : Strc w) (htb : Table w) :
    Calls Tryd.prog 3 #[.string s] w fun e w' => e = .returned (.bool true) ∧ Below w.heap.size w w' := by
  by_cases hs : s.size ≤ 1048576
  · have i0 : ¬ (1048576 : Int) < (s.size : Int) := by omega
    have HS0 := Lib.hid (fun w9 => spec_ParseLog_any s w9 hs)
    have HI0 := Lib.hid (fun w9 h1 h2 h3 => impl_ParseLog_any s w9 hs h1 h2 h3)
    obtain ⟨e1, e2⟩ := log_alike (f := readG) (g := atoG) (fun k hk => read_num hk) (fun k hk => ato_num hk) s
    rw [← e1, ← e2] at HI0
    have hlen := logR_len readG s
    clear e1 e2
    obtain ⟨r, hr⟩ : ∃ r, r = logR readG s := ⟨_, rfl⟩
    obtain ⟨q, hq⟩ : ∃ q, q = logQ readG s := ⟨_, rfl⟩
    rw [← hr, ← hq] at HI0 HS0
    rw [← hr] at hlen
    clear hr hq
    have HM := Lib.hid hml
    have HC := Lib.hid hst
    have HT := Lib.hid htb
    clear hml hst htb
    go_enter Tryd.func3, Tryd.ntmps3
    go_wp2_with fail
    refine (HS0.out _).mono ?_; rintro e w1 ⟨v1, rfl, ho1, hb1⟩
    obtain ⟨a1, cap1, hv1⟩ := ho1.forms
    have Ho1 := Lib.hid ho1; clear ho1
    have L1 : ∀ g, v1.ownBlock = some g → g < w1.heap.size := fun g hg => (Ho1.out.lt g hg).2
    have BB1 : Below w.heap.size w w1 := hb1
    rw [hv1]
    go_wp2_with fail
    refine (HI0.out _ (HM.out.call BB1) (HC.out.call BB1) (HT.out.call BB1)).mono ?_; rintro e w2 ⟨v2, rfl, ho2, hb2⟩
    obtain ⟨a2, cap2, hv2⟩ := ho2.forms
    have zw : w.heap.size ≤ w1.heap.size := hb1.size
    have O1 := Lib.hid (Ho1.out.below hb2 rfl)
    have O2 := Lib.hid ho2; clear ho2
    have L2 : ∀ g, v2.ownBlock = some g → w1.heap.size ≤ g ∧ g < w2.heap.size := fun g hg => O2.out.lt g hg
    have h12 : w1.heap.size ≤ w2.heap.size := hb2.size
    rw [hv2]
    go_wp2_with fail
    -- the first comparison
    rw [← hv1, ← hv2]
    refine (laws_eqRewriteS_any _ _ _ _ _ O2.out.rd O1.out.rd).mono ?_; rintro e w3 ⟨rfl, hb3⟩
    rw [show decide (r = r) = true from decide_eq_true rfl]
    replace O1 := Lib.hid (O1.out.below hb3 rfl)
    replace O2 := Lib.hid (O2.out.below hb3 rfl)
    have z3 : w2.heap.size ≤ w3.heap.size := hb3.size
    have BB2 : Below w.heap.size w w2 := (by repeat (first | exact Below.refl _ _ | assumption | refine Below.drew ?_ | refine below_drewN ?_ _ | refine Below.alloc ?_ (by first | omega | (simp <;> omega)) _ | refine Below.setCell ?_ (by first | omega | (simp <;> omega)) _ | refine Below.trans ?_ (Below.mono (by assumption) (by first | omega | (simp <;> omega)))))
    have BB3 : Below w.heap.size w w3 := (by repeat (first | exact Below.refl _ _ | assumption | refine Below.drew ?_ | refine below_drewN ?_ _ | refine Below.alloc ?_ (by first | omega | (simp <;> omega)) _ | refine Below.setCell ?_ (by first | omega | (simp <;> omega)) _ | refine Below.trans ?_ (Below.mono (by assumption) (by first | omega | (simp <;> omega)))))
    clear hb1 hb2 hb3 Ho1 BB2
    rw [hv1, hv2]
    go_wp2_with fail
    -- the first result is written over
    rw [← hv2]
    refine (laws_markRewriteS_any _ _ _ _ _ _ O2.out (by omega) (by omega) (by omega)).mono ?_; rintro e w4 ⟨rfl, ho4, hg4⟩
    have M4 : Mid (w1.heap.size) w2.heap.size w3 w4 := Mid.of_grown hg4 (fun k hk => by have := L2 k hk; omega)
    replace O1 := Lib.hid (show OwnE w4 w.heap.size 36 v1 E3.cs 3 r from M4.own O1.out (fun g hg => by have := L1 g hg; omega))
    replace O2 := Lib.hid ho4; clear ho4 hg4
    have BB4 : Below w.heap.size w w4 := Below.trans BB3 (M4.below (by omega) (by omega))
    have z4 : w2.heap.size ≤ w4.heap.size := by have := M4.size; omega
    clear M4 BB3 z3
    rw [hv2]
    go_wp2_with fail
    -- it holds what was written
    rw [← hv2]
    refine (laws_heldRewriteS_any _ _ _ _ (Rd.of_own O2.out) (by omega) (by omega) (by omega)).mono ?_; rintro e w5 ⟨rfl, hb5⟩
    replace O1 := Lib.hid (O1.out.below hb5 rfl)
    replace O2 := Lib.hid (own_below O2.out hb5 rfl)
    have BB5 : Below w.heap.size w w5 := (by repeat (first | exact Below.refl _ _ | assumption | refine Below.drew ?_ | refine below_drewN ?_ _ | refine Below.alloc ?_ (by first | omega | (simp <;> omega)) _ | refine Below.setCell ?_ (by first | omega | (simp <;> omega)) _ | refine Below.trans ?_ (Below.mono (by assumption) (by first | omega | (simp <;> omega)))))
    have z5 : w2.heap.size ≤ w5.heap.size := by have := hb5.size; omega
    have hne : ¬ (1 : Int) + ((r.length * 3 : Nat) : Int) < 0 := by omega
    clear hb5 BB4 z4
    rw [hv2]
    go_wp2_with fail
    -- the second call
    refine (HI0.out _ (HM.out.call BB5) (HC.out.call BB5) (HT.out.call BB5)).mono ?_; rintro e w6 ⟨v3, rfl, ho6, hb6⟩
    obtain ⟨a3, cap3, hv3⟩ := ho6.forms
    replace O1 := Lib.hid (O1.out.below hb6 rfl)
    replace O2 := Lib.hid (own_below O2.out hb6 rfl)
    have O3 := Lib.hid ho6; clear ho6
    have BB6 : Below w.heap.size w w6 := (by repeat (first | exact Below.refl _ _ | assumption | refine Below.drew ?_ | refine below_drewN ?_ _ | refine Below.alloc ?_ (by first | omega | (simp <;> omega)) _ | refine Below.setCell ?_ (by first | omega | (simp <;> omega)) _ | refine Below.trans ?_ (Below.mono (by assumption) (by first | omega | (simp <;> omega)))))
    have z6 : w2.heap.size ≤ w6.heap.size := by have := hb6.size; omega
    have z6' : w1.heap.size ≤ w6.heap.size := by omega
    clear hb6 BB5 z5
    rw [hv3]
    go_wp2_with fail
    -- the second comparison
    rw [← hv1, ← hv3]
    refine (laws_eqRewriteS_any _ _ _ _ _ O3.out.rd O1.out.rd).mono ?_; rintro e w7 ⟨rfl, hb7⟩
    rw [show decide (r = r) = true from decide_eq_true rfl]
    replace O2 := Lib.hid (own_below O2.out hb7 rfl)
    have z7 : w.heap.size ≤ w7.heap.size := by have := hb7.size; omega
    have BB7 : Below w.heap.size w w7 := (by repeat (first | exact Below.refl _ _ | assumption | refine Below.drew ?_ | refine below_drewN ?_ _ | refine Below.alloc ?_ (by first | omega | (simp <;> omega)) _ | refine Below.setCell ?_ (by first | omega | (simp <;> omega)) _ | refine Below.trans ?_ (Below.mono (by assumption) (by first | omega | (simp <;> omega)))))
    clear hb7 BB6 z6
    rw [hv1, hv3]
    go_wp2_with fail
    -- the first result still holds what was written
    rw [← hv2]
    refine (laws_heldRewriteS_any _ _ _ _ (Rd.of_own O2.out) (by omega) (by omega) (by omega)).mono ?_; rintro e w8 ⟨rfl, hb8⟩
    go_wp2_with fail
    go_ret
    exact ⟨rfl, (by repeat (first | exact Below.refl _ _ | assumption | refine Below.drew ?_ | refine below_drewN ?_ _ | refine Below.alloc ?_ (by first | omega | (simp <;> omega)) _ | refine Below.setCell ?_ (by first | omega | (simp <;> omega)) _ | refine Below.trans ?_ (Below.mono (by assumption) (by first | omega | (simp <;> omega)))))⟩
  · have i0 : (1048576 : Int) < (s.size : Int) := by omega
    clear hs hml hst htb
    go_enter Tryd.func3, Tryd.ntmps3
    go_wp2_with fail
    go_ret
    exact ⟨rfl, (by repeat (first | exact Below.refl _ _ | assumption | refine Below.drew ?_ | refine below_drewN ?_ _ | refine Below.alloc ?_ (by first | omega | (simp <;> omega)) _ | refine Below.setCell ?_ (by first | omega | (simp <;> omega)) _ | refine Below.trans ?_ (Below.mono (by assumption) (by first | omega | (simp <;> omega)))))⟩
end Go.Proofs.YtindldkileidmaaDoor
