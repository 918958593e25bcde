/- parseInt. -/
import Derived.Test.YtliophgfgmjhiaaGreatDoorZ31Pf8
import Derived.BigRegion
import Derived.Lib.SmallJoins
import Derived.Sort.Grow
namespace Go.Proofs.YtliophgfgmjhiaaGreatDoor
set_option linter.unusedSimpArgs false
set_option linter.unusedVariables false
set_option linter.unnecessarySimpa false
set_option maxRecDepth 200000
open Go.ChangeShapes Go.WideShapes Go.ChangeAt Go.RowKit

set_option maxHeartbeats 2000000 in
theorem impl_parseInt_any (s : ByteArray) (w : World) (hs : s.size ≤ 1048576) (hst : Strc w) :
    Calls Tryz.prog 11 #[.string s] w fun e w' => ∃ q : Bool, e = .returned (.tuple #[.int .i64 (atoG s), .bool q]) ∧ Below w.heap.size w w' := by
  have HS := Lib.hid hst
  rcases he : Lib.atoiAll s.data.toList with v | _ | _
  rotate_left
  · have HG := Lib.hid (show atoG s = 0 from by unfold atoG; rw [he])
    obtain ⟨te, pe, h1⟩ := hst.syn
    have HA := Lib.hid (Any.strconv_Atoi_syntax_var Tryz.laysC172 s (by omega) he te pe w h1)
    clear he h1 hst
    go_enter Tryz.func11, Tryz.ntmps11
    go_wp2_with fail
    refine HA.out.mono ?_; rintro e w1 ⟨N, rfl, _, _, hb1⟩
    have B1 := Lib.hid hb1
    clear hb1
    go_wp2_with fail
    go_ret2
    exact ⟨_, by (rw [HG.out]; try rfl), B1.out⟩
  · have HG := Lib.hid (show atoG s = Lib.atoiSat s.data.toList from by unfold atoG; rw [he])
    obtain ⟨te, pe, h1⟩ := hst.rng
    have HA := Lib.hid (Tryz.strconv_Atoi_range_var s (by omega) he te pe w h1)
    clear he h1 hst
    go_enter Tryz.func11, Tryz.ntmps11
    go_wp2_with fail
    refine HA.out.mono ?_; rintro e w1 ⟨N, rfl, _, _, hb1⟩
    have B1 := Lib.hid hb1
    clear hb1
    go_wp2_with fail
    go_ret2
    exact ⟨_, by (rw [HG.out]; try rfl), B1.out⟩
  · have HG := Lib.hid (show atoG s = v from by unfold atoG; rw [he])
    obtain ⟨v0, v1⟩ := ato_range he
    have HA := Lib.hid (Tryz.strconv_Atoi_ok s (by omega) v he w)
    have HI := Lib.hid (fun w9 h9 => Tryz.strconv_Itoa v v0 v1 w9 h9)
    clear he hst
    go_enter Tryz.func11, Tryz.ntmps11
    go_wp2_with fail
    refine HA.out.mono ?_; rintro e w1 ⟨rfl, hb1⟩
    have B1 := Lib.hid (show Below w.heap.size w w1 from by
      rcases hb1 with rfl | ⟨t, rfl⟩
      · exact Below.refl _ _
      · exact Go.Joins.below_bytesWorld _ _ _ _ (Nat.le_refl _))
    clear hb1
    go_wp2_with fail
    refine (HI.out _ (HS.out.call B1.out).tab).mono ?_; rintro e w2 ⟨rfl, k, os, hw2⟩
    have B2 := Lib.hid (show Below w1.heap.size w1 w2 from by
      subst hw2
      refine ⟨rfl, rfl, rfl, ?_, fun i hi => ?_⟩
      · simp [Go.Sort.grow, World.drewN]
      · simp [Go.Sort.grow, World.drewN, Array.getElem?_append, hi])
    have B3 := Lib.hid (below_step B1.out B2.out)
    clear hw2
    go_wp2_with fail
    go_ret2
    exact ⟨_, by (rw [HG.out]; try rfl), B3.out⟩
end Go.Proofs.YtliophgfgmjhiaaGreatDoor
