/- The walk through the law FnExactNearestCode. -/
import Derived.Test.YtlelcnlibacnaaaRm6
import Derived.Test.YtlelcnlibacnaaaOpen1
import Derived.Test.YtlelcnlibacnaaaDat
import Derived.Deep.DeepMust
import Derived.Deep.RegionHeld3
namespace Go.Proofs.Ytlelcnlibacnaaa
set_option linter.unusedSimpArgs false
set_option linter.unusedVariables false
set_option linter.unnecessarySimpa false
set_option maxRecDepth 200000
open Go.ChangeShapes Go.WideShapes Go.ChangeAt Go.RowKit

set_option maxHeartbeats 2000000 in
set_option maxRecDepth 100000 in
theorem walk_FnExactNearestCode (v0 v1 : Value) (w : World) (h0 : IsInt v0) (h1 : IsInt v1) :
    Calls Try.prog 8 #[v0, v1] w fun e w' => e = .returned (.bool true) ∧ Below w.heap.size w w' := by
  obtain ⟨d_aN, rfl, aNlo, aNhi⟩ := h0
  obtain ⟨d_aWord, rfl, aWordlo, aWordhi⟩ := h1
  have BB0 := Below.refl w.heap.size w
  go_enter Try.func8, Try.ntmps8
  go_wp2_with fail
  refine (spec_NearestCode_any _ _ _).mono ?_; rintro e w1 ⟨rfl, hb1⟩
  have BB1 : Below w.heap.size w w1 := below_step BB0 hb1
  have ZZ1 : w.heap.size ≤ w1.heap.size := by have := hb1.size; (try simp at this); omega
  clear hb1 BB0
  go_wp2_with fail
  refine (impl_NearestCode_any _ _ _).mono ?_; rintro e w2 ⟨rfl, hb2⟩
  have BB2 : Below w.heap.size w w2 := below_step BB1 hb2
  have ZZ2 : w1.heap.size ≤ w2.heap.size := by have := hb2.size; (try simp at this); omega
  clear hb2 BB1
  go_wp2_with fail
  go_ret
  exact ⟨rfl, BB2⟩
end Go.Proofs.Ytlelcnlibacnaaa
