/- What the arguments of the laws look like as values: integers, strings and plain structs. -/
import Derived.Test.YtnckabohlakbgaaGreatZ00Base
import Derived.Deep.Light
import Derived.Test.YtnckabohlakbgaaGreatZ03M
import Derived.Deep.RegionLaw
import Derived.Deep.RegionHeld3
import Derived.Deep.AppendLies
import Derived.Deep.DrawnRows
import Derived.Deep.DeepFit
import Derived.Deep.DeepMust
import Derived.ChangeSlices
namespace Go.Proofs.YtnckabohlakbgaaGreat
set_option linter.unusedSimpArgs false
set_option linter.unusedVariables false
set_option linter.unnecessarySimpa false
set_option maxRecDepth 200000
open Go.ChangeShapes Go.WideShapes Go.ChangeAt Go.RowKit Go.Joins
open Go.ChangeMaps (open_string shut_string)

section
variable {H : Type} {enc : TypeId × Value → H} {W : World} {base : Nat} {spare : Nat → Bool} {held : Bool} {r : Reach} {b0 : Nat}

end
end Go.Proofs.YtnckabohlakbgaaGreat
namespace Go.Proofs.YtnckabohlakbgaaGreat
set_option linter.unusedSimpArgs false
set_option linter.unusedVariables false
set_option linter.unnecessarySimpa false
set_option maxRecDepth 200000
open Go.ChangeShapes Go.WideShapes Go.ChangeAt Go.RowKit

def inB (n lo hi : Int) : Bool := decide (lo ≤ n) && decide (n ≤ hi)

theorem within_any (n lo hi : Int) (w : World) :
    Calls Tryz.prog 39 #[.int .i64 n, .int .i64 lo, .int .i64 hi] w fun e w' => e = .returned (.bool (inB n lo hi)) ∧ w = w' := by
  by_cases h1 : lo ≤ n
  · go_enter Tryz.func39, Tryz.ntmps39
    go_wp2
    go_ret
    exact ⟨by simp [inB, h1], rfl⟩
  · go_enter Tryz.func39, Tryz.ntmps39
    go_wp2
    go_ret
    exact ⟨by simp [inB]; omega, rfl⟩

theorem l1In_any (n lo hi : Int) (w : World) :
    Calls Tryz.prog 72 #[.int .i64 n, .int .i64 lo, .int .i64 hi] w fun e w' => e = .returned (.bool (inB n lo hi)) ∧ w = w' := by
  by_cases h1 : lo ≤ n
  · go_enter Tryz.func72, Tryz.ntmps72
    go_wp2
    go_ret
    exact ⟨by simp [inB, h1], rfl⟩
  · go_enter Tryz.func72, Tryz.ntmps72
    go_wp2
    go_ret
    exact ⟨by simp [inB]; omega, rfl⟩

end Go.Proofs.YtnckabohlakbgaaGreat
namespace Go.Proofs.YtnckabohlakbgaaGreat
set_option linter.unusedSimpArgs false
set_option linter.unusedVariables false
set_option linter.unnecessarySimpa false
set_option maxRecDepth 200000
open Go.ChangeShapes Go.WideShapes Go.ChangeAt Go.RowKit

theorem within_p (n lo hi : Int) (w : World) :
    Calls Tryz.prog 39 #[.int .i64 n, .int .i64 lo, .int .i64 hi] w fun e w' => e = .returned (.bool (decide (lo ≤ n ∧ n ≤ hi))) ∧ w = w' :=
  (within_any n lo hi w).mono fun _ _ ⟨h, h'⟩ => ⟨by rw [h]; simp [inB], h'⟩
theorem l1In_p (n lo hi : Int) (w : World) :
    Calls Tryz.prog 72 #[.int .i64 n, .int .i64 lo, .int .i64 hi] w fun e w' => e = .returned (.bool (decide (lo ≤ n ∧ n ≤ hi))) ∧ w = w' :=
  (l1In_any n lo hi w).mono fun _ _ ⟨h, h'⟩ => ⟨by rw [h]; simp [inB], h'⟩

def IsDim (n : Int) : Prop := n = 2 ∨ n = 4 ∨ n = 8
instance (n : Int) : Decidable (IsDim n) := by unfold IsDim; infer_instance
def TLok (n k i j m : Int) : Prop := IsDim n ∧ 0 ≤ i ∧ i ≤ n - 1 ∧ 0 ≤ j ∧ j ≤ n - 1 ∧ ((k = 1 ∧ j = 0 ∧ 1 ≤ m ∧ m ≤ 7) ∨ (k = 2 ∧ i < j ∧ m = 0) ∨ (k = 3 ∧ i < j ∧ 0 ≤ m ∧ m ≤ 7))
instance (n k i j m : Int) : Decidable (TLok n k i j m) := by unfold TLok; infer_instance


end Go.Proofs.YtnckabohlakbgaaGreat
namespace Go.Proofs.YtnckabohlakbgaaGreat
set_option linter.unusedSimpArgs false
set_option linter.unusedVariables false
set_option linter.unnecessarySimpa false
set_option maxRecDepth 200000
open Go.ChangeShapes Go.WideShapes Go.ChangeAt Go.RowKit

end Go.Proofs.YtnckabohlakbgaaGreat
namespace Go.Proofs.YtnckabohlakbgaaGreat
set_option linter.unusedSimpArgs false
set_option linter.unusedVariables false
set_option linter.unnecessarySimpa false
set_option maxRecDepth 200000
open Go.ChangeShapes Go.WideShapes Go.ChangeAt Go.RowKit

/-- A slice of whole numbers that the call itself has made. -/
def OwnI (w : World) (base : Nat) (v : Value) (zs : List Int) : Prop := w.ownsRow base 3 1 v zs.length (zs.map (Value.int .i64))
theorem OwnI.rd {w : World} {base : Nat} {v : Value} {zs : List Int} (h : OwnI w base v zs) : RdI w v zs := Rd.of_own h
theorem pow_small (k : Nat) (h : k ≤ 61) : (2 : Int) ^ k ≤ 2305843009213693952 ∧ 1 ≤ (2 : Int) ^ k := by
  have h1 : (2 : Nat) ^ k ≤ 2 ^ 61 := Nat.pow_le_pow_right (by decide) h
  have h2 : 0 < (2 : Nat) ^ k := Nat.pow_pos (by decide)
  have e : ((2 : Int) ^ k) = ((2 ^ k : Nat) : Int) := by simp
  rw [e]
  constructor
  · exact Int.ofNat_le.2 h1
  · omega

attribute [local go_sem ↓] Go.wp_at_zero Go.wp_at_succ
end Go.Proofs.YtnckabohlakbgaaGreat
namespace Go.Proofs.YtnckabohlakbgaaGreat
set_option linter.unusedSimpArgs false
set_option linter.unusedVariables false
set_option linter.unnecessarySimpa false
set_option maxRecDepth 200000
open Go.ChangeShapes Go.WideShapes Go.ChangeAt Go.RowKit

theorem OwnI.forms {w : World} {base : Nat} {v : Value} {zs : List Int} (h : OwnI w base v zs) : ∃ a cap, v = .slice a zs.length cap := by
  rcases Go.Joins.ownsRow_forms h with ⟨rfl, h0⟩ | ⟨g, cap, rfl⟩
  · exact ⟨none, 0, by rw [h0]⟩
  · exact ⟨_, _, rfl⟩
theorem OwnI.below {w w' : World} {base B : Nat} {v : Value} {zs : List Int} (h : OwnI w base v zs) (hb : Below B w w') (hB : B = w.heap.size) : OwnI w' base v zs := own_below h hb hB
theorem OwnI.set {w : World} {base : Nat} {v : Value} {zs : List Int} (h : OwnI w base v zs) {a : Addr} (ha : a.block < base) (u : Value) : OwnI (w.setCell a u) base v zs := ownsRow_setCell_below h ha u
theorem OwnI.le {w : World} {base base' : Nat} {v : Value} {zs : List Int} (h : OwnI w base v zs) (hb : base' ≤ base) : OwnI w base' v zs := own_le h hb

theorem OwnI.lt {w : World} {base : Nat} {v : Value} {zs : List Int} (h : OwnI w base v zs) : ∀ k, v.ownBlock = some k → base ≤ k ∧ k < w.heap.size := World.ownsRow.lt h
end Go.Proofs.YtnckabohlakbgaaGreat
namespace Go.Proofs.YtnckabohlakbgaaGreat
set_option linter.unusedSimpArgs false
set_option linter.unusedVariables false
set_option linter.unnecessarySimpa false
set_option maxRecDepth 200000
open Go.ChangeShapes Go.WideShapes Go.ChangeAt Go.RowKit Go.Joins

theorem addr_none {w : World} {a : Addr} {u : Value} (h : w.cell? a = some u) : a.spot = none := by
  unfold World.cell? at h
  split at h
  · split at h
    · cases h
    · rename_i hs; simpa using hs
  · cases h
section
variable {H : Type} {enc : TypeId × Value → H} {W : World} {base : Nat} {spare : Nat → Bool} {held : Bool} {r : Reach} {b0 : Nat}
end

end Go.Proofs.YtnckabohlakbgaaGreat
