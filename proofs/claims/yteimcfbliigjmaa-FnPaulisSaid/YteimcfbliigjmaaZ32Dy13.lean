/- A valid matrix. -/
import Derived.Test.YteimcfbliigjmaaZ31IdxDyadic
import Derived.Test.YteimcfbliigjmaaZ27Dy11
import Derived.BigRegion
import Derived.BigQuiet
namespace Go.Proofs.Yteimcfbliigjmaa
set_option linter.unusedSimpArgs false
set_option linter.unusedVariables false
set_option linter.unnecessarySimpa false
set_option maxRecDepth 200000
open Go.ChangeShapes Go.WideShapes Go.ChangeAt Go.RowKit

theorem IsValidMatrix1_ok (xs : List Dy) (w : World) (h : ∀ x ∈ xs, x.ok) : PredB 52 #[] encDy (fun _ => false) xs w := by
  intro W x hx _
  have HX := Lib.hid (h x hx)
  have S0 := Lib.hid ((Sb.nil W).push x.cs 60 rfl)
  have CV := Lib.hid (fun W => impl_IsValidDyadic_ok x W (h x hx))
  clear h hx HX
  obtain ⟨⟨a, b, c, d⟩, e⟩ := x
  show Calls Try.prog 52 #[.agg #[.int .i64 a, .int .i64 b, .int .i64 c, .int .i64 d, .int .i64 (e : Int)]] W _
  dsimp only [Dy.cs, Dy.v] at S0 CV
  go_enter Try.func52, Try.ntmps52
  go_wp2_with fail
  generalize (W.alloc (.cells #[.int .i64 a, .int .i64 b, .int .i64 c, .int .i64 d, .int .i64 (e : Int)] 60)) = w1 at *
  refine (CV.out _).mono ?_; rintro e2 w2 ⟨rfl, hb2⟩
  have S2 := Lib.hid (S0.out.call hb2)
  clear hb2
  go_wp2_with fail
  go_ret
  exact ⟨rfl, S2.out.bel⟩
theorem Rd.kept {w w' : World} {n sz : Nat} {v : Value} {xs : List Value} {B : Nat} (h : Rd w v n sz xs) (hb : Below B w w') (hB : w.heap.size ≤ B) : Rd w' v n sz xs :=
  Rd.below h (hb.mono hB) rfl
set_option maxHeartbeats 8000000 in
theorem impl_IsValidMatrix_ok (r c : Nat) (v : Value) (xs : List Dy) (w : World) (hr : MDim r) (hc : MDim c) (hl : xs.length = r * c) (hv : RdE w v Dy.cs 5 xs) (h : ∀ x ∈ xs, x.ok) :
    Calls Try.prog 31 #[.agg #[.int .i64 (r : Int), .int .i64 (c : Int), v]] w fun e w' => e = .returned (.bool true) ∧ Below w.heap.size w w' := by
  have HR := Lib.hid hr
  have HC := Lib.hid hc
  have hr32 := hr.le.2
  have hc32 := hc.le.2
  have hm : r * c ≤ 32 * 32 := Nat.mul_le_mul hr32 hc32
  obtain ⟨a, cap, rfl⟩ := hv.form_any
  have S0 := Lib.hid ((Sb.nil w).push [.int .i64 (r : Int), .int .i64 (c : Int), .slice a xs.length cap] 38 rfl)
  have V0 := Lib.hid (RdE.below hv (show Below w.heap.size w (w.alloc (.cells #[.int .i64 (r : Int), .int .i64 (c : Int), .slice a xs.length cap] 38)) from (by repeat (first | exact Below.refl _ _ | assumption | refine Below.drew ?_ | refine below_drewN ?_ _ | refine Below.alloc ?_ (by first | omega | (simp <;> omega)) _ | refine Below.setCell ?_ (by first | omega | (simp <;> omega)) _ | refine Below.trans ?_ (Below.mono (by assumption) (by first | omega | (simp <;> omega)))))) rfl)
  have hrc : ((xs.length : Nat) : Int) = (r : Int) * (c : Int) := by rw [hl]; simp
  have hw : IntKind.i64.wrap ((r : Int) * (c : Int)) = (xs.length : Int) := by rw [← hrc]; exact IntWalk.i64_in _ (by omega)
  have eg := enters_of Try.func52 (by kernel_rfl) rfl
  have CF := Lib.hid (fun W V => slices_ContainsFunc_Dyadic 52 #[] (fun _ => false) eg (.slice a xs.length cap) xs W V (IsValidMatrix1_ok xs W h))
  have ha : xs.any (fun _ => false) = false := by simp
  rw [ha] at CF
  clear hr hc hr32 hc32 hm hl hv hrc eg ha h
  go_enter Try.func31, Try.ntmps31
  go_wp2_with fail
  generalize (w.alloc (.cells #[.int .i64 (r : Int), .int .i64 (c : Int), .slice a xs.length cap] 38)) = w1 at *
  refine (impl_isDim_ok r _ HR.out).mono ?_; rintro e w2 ⟨rfl, rfl⟩
  obtain ⟨⟨a0, a1, a2⟩, -⟩ := S0.out.head.c3
  go_wp2_with fail
  refine (impl_isDim_ok c _ HC.out).mono ?_; rintro e w2 ⟨rfl, rfl⟩
  go_wp2_with fail
  refine (CF.out _ V0.out).mono ?_; rintro e w2 ⟨rfl, hb2⟩
  have S2 := Lib.hid (S0.out.call hb2)
  clear hb2 a0 a1 a2
  go_wp2_with fail
  go_ret
  exact ⟨rfl, S2.out.bel⟩
end Go.Proofs.Yteimcfbliigjmaa
