/- The matching power of two ring numbers: the search, in the program and in the reference. -/
import Derived.Test.YtfjokpgcmhebfaaMatch
import Derived.Deep.QuietTactic
import Derived.BigQuiet
namespace Go.Proofs.Ytfjokpgcmhebfaa
set_option linter.unusedSimpArgs false
set_option linter.unusedVariables false
open Go.ChangeShapes Go.WideShapes Go.ChangeAt Go.RowKit
attribute [local go_sem ↓] Go.wp_at_zero Go.wp_at_succ

theorem quiet_left {P : Program} {f : FuncId} {args : Array Value} {w : World} {n : Nat} {v : Value}
    (h : Calls P f args (w.drewN n) fun e w' => e = .returned v ∧ w.drewN n = w') : Calls P f args (w.drewN n) fun e w'' => e = .returned v ∧ ∃ m, w'' = w.drewN m :=
  h.mono fun _ _ ⟨he, hm⟩ => ⟨he, n, hm.symm⟩

def addR (x y : R4) : R4 := ⟨x.a + y.a, x.b + y.b, x.c + y.c, x.d + y.d⟩
def oddc (s : R4) : Int := s.a % 2 + s.b % 2 + s.c % 2 + s.d % 2
def okM (x y : R4) (m : Nat) : Bool := decide (oddc (addR x (turnN m y)) = 0 ∨ (oddc (addR x (turnN m y)) = 4 ∧ resF x.a x.b x.c x.d = 1))
def firstM (p : Nat → Bool) : Nat → Nat → Option Nat
  | 0, _ => none
  | f + 1, m => if p m then some m else firstM p f (m + 1)
def powM (x y : R4) : Option Nat := firstM (okM x y) 8 0
theorem first_hit {p : Nat → Bool} {r : Option Nat} {m : Nat} (h : Hid (r = firstM p (8 - m) m)) (hm : m < 8) (hp : p m = true) : r = some m := by
  rw [h.out, show 8 - m = (8 - m - 1) + 1 by omega, firstM, if_pos hp]
theorem first_miss {p : Nat → Bool} {r : Option Nat} {m : Nat} (h : Hid (r = firstM p (8 - m) m)) (hm : m < 8) (hp : ¬ p m = true) : Hid (r = firstM p (8 - (m + 1)) (m + 1)) := by
  show _ = _
  rw [h.out, show 8 - m = (8 - (m + 1)) + 1 by omega, firstM, if_neg hp]
theorem first_end {p : Nat → Bool} {r : Option Nat} {m : Nat} (h : Hid (r = firstM p (8 - m) m)) (hm : 8 ≤ m) : r = none := by
  rw [h.out, show 8 - m = 0 by omega]; rfl

theorem spec_l11Odd_m (n : Int) (w : World) :
    Calls Try.prog 27 #[.int .i64 n] w fun e w' => e = .returned (.int .i64 (n % 2)) ∧ w = w' :=
  (spec_l11Odd_any n w).mono fun _ _ ⟨h, h'⟩ => ⟨by rw [h]; congr 2; split <;> omega, h'⟩
theorem spec_l1Add_any (x y : R4) (w : World) (hx : GoodS x) (hy : GoodS y) :
    Calls Try.prog 28 #[.agg #[.int .i64 x.a, .int .i64 x.b, .int .i64 x.c, .int .i64 x.d], .agg #[.int .i64 y.a, .int .i64 y.b, .int .i64 y.c, .int .i64 y.d]] w fun e w' => e = .returned (.agg #[.int .i64 (addR x y).a, .int .i64 (addR x y).b, .int .i64 (addR x y).c, .int .i64 (addR x y).d]) ∧ Below w.heap.size w w' := by
  obtain ⟨⟨x1, x2⟩, ⟨x3, x4⟩, ⟨x5, x6⟩, x7, x8⟩ := good_bd hx
  obtain ⟨⟨y1, y2⟩, ⟨y3, y4⟩, ⟨y5, y6⟩, y7, y8⟩ := good_bd hy
  clear hx hy
  go_enter Try.func28, Try.ntmps28
  go_wp2_with fail
  go_outline
  exact bodyPost_ret (v := .agg #[.int .i64 (x.a + y.a), .int .i64 (x.b + y.b), .int .i64 (x.c + y.c), .int .i64 (x.d + y.d)]) (by simp [results, Try.results28, go_sem]) rfl ⟨rfl, (by repeat (first | exact Below.refl _ _ | assumption | refine Below.drew ?_ | refine below_drewN ?_ _ | refine Below.alloc ?_ (by first | omega | (simp <;> omega)) _ | refine Below.setCell ?_ (by first | omega | (simp <;> omega)) _ | refine Below.trans ?_ (Below.mono (by assumption) (by first | omega | (simp <;> omega)))))⟩

theorem impl_parities_any (s : R4) (w : World) (ha : -4611686018427387904 ≤ s.a ∧ s.a ≤ 4611686018427387904) (hb : -4611686018427387904 ≤ s.b ∧ s.b ≤ 4611686018427387904) (hc : -4611686018427387904 ≤ s.c ∧ s.c ≤ 4611686018427387904) (hd : -4611686018427387904 ≤ s.d ∧ s.d ≤ 4611686018427387904) :
    Calls Try.prog 19 #[.agg #[.int .i64 s.a, .int .i64 s.b, .int .i64 s.c, .int .i64 s.d]] w fun e w' => e = .returned (.tuple #[.bool (oddc s == 0), .bool (oddc s == 4)]) ∧ Below w.heap.size w w' := by
  have b1 := bits_and1 s.a (by omega) (by omega)
  have b2 := bits_and1 s.b (by omega) (by omega)
  have b3 := bits_and1 s.c (by omega) (by omega)
  have b4 := bits_and1 s.d (by omega) (by omega)
  go_enter Try.func19, Try.ntmps19
  go_wp2_with fail
  go_outline
  go_ret2
  exact ⟨rfl, (by repeat (first | exact Below.refl _ _ | assumption | refine Below.drew ?_ | refine below_drewN ?_ _ | refine Below.alloc ?_ (by first | omega | (simp <;> omega)) _ | refine Below.setCell ?_ (by first | omega | (simp <;> omega)) _ | refine Below.trans ?_ (Below.mono (by assumption) (by first | omega | (simp <;> omega)))))⟩
end Go.Proofs.Ytfjokpgcmhebfaa
