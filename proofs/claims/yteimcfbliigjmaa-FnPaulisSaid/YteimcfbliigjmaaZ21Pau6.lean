/- A valid operator, a valid image: the program's tests and the reference's. -/
import Derived.Test.YteimcfbliigjmaaZ20Pau5
namespace Go.Proofs.Yteimcfbliigjmaa
set_option linter.unusedSimpArgs false
set_option linter.unusedVariables false
set_option linter.unnecessarySimpa false
set_option maxRecDepth 200000
open Go.ChangeShapes Go.WideShapes Go.ChangeAt Go.RowKit

theorem within_is {x lo hi : Int} {b : Bool} (h : inB x lo hi = b) (w : World) :
    Calls Try.prog 23 #[.int .i64 x, .int .i64 lo, .int .i64 hi] w fun e w' => e = .returned (.bool b) ∧ w = w' := by
  rw [← h]; exact within_any x lo hi w
theorem l1In_is {x lo hi : Int} {b : Bool} (h : inB x lo hi = b) (w : World) :
    Calls Try.prog 39 #[.int .i64 x, .int .i64 lo, .int .i64 hi] w fun e w' => e = .returned (.bool b) ∧ w = w' := by
  rw [← h]; exact l1In_any x lo hi w
theorem pauB_eq {m : Nat} {g : E3} (h0 : 1 ≤ m) (h1 : m ≤ 5) : pauB (m : Int) g = (inB g.a 0 3 && (inB g.b 0 (2 ^ m - 1) && inB g.c 0 (2 ^ m - 1))) := by
  unfold pauB PauOk
  rw [Bool.eq_iff_iff]
  simp only [decide_eq_true_eq, Bool.and_eq_true, inB, Int.toNat_natCast]
  constructor
  · rintro ⟨_, a, b, c⟩; exact ⟨a, b, c⟩
  · rintro ⟨a, b, c⟩; exact ⟨by omega, a, b, c⟩
theorem pauB_n {n : Int} {g : E3} (h : ¬ (1 ≤ n ∧ n ≤ 5)) : pauB n g = false := decide_eq_false fun k => h k.1
theorem pow_small5 {m : Nat} (h : m ≤ 5) : (2 : Int) ^ m ≤ 32 ∧ 1 ≤ (2 : Int) ^ m := by
  obtain rfl | rfl | rfl | rfl | rfl | rfl : m = 0 ∨ m = 1 ∨ m = 2 ∨ m = 3 ∨ m = 4 ∨ m = 5 := by omega
  all_goals decide
set_option maxHeartbeats 1000000 in
theorem impl_IsValidPauli_any (n : Int) (g : E3) (w : World) :
    Calls Try.prog 10 #[.int .i64 n, .agg #[.int .i64 g.a, .int .i64 g.b, .int .i64 g.c]] w fun e w' => e = .returned (.bool (pauB n g)) ∧ Below w.heap.size w w' := by
  by_cases hn : 1 ≤ n ∧ n ≤ 5
  · obtain ⟨m, rfl⟩ : ∃ m : Nat, n = (m : Int) := ⟨n.toNat, by omega⟩
    have N1 := Lib.hid (show inB (m : Int) 1 5 = true from by simpa [inB] using hn)
    rw [pauB_eq (by omega) (by omega)]
    obtain ⟨p1, p2⟩ := pow_small5 (show m ≤ 5 by omega)
    have hw : IntKind.i64.wrap ((2 : Int) ^ m) = (2 : Int) ^ m := IntWalk.i64_in _ (by omega)
    have hw2 : IntKind.i64.wrap ((2 : Int) ^ m - 1) = (2 : Int) ^ m - 1 := IntWalk.i64_in _ (by omega)
    have m0 : (0 : Int) ≤ m := by omega
    have m1 : (m : Int) ≤ 5 := by omega
    obtain ⟨a, b, c⟩ := g
    dsimp only
    clear hn
    obtain ⟨M, hM⟩ : ∃ M : Int, (2 : Int) ^ m - 1 = M := ⟨_, rfl⟩
    rw [hM]
    cases h1 : inB a 0 3 <;> cases h2 : inB b 0 M <;> cases h3 : inB c 0 M
    all_goals
      have H1 := Lib.hid h1; have H2 := Lib.hid h2; have H3 := Lib.hid h3
      clear h1 h2 h3
      go_enter Try.func10, Try.ntmps10
      go_wp2_with fail
      go_quiet ((first | (go_at_call_of 23 m; exact quiet_left (within_is N1.out _)) | (go_at_call_of 23 a; exact quiet_left (within_is H1.out _)) | (go_at_call_of 23 b; exact quiet_left (within_is H2.out _)) | (go_at_call_of 23 c; exact quiet_left (within_is H3.out _))))
      go_wp2_with fail
      go_ret
      exact ⟨rfl, (by repeat (first | exact Below.refl _ _ | assumption | refine Below.drew ?_ | refine below_drewN ?_ _ | refine Below.alloc ?_ (by first | omega | (simp <;> omega)) _ | refine Below.setCell ?_ (by first | omega | (simp <;> omega)) _ | refine Below.trans ?_ (Below.mono (by assumption) (by first | omega | (simp <;> omega)))))⟩
  · have N1 := Lib.hid (show inB n 1 5 = false from by simpa [inB] using hn)
    rw [pauB_n hn]
    clear hn
    go_enter Try.func10, Try.ntmps10
    go_wp2_with fail
    go_quiet ((go_at_call 23; exact quiet_left (within_is N1.out _)))
    go_wp2_with fail
    go_ret
    exact ⟨rfl, (by repeat (first | exact Below.refl _ _ | assumption | refine Below.drew ?_ | refine below_drewN ?_ _ | refine Below.alloc ?_ (by first | omega | (simp <;> omega)) _ | refine Below.setCell ?_ (by first | omega | (simp <;> omega)) _ | refine Below.trans ?_ (Below.mono (by assumption) (by first | omega | (simp <;> omega)))))⟩
set_option maxHeartbeats 1000000 in
theorem spec_l7Valid_any (n : Int) (g : E3) (w : World) :
    Calls Try.prog 18 #[.int .i64 n, .agg #[.int .i64 g.a, .int .i64 g.b, .int .i64 g.c]] w fun e w' => e = .returned (.bool (pauB n g)) ∧ Below w.heap.size w w' := by
  by_cases hn : 1 ≤ n ∧ n ≤ 5
  · obtain ⟨m, rfl⟩ : ∃ m : Nat, n = (m : Int) := ⟨n.toNat, by omega⟩
    have N1 := Lib.hid (show inB (m : Int) 1 5 = true from by simpa [inB] using hn)
    rw [pauB_eq (by omega) (by omega)]
    obtain ⟨p1, p2⟩ := pow_small5 (show m ≤ 5 by omega)
    have hw : IntKind.i64.wrap ((2 : Int) ^ m) = (2 : Int) ^ m := IntWalk.i64_in _ (by omega)
    have hw2 : IntKind.i64.wrap ((2 : Int) ^ m - 1) = (2 : Int) ^ m - 1 := IntWalk.i64_in _ (by omega)
    have m0 : (0 : Int) ≤ m := by omega
    have m1 : (m : Int) ≤ 5 := by omega
    obtain ⟨a, b, c⟩ := g
    dsimp only
    clear hn
    obtain ⟨M, hM⟩ : ∃ M : Int, (2 : Int) ^ m - 1 = M := ⟨_, rfl⟩
    rw [hM]
    cases h1 : inB a 0 3 <;> cases h2 : inB b 0 M <;> cases h3 : inB c 0 M
    all_goals
      have H1 := Lib.hid h1; have H2 := Lib.hid h2; have H3 := Lib.hid h3
      clear h1 h2 h3
      go_enter Try.func18, Try.ntmps18
      go_wp2_with (first | (go_at_call_of 39 m; refine (l1In_is N1.out _).mono ?_; rintro e w' ⟨rfl, rfl⟩) | (go_at_call_of 39 a; refine (l1In_is H1.out _).mono ?_; rintro e w' ⟨rfl, rfl⟩) | (go_at_call_of 39 b; refine (l1In_is H2.out _).mono ?_; rintro e w' ⟨rfl, rfl⟩) | (go_at_call_of 39 c; refine (l1In_is H3.out _).mono ?_; rintro e w' ⟨rfl, rfl⟩))
      go_ret
      exact ⟨rfl, (by repeat (first | exact Below.refl _ _ | assumption | refine Below.drew ?_ | refine below_drewN ?_ _ | refine Below.alloc ?_ (by first | omega | (simp <;> omega)) _ | refine Below.setCell ?_ (by first | omega | (simp <;> omega)) _ | refine Below.trans ?_ (Below.mono (by assumption) (by first | omega | (simp <;> omega)))))⟩
  · have N1 := Lib.hid (show inB n 1 5 = false from by simpa [inB] using hn)
    rw [pauB_n hn]
    clear hn
    go_enter Try.func18, Try.ntmps18
    go_wp2_with (go_at_call 39; refine (l1In_is N1.out _).mono ?_; rintro e w' ⟨rfl, rfl⟩)
    go_ret
    exact ⟨rfl, (by repeat (first | exact Below.refl _ _ | assumption | refine Below.drew ?_ | refine below_drewN ?_ _ | refine Below.alloc ?_ (by first | omega | (simp <;> omega)) _ | refine Below.setCell ?_ (by first | omega | (simp <;> omega)) _ | refine Below.trans ?_ (Below.mono (by assumption) (by first | omega | (simp <;> omega)))))⟩
def imB (n : Int) (g : E3) : Bool := decide ((1 ≤ n ∧ n ≤ 5) ∧ ImOk n g)
theorem imB_eq {n : Int} {g : E3} : imB n g = (pauB n g && (g.a % 2 == 0)) := by
  unfold imB pauB ImOk
  rw [Bool.eq_iff_iff]
  simp [and_assoc]
theorem pauB_a {n : Int} {g : E3} (h : pauB n g = true) : 0 ≤ g.a ∧ g.a ≤ 3 := (of_decide_eq_true h).2.1
end Go.Proofs.Yteimcfbliigjmaa
