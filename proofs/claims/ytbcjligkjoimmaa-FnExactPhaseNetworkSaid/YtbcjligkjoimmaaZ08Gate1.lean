/- A valid gate: the tests of the program and of the reference. -/
import Derived.Test.YtbcjligkjoimmaaZ06TyGate
import Derived.Test.YtbcjligkjoimmaaZ07Dat
namespace Go.Proofs.Ytbcjligkjoimmaa
set_option linter.unusedSimpArgs false
set_option linter.unusedVariables false
set_option linter.unnecessarySimpa false
set_option maxRecDepth 200000
open Go.ChangeShapes Go.WideShapes Go.ChangeAt Go.RowKit

def GateOk (n : Int) (g : E3) : Prop := (1 ≤ n ∧ n ≤ 5) ∧ (1 ≤ g.a ∧ g.a ≤ 12) ∧ ((g.a = 12 ∧ g.b = 0 ∧ g.c = 0) ∨ (9 ≤ g.a ∧ g.a ≤ 11 ∧ 0 ≤ g.b ∧ g.b ≤ n - 1 ∧ 0 ≤ g.c ∧ g.c ≤ n - 1 ∧ g.b ≠ g.c) ∨ (g.a < 9 ∧ 0 ≤ g.b ∧ g.b ≤ n - 1 ∧ g.c = 0))
instance (n : Int) (g : E3) : Decidable (GateOk n g) := by unfold GateOk; infer_instance
theorem impl_isTwo_any (k : Int) (w : World) :
    Calls Try.prog 101 #[.int .i64 k] w fun e w' => e = .returned (.bool (decide (9 ≤ k ∧ k ≤ 11))) ∧ w = w' := by
  go_enter Try.func101, Try.ntmps101
  go_wp2_with fail
  refine (within_p _ _ _ _).mono ?_; rintro e w' ⟨rfl, rfl⟩
  go_wp2_with fail
  go_ret
  exact ⟨ret_bool (by by_cases h1 : 9 ≤ k <;> by_cases h2 : k ≤ 11 <;> simp [h1, h2]), rfl⟩
theorem gate_n {n : Int} {g : E3} (h : ¬ (1 ≤ n ∧ n ≤ 5)) : false = decide (GateOk n g) := by symm; rw [decide_eq_false_iff_not]; exact fun k => h k.1
set_option maxHeartbeats 2000000 in
theorem impl_IsValidGate_any (n : Int) (g : E3) (w : World) :
    Calls Try.prog 93 #[.int .i64 n, .agg #[.int .i64 g.a, .int .i64 g.b, .int .i64 g.c]] w fun e w' => e = .returned (.bool (decide (GateOk n g))) ∧ Below w.heap.size w w' := by
  obtain ⟨k, a, b⟩ := g
  by_cases hn : 1 ≤ n ∧ n ≤ 5
  · obtain ⟨hn1, hn2⟩ := hn
    dsimp only
    go_enter Try.func93, Try.ntmps93
    go_wp2_with (first | (go_at_call 58; refine (within_p _ _ _ _).mono ?_; rintro e w' ⟨rfl, rfl⟩) | (go_at_call 101; refine (impl_isTwo_any _ _).mono ?_; rintro e w' ⟨rfl, rfl⟩))
    all_goals (go_ret; exact ⟨ret_bool (by go_light; rw [Bool.eq_iff_iff]; simp only [decide_eq_true_eq, beq_iff_eq, Bool.false_eq_true, true_iff, false_iff, iff_true, iff_false]; (try simp_all [GateOk]) <;> (try omega)), (by repeat (first | exact Below.refl _ _ | assumption | refine Below.drew ?_ | refine below_drewN ?_ _ | refine Below.alloc ?_ (by first | omega | (simp <;> omega)) _ | refine Below.setCell ?_ (by first | omega | (simp <;> omega)) _ | refine Below.trans ?_ (Below.mono (by assumption) (by first | omega | (simp <;> omega)))))⟩)
  · dsimp only
    have d1 : decide (1 ≤ n ∧ n ≤ 5) = false := decide_eq_false hn
    have D1 := Lib.hid d1; have Hn := Lib.hid hn; clear d1 hn
    go_enter Try.func93, Try.ntmps93
    go_wp2_with fail
    refine (within_p _ _ _ _).mono ?_; rintro e w' ⟨rfl, rfl⟩
    rw [D1.out]
    go_wp2_with fail
    go_ret
    exact ⟨ret_bool (gate_n Hn.out), (by repeat (first | exact Below.refl _ _ | assumption | refine Below.drew ?_ | refine below_drewN ?_ _ | refine Below.alloc ?_ (by first | omega | (simp <;> omega)) _ | refine Below.setCell ?_ (by first | omega | (simp <;> omega)) _ | refine Below.trans ?_ (Below.mono (by assumption) (by first | omega | (simp <;> omega)))))⟩
end Go.Proofs.Ytbcjligkjoimmaa
