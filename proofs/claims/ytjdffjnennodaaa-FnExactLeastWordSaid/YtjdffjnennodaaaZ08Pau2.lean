/- Letters, signs, the product and the commuting of Pauli operators: the program's and the reference's. -/
import Derived.Test.YtjdffjnennodaaaZ07M
import Derived.Test.YtjdffjnennodaaaZ05M
import Derived.BigQuiet
import Derived.Deep.QuietTactic
namespace Go.Proofs.Ytjdffjnennodaaa
set_option linter.unusedSimpArgs false
set_option linter.unusedVariables false
set_option linter.unnecessarySimpa false
set_option maxRecDepth 200000
open Go.ChangeShapes Go.WideShapes Go.ChangeAt Go.RowKit

theorem bt_le (x q : Nat) : bt x q ≤ 1 := by unfold bt; cases x.testBit q <;> simp
theorem bit_one (y k : Nat) (h : y < 9223372036854775808) : bits .and .i64 ((y : Int) / 2 ^ k) 1 = (bt y k : Int) := by
  have e : ((y : Int) / 2 ^ k) = ((y / 2 ^ k : Nat) : Int) := by simp
  have hle : y / 2 ^ k ≤ y := Nat.div_le_self _ _
  rw [e]
  unfold bt
  rw [Nat.testBit, Nat.one_and_eq_mod_two, Nat.shiftRight_eq_div_pow]
  generalize y / 2 ^ k = q at hle
  rw [bits_and1 _ (by omega) (by omega)]
  have h2 : q % 2 = 0 ∨ q % 2 = 1 := by omega
  have e3 : ((q : Int) % 2) = ((q % 2 : Nat) : Int) := by simp
  rw [e3]
  rcases h2 with h2 | h2 <;> rw [h2] <;> simp
theorem spec_l7Letter_any (a : PN) (q : Nat) (w : World) (ha : PNok a) (hq : q ≤ 60) :
    Calls Try.prog 66 #[.agg #[.int .i64 ((a).p : Int), .int .i64 ((a).x : Int), .int .i64 ((a).z : Int)], .int .i64 (q : Int)] w fun e w' => e = .returned (.int .i64 (ltr a q : Int)) ∧ Below w.heap.size w w' := by
  obtain ⟨p, x, z⟩ := a
  obtain ⟨hp, hx, hz⟩ := ha
  dsimp only at *
  have b1 := bit_one x q (by omega)
  have b2 := bit_one z q (by omega)
  have l1 := bt_le x q; have l2 := bt_le z q
  go_enter Try.func66, Try.ntmps66
  go_wp2_with fail
  go_ret
  exact ⟨ret_int (by unfold ltr; simp), (by repeat (first | exact Below.refl _ _ | assumption | refine Below.drew ?_ | refine below_drewN ?_ _ | refine Below.alloc ?_ (by first | omega | (simp <;> omega)) _ | refine Below.setCell ?_ (by first | omega | (simp <;> omega)) _ | refine Below.trans ?_ (Below.mono (by assumption) (by first | omega | (simp <;> omega)))))⟩
set_option maxHeartbeats 1000000 in
theorem spec_l7Sign_any (x y : Nat) (w : World) (hx : x ≤ 3) (hy : y ≤ 3) :
    Calls Try.prog 67 #[.int .i64 (x : Int), .int .i64 (y : Int)] w fun e w' => e = .returned (.int .i64 (sgT x y : Int)) ∧ Below w.heap.size w w' := by
  have c : (w.alloc (.cells #[.int .i64 0, .int .i64 0, .int .i64 0, .int .i64 0, .int .i64 0, .int .i64 0, .int .i64 3, .int .i64 1, .int .i64 0, .int .i64 1, .int .i64 0, .int .i64 3, .int .i64 0, .int .i64 3, .int .i64 1, .int .i64 0] 102)).cell? ⟨w.heap.size, x * 4 + y, none⟩ = some (.int .i64 (sgT x y : Int)) := by
    rw [World.cell?_alloc_at _ _ _ _ rfl]
    obtain rfl | rfl | rfl | rfl : x = 0 ∨ x = 1 ∨ x = 2 ∨ x = 3 := by omega
    all_goals
      obtain rfl | rfl | rfl | rfl : y = 0 ∨ y = 1 ∨ y = 2 ∨ y = 3 := by omega
      all_goals rfl
  have i1 : (x : Int) < 4 := by omega
  have i2 : (y : Int) < 4 := by omega
  have i3 : (0 : Int) ≤ x := by omega
  have i4 : (0 : Int) ≤ y := by omega
  go_enter Try.func67, Try.ntmps67
  go_wp2_with fail
  go_ret
  exact ⟨rfl, (by repeat (first | exact Below.refl _ _ | assumption | refine Below.drew ?_ | refine below_drewN ?_ _ | refine Below.alloc ?_ (by first | omega | (simp <;> omega)) _ | refine Below.setCell ?_ (by first | omega | (simp <;> omega)) _ | refine Below.trans ?_ (Below.mono (by assumption) (by first | omega | (simp <;> omega)))))⟩
theorem tmod4 (p : Int) : (Int.tmod p 4 + 4) % 4 = p % 4 ∧ -3 ≤ Int.tmod p 4 ∧ Int.tmod p 4 ≤ 3 := by
  have h := Int.tmod_def p 4
  have h1 := Int.tmod_lt_of_pos p (show (0 : Int) < 4 by decide)
  have h2 := Int.lt_tmod_of_pos p (show (0 : Int) < 4 by decide)
  generalize p.tdiv 4 = q at h
  omega
end Go.Proofs.Ytjdffjnennodaaa
