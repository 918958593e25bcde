/- The product and the commuting of Pauli operators in the program. -/
import Derived.Test.YtjdffjnennodaaaZ08Pau2
namespace Go.Proofs.Ytjdffjnennodaaa
set_option linter.unusedSimpArgs false
set_option linter.unusedVariables false
set_option linter.unnecessarySimpa false
set_option maxRecDepth 200000
open Go.ChangeShapes Go.WideShapes Go.ChangeAt Go.RowKit

theorem ret_agg3 {a b : Int} {y z : Value} (h : a = b) : Ending.returned (.agg #[.int .i64 a, y, z]) = .returned (.agg #[.int .i64 b, y, z]) := by rw [h]
theorem quiet_left {f : FuncId} {args : Array Value} {w : World} {n : Nat} {v : Value} (h : Calls Try.prog f args (w.drewN n) fun e w' => e = .returned v ∧ w.drewN n = w') :
    Calls Try.prog f args (w.drewN n) fun e w'' => e = .returned v ∧ ∃ m, w'' = w.drewN m :=
  h.mono fun _ _ h => ⟨h.1, n, h.2.symm⟩
theorem quiet_add_left {f : FuncId} {args : Array Value} {w : World} {a n : Nat} {v : Value} (h : Calls Try.prog f args (w.drewN (a + n)) fun e w' => e = .returned v ∧ w.drewN (a + n) = w') :
    Calls Try.prog f args (w.drewN (a + n)) fun e w'' => e = .returned v ∧ ∃ m, w'' = w.drewN (a + m) :=
  h.mono fun _ _ h => ⟨h.1, n, h.2.symm⟩
theorem pop31 {x : Nat} (h : x ≤ 31) : pop x ≤ 5 := by
  rw [pop_5 h]; unfold pop5
  have := bt_le x 0; have := bt_le x 1; have := bt_le x 2; have := bt_le x 3; have := bt_le x 4
  omega
set_option maxHeartbeats 1000000 in
theorem impl_times_any (a b : PN) (w : World) (ha : PNok a) (hb : PNok b) :
    Calls Try.prog 70 #[.agg #[.int .i64 ((a).p : Int), .int .i64 ((a).x : Int), .int .i64 ((a).z : Int)], .agg #[.int .i64 ((b).p : Int), .int .i64 ((b).x : Int), .int .i64 ((b).z : Int)]] w fun e w' => e = .returned (.agg #[.int .i64 ((mulN a b).p : Int), .int .i64 ((mulN a b).x : Int), .int .i64 ((mulN a b).z : Int)]) ∧ Below w.heap.size w w' := by
  obtain ⟨p, x, z⟩ := a
  obtain ⟨p2, x2, z2⟩ := b
  obtain ⟨hp, hx, hz⟩ := ha
  obtain ⟨hp2, hx2, hz2⟩ := hb
  dsimp only at *
  have HM : mulN ⟨p, x, z⟩ ⟨p2, x2, z2⟩ = ⟨(p + p2 + pop (x &&& z) + pop (x2 &&& z2) + 2 * pop (z &&& x2) + 3 * pop ((x ^^^ x2) &&& (z ^^^ z2))) % 4, x ^^^ x2, z ^^^ z2⟩ := rfl
  have e1 := bits_xor x x2 (by omega) (by omega)
  have e2 := bits_xor z z2 (by omega) (by omega)
  have e3 := bits_and x z (by omega) (by omega)
  have e4 := bits_and x2 z2 (by omega) (by omega)
  have e5 := bits_and z x2 (by omega) (by omega)
  have x1 := xor31 hx hx2
  have z1 := xor31 hz hz2
  have e6 := bits_and (x ^^^ x2) (z ^^^ z2) (by omega) (by omega)
  have m3 := @and31 x z hx
  have m4 := @and31 x2 z2 hx2
  have m5 := @and31 z x2 hz
  have m6 := @and31 (x ^^^ x2) (z ^^^ z2) x1
  generalize x ^^^ x2 = X at *
  generalize z ^^^ z2 = Z at *
  generalize x &&& z = M3 at *
  generalize x2 &&& z2 = M4 at *
  generalize z &&& x2 = M5 at *
  generalize X &&& Z = M6 at *
  have q3 := OnesCount_any M3; have q4 := OnesCount_any M4; have q5 := OnesCount_any M5; have q6 := OnesCount_any M6
  have r3 := pop31 m3; have r4 := pop31 m4; have r5 := pop31 m5; have r6 := pop31 m6
  generalize pop M3 = N3 at *
  generalize pop M4 = N4 at *
  generalize pop M5 = N5 at *
  generalize pop M6 = N6 at *
  rw [HM]
  clear HM
  have Q3 := Lib.hid q3; have Q4 := Lib.hid q4; have Q5 := Lib.hid q5; have Q6 := Lib.hid q6
  clear q3 q4 q5 q6
  go_enter Try.func70, Try.ntmps70
  go_wp2_with fail
  go_quiet (fail)
  go_wp2_with fail
  go_quiet ((first | (go_at_call_of 60 M3; exact quiet_add_left (Q3.out _ (by omega))) | (go_at_call_of 60 M4; exact quiet_add_left (Q4.out _ (by omega))) | (go_at_call_of 60 M5; exact quiet_add_left (Q5.out _ (by omega))) | (go_at_call_of 60 M6; exact quiet_add_left (Q6.out _ (by omega)))))
  generalize hP : ((p : Int) + p2 + N3 + N4 + 2 * N5 - N6) = P
  have hP2 : -5 ≤ P ∧ P ≤ 30 := by omega
  obtain ⟨hP3, hP4⟩ := hP2
  obtain ⟨t1, t2, t3⟩ := tmod4 P
  have HP := Lib.hid hP; clear hP
  go_wp2_with fail
  refine bodyPost_ret (v := .agg #[.int .i64 (P % 4), .int .i64 (X : Int), .int .i64 (Z : Int)]) (by simp [results, Try.results70, go_sem]) rfl ⟨?_, (by repeat (first | exact Below.refl _ _ | assumption | refine Below.drew ?_ | refine below_drewN ?_ _ | refine Below.alloc ?_ (by first | omega | (simp <;> omega)) _ | refine Below.setCell ?_ (by first | omega | (simp <;> omega)) _ | refine Below.trans ?_ (Below.mono (by assumption) (by first | omega | (simp <;> omega)))))⟩
  rw [ret_agg3 (show P % 4 = (((p + p2 + N3 + N4 + 2 * N5 + 3 * N6) % 4 : Nat) : Int) from by rw [← HP.out]; omega)]
theorem commN_def (a b : PN) : commN a b = ((pop (a.x &&& b.z) + pop (a.z &&& b.x)) % 2 == 0) := rfl
set_option maxHeartbeats 1000000 in
theorem impl_commute_any (a b : PN) (w : World) (ha : PNok a) (hb : PNok b) :
    Calls Try.prog 41 #[.agg #[.int .i64 ((a).p : Int), .int .i64 ((a).x : Int), .int .i64 ((a).z : Int)], .agg #[.int .i64 ((b).p : Int), .int .i64 ((b).x : Int), .int .i64 ((b).z : Int)]] w fun e w' => e = .returned (.bool (commN a b)) ∧ Below w.heap.size w w' := by
  rw [commN_def]
  obtain ⟨p, x, z⟩ := a
  obtain ⟨p2, x2, z2⟩ := b
  obtain ⟨hp, hx, hz⟩ := ha
  obtain ⟨hp2, hx2, hz2⟩ := hb
  dsimp only at *
  have e1 := bits_and x z2 (by omega) (by omega)
  have e2 := bits_and z x2 (by omega) (by omega)
  have m1 := @and31 x z2 hx
  have m2 := @and31 z x2 hz
  generalize x &&& z2 = M1 at *
  generalize z &&& x2 = M2 at *
  have q1 := OnesCount_any M1; have q2 := OnesCount_any M2
  have r1 := pop31 m1; have r2 := pop31 m2
  generalize pop M1 = N1 at *
  generalize pop M2 = N2 at *
  have Q1 := Lib.hid q1; have Q2 := Lib.hid q2
  clear q1 q2
  go_enter Try.func41, Try.ntmps41
  go_wp2_with fail
  go_quiet ((first | (go_at_call_of 60 M1; exact quiet_left (Q1.out _ (by omega))) | (go_at_call_of 60 M2; exact quiet_left (Q2.out _ (by omega)))))
  go_wp2_with fail
  go_ret
  exact ⟨ret_bool (by rw [Bool.eq_iff_iff, beq_iff_eq, beq_iff_eq]; omega), (by repeat (first | exact Below.refl _ _ | assumption | refine Below.drew ?_ | refine below_drewN ?_ _ | refine Below.alloc ?_ (by first | omega | (simp <;> omega)) _ | refine Below.setCell ?_ (by first | omega | (simp <;> omega)) _ | refine Below.trans ?_ (Below.mono (by assumption) (by first | omega | (simp <;> omega)))))⟩
end Go.Proofs.Ytjdffjnennodaaa
