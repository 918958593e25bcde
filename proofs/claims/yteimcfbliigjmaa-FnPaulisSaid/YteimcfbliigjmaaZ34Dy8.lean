/- The program's powers of w, whole numbers, bits of a state. -/
import Derived.Test.YteimcfbliigjmaaZ26Dy7
import Derived.Test.YteimcfbliigjmaaZ33Fp1
import Derived.BigRegion
import Derived.BigQuiet
namespace Go.Proofs.Yteimcfbliigjmaa
set_option linter.unusedSimpArgs false
set_option linter.unusedVariables false
set_option linter.unnecessarySimpa false
set_option maxRecDepth 200000
open Go.ChangeShapes Go.WideShapes Go.ChangeAt Go.RowKit

def omN (x : Rg4) : Nat → Rg4
  | 0 => x
  | k + 1 => (omN x k).om
theorem omN_le {x : Rg4} {M : Int} (h : x.le M) : ∀ k, (omN x k).le M
  | 0 => h
  | k + 1 => Rg4.om_le (omN_le h k)
set_option maxHeartbeats 4000000 in
theorem impl_MulOmega_ok (x : Rg4) (k : Nat) (w : World) (hx : x.le 1000000000) (hk : k ≤ 1000) :
    Calls Try.prog 44 #[x.v, .int .i64 (k : Int)] w fun r w' => r = .returned (.tuple #[(omN x (k % 8)).v, .bool true]) ∧ Below w.heap.size w w' := by
  have HW := Lib.hid (show inB (k : Int) (-1000) 1000 = true from by simp [inB]; omega)
  have HV := Lib.hid hx
  have S0 := Lib.hid (((Sb.nil w).push x.cs 58 rfl).push [.int .i64 0, .int .i64 0, .int .i64 0, .int .i64 0] 58 (g := w.heap.size + 1) (by simp))
  have h1 : Int.tmod (k : Int) 8 = ((k % 8 : Nat) : Int) := by
    rw [show (8 : Int) = ((8 : Nat) : Int) from rfl]; rfl
  have hm8 : k % 8 < 8 := Nat.mod_lt _ (by decide)
  have h2 : Int.tmod (((k % 8 : Nat) : Int) + 8) 8 = ((k % 8 : Nat) : Int) := by
    have e : (((k % 8 : Nat) : Int) + 8) = ((k % 8 + 8 : Nat) : Int) := by omega
    rw [e, show (8 : Int) = ((8 : Nat) : Int) from rfl]
    show ((((k % 8 + 8) % 8 : Nat)) : Int) = _
    omega
  have HL := Lib.hid (omN_le hx)
  obtain ⟨F, hF⟩ : ∃ F, F = omN x := ⟨_, rfl⟩
  have F0 := Lib.hid (show F 0 = x from by rw [hF]; rfl)
  have FS := Lib.hid (show ∀ k, F (k + 1) = (F k).om from fun k => by rw [hF]; rfl)
  rw [← hF] at HL ⊢
  clear hF hx
  generalize k % 8 = m at *
  have h3 : IntKind.i64.wrap ((m : Int) + 8) = (m : Int) + 8 := IntWalk.i64_in _ (by omega)
  obtain ⟨a, b, c, d⟩ := x
  dsimp only [Rg4.cs, Rg4.v] at S0 ⊢
  go_enter Try.func44, Try.ntmps44
  go_wp2_with fail
  generalize ((w.alloc (.cells #[.int .i64 a, .int .i64 b, .int .i64 c, .int .i64 d] 58)).alloc (.cells #[.int .i64 0, .int .i64 0, .int .i64 0, .int .i64 0] 58)) = w1 at *
  refine (within_is HW.out _).mono ?_; rintro e2 w3 ⟨rfl, rfl⟩
  obtain ⟨⟨a0, a1, a2, a3⟩, _⟩ := (S0.out.at 1 rfl).c4
  go_wp2_with fail
  refine (impl_IsValidRing_ok ⟨a, b, c, d⟩ _ HV.out).mono ?_; rintro e2 w2 ⟨rfl, hb2⟩
  have S2 := Lib.hid (S0.out.call hb2)
  clear hb2 S0 HW HV a0 a1 a2 a3
  go_wp2_with fail
  go_loopw [19] (fun i wr => ∃ (j : Nat), j ≤ m ∧ i = .int .i64 (j : Int) ∧ Hid (Sb w.heap.size w wr [(w.heap.size + 1, [.int .i64 0, .int .i64 0, .int .i64 0, .int .i64 0]), (w.heap.size, (F j).cs)])) (fun i _ => m - (intOf i).toNat)
  case atStart => exact ⟨0, Nat.zero_le _, rfl, by rw [F0.out]; exact S2⟩
  case round =>
    clear S2 h1 h2 h3
    obtain ⟨j, hj, rfl, hS⟩ := hrel
    by_cases hlt : j < m
    · have i1 : (j : Int) < (m : Int) := by omega
      have HF := Lib.hid (FS.out j)
      have hle := HL.out j
      generalize F j = y at *
      obtain ⟨ya, yb, yc, yd⟩ := y
      have HF2 := Lib.hid (show F (j + 1) = ⟨-yd, ya, yb, yc⟩ from HF.out)
      have hd := hle.2.2.2
      dsimp only at hd
      clear hle HF
      have e0 : IntKind.i64.wrap (-yd) = -yd := IntWalk.i64_in _ (by omega)
      obtain ⟨⟨b0, b1, b2, b3⟩, g0, g1, g2, g3⟩ := (hS.out.at 1 rfl).c4
      have S7 := Lib.hid ((((hS.out.set1 0 (.int .i64 (-yd))).set1 1 (.int .i64 ya)).set1 2 (.int .i64 yb)).set1 3 (.int .i64 yc))
      clear hS
      go_wp2_with fail
      go_roundw
      case rel => exact ⟨j + 1, by omega, by go_num, by rw [HF2.out]; exact S7⟩
      case measure => simp [intOf]; omega
    · have i1 : ¬ (j : Int) < (m : Int) := by omega
      obtain rfl : j = m := by omega
      obtain ⟨y, hy⟩ : ∃ y, y = F j := ⟨_, rfl⟩
      rw [← hy] at hS
      have HY := Lib.hid hy
      clear hy
      obtain ⟨ya, yb, yc, yd⟩ := y
      obtain ⟨⟨b0, b1, b2, b3⟩, g0, g1, g2, g3⟩ := (hS.out.at 1 rfl).c4
      obtain ⟨⟨c0, c1, c2, c3⟩, f0, f1, f2, f3⟩ := hS.out.head.c4
      have S9 := Lib.hid ((((hS.out.set0 0 (.int .i64 ya)).set0 1 (.int .i64 yb)).set0 2 (.int .i64 yc)).set0 3 (.int .i64 yd))
      clear hS
      go_wp2_with fail
      clear b0 b1 b2 b3 g0 g1 g2 g3 c0 c1 c2 c3 f0 f1 f2 f3
      generalize (((wr.setCell ⟨w.heap.size + 1, 0, none⟩ (.int .i64 ya)).setCell ⟨w.heap.size + 1, 1, none⟩ (.int .i64 yb)).setCell ⟨w.heap.size + 1, 2, none⟩ (.int .i64 yc)).setCell ⟨w.heap.size + 1, 3, none⟩ (.int .i64 yd) = w9 at *
      obtain ⟨⟨c0, c1, c2, c3⟩, _⟩ := S9.out.head.c4
      refine bodyPost_ret (v := .tuple #[.agg #[.int .i64 ya, .int .i64 yb, .int .i64 yc, .int .i64 yd], .bool true]) (by simp [results, Try.results44, go_sem, c0, c1, c2, c3]) rfl ⟨by rw [← HY.out], S9.out.bel⟩
/-- The number w^k. -/
def phs (k : Nat) : Dy := ⟨omN Rg4.one (k % 8), 0⟩
theorem one_le : Rg4.one.le 1 := by unfold Rg4.le Rg4.one; decide
set_option maxHeartbeats 4000000 in
theorem impl_phase_ok (k : Nat) (w : World) (hk : k ≤ 1000) :
    Calls Try.prog 27 #[.int .i64 (k : Int)] w fun r w' => r = .returned (phs k).v ∧ Below w.heap.size w w' := by
  have S0 := Lib.hid ((Sb.nil w).push [.int .i64 0, .int .i64 0, .int .i64 0, .int .i64 0, .int .i64 0] 60 rfl)
  have CM := Lib.hid (fun W => impl_MulOmega_ok Rg4.one k W (one_le.mono (by decide)) hk)
  unfold phs
  generalize omN Rg4.one (k % 8) = y at *
  obtain ⟨ya, yb, yc, yd⟩ := y
  dsimp only [Rg4.one, Rg4.v, Dy.v, Dy.cs] at CM ⊢
  go_enter Try.func27, Try.ntmps27
  go_wp2_with fail
  generalize (w.alloc (.cells #[.int .i64 0, .int .i64 0, .int .i64 0, .int .i64 0, .int .i64 0] 60)) = w1 at *
  refine (CM.out _).mono ?_; rintro e2 w2 ⟨rfl, hb2⟩
  obtain ⟨⟨a0, a1, a2, a3, a4⟩, f0, f1, f2, f3, f4⟩ := (S0.out.call hb2).head.c5
  have S2 := Lib.hid ((S0.out.call hb2).alloc (.cells #[.int .i64 ya, .int .i64 yb, .int .i64 yc, .int .i64 yd] 58))
  clear hb2 S0 CM a0 a1 a2 a3 a4 f0 f1 f2 f3 f4
  obtain ⟨⟨a0, a1, a2, a3, a4⟩, f0, f1, f2, f3, f4⟩ := S2.out.head.c5
  have S9 := Lib.hid (((((S2.out.set0 0 (.int .i64 ya)).set0 1 (.int .i64 yb)).set0 2 (.int .i64 yc)).set0 3 (.int .i64 yd)).set0 4 (.int .i64 0))
  clear S2
  go_wp2_with fail
  clear a0 a1 a2 a3 a4 f0 f1 f2 f3 f4
  generalize (((((w2.alloc (.cells #[.int .i64 ya, .int .i64 yb, .int .i64 yc, .int .i64 yd] 58)).setCell ⟨w.heap.size, 0, none⟩ (.int .i64 ya)).setCell ⟨w.heap.size, 1, none⟩ (.int .i64 yb)).setCell ⟨w.heap.size, 2, none⟩ (.int .i64 yc)).setCell ⟨w.heap.size, 3, none⟩ (.int .i64 yd)).setCell ⟨w.heap.size, 4, none⟩ (.int .i64 0) = w11 at *
  obtain ⟨⟨c0, c1, c2, c3, c4⟩, _⟩ := S9.out.head.c5
  refine bodyPost_ret (v := .agg #[.int .i64 ya, .int .i64 yb, .int .i64 yc, .int .i64 yd, .int .i64 0]) (by simp [results, Try.results27, go_sem, c0, c1, c2, c3, c4]) rfl ⟨rfl, S9.out.bel⟩
/-- A whole number. -/
def whl (n : Int) : Dy := ⟨⟨n, 0, 0, 0⟩, 0⟩
set_option maxHeartbeats 4000000 in
theorem impl_whole_ok (n : Int) (w : World) :
    Calls Try.prog 48 #[.int .i64 n] w fun r w' => r = .returned (whl n).v ∧ Below w.heap.size w w' := by
  go_enter Try.func48, Try.ntmps48
  go_wp2_with fail
  refine bodyPost_ret (v := .agg #[.int .i64 n, .int .i64 0, .int .i64 0, .int .i64 0, .int .i64 0]) (by simp [results, Try.results48, go_sem]) rfl ⟨rfl, (by repeat (first | exact Below.refl _ _ | assumption | refine Below.drew ?_ | refine below_drewN ?_ _ | refine Below.alloc ?_ (by first | omega | (simp <;> omega)) _ | refine Below.setCell ?_ (by first | omega | (simp <;> omega)) _ | refine Below.trans ?_ (Below.mono (by assumption) (by first | omega | (simp <;> omega)))))⟩
theorem impl_small_ok (b : Bool) (w : World) :
    Calls Try.prog 49 #[.bool b] w fun r w' => r = .returned (.int .i64 (if b then 1 else 0)) ∧ Below w.heap.size w w' := by
  cases b
  all_goals
    go_enter Try.func49, Try.ntmps49
    go_wp2_with fail
    go_ret
    exact ⟨rfl, (by repeat (first | exact Below.refl _ _ | assumption | refine Below.drew ?_ | refine below_drewN ?_ _ | refine Below.alloc ?_ (by first | omega | (simp <;> omega)) _ | refine Below.setCell ?_ (by first | omega | (simp <;> omega)) _ | refine Below.trans ?_ (Below.mono (by assumption) (by first | omega | (simp <;> omega)))))⟩
theorem impl_bitOf_ok (n s q : Nat) (w : World) (hn : n ≤ 60) (hs : s < 2 ^ 31) (hq : q < n) :
    Calls Try.prog 30 #[.int .i64 (n : Int), .int .i64 (s : Int), .int .i64 (q : Int)] w fun r w' => r = .returned (.int .i64 (qb n s q : Int)) ∧ w = w' := by
  obtain ⟨r, hr⟩ : ∃ r, r = n - 1 - q := ⟨_, rfl⟩
  have h1 : (n : Int) - 1 - (q : Int) = (r : Int) := by omega
  unfold qb
  rw [← hr]
  have hrl : r ≤ 60 := by omega
  clear hr
  have e0 : IntKind.i64.wrap ((n : Int) - 1) = (n : Int) - 1 := IntWalk.i64_in _ (by omega)
  have e1 : IntKind.i64.wrap (r : Int) = (r : Int) := IntWalk.i64_in _ (by omega)
  have b1 := bit_one s r (by omega)
  go_enter Try.func30, Try.ntmps30
  go_wp2_with fail
  go_ret
  exact ⟨rfl, rfl⟩
end Go.Proofs.Yteimcfbliigjmaa
