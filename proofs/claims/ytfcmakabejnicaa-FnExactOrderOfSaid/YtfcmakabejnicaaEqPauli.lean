/- slices.Equal over Pauli. -/
import Derived.Test.YtfcmakabejnicaaTyPauli
import Derived.Test.YtfcmakabejnicaaCut1
import Derived.BigQuiet
import Derived.Deep.QuietTactic
namespace Go.Proofs.Ytfcmakabejnicaa
set_option linter.unusedSimpArgs false
set_option linter.unusedVariables false
set_option linter.unnecessarySimpa false
set_option maxRecDepth 200000
open Go.ChangeShapes Go.WideShapes Go.ChangeAt Go.RowKit

theorem eqcase_Pauli (x y : E3) : ((x.a == y.a) = false) ∨ ((x.a == y.a) = true ∧ (x.b == y.b) = false) ∨ ((x.a == y.a) = true ∧ (x.b == y.b) = true ∧ (x.c == y.c) = false) ∨ ((x.a == y.a) = true ∧ (x.b == y.b) = true ∧ (x.c == y.c) = true) := by
  cases h0 : (x.a == y.a) <;>
  cases h1 : (x.b == y.b) <;>
  cases h2 : (x.c == y.c) <;> simp
set_option maxHeartbeats 4000000 in
theorem slices_Equal_Pauli (va vb : Value) (xs ys : List E3) (w : World) (ha : RdE w va E3.cs 3 xs) (hb : RdE w vb E3.cs 3 ys) :
    Calls Try.prog 58 #[va, vb] w fun e w' => e = .returned (.bool (decide (xs = ys))) ∧ Below w.heap.size w w' := by
  by_cases hl : xs.length = ys.length
  · rcases ha.cases0 E3.len with ⟨he, A, c, rfl⟩ | ⟨hpos, b, off, cap, rfl, hb1, hcap, hcm, hcs⟩
    · have h2 : ys = [] := List.eq_nil_of_length_eq_zero (by rw [← hl, he]; rfl)
      obtain ⟨A2, c2, rfl, _⟩ := hb.form
      subst he h2
      clear ha hb hl
      go_enter Try.func58, Try.ntmps58
      go_wp2_with fail
      refine wp_loop_rounds 1 ?_
      rw [rounds_succ]
      go_wp2_with fail
      go_ret
      exact ⟨rfl, (by repeat (first | exact Below.refl _ _ | assumption | refine Below.drew ?_ | refine below_drewN ?_ _ | refine Below.alloc ?_ (by first | omega | (simp <;> omega)) _ | refine Below.setCell ?_ (by first | omega | (simp <;> omega)) _ | refine Below.trans ?_ (Below.mono (by assumption) (by first | omega | (simp <;> omega)))))⟩
    · rcases hb.cases0 E3.len with ⟨he, _⟩ | ⟨_, b2, off2, cap2, rfl, hb2, hcap2, hcm2, hds⟩
      · rw [he] at hl; simp at hl; subst hl; simp at hpos
      have hc := Lib.hid hcs; have hd := Lib.hid hds
      clear ha hb hcs hds
      have n1 : ((xs.length : Int) != (ys.length : Int)) = false := by simp; omega
      go_enter Try.func58, Try.ntmps58
      go_wp2_with fail
      go_loopw [13] (fun i wr => ∃ k : Nat, k ≤ xs.length ∧ i = .int .i64 k ∧ Hid (xs.take k = ys.take k) ∧ Hid (Below w.heap.size w wr)) (fun i _ => xs.length - (intOf i).toNat)
      case atStart => exact ⟨0, Nat.zero_le _, rfl, (show _ = _ from rfl), (show Below _ _ _ from Below.refl _ _)⟩
      case round =>
        obtain ⟨k, hk, rfl, heq, hbel⟩ := hrel
        by_cases hlt : k < xs.length
        · have hlt2 : k < ys.length := by omega
          obtain ⟨x, hx⟩ : ∃ x, xs[k] = x := ⟨_, rfl⟩
          obtain ⟨y, hy⟩ : ∃ y, ys[k] = y := ⟨_, rfl⟩
          have q0 : wr.cell? ⟨b, off + k * 3, none⟩ = some (.int .i64 x.a) := (hbel.out.cell hb1).trans (by rw [← hx]; exact hc.out k hlt 0 _ (by omega) rfl)
          have q1 : wr.cell? ⟨b, off + k * 3 + 1, none⟩ = some (.int .i64 x.b) := (hbel.out.cell hb1).trans (by rw [← hx]; exact hc.out k hlt 1 _ (by omega) rfl)
          have q2 : wr.cell? ⟨b, off + k * 3 + 2, none⟩ = some (.int .i64 x.c) := (hbel.out.cell hb1).trans (by rw [← hx]; exact hc.out k hlt 2 _ (by omega) rfl)
          have r0 : wr.cell? ⟨b2, off2 + k * 3, none⟩ = some (.int .i64 y.a) := (hbel.out.cell hb2).trans (by rw [← hy]; exact hd.out k hlt2 0 _ (by omega) rfl)
          have r1 : wr.cell? ⟨b2, off2 + k * 3 + 1, none⟩ = some (.int .i64 y.b) := (hbel.out.cell hb2).trans (by rw [← hy]; exact hd.out k hlt2 1 _ (by omega) rfl)
          have r2 : wr.cell? ⟨b2, off2 + k * 3 + 2, none⟩ = some (.int .i64 y.c) := (hbel.out.cell hb2).trans (by rw [← hy]; exact hd.out k hlt2 2 _ (by omega) rfl)
          have i1 : (k : Int) < (xs.length : Int) := by omega
          have i2 : (k : Int) < (ys.length : Int) := by omega
          have i3 : (0 : Int) ≤ (k : Int) := by omega
          have HX := Lib.hid hx; have HY := Lib.hid hy
          clear hx hy
          rcases eqcase_Pauli x y with d0 | ⟨d0, d1⟩ | ⟨d0, d1, d2⟩ | ⟨d0, d1, d2⟩
          · go_wp2_with fail
            go_quiet (fail)
            go_wp2_with fail
            go_ret
            exact ⟨ret_bool (eqE_fail hlt hlt2 (by rw [HX.out, HY.out]; intro e; subst e; simp at d0)), Below.trans hbel.out (show Below w.heap.size wr _ from (by repeat (first | exact Below.refl _ _ | assumption | refine Below.drew ?_ | refine below_drewN ?_ _ | refine Below.alloc ?_ (by first | omega | (simp <;> omega)) _ | refine Below.setCell ?_ (by first | omega | (simp <;> omega)) _ | refine Below.trans ?_ (Below.mono (by assumption) (by first | omega | (simp <;> omega))))))⟩
          · go_wp2_with fail
            go_quiet (fail)
            go_wp2_with fail
            go_ret
            exact ⟨ret_bool (eqE_fail hlt hlt2 (by rw [HX.out, HY.out]; intro e; subst e; simp at d1)), Below.trans hbel.out (show Below w.heap.size wr _ from (by repeat (first | exact Below.refl _ _ | assumption | refine Below.drew ?_ | refine below_drewN ?_ _ | refine Below.alloc ?_ (by first | omega | (simp <;> omega)) _ | refine Below.setCell ?_ (by first | omega | (simp <;> omega)) _ | refine Below.trans ?_ (Below.mono (by assumption) (by first | omega | (simp <;> omega))))))⟩
          · go_wp2_with fail
            go_quiet (fail)
            go_wp2_with fail
            go_ret
            exact ⟨ret_bool (eqE_fail hlt hlt2 (by rw [HX.out, HY.out]; intro e; subst e; simp at d2)), Below.trans hbel.out (show Below w.heap.size wr _ from (by repeat (first | exact Below.refl _ _ | assumption | refine Below.drew ?_ | refine below_drewN ?_ _ | refine Below.alloc ?_ (by first | omega | (simp <;> omega)) _ | refine Below.setCell ?_ (by first | omega | (simp <;> omega)) _ | refine Below.trans ?_ (Below.mono (by assumption) (by first | omega | (simp <;> omega))))))⟩
          · go_wp2_with fail
            go_quiet (fail)
            go_wp2_with fail
            go_roundw
            case rel => exact ⟨k + 1, by omega, by go_num, eqE_step heq hlt hlt2 (by rw [HX.out, HY.out]; cases x; cases y; simp only [E3.mk.injEq]; exact ⟨LawfulBEq.eq_of_beq d0, LawfulBEq.eq_of_beq d1, LawfulBEq.eq_of_beq d2⟩), (show Below _ _ _ from Below.trans hbel.out (show Below w.heap.size wr _ from (by repeat (first | exact Below.refl _ _ | assumption | refine Below.drew ?_ | refine below_drewN ?_ _ | refine Below.alloc ?_ (by first | omega | (simp <;> omega)) _ | refine Below.setCell ?_ (by first | omega | (simp <;> omega)) _ | refine Below.trans ?_ (Below.mono (by assumption) (by first | omega | (simp <;> omega)))))))⟩
            case measure => simp [intOf]; omega
        · go_wp2_with fail
          go_ret
          exact ⟨ret_bool (eqE_end heq (by omega) (by omega)), hbel.out⟩
  · obtain ⟨A, c, rfl, _⟩ := ha.form
    obtain ⟨A2, c2, rfl, _⟩ := hb.form
    have HR := Lib.hid (show decide (xs = ys) = false from decide_eq_false fun h => hl (by rw [h]))
    have n1 : ((xs.length : Int) != (ys.length : Int)) = true := by simp; omega
    clear ha hb hl
    go_enter Try.func58, Try.ntmps58
    go_wp2_with fail
    go_ret
    exact ⟨ret_bool (by rw [HR.out]), (by repeat (first | exact Below.refl _ _ | assumption | refine Below.drew ?_ | refine below_drewN ?_ _ | refine Below.alloc ?_ (by first | omega | (simp <;> omega)) _ | refine Below.setCell ?_ (by first | omega | (simp <;> omega)) _ | refine Below.trans ?_ (Below.mono (by assumption) (by first | omega | (simp <;> omega)))))⟩
end Go.Proofs.Ytfcmakabejnicaa
