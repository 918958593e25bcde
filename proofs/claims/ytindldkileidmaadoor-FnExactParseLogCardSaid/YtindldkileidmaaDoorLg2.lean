/- The text of a log: the reference's loops. -/
import Derived.Test.YtindldkileidmaaDoorLg1
import Derived.Test.YtindldkileidmaaDoorBrk
import Derived.BigRegion
import Derived.BigQuiet
namespace Go.Proofs.YtindldkileidmaaDoor
set_option linter.unusedSimpArgs false
set_option linter.unusedVariables false
set_option linter.unnecessarySimpa false
set_option maxRecDepth 200000
open Go.ChangeShapes Go.WideShapes Go.ChangeAt Go.RowKit

def allTo (xs : List E3) (k : Nat) : Bool := (xs.take k).all okStep
theorem allTo_succ {xs : List E3} {k : Nat} (h : k < xs.length) : allTo xs (k + 1) = (allTo xs k && okStep (xs.getD k ⟨0, 0, 0⟩)) := by
  unfold allTo
  rw [List.take_succ_eq_append_getElem h, List.all_append]
  simp [List.getD, h]
theorem allTo_all {xs : List E3} {k : Nat} (h : xs.length ≤ k) : allTo xs k = xs.all okStep := by unfold allTo; rw [List.take_of_length_le h]
theorem all_no {xs : List E3} {k : Nat} (h : k < xs.length) (hx : okStep (xs.getD k ⟨0, 0, 0⟩) = false) : logB xs = false := by
  have e : xs.getD k ⟨0, 0, 0⟩ = xs[k] := by simp [List.getD, h]
  rw [e] at hx
  unfold logB
  have : xs.all okStep = false := by rw [List.all_eq_false]; exact ⟨xs[k], List.getElem_mem h, by simp [hx]⟩
  rw [this]; rfl
set_option maxHeartbeats 4000000 in
theorem spec_l17Log_any (v : Value) (xs : List E3) (w : World) (h : RdE w v E3.cs 3 xs) (hl : xs.length ≤ 2097152) :
    Calls Tryd.prog 16 #[v] w fun e w' => e = .returned (.bool (logB xs)) ∧ Below w.heap.size w w' := by
  obtain ⟨A, c, rfl, Hc⟩ := rw_at h
  clear h
  go_enter Tryd.func16, Tryd.ntmps16
  go_wp2_with fail
  go_loopw [7] (fun i wr => ∃ k : Nat, k ≤ xs.length ∧ i = .int .i64 k ∧ Hid (allTo xs k = true) ∧ Hid (Below w.heap.size w wr) ∧ w.heap.size ≤ wr.heap.size) (fun i _ => xs.length - (intOf i).toNat)
  case atStart => exact ⟨0, Nat.zero_le _, rfl, (show allTo xs 0 = true from rfl), (show Below _ _ _ from (by repeat (first | exact Below.refl _ _ | assumption | refine Below.drew ?_ | refine below_drewN ?_ _ | refine Below.alloc ?_ (by first | omega | (simp <;> omega)) _ | refine Below.setCell ?_ (by first | omega | (simp <;> omega)) _ | refine Below.trans ?_ (Below.mono (by assumption) (by first | omega | (simp <;> omega)))))), Nat.le_refl _⟩
  case round =>
    obtain ⟨k, hk, rfl, hA, hB, hsz⟩ := hrel
    by_cases hlt : k < xs.length
    · have i1 : (k : Int) < (xs.length : Int) := by omega
      obtain ⟨b, off, rfl, hb, c0, c1, c2⟩ := Hc.out k hlt
      replace c0 := (hB.out.cell hb).trans c0
      replace c1 := (hB.out.cell hb).trans c1
      replace c2 := (hB.out.cell hb).trans c2
      have HX := Lib.hid (allTo_succ hlt)
      have HNO := Lib.hid (fun h9 => all_no (xs := xs) hlt h9)
      obtain ⟨x, hx⟩ : ∃ x, x = xs.getD k ⟨0, 0, 0⟩ := ⟨_, rfl⟩
      rw [← hx] at c0 c1 c2 HX HNO
      clear hx
      go_wp2_with fail
      refine (spec_l17Step_any x _).mono ?_; rintro e w2 ⟨rfl, hb2⟩
      have B2 := Lib.hid (Below.trans (Below.alloc hB.out hsz (.cells #[.int .i64 x.a, .int .i64 x.b, .int .i64 x.c] 36)) (hb2.mono (by simp; omega)))
      have z2 := hb2.size; (simp at z2)
      clear hb2
      cases ho : okStep x with
      | true =>
        have HN := Lib.hid (show allTo xs (k + 1) = true from by rw [HX.out, hA.out, ho]; rfl)
        clear ho
        go_wp2_with fail
        go_roundw
        case rel => exact ⟨k + 1, by omega, by go_num, HN, B2, by omega⟩
        case measure => simp [intOf]; omega
      | false =>
        have HN := Lib.hid (HNO.out ho)
        clear ho
        go_wp2_with fail
        go_ret
        exact ⟨by (rw [HN.out]; try rfl), B2.out⟩
    · have i1 : ¬ (k : Int) < (xs.length : Int) := by omega
      have HL := Lib.hid (show logB xs = decide (xs.length ≤ 60) from by unfold logB; rw [← allTo_all (show xs.length ≤ k by omega), hA.out]; rfl)
      by_cases h60 : xs.length ≤ 60
      · have i2 : (xs.length : Int) ≤ 60 := by omega
        have HD := Lib.hid (decide_eq_true h60)
        go_wp2_with fail
        go_ret
        exact ⟨by (rw [HL.out, HD.out]; try rfl), hB.out⟩
      · have i2 : ¬ (xs.length : Int) ≤ 60 := by omega
        have HD := Lib.hid (decide_eq_false h60)
        go_wp2_with fail
        go_ret
        exact ⟨by (rw [HL.out, HD.out]; try rfl), hB.out⟩
end Go.Proofs.YtindldkileidmaaDoor
