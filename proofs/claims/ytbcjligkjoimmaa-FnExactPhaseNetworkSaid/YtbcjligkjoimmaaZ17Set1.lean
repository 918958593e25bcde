/- The places of a number's one bits, as the reference lists them. -/
import Derived.Test.YtbcjligkjoimmaaZ16Del
import Derived.Test.YtbcjligkjoimmaaZ14M
import Derived.Deep.RegionLaw
namespace Go.Proofs.Ytbcjligkjoimmaa
set_option linter.unusedSimpArgs false
set_option linter.unusedVariables false
set_option linter.unnecessarySimpa false
set_option maxRecDepth 200000
open Go.ChangeShapes Go.WideShapes Go.ChangeAt Go.RowKit

theorem div_pos_iff (y k : Nat) : (0 < y / 2 ^ k) ↔ 2 ^ k ≤ y := by
  rw [Nat.div_pos_iff]; exact ⟨fun h => h.2, fun h => ⟨Nat.pow_pos (by decide), h⟩⟩
set_option maxHeartbeats 1000000 in
theorem spec_l1Set_any (y : Nat) (w : World) (hy : y ≤ 1023) :
    Calls Try.prog 53 #[.int .i64 (y : Int)] w fun e w' => ∃ v, e = .returned v ∧ OwnI w' w.heap.size v (ints (bitsOf y)) ∧ Below w.heap.size w w' := by
  obtain ⟨i0, hi, hz0, hz1, hz2⟩ := info_parts info_int
  go_enter Try.func53, Try.ntmps53
  go_wp2_with fail
  go_loopw [3, 4] (fun v i wr => ∃ k : Nat, k ≤ 10 ∧ i = .int .i64 k ∧ Hid (wr.ownsRow w.heap.size 3 1 v (setB y k).length ((ints (setB y k)).map (Value.int .i64))) ∧ Below w.heap.size w wr) (fun _ i _ => 11 - (intOf i).toNat)
  case atStart => exact ⟨0, by omega, rfl, World.ownsRow_nil _ _ _ _, Below.refl _ _⟩
  case round =>
    obtain ⟨k, hk, rfl, hown, hbel⟩ := hrel
    have e0 : ((y : Int) / 2 ^ k) = ((y / 2 ^ k : Nat) : Int) := by simp
    by_cases hp : 2 ^ k ≤ y
    · have hk9 : k ≤ 9 := by
        rcases Nat.lt_or_ge 9 k with h | h
        · have : (2 : Nat) ^ 10 ≤ 2 ^ k := Nat.pow_le_pow_right (by decide) h
          omega
        · exact h
      have ht : (0 : Int) < (y : Int) / 2 ^ k := by rw [e0]; have := (div_pos_iff y k).2 hp; omega
      have hbt := bit_test y k (by omega)
      have hlw := hbel.size
      have hln := setB_len y k
      clear e0 hp
      cases hb : y.testBit k with
      | false =>
        rw [hb] at hbt
        have hs := Lib.hid (show setB y (k + 1) = setB y k from by rw [setB_succ, hb]; rfl)
        clear hb
        go_wp2_with fail
        go_roundw
        case rel => exact ⟨k + 1, by omega, by go_num, (show World.ownsRow _ _ _ _ _ _ _ from by rw [hs.out]; exact hown.out), hbel⟩
        case measure => simp [intOf]; omega
      | true =>
        rw [hb] at hbt
        have hs := Lib.hid (show setB y (k + 1) = setB y k ++ [k] from by rw [setB_succ, hb]; rfl)
        clear hb
        obtain ⟨n, hn⟩ : ∃ n, n = (setB y k).length := ⟨_, rfl⟩
        rw [← hn] at hown hln
        have Hn := Lib.hid hn; clear hn
        go_wp2_with (at_builtin; go_must (refine wpList_append_some _ rfl _ _ 23 rfl w.heap.size 3 i0 (.int .i64 0) 1 8 Try.underlying23 hi hz0 hz1 hz2 rfl (by decide) _ n _ rfl (hown.out.alloc _) ⟨wr.heap.size, 0, none⟩ 1 1 [.int .i64 (k : Int)] rfl rfl (news_cells _ [_] _) (fun x hx => by simp at hx; subst hx; rfl) (by unfold maxLen; omega) (by omega) (by simp; omega) (by omega) ?_; intro g cap w1 hown1 hg1 hgr1 hsz1))
        go_roundw
        case rel =>
          refine ⟨k + 1, by omega, by go_num, ?_, grown_below (hbel.alloc (by omega) _) (hown.out.alloc _) hgr1 (by omega) (by simp; omega)⟩
          show World.ownsRow _ _ _ _ _ _ _
          rw [hs.out]
          simpa [ints, ← Hn.out] using hown1
        case measure => simp [intOf]; omega
    · have ht : ¬ (0 : Int) < (y : Int) / 2 ^ k := by rw [e0]; have := mt (div_pos_iff y k).1 hp; omega
      have hs : Hid (setB y k = bitsOf y) := setB_eq (by omega) (by omega)
      clear e0 hp
      go_wp2_with fail
      go_ret
      refine ⟨_, rfl, ?_, hbel⟩
      unfold OwnI
      rw [ints_len, ← hs.out]
      exact hown.out
end Go.Proofs.Ytbcjligkjoimmaa
