/- The reference's list of code words. -/
import Derived.Test.YtlelcnlibacnaaaRm0
import Derived.Test.YtlelcnlibacnaaaPhase1
namespace Go.Proofs.Ytlelcnlibacnaaa
set_option linter.unusedSimpArgs false
set_option linter.unusedVariables false
set_option linter.unnecessarySimpa false
set_option maxRecDepth 200000
open Go.ChangeShapes Go.WideShapes Go.ChangeAt Go.RowKit

theorem lt_31 {y : Nat} (h : y < 2147483648) : y < 2 ^ 31 := h
set_option maxHeartbeats 1000000 in
theorem spec_l1Set_big (y : Nat) (w : World) (hy : y < 2147483648) :
    Calls Try.prog 103 #[.int .i64 (y : Int)] w fun e w' => ∃ v, e = .returned v ∧ OwnI w' w.heap.size v (ints (setB y 31)) ∧ Below w.heap.size w w' := by
  obtain ⟨i0, hi, hz0, hz1, hz2⟩ := info_parts info_int
  go_enter Try.func103, Try.ntmps103
  go_wp2_with fail
  go_loopw [3, 4] (fun v i wr => ∃ k : Nat, k ≤ 31 ∧ i = .int .i64 k ∧ Hid (wr.ownsRow w.heap.size 3 1 v (setB y k).length ((ints (setB y k)).map (Value.int .i64))) ∧ Below w.heap.size w wr) (fun _ i _ => 32 - (intOf i).toNat)
  case atStart => exact ⟨0, by omega, rfl, World.ownsRow_nil _ _ _ _, Below.refl _ _⟩
  case round =>
    obtain ⟨k, hk, rfl, hown, hbel⟩ := hrel
    have e0 : ((y : Int) / 2 ^ k) = ((y / 2 ^ k : Nat) : Int) := by simp
    by_cases hp : 2 ^ k ≤ y
    · have hk9 : k ≤ 30 := by
        rcases Nat.lt_or_ge 30 k with h | h
        · have : (2 : Nat) ^ 31 ≤ 2 ^ k := Nat.pow_le_pow_right (by decide) h
          omega
        · exact h
      have ht : (0 : Int) < (y : Int) / 2 ^ k := by rw [e0]; have := (div_pos_iff y k).2 hp; omega
      have hbt := bit_test y k (by omega)
      have hlw := hbel.size
      have hln := setB_len y k
      clear e0 hp
      cases hb : y.testBit k with
      | false =>
        rw [hb] at hbt
        have hs := Lib.hid (show setB y (k + 1) = setB y k from by rw [setB_succ, hb]; rfl)
        clear hb
        go_wp2_with fail
        go_roundw
        case rel => exact ⟨k + 1, by omega, by go_num, (show World.ownsRow _ _ _ _ _ _ _ from by rw [hs.out]; exact hown.out), hbel⟩
        case measure => simp [intOf]; omega
      | true =>
        rw [hb] at hbt
        have hs := Lib.hid (show setB y (k + 1) = setB y k ++ [k] from by rw [setB_succ, hb]; rfl)
        clear hb
        obtain ⟨n, hn⟩ : ∃ n, n = (setB y k).length := ⟨_, rfl⟩
        rw [← hn] at hown hln
        have Hn := Lib.hid hn; clear hn
        go_wp2_with (at_builtin; go_must (refine wpList_append_some _ rfl _ _ 23 rfl w.heap.size 3 i0 (.int .i64 0) 1 8 Try.underlying23 hi hz0 hz1 hz2 rfl (by decide) _ n _ rfl (hown.out.alloc _) ⟨wr.heap.size, 0, none⟩ 1 1 [.int .i64 (k : Int)] rfl rfl (news_cells _ [_] _) (fun x hx => by simp at hx; subst hx; rfl) (by unfold maxLen; omega) (by omega) (by simp; omega) (by omega) ?_; intro g cap w1 hown1 hg1 hgr1 hsz1))
        go_roundw
        case rel =>
          refine ⟨k + 1, by omega, by go_num, ?_, grown_below (hbel.alloc (by omega) _) (hown.out.alloc _) hgr1 (by omega) (by simp; omega)⟩
          show World.ownsRow _ _ _ _ _ _ _
          rw [hs.out]
          simpa [ints, ← Hn.out] using hown1
        case measure => simp [intOf]; omega
    · have ht : ¬ (0 : Int) < (y : Int) / 2 ^ k := by rw [e0]; have := mt (div_pos_iff y k).1 hp; omega
      have hs : Hid (setB y k = setB y 31) := setB_eq (by omega) (lt_31 hy)
      clear e0 hp
      go_wp2_with fail
      go_ret
      refine ⟨_, rfl, ?_, hbel⟩
      unfold OwnI
      rw [ints_len, ← hs.out]
      exact hown.out
theorem pop_31 {y : Nat} (h : y < 2147483648) : (setB y 31).length = pop y := by
  unfold pop
  rw [setB_eq (lt_31 h) (Nat.lt_of_lt_of_le (lt_31 h) (Nat.pow_le_pow_right (show 0 < 2 by decide) (show 31 ≤ 64 by decide)))]
theorem aff_bit {s t : Nat} (hs : s ≤ 1) (ht : t ≤ 1) : s ^^^ t = 0 ∨ s ^^^ t = 1 := by
  have h1 : s = 0 ∨ s = 1 := by omega
  have h2 : t = 0 ∨ t = 1 := by omega
  rcases h1 with rfl | rfl <;> rcases h2 with rfl | rfl <;> decide
theorem affTo_lt (a : Nat) {t : Nat} (ht : t ≤ 1) : ∀ k, k ≤ 31 → affTo a t k < 2147483648
  | 0, _ => by simp [affTo]
  | k + 1, h => by
    have ih := affTo_lt a ht k (by omega)
    rw [affTo_succ, affStep]
    refine Nat.or_lt_two_pow (n := 31) ih ?_
    have hp : (2 : Nat) ^ k < 2 ^ 31 := Nat.pow_lt_pow_right (by omega) (by omega)
    rcases aff_bit (s := pop ((k + 1) &&& a) % 2) (by omega) ht with e | e <;> rw [e]
    · simp
    · rw [Nat.one_shiftLeft]; exact hp
set_option maxHeartbeats 1000000 in
theorem spec_l15Affine_any (n a t : Nat) (w : World) (h1 : 1 ≤ n) (h2 : n ≤ 5) (ha : a ≤ 31) (ht : t ≤ 1) :
    Calls Try.prog 98 #[.int .i64 (n : Int), .int .i64 (a : Int), .int .i64 (t : Int)] w fun e w' => e = .returned (.int .i64 (aff n a t : Int)) ∧ Below w.heap.size w w' := by
  obtain ⟨p1, p2⟩ := pow_5 (n := (n : Int)) (by omega)
  rw [Int.toNat_natCast] at p1 p2
  obtain ⟨N, hN⟩ : ∃ N : Nat, N = 2 ^ n := ⟨_, rfl⟩
  have hNi : (2 : Int) ^ n = (N : Int) := by rw [hN]; simp
  rw [hNi] at p1 p2
  have hw : IntKind.i64.wrap ((2 : Int) ^ n) = (N : Int) := by rw [hNi]; exact IntWalk.i64_in _ (by omega)
  have HN : Hid (aff n a t = affTo a t (N - 1)) := by show _ = _; rw [hN]; rfl
  clear hN hNi
  go_enter Try.func98, Try.ntmps98
  go_wp2_with fail
  go_loopw [7, 8] (fun x i wr => ∃ k : Nat, k ≤ N - 1 ∧ i = .int .i64 ((k : Int) + 1) ∧ x = .int .i64 (affTo a t k : Int) ∧ Below w.heap.size w wr) (fun _ i _ => N - (intOf i).toNat)
  case atStart => exact ⟨0, by omega, rfl, rfl, Below.refl _ _⟩
  case round =>
    obtain ⟨k, hk, rfl, rfl, hbel⟩ := hrel
    by_cases hlt : k + 1 < N
    · have i1 : (k : Int) + 1 < (N : Int) := by omega
      obtain ⟨x, hx⟩ : ∃ x, x = affTo a t k := ⟨_, rfl⟩
      have hxl := affTo_lt a ht k (by omega)
      obtain ⟨z, hz⟩ : ∃ z, z = (k + 1) &&& a := ⟨_, rfl⟩
      have hz31 : z ≤ 31 := by rw [hz]; exact Nat.le_trans Nat.and_le_right ha
      have hand : bits .and .i64 ((k : Int) + 1) (a : Int) = (z : Int) := by rw [hz]; have := bits_and (k + 1) a (by omega) (by omega); simpa using this
      obtain ⟨s, hs⟩ : ∃ s, s = pop z % 2 := ⟨_, rfl⟩
      have he : ((pop z : Nat) : Int) % 2 = (s : Int) := by rw [hs]; simp
      obtain ⟨u, hu⟩ : ∃ u, u = s ^^^ t := ⟨_, rfl⟩
      have hxor : bits .xor .i64 (s : Int) (t : Int) = (u : Int) := by rw [hu]; exact bits_xor s t (by omega) (by omega)
      obtain ⟨q1, q2⟩ := pow_small k (by omega)
      have hwk : IntKind.i64.wrap ((2 : Int) ^ k) = (2 : Int) ^ k := IntWalk.i64_in _ (by omega)
      have e2 : ((2 : Int) ^ k) = ((2 ^ k : Nat) : Int) := by simp
      have hp63 : (2 : Nat) ^ k < 9223372036854775808 := by have : (2 : Nat) ^ k < 2 ^ 31 := Nat.pow_lt_pow_right (by omega) (by omega); omega
      have hor : bits .or .i64 (x : Int) ((2 : Int) ^ k) = ((x ||| 2 ^ k : Nat) : Int) := by rw [e2]; exact bits_or _ _ (by omega) hp63
      have hor0 : bits .or .i64 (x : Int) 0 = (x : Int) := by have := bits_or x 0 (by omega) (by omega); simpa using this
      have Hs := Lib.hid (show affTo a t (k + 1) = x ||| (u <<< k) from by rw [affTo_succ, affStep, hu, hs, hz, hx])
      have hu01 := aff_bit (s := s) (t := t) (by omega) ht
      rw [← hu] at hu01
      rw [← hx] at hxl
      rw [← hx]
      have HE := Lib.hid he
      clear he hu hs hz hx e2 hp63
      rcases hu01 with rfl | rfl
      · replace hxor : bits .xor .i64 (s : Int) (t : Int) = 0 := hxor
        have Hs0 := Lib.hid (show affTo a t (k + 1) = x from by rw [Hs.out]; simp)
        go_wp2_with fail
        refine (spec_l13Parity_any z _ (by omega)).mono ?_; rintro e w1 ⟨rfl, hb1⟩; rw [HE.out]
        go_wp2_with fail
        go_roundw
        case rel => exact ⟨k + 1, by omega, by go_num, by rw [Hs0.out], below_step hbel hb1⟩
        case measure => simp [intOf]; omega
      · replace hxor : bits .xor .i64 (s : Int) (t : Int) = 1 := hxor
        have Hs1 := Lib.hid (show affTo a t (k + 1) = x ||| 2 ^ k from by rw [Hs.out, Nat.one_shiftLeft])
        go_wp2_with fail
        refine (spec_l13Parity_any z _ (by omega)).mono ?_; rintro e w1 ⟨rfl, hb1⟩; rw [HE.out]
        go_wp2_with fail
        go_roundw
        case rel => exact ⟨k + 1, by omega, by go_num, by rw [Hs1.out], below_step hbel hb1⟩
        case measure => simp [intOf]; omega
    · have i1 : ¬ (k : Int) + 1 < (N : Int) := by omega
      have hr : Hid (affTo a t k = aff n a t) := by show _ = _; rw [HN.out, show k = N - 1 from by omega]
      go_wp2_with fail
      go_ret
      exact ⟨ret_int (by rw [hr.out]), hbel⟩
end Go.Proofs.Ytlelcnlibacnaaa
