/- The reference's code words. -/
import Derived.Test.YtlelcnlibacnaaaRm2
namespace Go.Proofs.Ytlelcnlibacnaaa
set_option linter.unusedSimpArgs false
set_option linter.unusedVariables false
set_option linter.unnecessarySimpa false
set_option maxRecDepth 200000
open Go.ChangeShapes Go.WideShapes Go.ChangeAt Go.RowKit

theorem own_lit1 (w : World) (z : Nat) : OwnI (w.alloc (.cells #[.int .i64 (z : Int)] 3)) w.heap.size (.slice (some ⟨w.heap.size, 0, none⟩) 1 1) (ints [z]) := by
  refine ⟨by simp [ints], .inr ⟨w.heap.size, 1, #[.int .i64 (z : Int)], rfl, Nat.le_refl _, ?_, Nat.le_refl _, by simp [maxLen, ints], by simp, by simp [ints]⟩⟩
  show (w.heap.push _)[w.heap.size]? = _
  simp
theorem put_ge (L : List Nat) (x : Nat) : L.length ≤ (putN L x).length := by
  unfold putN; split
  · omega
  · simp; omega
theorem aff_lt {n a t : Nat} (h2 : n ≤ 5) (ht : t ≤ 1) : aff n a t < 2147483648 := by
  refine affTo_lt a ht _ ?_
  have : (2 : Nat) ^ n ≤ 2 ^ 5 := Nat.pow_le_pow_right (by omega) h2
  omega
/-- A list on the way. -/
structure CL (m : Nat) (L : List Nat) : Prop where
  pos : 0 < L.length
  len : L.length ≤ m
  small : ∀ y ∈ L, y < 2147483648
theorem CL.put {m : Nat} {L : List Nat} {x : Nat} (h : CL m L) (hx : x < 2147483648) : CL (m + 1) (putN L x) :=
  ⟨Nat.lt_of_lt_of_le h.pos (put_ge L x), by have := put_len L x; have := h.len; omega, put_small h.small hx⟩
theorem cl_zero : CL 1 [0] := ⟨by decide, by decide, by simp⟩
theorem codes4_cl {n : Nat} (h2 : n ≤ 5) : CL 2 (codes4 n) := by
  unfold codes4; split
  · exact cl_zero.put (aff_lt h2 (by omega))
  · exact ⟨by decide, by decide, by simp⟩
theorem codesTo_cl {n : Nat} (h2 : n ≤ 5) : ∀ k, CL (2 + 2 * k) (codesTo n (codes4 n) k)
  | 0 => codes4_cl h2
  | k + 1 => by
    rw [codesTo_succ, codeStep]
    have h := ((codesTo_cl h2 k).put (aff_lt (a := k + 1) (t := 0) h2 (by omega))).put (aff_lt (a := k + 1) (t := 1) h2 (by omega))
    exact ⟨h.pos, by have := h.len; omega, h.small⟩
theorem spec_l15Affine_k (k t : Nat) (w : World) (hk : k ≤ 30) (ht : t ≤ 1) :
    Calls Try.prog 98 #[.int .i64 5, .int .i64 ((k : Int) + 1), .int .i64 (t : Int)] w fun e w' => e = .returned (.int .i64 (aff 5 (k + 1) t : Int)) ∧ Below w.heap.size w w' := by
  have h := spec_l15Affine_any 5 (k + 1) t w (by omega) (by omega) (by omega) ht
  rw [show (((k + 1 : Nat)) : Int) = (k : Int) + 1 from by simp] at h
  exact h
set_option maxHeartbeats 2000000 in
theorem spec_l15Codes_any (n : Nat) (w : World) (h1 : 1 ≤ n) (h2 : n ≤ 5) :
    Calls Try.prog 59 #[.int .i64 (n : Int)] w fun e w' => ∃ v, e = .returned v ∧ OwnI w' w.heap.size v (ints (codesS n)) ∧ Below w.heap.size w w' := by
  by_cases hn4 : 4 ≤ n
  · have h4 := Lib.hid (show codes4 n = putN [0] (aff n 0 1) from if_pos hn4)
    have CL4 := Lib.hid (codes4_cl h2)
    by_cases hn5 : n = 5
    · subst hn5
      have HS := Lib.hid (show codesS 5 = codesTo 5 (codes4 5) 31 from rfl)
      go_enter Try.func59, Try.ntmps59
      go_wp2_with fail
      refine (spec_l15Affine_any 5 0 1 _ (by omega) (by omega) (by omega) (by omega)).mono ?_; rintro e w1 ⟨rfl, hb1⟩
      have z1 := hb1.size; (try simp at z1)
      have o1 := Lib.hid (OwnI.below (own_lit1 w 0) hb1 rfl)
      go_wp2_with fail
      refine (spec_l1Put_any _ [0] (aff 5 0 1) w.heap.size _ o1.out (by omega) (by decide) (by decide) (by simp) (aff_lt (by omega) (by omega))).mono ?_; rintro e w2 ⟨v2, rfl, ho2, hb2⟩
      rw [← h4.out] at ho2
      have O2 := Lib.hid ho2; clear ho2
      have b2 := Lib.hid (show Below w.heap.size w w2 from (by repeat (first | exact Below.refl _ _ | assumption | refine Below.drew ?_ | refine below_drewN ?_ _ | refine Below.alloc ?_ (by first | omega | (simp <;> omega)) _ | refine Below.setCell ?_ (by first | omega | (simp <;> omega)) _ | refine Below.trans ?_ (Below.mono (by assumption) (by first | omega | (simp <;> omega))))))
      clear hb1 hb2 o1
      go_wp2_with fail
      go_loopw [3, 4] (fun v a wr => ∃ (k : Nat) (vv : Value), k ≤ 31 ∧ a = .int .i64 ((k : Int) + 1) ∧ v = vv ∧ Hid (OwnI wr w.heap.size vv (ints (codesTo 5 (codes4 5) k))) ∧ Below w.heap.size w wr) (fun _ a _ => 33 - (intOf a).toNat)
      case atStart => exact ⟨0, v2, by omega, rfl, rfl, O2, b2.out⟩
      case round =>
        obtain ⟨k, vv, hk, rfl, rfl, hown, hbel⟩ := hrel
        have hsz := hbel.size
        by_cases hlt : k < 31
        · have i1 : (k : Int) + 1 < 32 := by omega
          have CK := Lib.hid (codesTo_cl (n := 5) (by omega) k)
          have hst := Lib.hid (show codesTo 5 (codes4 5) (k + 1) = putN (putN (codesTo 5 (codes4 5) k) (aff 5 (k + 1) 0)) (aff 5 (k + 1) 1) from codesTo_succ _ _ _)
          have A0 := Lib.hid (aff_lt (n := 5) (a := k + 1) (t := 0) (by omega) (by omega))
          have A1 := Lib.hid (aff_lt (n := 5) (a := k + 1) (t := 1) (by omega) (by omega))
          go_wp2_with fail
          refine (spec_l15Affine_k k 0 _ (by omega) (by omega)).mono ?_; rintro e x1 ⟨rfl, c1⟩
          have s1 := c1.size
          have p1 := Lib.hid (OwnI.below hown.out c1 rfl)
          go_wp2_with fail
          refine (spec_l1Put_any _ _ (aff 5 (k + 1) 0) w.heap.size _ p1.out (by omega) CK.out.pos (by have := CK.out.len; omega) CK.out.small A0.out).mono ?_; rintro e x2 ⟨u2, rfl, ho2, c2⟩
          have s2 := c2.size
          have CK2 := Lib.hid (CK.out.put A0.out)
          have p2 := Lib.hid ho2; clear ho2
          have d2 := Lib.hid (below_step (below_step hbel c1) c2)
          clear c1 c2 p1 hown hbel
          go_wp2_with fail
          refine (spec_l15Affine_k k 1 _ (by omega) (by omega)).mono ?_; rintro e x3 ⟨rfl, c3⟩
          have s3 := c3.size
          have p3 := Lib.hid (OwnI.below p2.out c3 rfl)
          go_wp2_with fail
          refine (spec_l1Put_any _ _ (aff 5 (k + 1) 1) w.heap.size _ p3.out (by omega) CK2.out.pos (by have := CK2.out.len; omega) CK2.out.small A1.out).mono ?_; rintro e x4 ⟨u4, rfl, ho4, c4⟩
          rw [← hst.out] at ho4
          have p4 := Lib.hid ho4; clear ho4
          have d4 := Lib.hid (below_step (below_step d2.out c3) c4)
          clear c3 c4 p3 d2
          go_wp2_with fail
          go_roundw
          case rel => exact ⟨k + 1, u4, by omega, by go_num, rfl, p4, d4.out⟩
          case measure => simp [intOf]; omega
        · have i1 : ¬ (k : Int) + 1 < 32 := by omega
          have hr : Hid (codesTo 5 (codes4 5) k = codesS 5) := by show _ = _; rw [HS.out, show k = 31 from by omega]
          go_wp2_with fail
          go_ret
          exact ⟨_, rfl, by rw [← hr.out]; exact hown.out, hbel⟩
    · have e : n = 4 := by omega
      subst e
      have HS := Lib.hid (show codesS 4 = codes4 4 from rfl)
      clear hn5
      go_enter Try.func59, Try.ntmps59
      go_wp2_with fail
      refine (spec_l15Affine_any 4 0 1 _ (by omega) (by omega) (by omega) (by omega)).mono ?_; rintro e w1 ⟨rfl, hb1⟩
      have z1 := hb1.size; (try simp at z1)
      have o1 := Lib.hid (OwnI.below (own_lit1 w 0) hb1 rfl)
      go_wp2_with fail
      refine (spec_l1Put_any _ [0] (aff 4 0 1) w.heap.size _ o1.out (by omega) (by decide) (by decide) (by simp) (aff_lt (by omega) (by omega))).mono ?_; rintro e w2 ⟨v2, rfl, ho2, hb2⟩
      rw [← h4.out] at ho2
      have O2 := Lib.hid ho2; clear ho2
      have b2 := Lib.hid (show Below w.heap.size w w2 from (by repeat (first | exact Below.refl _ _ | assumption | refine Below.drew ?_ | refine below_drewN ?_ _ | refine Below.alloc ?_ (by first | omega | (simp <;> omega)) _ | refine Below.setCell ?_ (by first | omega | (simp <;> omega)) _ | refine Below.trans ?_ (Below.mono (by assumption) (by first | omega | (simp <;> omega))))))
      clear hb1 hb2 o1
      go_wp2_with fail
      refine wp_loop_rounds 1 ?_
      rw [rounds_succ]
      go_wp2_with fail
      go_ret
      exact ⟨v2, rfl, by rw [HS.out]; exact O2.out, b2.out⟩
  · have h4 := Lib.hid (show codes4 n = [0] from if_neg hn4)
    have HS := Lib.hid (show codesS n = [0] from by unfold codesS; rw [if_neg (by omega)]; exact h4.out)
    have i1 : ¬ (4 : Int) ≤ (n : Int) := by omega
    have i2 : decide ((4 : Int) ≤ (n : Int)) = false := by simp; omega
    have i2' : decide (4 ≤ n) = false := by simp; omega
    have i3 : ((n : Int) == 5) = false := by simp; omega
    clear hn4
    go_enter Try.func59, Try.ntmps59
    go_wp2_with fail
    refine wp_loop_rounds 1 ?_
    rw [rounds_succ]
    go_wp2_with fail
    go_ret
    exact ⟨_, rfl, by rw [HS.out]; exact own_lit1 w 0, (by repeat (first | exact Below.refl _ _ | assumption | refine Below.drew ?_ | refine below_drewN ?_ _ | refine Below.alloc ?_ (by first | omega | (simp <;> omega)) _ | refine Below.setCell ?_ (by first | omega | (simp <;> omega)) _ | refine Below.trans ?_ (Below.mono (by assumption) (by first | omega | (simp <;> omega)))))⟩
end Go.Proofs.Ytlelcnlibacnaaa
