/- The rank over GF(2), in the reference. -/
import Derived.Test.YtdkfoleippncnaaDel
import Derived.Test.YtdkfoleippncnaaSpan2
import Derived.Test.YtdkfoleippncnaaBits
namespace Go.Proofs.Ytdkfoleippncnaa
set_option linter.unusedSimpArgs false
set_option linter.unusedVariables false
set_option linter.unnecessarySimpa false
set_option maxRecDepth 200000
open Go.ChangeShapes Go.WideShapes Go.ChangeAt Go.RowKit

set_option maxHeartbeats 1000000 in
theorem spec_l12Rank_some (v : Value) (L : List Nat) (w : World) (h : RdI w v (ints L)) (h0 : 0 < L.length) (hn : L.length ≤ 1048576) (hb : ∀ r ∈ L, r ≤ 1023) :
    Calls Try.prog 143 #[v] w fun e w' => ∃ N : Nat, e = .returned (.int .i64 N) ∧ Left N 0 10 0 L ∧ Below w.heap.size w w' := by
  have H := Lib.hid h
  obtain ⟨A, c, rfl, _⟩ := h.form
  clear h
  have HB := Lib.hid hb; clear hb
  obtain ⟨N, hN⟩ := Left.start L
  have HN := Lib.hid hN; have HN9 := Lib.hid hN; clear hN
  go_enter Try.func143, Try.ntmps143
  go_wp2_with fail
  refine (spec_l1Own_any _ (ints L) _ H.out (by rw [ints_len]; exact hn)).mono ?_; rintro e w1 ⟨v1, rfl, ho, hb1⟩
  obtain ⟨g, cap, rfl, hg0, hg1⟩ := own_ints ho h0
  have Ho := Lib.hid (OwnN.of ho); clear ho
  go_wp2_with fail
  go_loopw [4, 5] (fun rk bt wr => ∃ (k r : Nat) (M : List Nat), k ≤ 10 ∧ r ≤ k ∧ r ≤ M.length ∧ M.length = L.length ∧ bt = .int .i64 k ∧ rk = .int .i64 r ∧ Hid (OwnN wr w.heap.size g L.length cap M) ∧ Hid (∀ x ∈ M, x ≤ 1023) ∧ Hid (Left N r (10 - k) k (M.drop r)) ∧ Below w.heap.size w wr) (fun _ i _ => 10 - (intOf i).toNat)
  case atStart => exact ⟨0, 0, L, by omega, by omega, by omega, rfl, rfl, rfl, Ho, HB, HN, hb1⟩
  case round =>
    obtain ⟨k, r, M, hk, hrk, hr, hM, rfl, rfl, hown, hbd, hleft, hbel⟩ := hrel
    clear Ho HB HN hb1
    have HM := Lib.hid hM
    have hM1 : L.length ≤ M.length := by omega
    have hM2 : M.length ≤ L.length := by omega
    clear hM
    by_cases hlt : k < 10
    · have i1 : (k : Int) < 10 := by omega
      obtain ⟨wo, hwo⟩ : ∃ wo : World, wo = wr := ⟨_, rfl⟩
      go_wp2_with fail
      go_loop [6, 7] (fun at_ i => ∃ j : Nat, r ≤ j ∧ j ≤ L.length ∧ at_ = .int .i64 (-1) ∧ i = .int .i64 j ∧ Hid (∀ t, r ≤ t → t < j → (M.getD t 0).testBit k = false)) (fun _ i => L.length - (intOf i).toNat)
      case atStart => exact ⟨r, by omega, by omega, rfl, rfl, (fun t h1 h2 => by omega)⟩
      case round =>
        obtain ⟨j, hj0, hj, rfl, rfl, hnone⟩ := hrel
        by_cases hjl : j < L.length
        · have hcell := own_int_cell hown.out j (by omega)
          obtain ⟨y, hy⟩ : ∃ y, y = M.getD j 0 := ⟨_, rfl⟩
          rw [← hy] at hcell
          have Hy := Lib.hid hy; clear hy
          have i2 : (j : Int) < (L.length : Int) := by omega
          have hyb : y ≤ 1023 := by rw [Hy.out]; exact getD_bd hbd.out
          have hbt := bit_test y k (by omega)
          cases hb : y.testBit k with
          | false =>
            rw [hb] at hbt
            have Hb := Lib.hid hb; clear hb
            go_wp2_with fail
            go_round
            case rel =>
              refine ⟨j + 1, by omega, by omega, rfl, by go_num, (show ∀ t, r ≤ t → t < j + 1 → (M.getD t 0).testBit k = false from fun t h1 h2 => ?_)⟩
              by_cases e : t = j
              · subst e; rw [← Hy.out]; exact Hb.out
              · exact hnone.out t h1 (by omega)
            case measure => simp [intOf]; omega
          | true =>
            rw [hb] at hbt
            have Hb := Lib.hid hb; clear hb
            have hcr := own_int_cell hown.out r (by omega)
            have hfj := hown.out.frz j
            have hfr := hown.out.frz r
            have i3 : (r : Int) < (L.length : Int) := by omega
            obtain ⟨z, hz⟩ : ∃ z, z = M.getD r 0 := ⟨_, rfl⟩
            rw [← hz] at hcr
            obtain ⟨u', hu'⟩ := cell?_setCell_some (w := wr) (p := ⟨g, j, none⟩) (x := .int .i64 (z : Int)) (q := ⟨g, r, none⟩) hcr
            obtain ⟨S, hS⟩ : ∃ S, S = swp M r j := ⟨_, rfl⟩
            have hS1 : (M.set j z).set r y = S := by rw [hS, hz, Hy.out]; rfl
            have hS2 : S.length = L.length := by rw [hS, swp_len]; exact HM.out
            have hS3 : L.length ≤ S.length := by omega
            have HS2 := Lib.hid hS2
            have HSb := Lib.hid (show ∀ x ∈ S, x ≤ 1023 from by rw [hS]; exact swp_bd hbd.out)
            have HF := Lib.hid (show Left N (r + 1) (10 - (k + 1)) (k + 1) ((clrTo S r k y L.length).drop (r + 1)) from by
              have := Left.swap hleft.out hlt hj0 (by omega) (by rw [← Hy.out]; exact Hb.out) L.length (by omega)
              rw [← Hy.out, ← hS] at this; exact this)
            have own2 := Lib.hid (show OwnN ((wr.setCell ⟨g, j, none⟩ (.int .i64 (z : Int))).setCell ⟨g, r, none⟩ (.int .i64 (y : Int))) w.heap.size g L.length cap (clrTo S r k y 0) from by
              rw [clrTo_zero, ← hS1]; exact (hown.out.set j z).set r y)
            have bel2 : Below w.heap.size w ((wr.setCell ⟨g, j, none⟩ (.int .i64 (z : Int))).setCell ⟨g, r, none⟩ (.int .i64 (y : Int))) := (by repeat (first | exact Below.refl _ _ | assumption | refine Below.drew ?_ | refine below_drewN ?_ _ | refine Below.alloc ?_ (by first | omega | (simp <;> omega)) _ | refine Below.setCell ?_ (by first | omega | (simp <;> omega)) _ | refine Below.trans ?_ (Below.mono (by assumption) (by first | omega | (simp <;> omega)))))
            have hjr0 : (j < 0) = False := by simp
            clear hS hS1 hS2 hz hown hbel hnone hleft hbd Hy
            go_wp2_with fail
            clear hcell hcr hfj hfr hu'
            go_loopw [9, 52] (fun _ i wq => ∃ q : Nat, q ≤ L.length ∧ i = .int .i64 q ∧ Hid (OwnN wq w.heap.size g L.length cap (clrTo S r k y q)) ∧ Below w.heap.size w wq) (fun _ i _ => L.length - (intOf i).toNat)
            case atStart => exact ⟨0, by omega, rfl, own2, bel2⟩
            case round =>
              obtain ⟨q, hq, rfl, hown3, hbel3⟩ := hrel
              rename_i wq _
              clear own2 bel2
              by_cases hql : q < L.length
              · have hcell := own_int_cell hown3.out q (by rw [clrTo_len]; omega)
                rw [clrTo_get (by omega)] at hcell
                have hfq := hown3.out.frz q
                obtain ⟨x, hx⟩ : ∃ x, x = S.getD q 0 := ⟨_, rfl⟩
                rw [← hx] at hcell
                have hxb : x ≤ 1023 := by rw [hx]; exact getD_bd HSb.out
                have hbt2 := bit_test x k (by omega)
                have hxo := bits_xor x y (by omega) (by omega)
                have Hx := Lib.hid hx; clear hx
                have i4 : (q : Int) < (L.length : Int) := by omega
                by_cases hqr : q = r
                · have g1 : ((q : Int) != (r : Int)) = false := by simp [hqr]
                  have hk : Hid (clrTo S r k y (q + 1) = clrTo S r k y q) := clrTo_same (by omega) (fun h => h.1 hqr)
                  clear hqr
                  go_wp2_with fail
                  go_roundw
                  case rel => exact ⟨q + 1, by omega, by go_num, (show OwnN _ _ _ _ _ _ from by rw [hk.out]; exact hown3.out), hbel3⟩
                  case measure => simp [intOf]; omega
                · have g1 : ((q : Int) != (r : Int)) = true := by simp; omega
                  have Hqr := Lib.hid hqr; clear hqr
                  cases hxt : x.testBit k with
                  | false =>
                    rw [hxt] at hbt2
                    have hk : Hid (clrTo S r k y (q + 1) = clrTo S r k y q) := clrTo_same (by omega) (fun h => by rw [← Hx.out, hxt] at h; cases h.2)
                    clear hxt
                    go_wp2_with fail
                    go_roundw
                    case rel => exact ⟨q + 1, by omega, by go_num, (show OwnN _ _ _ _ _ _ from by rw [hk.out]; exact hown3.out), hbel3⟩
                    case measure => simp [intOf]; omega
                  | true =>
                    rw [hxt] at hbt2
                    have hk : Hid (clrTo S r k y (q + 1) = (clrTo S r k y q).set q (x ^^^ y)) := by
                      show _ = _
                      rw [clrTo_succ (by omega), ← Hx.out]; simp only [clr]; rw [if_pos ⟨Hqr.out, hxt⟩]
                    clear hxt
                    go_wp2_with fail
                    go_roundw
                    case rel => exact ⟨q + 1, by omega, by go_num, (show OwnN _ _ _ _ _ _ from by rw [hk.out]; exact hown3.out.set q (x ^^^ y)), (by repeat (first | exact Below.refl _ _ | assumption | refine Below.drew ?_ | refine below_drewN ?_ _ | refine Below.alloc ?_ (by first | omega | (simp <;> omega)) _ | refine Below.setCell ?_ (by first | omega | (simp <;> omega)) _ | refine Below.trans ?_ (Below.mono (by assumption) (by first | omega | (simp <;> omega)))))⟩
                    case measure => simp [intOf]; omega
              · have e : q = L.length := by omega
                subst e
                go_wp2_with fail
                go_roundw
                case rel => exact ⟨k + 1, r + 1, clrTo S r k y L.length, by omega, by omega, by rw [clrTo_len]; omega, by rw [clrTo_len]; exact HS2.out, by go_num, by go_num, hown3, clrTo_bd (by omega) HSb.out _, HF.out, hbel3⟩
                case measure => simp [intOf]; omega
        · have e : j = L.length := by omega
          subst e
          go_wp2_with fail
          go_roundw
          case rel => exact ⟨k + 1, r, M, by omega, by omega, by omega, HM.out, by go_num, rfl, hown, hbd, Left.none hleft.out hlt (fun t h1 h2 => hnone.out t h1 (by rw [← HM.out]; exact h2)), hbel⟩
          case measure => simp [intOf]; omega
    · have e : k = 10 := by omega
      subst e
      go_wp2_with fail
      go_ret
      refine ⟨r, rfl, ?_, hbel⟩; have h9 := Left.done (show Left N r 0 10 (M.drop r) from hleft.out); subst h9; exact HN9.out
end Go.Proofs.Ytdkfoleippncnaa
