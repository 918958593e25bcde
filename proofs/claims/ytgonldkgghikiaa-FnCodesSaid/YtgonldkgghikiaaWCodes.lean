/- The walk through the law FnCodes. -/
import Derived.Test.YtgonldkgghikiaaCus
import Derived.Test.YtgonldkgghikiaaCc1
import Derived.BigRegion
import Derived.BigQuiet
import Derived.Deep.DeepCutAuto
namespace Go.Proofs.Ytgonldkgghikiaa
set_option linter.unusedSimpArgs false
set_option linter.unusedVariables false
set_option linter.unnecessarySimpa false
set_option maxRecDepth 200000
open Go.ChangeShapes Go.WideShapes Go.ChangeAt Go.RowKit

theorem spec_DrawNearestCode_any (v : Value) (zs : List Int) (w : World) (h : RdB w v zs) (hr : ∀ z ∈ zs, 0 ≤ z ∧ z ≤ 255) :
    Calls Try.prog 13 #[v] w fun e w' => ∃ n x : Int, e = .returned (.tuple #[.int .i64 n, .int .i64 x]) ∧ Below w.heap.size w w' := by
  go_enter Try.func13, Try.ntmps13
  go_wp2_with fail
  refine (spec_DrawIsCodeWord_any v zs w h hr).mono ?_; rintro e w1 ⟨n, x, rfl, hb⟩
  go_wp2_with fail
  go_ret2
  exact ⟨n, x, rfl, hb⟩
def metTo (L : List Nat) (p i : Nat) : Bool := (L.take i).any fun y => decide (y = p)
theorem metTo_succ {L : List Nat} {p i : Nat} (h : i < L.length) : metTo L p (i + 1) = (metTo L p i || decide (L.getD i 0 = p)) := by
  unfold metTo
  rw [List.take_succ_eq_append_getElem h, List.any_append]
  simp [List.getD, h]
theorem metTo_all {L : List Nat} {p i : Nat} (h : p ∈ L) (hi : L.length ≤ i) : metTo L p i = true := by
  unfold metTo
  rw [List.take_of_length_le hi, List.any_eq_true]
  exact ⟨p, h, by simp⟩
set_option maxHeartbeats 8000000 in
theorem walk_FnCodes (v0 v1 : Value) (w : World) (h0 : IsBytes w v0) (h1 : IsBytes w v1) :
    Calls Try.prog 4 #[v0, v1] w fun e w' => e = .returned (.bool true) ∧ Below w.heap.size w w' := by
  obtain ⟨zs, hz, hr⟩ := h0
  obtain ⟨zs1, hz1, _⟩ := h1
  obtain ⟨A, c, rfl⟩ : ∃ a c, v0 = .slice a zs.length c := hz.form_any
  obtain ⟨A1, c1, rfl⟩ : ∃ a c, v1 = .slice a zs1.length c := hz1.form_any
  have HZ := Lib.hid hz
  have HR := Lib.hid hr
  clear hz hr hz1
  go_enter Try.func4, Try.ntmps4
  by_cases hlen : (1048576 : Int) < wrap64 ((zs.length : Int) + (zs1.length : Int))
  · go_wp2_with fail
    go_ret
    exact ⟨rfl, (by repeat (first | exact Below.refl _ _ | assumption | refine Below.drew ?_ | refine below_drewN ?_ _ | refine Below.alloc ?_ (by first | omega | (simp <;> omega)) _ | refine Below.setCell ?_ (by first | omega | (simp <;> omega)) _ | refine Below.trans ?_ (Below.mono (by assumption) (by first | omega | (simp <;> omega)))))⟩
  · go_wp2_with fail
    refine (spec_DrawNearestCode_any _ zs _ HZ.out HR.out).mono ?_; rintro e w1 ⟨n, b, rfl, hb1⟩
    have B1 := Lib.hid hb1
    clear hb1
    go_wp2_with fail
    refine (impl_NearestCode_any n b _).mono ?_; rintro e w2 ⟨rfl, hb2⟩
    have B2 := Lib.hid (below_step B1.out hb2)
    clear hb2
    go_wp2_with fail
    refine (spec_NearestCode_any n b _).mono ?_; rintro e w3 ⟨rfl, hb3⟩
    have B3 := Lib.hid (below_step B2.out hb3)
    clear hb3
    go_wp2_with fail
    refine (impl_IsCodeWord_any n b _).mono ?_; rintro e w4 ⟨rfl, hb4⟩
    have B4 := Lib.hid (below_step B3.out hb4)
    clear hb4
    go_wp2_with fail
    refine (spec_IsCodeWord_any n b _).mono ?_; rintro e w5 ⟨rfl, hb5⟩
    have B5 := Lib.hid (below_step B4.out hb5)
    clear hb5 B1 B2 B3 B4
    cases hw : wordB n b with
    | false =>
      have hbq := B5.out
      generalize (nearG n b).1 = p1 at *
      generalize (nearG n b).2 = p2 at *
      generalize isG n b = q1 at *
      go_wp2_with fail
      go_ret
      exact ⟨rfl, (by repeat (first | exact Below.refl _ _ | assumption | refine Below.drew ?_ | refine below_drewN ?_ _ | refine Below.alloc ?_ (by first | omega | (simp <;> omega)) _ | refine Below.setCell ?_ (by first | omega | (simp <;> omega)) _ | refine Below.trans ?_ (Below.mono (by assumption) (by first | omega | (simp <;> omega)))))⟩
    | true =>
      obtain ⟨⟨n1, n2⟩, b1, b2⟩ := wordB_ok hw
      obtain ⟨m, rfl⟩ := Int.eq_ofNat_of_zero_le (show 0 ≤ n by omega)
      obtain ⟨x, rfl⟩ := Int.eq_ofNat_of_zero_le b1
      have m1 : 1 ≤ m := by omega
      have m5 : m ≤ 5 := by omega
      obtain ⟨x31, _⟩ := word_pop m1 m5 b2
      obtain ⟨f1, f2, f3, f4⟩ := near_facts (x := x) m1 m5 x31
      have hN : nearG (m : Int) (x : Int) = near m x := by rw [nearG_1 hw]; rfl
      have hI : isG (m : Int) (x : Int) = decide ((near m x).2 = 0) := by rw [← isG_1 hw]; exact f4
      rw [hN, hI]
      clear hN hI f4 hw b2 b1 n1 n2
      have hp31 : (near m x).1 < 2147483648 := (code_ok m1 m5).small _ f1
      have hk64 : (near m x).2 ≤ 64 := by rw [f2]; exact pop_le _
      obtain ⟨p, hp⟩ : ∃ p, p = (near m x).1 := ⟨_, rfl⟩
      obtain ⟨k, hk⟩ : ∃ k, k = (near m x).2 := ⟨_, rfl⟩
      rw [← hp] at f1 f2 hp31 ⊢
      rw [← hk] at f2 f3 hk64 ⊢
      clear hp hk
      have F1 := Lib.hid f1; have F2 := Lib.hid f2; have F3 := Lib.hid f3
      clear f1 f2 f3
      go_wp2_with fail
      refine (impl_CodeWords_any (m : Int) _).mono ?_; rintro e w6 ⟨vL, rfl, hoL, hb6⟩
      have hcg : codeG (m : Int) = some (ints (codesS m)) := by unfold codeG; rw [if_pos ⟨by omega, by omega⟩]; rfl
      rw [hcg] at hoL ⊢
      obtain ⟨nL, hnL⟩ : ∃ k, k = (codesS m).length := ⟨_, rfl⟩
      obtain ⟨aL, cL, rfl⟩ : ∃ a c, vL = .slice a nL c := (by have h9 := hoL.forms; rw [show (some (ints (codesS m))).getD [] = ints (codesS m) from rfl, ints_len, ← hnL] at h9; exact h9)
      have RL := Lib.hid (show RdI w6 (.slice aL nL cL) (ints (codesS m)) from OwnI.rd hoL)
      have B6 := Lib.hid (below_step B5.out hb6)
      have HNL := Lib.hid hnL
      have hnl64 : nL ≤ 64 := by rw [hnL]; exact (code_ok m1 m5).few
      clear hoL hb6 hcg B5 hnL
      have hxp := bits_xor x p (by omega) (by omega)
      have hq31 : x ^^^ p < 2147483648 := Nat.xor_lt_two_pow (n := 31) (by omega) (by omega)
      go_wp2_with fail
      refine (laws_qWeight_any (x ^^^ p) _ hq31).mono ?_; rintro e w7 ⟨rfl, rfl⟩
      rw [← F2.out]
      clear hxp hq31
      go_wp2_with fail
      have hP5 : 2 ^ m ≤ 32 := Nat.le_trans (Nat.pow_le_pow_right (by decide) m5) (by decide : 2 ^ 5 ≤ 32)
      have hP1 : 1 ≤ 2 ^ m := Nat.pow_pos (by decide)
      obtain ⟨P, hP⟩ : ∃ P, P = 2 ^ m := ⟨_, rfl⟩
      have hPi : (2 : Int) ^ m = (P : Int) := by rw [hP]; simp
      obtain ⟨p1, p2⟩ := pow_small m (by omega)
      have hwp : IntKind.i64.wrap ((2 : Int) ^ m) = (2 : Int) ^ m := IntWalk.i64_in _ (by omega)
      have hmn : min m 64 = m := by omega
      have j2 : (0 : Int) ≤ (m : Int) := by omega
      rw [← hP] at hP5 hP1
      have HP := Lib.hid hP
      clear hP
      have BE := Lib.hid (Below.refl w7.heap.size w7)
      have z6 := B6.out.size
      go_loopw [19, 104] (fun st si wx => ∃ i : Nat, i ≤ nL ∧ st = .bool (metTo (codesS m) p i) ∧ si = .int .i64 i ∧ Hid (Below w7.heap.size w7 wx)) (fun _ si _ => nL - (intOf si).toNat)
      case atStart => exact ⟨0, Nat.zero_le _, rfl, rfl, BE⟩
      case round =>
        clear BE
        obtain ⟨i, hi, rfl, rfl, hB⟩ := hrel
        by_cases hlt : i < nL
        · have i1 : (i : Int) < (nL : Int) := by omega
          have hil : i < (codesS m).length := by rw [← HNL.out]; exact hlt
          obtain ⟨g, off, cap, e, hgw, _, _, hc⟩ := rdI_low (Rd.below RL.out hB.out rfl) (by rw [ints_len]; omega)
          injection e with e1 e2 e3
          subst e1
          have cy := hc i (.int .i64 (((codesS m).getD i 0 : Nat) : Int)) (by simp [ints, List.getD, hil])
          have hyl : (codesS m).getD i 0 < 2147483648 := mem_small (code_ok m1 m5).small hil
          have hyF := F3.out _ (show (codesS m).getD i 0 ∈ codesS m from by rw [show (codesS m).getD i 0 = (codesS m)[i] from by simp [List.getD, hil]]; exact List.getElem_mem hil)
          have HM := Lib.hid (metTo_succ (p := p) hil)
          obtain ⟨y, hy⟩ : ∃ y, y = (codesS m).getD i 0 := ⟨_, rfl⟩
          rw [← hy] at cy hyl hyF HM
          clear hy hc e2 e3 hil
          obtain ⟨t, ht⟩ : ∃ t, t = metTo (codesS m) p i := ⟨_, rfl⟩
          rw [← ht] at HM ⊢
          clear ht
          have hxy := bits_xor x y (by omega) (by omega)
          have hq31 : x ^^^ y < 2147483648 := Nat.xor_lt_two_pow (n := 31) (by omega) (by omega)
          have hpl := pop_le (x ^^^ y)
          have i3 : ¬ ((pop (x ^^^ y) : Nat) : Int) < (k : Int) := by omega
          cases t with
          | true =>
            go_wp2_with fail
            refine (laws_qWeight_any (x ^^^ y) _ hq31).mono ?_; rintro e w7 ⟨rfl, rfl⟩
            go_wp2_with fail
            go_roundw
            case rel => exact ⟨i + 1, by omega, by rw [HM.out]; rfl, by go_num, hB⟩
            case measure => simp [intOf]; omega
          | false =>
            by_cases hyp : y = p
            · have i4 : ((y : Int) == (p : Int)) = true := by simp [hyp]
              have HD := Lib.hid (decide_eq_true hyp)
              clear hyp
              go_wp2_with fail
              refine (laws_qWeight_any (x ^^^ y) _ hq31).mono ?_; rintro e w7 ⟨rfl, rfl⟩
              go_wp2_with fail
              go_roundw
              case rel => exact ⟨i + 1, by omega, by rw [HM.out, HD.out]; rfl, by go_num, hB⟩
              case measure => simp [intOf]; omega
            · have i4 : ((y : Int) == (p : Int)) = false := by simp; omega
              have HD := Lib.hid (decide_eq_false hyp)
              clear hyp
              go_wp2_with fail
              refine (laws_qWeight_any (x ^^^ y) _ hq31).mono ?_; rintro e w7 ⟨rfl, rfl⟩
              go_wp2_with fail
              go_roundw
              case rel => exact ⟨i + 1, by omega, by rw [HM.out, HD.out]; rfl, by go_num, hB⟩
              case measure => simp [intOf]; omega
        · obtain rfl : i = nL := by omega
          have i1 : ¬ (i : Int) < (i : Int) := by omega
          rw [metTo_all F1.out (by rw [HNL.out]; exact Nat.le_refl _)]
          have BB := Lib.hid (below_step B6.out hB.out)
          clear hB B6 z6 RL
          go_wp2_with fail
          go_loopw [22] (fun sb wx => ∃ bs : Nat, bs ≤ P ∧ sb = .int .i64 bs ∧ Hid (Below w.heap.size w wx)) (fun sb _ => P - (intOf sb).toNat)
          case atStart => exact ⟨0, Nat.zero_le _, rfl, BB⟩
          case round =>
            clear BB
            obtain ⟨bs, hbs, rfl, hB⟩ := hrel
            by_cases hlt2 : bs < P
            · have i2 : (bs : Int) < (2 : Int) ^ m := by rw [hPi]; omega
              have H8 := Lib.hid (sum_8 m1 m5 F1.out (show bs < 2 ^ m from by rw [← HP.out]; exact hlt2))
              rw [← HP.out] at H8
              have S0 : Hid ((0 : Nat) = sumTo p bs 0) := (show (0 : Nat) = sumTo p bs 0 from rfl)
              go_wp2_with fail
              go_loopw [23, 24] (fun ss sm wx => ∃ i S : Nat, i ≤ P - 1 ∧ ss = .int .i64 S ∧ sm = .int .i64 ((i : Int) + 1) ∧ Hid (S = sumTo p bs i) ∧ Hid (Below w.heap.size w wx)) (fun _ sm _ => P - (intOf sm).toNat)
              case atStart => exact ⟨0, 0, Nat.zero_le _, rfl, by simp, S0, hB⟩
              case round =>
                clear hB S0
                obtain ⟨j, S, hj, rfl, rfl, hS, hB⟩ := hrel
                have hSl : S ≤ 31 := by rw [hS.out]; exact Nat.le_trans (sumTo_le _ _ _) (by omega)
                by_cases hlt3 : j < P - 1
                · have i3 : (j : Int) + 1 < (2 : Int) ^ m := by rw [hPi]; omega
                  have hwu : IntKind.u64.wrap (j : Int) = (j : Int) := IntWalk.u64_in _ (by omega)
                  have hmi : min j 64 = j := by omega
                  have tb : bits .and .i64 ((p : Int) / 2 ^ j) 1 = ((p / 2 ^ j % 2 : Nat) : Int) := by
                    have hdl := Nat.div_le_self p (2 ^ j)
                    have e : (p : Int) / 2 ^ j = ((p / 2 ^ j : Nat) : Int) := by simp
                    rw [e]
                    generalize p / 2 ^ j = dd at *
                    rw [bits_and1 (dd : Int) (by omega) (by omega)]; simp
                  have ab : bits .and .i64 ((j : Int) + 1) (bs : Int) = (((j + 1) &&& bs : Nat) : Int) := by
                    have := bits_and (j + 1) bs (by omega) (by omega)
                    rwa [show ((j + 1 : Nat) : Int) = (j : Int) + 1 from by omega] at this
                  have hq31 : (j + 1) &&& bs < 2147483648 := Nat.lt_of_le_of_lt Nat.and_le_left (by omega)
                  have HSS := Lib.hid (sumTo_succ p bs j)
                  rw [← hS.out] at HSS
                  obtain ⟨a, ha⟩ : ∃ a, a = p / 2 ^ j % 2 := ⟨_, rfl⟩
                  have ha2 : a < 2 := by rw [ha]; exact Nat.mod_lt _ (by decide)
                  obtain ⟨q, hq⟩ : ∃ q, q = (j + 1) &&& bs := ⟨_, rfl⟩
                  rw [← ha] at tb HSS
                  rw [← hq] at ab hq31 HSS
                  clear ha hq
                  have hql := pop_le q
                  go_wp2_with fail
                  refine (laws_qWeight_any q _ hq31).mono ?_; rintro e w8 ⟨rfl, rfl⟩
                  obtain ⟨d, hd⟩ : ∃ d, d = pop q := ⟨_, rfl⟩
                  rw [← hd] at hql HSS ⊢
                  clear hd
                  have hm2 : a * (d % 2) ≤ 1 := by
                    have : a * (d % 2) ≤ 1 * 1 := Nat.mul_le_mul (by omega) (by omega)
                    omega
                  obtain ⟨r, hr2⟩ : ∃ r, r = a * (d % 2) := ⟨_, rfl⟩
                  have hri : (a : Int) * ((d : Int) % 2) = (r : Int) := by rw [hr2]; simp
                  rw [← hr2] at HSS hm2
                  have hw1 : IntKind.i64.wrap ((a : Int) * ((d : Int) % 2)) = (r : Int) := by rw [hri]; exact IntWalk.i64_in _ (by omega)
                  have hw2 : IntKind.i64.wrap ((S : Int) + (r : Int)) = (S : Int) + (r : Int) := IntWalk.i64_in _ (by omega)
                  clear hr2
                  go_wp2_with fail
                  go_roundw
                  case rel => exact ⟨j + 1, S + r, by omega, by go_num, by go_num, HSS.out.symm, hB⟩
                  case measure => simp [intOf]; omega
                · have i3 : ¬ (j : Int) + 1 < (2 : Int) ^ m := by rw [hPi]; omega
                  obtain rfl : j = P - 1 := by omega
                  have h8 : ((S : Nat) : Int) % 8 = 0 := by have := H8.out; rw [← hS.out] at this; omega
                  clear H8 hS
                  go_wp2_with fail
                  go_roundw
                  case rel => exact ⟨bs + 1, by omega, by go_num, hB⟩
                  case measure => simp [intOf]; omega
            · have i2 : ¬ (bs : Int) < (2 : Int) ^ m := by rw [hPi]; omega
              have hbq := hB.out
              by_cases hk0 : k = 0
              · have i5 : ((k : Int) == 0) = true := by simp [hk0]
                go_wp2_with fail
                go_ret
                exact ⟨by simp [hk0], (by repeat (first | exact Below.refl _ _ | assumption | refine Below.drew ?_ | refine below_drewN ?_ _ | refine Below.alloc ?_ (by first | omega | (simp <;> omega)) _ | refine Below.setCell ?_ (by first | omega | (simp <;> omega)) _ | refine Below.trans ?_ (Below.mono (by assumption) (by first | omega | (simp <;> omega)))))⟩
              · have i5 : ((k : Int) == 0) = false := by simp [hk0]
                go_wp2_with fail
                go_ret
                exact ⟨by simp [hk0], (by repeat (first | exact Below.refl _ _ | assumption | refine Below.drew ?_ | refine below_drewN ?_ _ | refine Below.alloc ?_ (by first | omega | (simp <;> omega)) _ | refine Below.setCell ?_ (by first | omega | (simp <;> omega)) _ | refine Below.trans ?_ (Below.mono (by assumption) (by first | omega | (simp <;> omega)))))⟩
end Go.Proofs.Ytgonldkgghikiaa
