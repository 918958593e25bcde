/- The reference's reader of signed numerals. -/
import Derived.Test.YtliophgfgmjhiaaGreatDoorZ23Zx9
import Derived.Test.YtliophgfgmjhiaaGreatDoorZ15Pf2
import Derived.BigRegion
import Derived.BigGuardPart
namespace Go.Proofs.YtliophgfgmjhiaaGreatDoor
set_option linter.unusedSimpArgs false
set_option linter.unusedVariables false
set_option linter.unnecessarySimpa false
set_option maxRecDepth 200000
open Go.ChangeShapes Go.WideShapes Go.ChangeAt Go.RowKit

def sgStep (n : Nat) (b : UInt8) : Nat := if isDig b = true then 10 * n + (b.toNat - 48) else n
def sgF (l : List UInt8) : Nat := l.foldl sgStep 0
theorem sg_snoc (l : List UInt8) (b : UInt8) : sgF (l ++ [b]) = sgStep (sgF l) b := by unfold sgF; rw [List.foldl_append]; rfl
theorem sg_take {s : ByteArray} {k st : Nat} (h : k < s.size) (hst : st ≤ k) : (s.data.toList.take (k + 1)).drop st = (s.data.toList.take k).drop st ++ [s[k]] := by
  rw [take_byte h, List.drop_append_of_le_length]
  rw [List.length_take, Array.length_toList]
  have : s.data.size = s.size := rfl
  omega
theorem sg_no {s : ByteArray} {k st n : Nat} (h : k < s.size) (hst : st ≤ k) (hn : sgF ((s.data.toList.take k).drop st) = n) (h1 : ¬ (48 ≤ s[k].toNat ∧ s[k].toNat ≤ 57)) : sgF ((s.data.toList.take (k + 1)).drop st) = n := by
  rw [sg_take h hst, sg_snoc, hn]
  unfold sgStep isDig
  rw [if_neg (by simp; omega)]
theorem sg_yes {s : ByteArray} {k st n : Nat} (h : k < s.size) (hst : st ≤ k) (hn : sgF ((s.data.toList.take k).drop st) = n) (h1 : 48 ≤ s[k].toNat) (h2 : s[k].toNat ≤ 57) : sgF ((s.data.toList.take (k + 1)).drop st) = 10 * n + (s[k].toNat - 48) := by
  rw [sg_take h hst, sg_snoc, hn]
  unfold sgStep isDig
  rw [if_pos (by simp; omega)]
theorem sg_num {k : Nat} (h : k < 100) : sgF (numB k).data.toList = k := by
  by_cases h1 : k < 10
  · rw [num_small k h1]
    obtain ⟨a, b⟩ := dig_small k h1
    generalize UInt8.ofNat (48 + k) = x at *
    simp [sgF, sgStep, a, b]
  · rw [num_big k (by omega), num_small (k / 10) (by omega)]
    obtain ⟨a1, a2⟩ := dig_small (k / 10) (by omega)
    obtain ⟨b1, b2⟩ := dig_small (k % 10) (by omega)
    generalize UInt8.ofNat (48 + k / 10) = x at *
    generalize UInt8.ofNat (48 + k % 10) = y at *
    simp [sgF, sgStep, a1, a2, b1, b2]
    omega
theorem num_len {k : Nat} (h : k < 100) : (numB k).data.toList.length ≤ 2 := by rw [Array.length_toList]; exact num_size h
theorem num_pos (k : Nat) : 0 < (numB k).size := by
  by_cases h1 : k < 10
  · rw [num_small k h1]; simp [ByteArray.size]
  · rw [num_big k (by omega), app_size, one_size]; omega
theorem list_size (s : ByteArray) : s.data.toList.length = s.size := by rw [Array.length_toList]; rfl
theorem num_head {k : Nat} (h : k < 100) : (numB k).data.toList.head? ≠ some 45 := by
  intro e
  have hm : (45 : UInt8) ∈ (numB k).data.toList := by
    cases hl : (numB k).data.toList with
    | nil => rw [hl] at e; cases e
    | cons x l => rw [hl] at e; simp at e; simp [e]
  exact num_nodig h (by decide) hm
/-- What the reader yields where there is no sign. -/
theorem sig_pos {s : ByteArray} {n m : Nat} (hm : s.size ≤ m ∨ m = 12) (hn : sgF ((s.data.toList.take m).drop 0) = n) (hs : ¬ (1 < s.size ∧ s.data.toList.head? = some 45)) : RInt s (n : Int) := by
  intro r h0 h1 he
  by_cases hr : r < 0
  · exfalso
    apply hs
    rw [he]
    unfold intB
    rw [if_pos hr, app_list, one_list]
    have := num_pos (-r).toNat
    refine ⟨by rw [app_size, one_size]; omega, rfl⟩
  · have e : s = numB r.toNat := by rw [he]; unfold intB; rw [if_neg hr]
    have hl := num_len (k := r.toNat) (by omega)
    have hz : s.size ≤ 2 := by rw [e]; exact num_size (by omega)
    rw [e, List.drop_zero, List.take_of_length_le (by rw [list_size, ← e]; omega), sg_num (by omega)] at hn
    omega
theorem sig_neg {s : ByteArray} {n m : Nat} (hm : s.size ≤ m ∨ m = 12) (hn : sgF ((s.data.toList.take m).drop 1) = n) (hs : 1 < s.size ∧ s.data.toList.head? = some 45) : RInt s (-(n : Int)) := by
  intro r h0 h1 he
  by_cases hr : r < 0
  · have e : s.data.toList = 45 :: (numB (-r).toNat).data.toList := by rw [he]; unfold intB; rw [if_pos hr, app_list, one_list]; rfl
    have hl := num_len (k := (-r).toNat) (by omega)
    have hz : s.data.toList.length ≤ m := by
      rw [e, List.length_cons]
      have := list_size s
      rw [e, List.length_cons] at this
      omega
    rw [List.take_of_length_le hz, e, List.drop_one, List.tail_cons, sg_num (by omega)] at hn
    omega
  · exfalso
    have e : s = numB r.toNat := by rw [he]; unfold intB; rw [if_neg hr]
    rw [e] at hs
    exact num_head (by omega) hs.2
set_option maxHeartbeats 4000000 in
theorem spec_l1Signed_any (s : ByteArray) (w : World) (hs : s.size ≤ 1048576) :
    Calls Tryz.prog 23 #[.string s] w fun e w' => (∃ n : Int, e = .returned (.int .i64 n) ∧ -1000000000000000 ≤ n ∧ n ≤ 1000000000000000 ∧ RInt s n) ∧ w' = w := by
  by_cases hneg : 1 < s.size ∧ s.data.toList.head? = some 45
  · have HE := Lib.hid (fun (n m : Nat) h1 h2 => sig_neg (n := n) (m := m) h1 h2 hneg)
    obtain ⟨hz, hq⟩ := hneg
    have h45 : s[0].toNat = 45 := by
      rw [head_byte (by omega)] at hq
      injection hq with hq
      rw [hq]; rfl
    have i1 : (1 : Int) < (s.size : Int) := by omega
    have i2 : ((s[0].toNat : Int) == 45) = true := by rw [h45]; rfl
    clear hq h45
    go_enter Tryz.func23, Tryz.ntmps23
    go_wp2_with fail
    go_loopw [3, 5] (fun sn si wx => ∃ k n : Nat, 1 ≤ k ∧ k ≤ 12 ∧ sn = .int .i64 n ∧ si = .int .i64 k ∧ Hid (sgF ((s.data.toList.take k).drop 1) = n) ∧ n < 10 ^ k ∧ wx = w) (fun _ si _ => 13 - (intOf si).toNat)
    case atStart => exact ⟨1, 0, by decide, by decide, rfl, rfl, (show sgF _ = 0 from by cases s.data.toList <;> rfl), by decide, rfl⟩
    case round =>
      obtain ⟨k, n, hst, hk, rfl, rfl, hn, hn10, rfl⟩ := hrel
      have hp6 : 10 ^ k ≤ 1000000000000 := Nat.le_trans (Nat.pow_le_pow_right (by decide) hk) (by decide)
      by_cases hlt : k < s.size
      · by_cases h12 : k < 12
        · have hpow : 10 ^ (k + 1) = 10 ^ k * 10 := Nat.pow_succ 10 k
          have j1 : (k : Int) < (s.size : Int) := by omega
          have j2 : (k : Int) < 12 := by omega
          by_cases h1 : s[k].toNat < 48
          · have i1 : ¬ (48 : Int) ≤ (s[k].toNat : Int) := by omega
            have HN := Lib.hid (sg_no hlt hst hn.out (by omega))
            clear h1
            go_wp2_with fail
            go_roundw
            case rel => exact ⟨k + 1, n, by omega, by omega, rfl, by go_num, HN, by omega, trivial⟩
            case measure => simp [intOf]; omega
          · have i1 : (48 : Int) ≤ (s[k].toNat : Int) := by omega
            by_cases h2 : 57 < s[k].toNat
            · have i2 : ¬ (s[k].toNat : Int) ≤ 57 := by omega
              have HN := Lib.hid (sg_no hlt hst hn.out (by omega))
              clear h1 h2
              go_wp2_with fail
              go_roundw
              case rel => exact ⟨k + 1, n, by omega, by omega, rfl, by go_num, HN, by omega, trivial⟩
              case measure => simp [intOf]; omega
            · have i2 : (s[k].toNat : Int) ≤ 57 := by omega
              have HN := Lib.hid (sg_yes hlt hst hn.out (by omega) (by omega))
              have hw1 : IntKind.u8.wrap ((s[k].toNat : Int) - 48) = (s[k].toNat : Int) - 48 := IntWalk.u8_in _ (by omega)
              have hw2 : IntKind.i64.wrap (10 * (n : Int)) = 10 * (n : Int) := IntWalk.i64_in _ (by omega)
              have hw3 : IntKind.i64.wrap (10 * (n : Int) + ((s[k].toNat : Int) - 48)) = 10 * (n : Int) + ((s[k].toNat : Int) - 48) := IntWalk.i64_in _ (by omega)
              go_wp2_with fail
              go_roundw
              case rel => exact ⟨k + 1, 10 * n + (s[k].toNat - 48), by omega, by omega, by congr 1; omega, by go_num, HN, by omega, trivial⟩
              case measure => simp [intOf]; omega
        · have j1 : (k : Int) < (s.size : Int) := by omega
          have j2 : ¬ (k : Int) < 12 := by omega
          have HR := Lib.hid (HE.out n k (.inr (by omega)) hn.out)
          go_wp2_with fail
          go_ret
          exact ⟨⟨_, rfl, by omega, by omega, by simpa using HR.out⟩, rfl⟩
      · have j1 : ¬ (k : Int) < (s.size : Int) := by omega
        have HR := Lib.hid (HE.out n k (.inl (by omega)) hn.out)
        go_wp2_with fail
        go_ret
        exact ⟨⟨_, rfl, by omega, by omega, by simpa using HR.out⟩, rfl⟩
  · have HE := Lib.hid (fun (n m : Nat) h1 h2 => sig_pos (n := n) (m := m) h1 h2 hneg)
    by_cases hz : 1 < s.size
    · have h45 : ¬ s[0].toNat = 45 := fun e => hneg ⟨hz, by
        rw [head_byte (by omega)]
        congr 1
        exact UInt8.toNat_inj.1 e⟩
      have i1 : (1 : Int) < (s.size : Int) := by omega
      have i2 : ((s[0].toNat : Int) == 45) = false := by simp; omega
      clear hneg h45
      go_enter Tryz.func23, Tryz.ntmps23
      go_wp2_with fail
      go_loopw [3, 5] (fun sn si wx => ∃ k n : Nat, 0 ≤ k ∧ k ≤ 12 ∧ sn = .int .i64 n ∧ si = .int .i64 k ∧ Hid (sgF ((s.data.toList.take k).drop 0) = n) ∧ n < 10 ^ k ∧ wx = w) (fun _ si _ => 13 - (intOf si).toNat)
      case atStart => exact ⟨0, 0, by decide, by decide, rfl, rfl, (show sgF _ = 0 from rfl), by decide, rfl⟩
      case round =>
        obtain ⟨k, n, hst, hk, rfl, rfl, hn, hn10, rfl⟩ := hrel
        have hp6 : 10 ^ k ≤ 1000000000000 := Nat.le_trans (Nat.pow_le_pow_right (by decide) hk) (by decide)
        by_cases hlt : k < s.size
        · by_cases h12 : k < 12
          · have hpow : 10 ^ (k + 1) = 10 ^ k * 10 := Nat.pow_succ 10 k
            have j1 : (k : Int) < (s.size : Int) := by omega
            have j2 : (k : Int) < 12 := by omega
            by_cases h1 : s[k].toNat < 48
            · have i1 : ¬ (48 : Int) ≤ (s[k].toNat : Int) := by omega
              have HN := Lib.hid (sg_no hlt hst hn.out (by omega))
              clear h1
              go_wp2_with fail
              go_roundw
              case rel => exact ⟨k + 1, n, by omega, by omega, rfl, by go_num, HN, by omega, trivial⟩
              case measure => simp [intOf]; omega
            · have i1 : (48 : Int) ≤ (s[k].toNat : Int) := by omega
              by_cases h2 : 57 < s[k].toNat
              · have i2 : ¬ (s[k].toNat : Int) ≤ 57 := by omega
                have HN := Lib.hid (sg_no hlt hst hn.out (by omega))
                clear h1 h2
                go_wp2_with fail
                go_roundw
                case rel => exact ⟨k + 1, n, by omega, by omega, rfl, by go_num, HN, by omega, trivial⟩
                case measure => simp [intOf]; omega
              · have i2 : (s[k].toNat : Int) ≤ 57 := by omega
                have HN := Lib.hid (sg_yes hlt hst hn.out (by omega) (by omega))
                have hw1 : IntKind.u8.wrap ((s[k].toNat : Int) - 48) = (s[k].toNat : Int) - 48 := IntWalk.u8_in _ (by omega)
                have hw2 : IntKind.i64.wrap (10 * (n : Int)) = 10 * (n : Int) := IntWalk.i64_in _ (by omega)
                have hw3 : IntKind.i64.wrap (10 * (n : Int) + ((s[k].toNat : Int) - 48)) = 10 * (n : Int) + ((s[k].toNat : Int) - 48) := IntWalk.i64_in _ (by omega)
                go_wp2_with fail
                go_roundw
                case rel => exact ⟨k + 1, 10 * n + (s[k].toNat - 48), by omega, by omega, by congr 1; omega, by go_num, HN, by omega, trivial⟩
                case measure => simp [intOf]; omega
          · have j1 : (k : Int) < (s.size : Int) := by omega
            have j2 : ¬ (k : Int) < 12 := by omega
            have HR := Lib.hid (HE.out n k (.inr (by omega)) hn.out)
            go_wp2_with fail
            go_ret
            exact ⟨⟨_, rfl, by omega, by omega, by simpa using HR.out⟩, rfl⟩
        · have j1 : ¬ (k : Int) < (s.size : Int) := by omega
          have HR := Lib.hid (HE.out n k (.inl (by omega)) hn.out)
          go_wp2_with fail
          go_ret
          exact ⟨⟨_, rfl, by omega, by omega, by simpa using HR.out⟩, rfl⟩
    · have i1 : ¬ (1 : Int) < (s.size : Int) := by omega
      clear hneg
      go_enter Tryz.func23, Tryz.ntmps23
      go_wp2_with fail
      go_loopw [3, 5] (fun sn si wx => ∃ k n : Nat, 0 ≤ k ∧ k ≤ 12 ∧ sn = .int .i64 n ∧ si = .int .i64 k ∧ Hid (sgF ((s.data.toList.take k).drop 0) = n) ∧ n < 10 ^ k ∧ wx = w) (fun _ si _ => 13 - (intOf si).toNat)
      case atStart => exact ⟨0, 0, by decide, by decide, rfl, rfl, (show sgF _ = 0 from rfl), by decide, rfl⟩
      case round =>
        obtain ⟨k, n, hst, hk, rfl, rfl, hn, hn10, rfl⟩ := hrel
        have hp6 : 10 ^ k ≤ 1000000000000 := Nat.le_trans (Nat.pow_le_pow_right (by decide) hk) (by decide)
        by_cases hlt : k < s.size
        · by_cases h12 : k < 12
          · have hpow : 10 ^ (k + 1) = 10 ^ k * 10 := Nat.pow_succ 10 k
            have j1 : (k : Int) < (s.size : Int) := by omega
            have j2 : (k : Int) < 12 := by omega
            by_cases h1 : s[k].toNat < 48
            · have i1 : ¬ (48 : Int) ≤ (s[k].toNat : Int) := by omega
              have HN := Lib.hid (sg_no hlt hst hn.out (by omega))
              clear h1
              go_wp2_with fail
              go_roundw
              case rel => exact ⟨k + 1, n, by omega, by omega, rfl, by go_num, HN, by omega, trivial⟩
              case measure => simp [intOf]; omega
            · have i1 : (48 : Int) ≤ (s[k].toNat : Int) := by omega
              by_cases h2 : 57 < s[k].toNat
              · have i2 : ¬ (s[k].toNat : Int) ≤ 57 := by omega
                have HN := Lib.hid (sg_no hlt hst hn.out (by omega))
                clear h1 h2
                go_wp2_with fail
                go_roundw
                case rel => exact ⟨k + 1, n, by omega, by omega, rfl, by go_num, HN, by omega, trivial⟩
                case measure => simp [intOf]; omega
              · have i2 : (s[k].toNat : Int) ≤ 57 := by omega
                have HN := Lib.hid (sg_yes hlt hst hn.out (by omega) (by omega))
                have hw1 : IntKind.u8.wrap ((s[k].toNat : Int) - 48) = (s[k].toNat : Int) - 48 := IntWalk.u8_in _ (by omega)
                have hw2 : IntKind.i64.wrap (10 * (n : Int)) = 10 * (n : Int) := IntWalk.i64_in _ (by omega)
                have hw3 : IntKind.i64.wrap (10 * (n : Int) + ((s[k].toNat : Int) - 48)) = 10 * (n : Int) + ((s[k].toNat : Int) - 48) := IntWalk.i64_in _ (by omega)
                go_wp2_with fail
                go_roundw
                case rel => exact ⟨k + 1, 10 * n + (s[k].toNat - 48), by omega, by omega, by congr 1; omega, by go_num, HN, by omega, trivial⟩
                case measure => simp [intOf]; omega
          · have j1 : (k : Int) < (s.size : Int) := by omega
            have j2 : ¬ (k : Int) < 12 := by omega
            have HR := Lib.hid (HE.out n k (.inr (by omega)) hn.out)
            go_wp2_with fail
            go_ret
            exact ⟨⟨_, rfl, by omega, by omega, by simpa using HR.out⟩, rfl⟩
        · have j1 : ¬ (k : Int) < (s.size : Int) := by omega
          have HR := Lib.hid (HE.out n k (.inl (by omega)) hn.out)
          go_wp2_with fail
          go_ret
          exact ⟨⟨_, rfl, by omega, by omega, by simpa using HR.out⟩, rfl⟩
end Go.Proofs.YtliophgfgmjhiaaGreatDoor
