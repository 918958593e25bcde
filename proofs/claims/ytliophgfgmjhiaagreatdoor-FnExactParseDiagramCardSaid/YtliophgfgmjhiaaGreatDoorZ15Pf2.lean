/- The reference's reader and cutter of texts. -/
import Derived.Test.YtliophgfgmjhiaaGreatDoorZ14Pf1
import Derived.Test.YtliophgfgmjhiaaGreatDoorZ00M
import Derived.Test.YtliophgfgmjhiaaGreatDoorZ02M
import Derived.BigRegion
import Derived.Deep.DeepCutAuto
namespace Go.Proofs.YtliophgfgmjhiaaGreatDoor
set_option linter.unusedSimpArgs false
set_option linter.unusedVariables false
set_option linter.unnecessarySimpa false
set_option maxRecDepth 200000
open Go.ChangeShapes Go.WideShapes Go.ChangeAt Go.RowKit

theorem byte_list {s : ByteArray} {k : Nat} (h : k < s.size) : s.data.toList[k]? = some (s[k]) := by
  rw [List.getElem?_eq_getElem (by rw [Array.length_toList]; exact h)]
  rfl
theorem take_byte {s : ByteArray} {k : Nat} (h : k < s.size) : s.data.toList.take (k + 1) = s.data.toList.take k ++ [s[k]] := by
  rw [List.take_add_one, byte_list h]; rfl
theorem rd_next {s : ByteArray} {k n : Nat} (h : k < s.size) (hn : rdAcc 0 (s.data.toList.take k) = some n) (h1 : 48 ≤ s[k].toNat) (h2 : s[k].toNat ≤ 57) : rdAcc 0 (s.data.toList.take (k + 1)) = some (10 * n + (s[k].toNat - 48)) := by
  rw [take_byte h, rdAcc_snoc, hn]
  have : isDig s[k] = true := by unfold isDig; rw [decide_eq_true h1, decide_eq_true h2]; rfl
  simp [this]
theorem read_bad {s : ByteArray} {k : Nat} (h : k < s.size) (h1 : ¬ (48 ≤ s[k].toNat ∧ s[k].toNat ≤ 57)) : readG s = -1 := by
  have hm : s[k] ∈ s.data.toList := List.mem_of_getElem? (byte_list h)
  have hd : isDig s[k] = false := by
    unfold isDig
    by_cases h2 : 48 ≤ s[k].toNat
    · rw [decide_eq_false (show ¬ s[k].toNat ≤ 57 from fun h3 => h1 ⟨h2, h3⟩), Bool.and_false]
    · rw [decide_eq_false h2]; rfl
  unfold readG
  rw [rdAcc_none hm hd]
  split <;> rfl
theorem read_len {s : ByteArray} (h : ¬ (1 ≤ s.size ∧ s.size ≤ 6)) : readG s = -1 := by unfold readG; rw [if_pos (.inl h)]
theorem head_byte {s : ByteArray} (h : 0 < s.size) : s.data.toList.head? = some s[0] := by
  have := byte_list h
  rwa [← List.head?_eq_getElem?] at this
theorem read_zero {s : ByteArray} (h : 0 < s.size) (h0 : s[0].toNat = 48) (h1 : 1 < s.size) : readG s = -1 := by
  unfold readG
  rw [if_pos (.inr ⟨by rw [head_byte h]; congr 1; exact UInt8.toNat_inj.1 h0, h1⟩)]
theorem read_end {s : ByteArray} {k n : Nat} (hl : 1 ≤ s.size ∧ s.size ≤ 6) (h0 : (h : 0 < s.size) → ¬ (s[0].toNat = 48 ∧ 1 < s.size)) (hk : s.size ≤ k) (hn : rdAcc 0 (s.data.toList.take k) = some n) : readG s = (n : Int) := by
  unfold readG
  rw [if_neg]
  · rw [List.take_of_length_le (by rw [Array.length_toList]; exact hk)] at hn
    rw [hn]; rfl
  · rintro (h | ⟨h, h1⟩)
    · exact h hl
    · refine h0 (by omega) ⟨?_, h1⟩
      rw [head_byte (show 0 < s.size by omega)] at h
      injection h with h
      rw [h]; rfl
theorem ten_pow {k : Nat} (h : k ≤ 6) : 10 ^ k ≤ 1000000 := Nat.le_trans (Nat.pow_le_pow_right (by decide) h) (by decide)
set_option maxHeartbeats 4000000 in
theorem spec_l1Read_any (s : ByteArray) (w : World) (hs : s.size ≤ 9223372036854775807) :
    Calls Tryz.prog 22 #[.string s] w fun e w' => e = .returned (.int .i64 (readG s)) ∧ w' = w := by
  by_cases hl : 1 ≤ s.size ∧ s.size ≤ 6
  · have hp : 0 < s.size := by omega
    have D1 := Lib.hid (show decide ((1 : Int) ≤ (s.size : Int) ∧ (s.size : Int) ≤ 6) = true from decide_eq_true (by omega))
    by_cases h0 : s[0].toNat = 48 ∧ 1 < s.size
    · have HR := Lib.hid (read_zero hp h0.1 h0.2)
      have i1 : (s[0].toNat : Int) = 48 := by omega
      have i2 : (1 : Int) < (s.size : Int) := by omega
      clear h0
      go_enter Tryz.func22, Tryz.ntmps22
      go_wp2_with fail
      refine (l1In_p _ _ _ _).mono ?_; rintro e w1 ⟨rfl, rfl⟩
      rw [D1.out]
      go_wp2_with fail
      go_ret
      exact ⟨by (rw [HR.out]; try rfl), rfl⟩
    · have HE := Lib.hid (fun k n h1 h2 => read_end (k := k) (n := n) hl (fun _ => h0) h1 h2)
      go_enter Tryz.func22, Tryz.ntmps22
      go_upto_region 1 with fail
      go_cut [18] (fun s18 wx => s18 = .bool false ∧ wx = w)
      case first =>
        by_cases hz : s[0].toNat = 48
        · have i1 : (s[0].toNat : Int) = 48 := by omega
          have i2 : ¬ (1 : Int) < (s.size : Int) := by omega
          clear h0 hz
          go_wp2_with fail
          refine (l1In_p _ _ _ _).mono ?_; rintro e w1 ⟨rfl, rfl⟩
          rw [D1.out]
          go_wp2_with fail
          go_meet
          exact ⟨by simp; omega, rfl⟩
        · have i1 : ¬ (s[0].toNat : Int) = 48 := by omega
          clear h0 hz
          go_wp2_with fail
          refine (l1In_p _ _ _ _).mono ?_; rintro e w1 ⟨rfl, rfl⟩
          rw [D1.out]
          go_wp2_with fail
          go_meet
          exact ⟨rfl, rfl⟩
      case rest =>
        obtain ⟨rfl, rfl⟩ := hcut
        clear h0
        go_wp2_with fail
        go_loopw [3, 4] (fun sn si wx => ∃ k n : Nat, k ≤ s.size ∧ sn = .int .i64 n ∧ si = .int .i64 k ∧ Hid (rdAcc 0 (s.data.toList.take k) = some n) ∧ n < 10 ^ k ∧ wx = wc) (fun _ si _ => s.size - (intOf si).toNat)
        case atStart => exact ⟨0, 0, Nat.zero_le _, rfl, rfl, (show rdAcc 0 _ = _ from rfl), by decide, rfl⟩
        case round =>
          obtain ⟨k, n, hk, rfl, rfl, hn, hn10, rfl⟩ := hrel
          have hp6 := ten_pow (k := k) (by omega)
          by_cases hlt : k < s.size
          · by_cases h1 : s[k].toNat < 48
            · have i1 : (s[k].toNat : Int) < 48 := by omega
              have HR := Lib.hid (read_bad hlt (by omega))
              clear h1
              go_wp2_with fail
              go_ret
              exact ⟨by (rw [HR.out]; try rfl), rfl⟩
            · have i1 : ¬ (s[k].toNat : Int) < 48 := by omega
              by_cases h2 : 57 < s[k].toNat
              · have i2 : (57 : Int) < (s[k].toNat : Int) := by omega
                have HR := Lib.hid (read_bad hlt (by omega))
                clear h1 h2
                go_wp2_with fail
                go_ret
                exact ⟨by (rw [HR.out]; try rfl), rfl⟩
              · have i2 : ¬ (57 : Int) < (s[k].toNat : Int) := by omega
                have HN := Lib.hid (rd_next hlt hn.out (by omega) (by omega))
                have hpow : 10 ^ (k + 1) = 10 ^ k * 10 := Nat.pow_succ 10 k
                have hw1 : IntKind.u8.wrap ((s[k].toNat : Int) - 48) = (s[k].toNat : Int) - 48 := IntWalk.u8_in _ (by omega)
                have hw2 : IntKind.i64.wrap (10 * (n : Int)) = 10 * (n : Int) := IntWalk.i64_in _ (by omega)
                have hw3 : IntKind.i64.wrap (10 * (n : Int) + ((s[k].toNat : Int) - 48)) = 10 * (n : Int) + ((s[k].toNat : Int) - 48) := IntWalk.i64_in _ (by omega)
                go_wp2_with fail
                go_roundw
                case rel => exact ⟨k + 1, 10 * n + (s[k].toNat - 48), by omega, by congr 1; omega, by go_num, HN, by omega, trivial⟩
                case measure => simp [intOf]; omega
          · have HR := Lib.hid (HE.out k n (by omega) hn.out)
            go_wp2_with fail
            go_ret
            exact ⟨by (rw [HR.out]; try rfl), rfl⟩
  · have HR := Lib.hid (read_len hl)
    have D1 := Lib.hid (show decide ((1 : Int) ≤ (s.size : Int) ∧ (s.size : Int) ≤ 6) = false from decide_eq_false (by omega))
    clear hl
    go_enter Tryz.func22, Tryz.ntmps22
    go_wp2_with fail
    refine (l1In_p _ _ _ _).mono ?_; rintro e w1 ⟨rfl, rfl⟩
    rw [D1.out]
    go_wp2_with fail
    go_ret
    exact ⟨by (rw [HR.out]; try rfl), rfl⟩
end Go.Proofs.YtliophgfgmjhiaaGreatDoor
