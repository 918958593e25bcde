/- The reference's readers of a node and of a wire. -/
import Derived.Test.YtliophgfgmjhiaaGreatDoorZ23Zx9
import Derived.Test.YtliophgfgmjhiaaGreatDoorZ16Pf3
import Derived.Test.YtliophgfgmjhiaaGreatDoorZ06Zx4
import Derived.Test.YtliophgfgmjhiaaGreatDoorZ04Brk
import Derived.BigRegion
import Derived.BigQuiet
import Derived.Deep.DeepCutAuto
namespace Go.Proofs.YtliophgfgmjhiaaGreatDoor
set_option linter.unusedSimpArgs false
set_option linter.unusedVariables false
set_option linter.unnecessarySimpa false
set_option maxRecDepth 200000
open Go.ChangeShapes Go.WideShapes Go.ChangeAt Go.RowKit

theorem rd_lt : ∀ (l : List UInt8) (acc n : Nat), rdAcc acc l = some n → n < (acc + 1) * 10 ^ l.length
  | [], acc, n, h => by
    injection h with h; subst h; simp
  | b :: l, acc, n, h => by
    unfold rdAcc at h
    split at h
    · next hb =>
      have ih := rd_lt l _ _ h
      unfold isDig at hb
      simp at hb
      have h9 : b.toNat - 48 ≤ 9 := by omega
      refine Nat.lt_of_lt_of_le ih ?_
      rw [List.length_cons, Nat.pow_succ, Nat.mul_comm (10 ^ l.length) 10, ← Nat.mul_assoc]
      exact Nat.mul_le_mul_right _ (by omega)
    · cases h
theorem read_in (s : ByteArray) : -1 ≤ readG s ∧ readG s ≤ 1000000 := by
  unfold readG
  split
  · omega
  · next h =>
    cases hr : rdAcc 0 s.data.toList with
    | none => simp
    | some n =>
      have h1 := rd_lt _ _ _ hr
      have h2 : s.data.toList.length ≤ 6 := by
        have : s.data.toList.length = s.size := by rw [Array.length_toList]; rfl
        simp at h
        omega
      have h3 : 10 ^ s.data.toList.length ≤ 1000000 := Nat.le_trans (Nat.pow_le_pow_right (by decide) h2) (by decide)
      simp
      omega
def kindZ (b : UInt8) : Nat := if b = 105 then 1 else if b = 111 then 2 else if b = 122 then 3 else 0
theorem kindZ_B {a : Int} (h : 1 ≤ a ∧ a ≤ 3) : ((kindZ (kindB a) : Nat) : Int) = a := by
  have : a = 1 ∨ a = 2 ∨ a = 3 := by omega
  rcases this with rfl | rfl | rfl <;> decide
theorem dash_of {s : ByteArray} (h : (s.toList == [45]) = true) : s = ⟨#[45]⟩ := by
  rw [Lib.toList_data, beq_iff_eq] at h
  exact bytes_inj h
theorem nodeT_first {y : E2} (h : ¬ y.a = 0) : ∃ h0 : 0 < (nodeT y).size, (nodeT y)[0]'h0 = kindB y.a ∧ ((nodeT y).extract 1 (nodeT y).size) = numB y.b.toNat := by
  have e := node_t h
  have h0 : 0 < (nodeT y).size := by rw [e, app_size, one_size]; omega
  refine ⟨h0, ?_, ?_⟩
  · have h1 : (nodeT y).data.toList[0]? = some ((nodeT y)[0]'h0) := byte_list h0
    obtain ⟨z, hz⟩ : ∃ z, (nodeT y)[0]'h0 = z := ⟨_, rfl⟩
    rw [hz] at h1 ⊢
    rw [e, app_list, one_list] at h1
    injection h1 with h1
    exact h1.symm
  · apply bytes_inj
    rw [ext_list, List.take_of_length_le (by rw [Array.length_toList]; exact Nat.le_refl _)]
    rw [e, app_list, one_list]
    rfl
/-- What a node's reader yields. -/
theorem rn_of {s : ByteArray} (hs : 0 < s.size) (hd : s ≠ ⟨#[45]⟩) : RN s ⟨(kindZ (s[0]'hs) : Nat), readG (s.extract 1 s.size)⟩ := by
  intro y hy he
  by_cases h0 : y.a = 0
  · exact absurd (he.trans (node_0 h0)) hd
  · obtain ⟨h1, h2, h3⟩ := nodeT_first h0
    unfold okN at hy
    subst he
    rw [h2, h3, kindZ_B (by omega), read_num (by omega)]
    obtain ⟨a, b⟩ := y
    simp only at *
    congr 1
    omega
theorem rn_dash : RN ⟨#[45]⟩ ⟨0, 0⟩ := by
  intro y hy he
  unfold okN at hy
  by_cases h0 : y.a = 0
  · obtain ⟨a, b⟩ := y
    simp only at *
    congr 1 <;> omega
  · exfalso
    have := congrArg ByteArray.size (he.trans (node_t h0))
    rw [app_size, one_size, one_size] at this
    have h1 : 0 < (numB y.b.toNat).size := by
      by_cases h1 : y.b.toNat < 10
      · rw [num_small _ h1]; exact Nat.one_pos
      · rw [num_big _ (by omega), app_size, one_size]; omega
    omega
theorem rn_nil {s : ByteArray} (h : s.size = 0) (x : E2) : RN s x := by
  intro y _ he
  exfalso
  rw [he] at h
  unfold nodeT at h
  split at h
  · revert h; decide
  · rw [app_size, one_size] at h; omega
set_option maxHeartbeats 4000000 in
theorem spec_l16ReadNode_any (s : ByteArray) (w : World) (hs : s.size ≤ 1048576) :
    Calls Tryz.prog 24 #[.string s] w fun e w' => (∃ x : E2, e = .returned (.agg #[.int .i64 x.a, .int .i64 x.b]) ∧ (0 ≤ x.a ∧ x.a ≤ 3) ∧ (-1 ≤ x.b ∧ x.b ≤ 1000000) ∧ RN s x) ∧ Below w.heap.size w w' := by
  by_cases hd : s = ⟨#[45]⟩
  · subst hd
    go_enter Tryz.func24, Tryz.ntmps24
    go_wp2_with fail
    exact bodyPost_ret (v := .agg #[.int .i64 0, .int .i64 0]) (by simp [results, Tryz.results24, go_sem]; done) rfl ⟨⟨⟨0, 0⟩, rfl, by decide, by decide, rn_dash⟩, (by repeat (first | exact Below.refl _ _ | assumption | refine Below.drew ?_ | refine below_drewN ?_ _ | refine Below.alloc ?_ (by first | omega | (simp <;> omega)) _ | refine Below.setCell ?_ (by first | omega | (simp <;> omega)) _ | refine Below.trans ?_ (Below.mono (by assumption) (by first | omega | (simp <;> omega)))))⟩
  · have hdd : (s.toList == [45]) = false := by
      rw [Lib.toList_data, beq_eq_false_iff_ne]
      exact fun e => hd (bytes_inj e)
    by_cases hp : 0 < s.size
    · have hne := str_ne (show s.size ≠ 0 by omega)
      have HR := rn_of hp hd
      have hx1 : (((ByteArray.mk #[32, 105, 111, 122])[1]'(by decide)).toNat : Int) = 105 := rfl
      have hx2 : (((ByteArray.mk #[32, 105, 111, 122])[2]'(by decide)).toNat : Int) = 111 := rfl
      have hx3 : (((ByteArray.mk #[32, 105, 111, 122])[3]'(by decide)).toNat : Int) = 122 := rfl
      have HSZ := Lib.hid (show (s.extract 1 s.size).size ≤ 9223372036854775807 from by rw [ByteArray.size_extract]; omega)
      have i1 : (1 : Int) ≤ (s.size : Int) := by omega
      have hin := read_in (s.extract 1 s.size)
      have hk : kindZ (s[0]'hp) ≤ 3 := by unfold kindZ; (repeat' split) <;> decide
      clear hd
      by_cases c1 : (s[0]'hp).toNat = 105
      · have hc := c1
        have hkz : kindZ (s[0]'hp) = 1 := by unfold kindZ; rw [if_pos (UInt8.toNat_inj.1 c1)]
        rw [hkz] at HR
        replace HR := Lib.hid HR
        have b105 : ((105 : Int) == ((s[0]'hp).toNat : Int)) = true := by rw [hc]; rfl
        have b111 : ((111 : Int) == ((s[0]'hp).toNat : Int)) = false := by simp; omega
        have b122 : ((122 : Int) == ((s[0]'hp).toNat : Int)) = false := by simp; omega
        clear hc
        go_enter Tryz.func24, Tryz.ntmps24
        go_wp2_with fail
        refine wp_loop_rounds 4 ?_
        rw [rounds_succ]
        go_upto_region 7 with fail
        go_quiet (fail)
        go_wp2_with fail
        rw [rounds_succ]
        go_upto_region 7 with fail
        go_quiet (fail)
        go_wp2_with fail
        rw [rounds_succ]
        go_upto_region 7 with fail
        go_quiet (fail)
        go_wp2_with fail
        rw [rounds_succ]
        go_wp2_with fail
        refine (spec_l1Read_any _ _ HSZ.out).mono ?_; rintro e w1 ⟨rfl, rfl⟩
        go_wp2_with fail
        exact bodyPost_ret (v := .agg #[.int .i64 1, .int .i64 (readG (s.extract 1 s.size))]) (by simp [results, Tryz.results24, go_sem]; done) rfl ⟨⟨⟨(1 : Int), readG (s.extract 1 s.size)⟩, rfl, ⟨(show (0 : Int) ≤ 1 from by decide), (show (1 : Int) ≤ 3 from by decide)⟩, hin, HR.out⟩, (by repeat (first | exact Below.refl _ _ | assumption | refine Below.drew ?_ | refine below_drewN ?_ _ | refine Below.alloc ?_ (by first | omega | (simp <;> omega)) _ | refine Below.setCell ?_ (by first | omega | (simp <;> omega)) _ | refine Below.trans ?_ (Below.mono (by assumption) (by first | omega | (simp <;> omega)))))⟩
      by_cases c2 : (s[0]'hp).toNat = 111
      · have hc := c2
        have hkz : kindZ (s[0]'hp) = 2 := by unfold kindZ; rw [if_neg (fun e => c1 (by rw [e]; rfl)), if_pos (UInt8.toNat_inj.1 c2)]
        rw [hkz] at HR
        replace HR := Lib.hid HR
        have b105 : ((105 : Int) == ((s[0]'hp).toNat : Int)) = false := by simp; omega
        have b111 : ((111 : Int) == ((s[0]'hp).toNat : Int)) = true := by rw [hc]; rfl
        have b122 : ((122 : Int) == ((s[0]'hp).toNat : Int)) = false := by simp; omega
        clear hc
        go_enter Tryz.func24, Tryz.ntmps24
        go_wp2_with fail
        refine wp_loop_rounds 4 ?_
        rw [rounds_succ]
        go_upto_region 7 with fail
        go_quiet (fail)
        go_wp2_with fail
        rw [rounds_succ]
        go_upto_region 7 with fail
        go_quiet (fail)
        go_wp2_with fail
        rw [rounds_succ]
        go_upto_region 7 with fail
        go_quiet (fail)
        go_wp2_with fail
        rw [rounds_succ]
        go_wp2_with fail
        refine (spec_l1Read_any _ _ HSZ.out).mono ?_; rintro e w1 ⟨rfl, rfl⟩
        go_wp2_with fail
        exact bodyPost_ret (v := .agg #[.int .i64 2, .int .i64 (readG (s.extract 1 s.size))]) (by simp [results, Tryz.results24, go_sem]; done) rfl ⟨⟨⟨(2 : Int), readG (s.extract 1 s.size)⟩, rfl, ⟨(show (0 : Int) ≤ 2 from by decide), (show (2 : Int) ≤ 3 from by decide)⟩, hin, HR.out⟩, (by repeat (first | exact Below.refl _ _ | assumption | refine Below.drew ?_ | refine below_drewN ?_ _ | refine Below.alloc ?_ (by first | omega | (simp <;> omega)) _ | refine Below.setCell ?_ (by first | omega | (simp <;> omega)) _ | refine Below.trans ?_ (Below.mono (by assumption) (by first | omega | (simp <;> omega)))))⟩
      by_cases c3 : (s[0]'hp).toNat = 122
      · have hc := c3
        have hkz : kindZ (s[0]'hp) = 3 := by unfold kindZ; rw [if_neg (fun e => c1 (by rw [e]; rfl)), if_neg (fun e => c2 (by rw [e]; rfl)), if_pos (UInt8.toNat_inj.1 c3)]
        rw [hkz] at HR
        replace HR := Lib.hid HR
        have b105 : ((105 : Int) == ((s[0]'hp).toNat : Int)) = false := by simp; omega
        have b111 : ((111 : Int) == ((s[0]'hp).toNat : Int)) = false := by simp; omega
        have b122 : ((122 : Int) == ((s[0]'hp).toNat : Int)) = true := by rw [hc]; rfl
        clear hc
        go_enter Tryz.func24, Tryz.ntmps24
        go_wp2_with fail
        refine wp_loop_rounds 4 ?_
        rw [rounds_succ]
        go_upto_region 7 with fail
        go_quiet (fail)
        go_wp2_with fail
        rw [rounds_succ]
        go_upto_region 7 with fail
        go_quiet (fail)
        go_wp2_with fail
        rw [rounds_succ]
        go_upto_region 7 with fail
        go_quiet (fail)
        go_wp2_with fail
        rw [rounds_succ]
        go_wp2_with fail
        refine (spec_l1Read_any _ _ HSZ.out).mono ?_; rintro e w1 ⟨rfl, rfl⟩
        go_wp2_with fail
        exact bodyPost_ret (v := .agg #[.int .i64 3, .int .i64 (readG (s.extract 1 s.size))]) (by simp [results, Tryz.results24, go_sem]; done) rfl ⟨⟨⟨(3 : Int), readG (s.extract 1 s.size)⟩, rfl, ⟨(show (0 : Int) ≤ 3 from by decide), (show (3 : Int) ≤ 3 from by decide)⟩, hin, HR.out⟩, (by repeat (first | exact Below.refl _ _ | assumption | refine Below.drew ?_ | refine below_drewN ?_ _ | refine Below.alloc ?_ (by first | omega | (simp <;> omega)) _ | refine Below.setCell ?_ (by first | omega | (simp <;> omega)) _ | refine Below.trans ?_ (Below.mono (by assumption) (by first | omega | (simp <;> omega)))))⟩
      · have hc := hin
        have hkz : kindZ (s[0]'hp) = 0 := by unfold kindZ; rw [if_neg (fun e => c1 (by rw [e]; rfl)), if_neg (fun e => c2 (by rw [e]; rfl)), if_neg (fun e => c3 (by rw [e]; rfl))]
        rw [hkz] at HR
        replace HR := Lib.hid HR
        have b105 : ((105 : Int) == ((s[0]'hp).toNat : Int)) = false := by simp; omega
        have b111 : ((111 : Int) == ((s[0]'hp).toNat : Int)) = false := by simp; omega
        have b122 : ((122 : Int) == ((s[0]'hp).toNat : Int)) = false := by simp; omega
        clear hc
        go_enter Tryz.func24, Tryz.ntmps24
        go_wp2_with fail
        refine wp_loop_rounds 4 ?_
        rw [rounds_succ]
        go_upto_region 7 with fail
        go_quiet (fail)
        go_wp2_with fail
        rw [rounds_succ]
        go_upto_region 7 with fail
        go_quiet (fail)
        go_wp2_with fail
        rw [rounds_succ]
        go_upto_region 7 with fail
        go_quiet (fail)
        go_wp2_with fail
        rw [rounds_succ]
        go_wp2_with fail
        refine (spec_l1Read_any _ _ HSZ.out).mono ?_; rintro e w1 ⟨rfl, rfl⟩
        go_wp2_with fail
        exact bodyPost_ret (v := .agg #[.int .i64 0, .int .i64 (readG (s.extract 1 s.size))]) (by simp [results, Tryz.results24, go_sem]; done) rfl ⟨⟨⟨(0 : Int), readG (s.extract 1 s.size)⟩, rfl, ⟨(show (0 : Int) ≤ 0 from by decide), (show (0 : Int) ≤ 3 from by decide)⟩, hin, HR.out⟩, (by repeat (first | exact Below.refl _ _ | assumption | refine Below.drew ?_ | refine below_drewN ?_ _ | refine Below.alloc ?_ (by first | omega | (simp <;> omega)) _ | refine Below.setCell ?_ (by first | omega | (simp <;> omega)) _ | refine Below.trans ?_ (Below.mono (by assumption) (by first | omega | (simp <;> omega)))))⟩
    · have h0 : s.size = 0 := by omega
      have HR := Lib.hid (rn_nil h0 ⟨0, 0⟩)
      have hn : s.toList.isEmpty = true := by rw [size_zero h0, Lib.toList_data]; rfl
      clear hd hp
      go_enter Tryz.func24, Tryz.ntmps24
      go_wp2_with fail
      exact bodyPost_ret (v := .agg #[.int .i64 0, .int .i64 0]) (by simp [results, Tryz.results24, go_sem]; done) rfl ⟨⟨⟨0, 0⟩, rfl, by decide, by decide, HR.out⟩, (by repeat (first | exact Below.refl _ _ | assumption | refine Below.drew ?_ | refine below_drewN ?_ _ | refine Below.alloc ?_ (by first | omega | (simp <;> omega)) _ | refine Below.setCell ?_ (by first | omega | (simp <;> omega)) _ | refine Below.trans ?_ (Below.mono (by assumption) (by first | omega | (simp <;> omega)))))⟩
theorem wire_min {y : EW} (hy : okW y) (hh : y.h = false) : wordsOf 45 (wireT y) = [numB y.a.toNat, numB y.b.toNat] := by
  unfold okW at hy
  apply words_inj
  rw [wordsOf_data]
  unfold wireT
  rw [hh, app_list, app_list, one_list, List.append_assoc, List.singleton_append]
  show cutW 45 (_ ++ 45 :: _) = _
  rw [cut_app _ (num_nodig (by omega) (by decide)), cut_none (num_nodig (by omega) (by decide))]
  rfl
theorem wire_eq {y : EW} (hy : okW y) (hh : y.h = true) : wordsOf 61 (wireT y) = [numB y.a.toNat, numB y.b.toNat] ∧ (wordsOf 45 (wireT y)).length = 1 := by
  unfold okW at hy
  constructor
  · apply words_inj
    rw [wordsOf_data]
    unfold wireT
    rw [hh, app_list, app_list, one_list, List.append_assoc, List.singleton_append]
    show cutW 61 (_ ++ 61 :: _) = _
    rw [cut_app _ (num_nodig (by omega) (by decide)), cut_none (num_nodig (by omega) (by decide))]
    rfl
  · unfold wordsOf
    rw [List.length_map, cut_none]
    · rfl
    · unfold wireT
      rw [hh, app_list, app_list, one_list, List.mem_append, List.mem_append]
      rintro ((h | h) | h)
      · exact num_nodig (by omega) (by decide) h
      · revert h; decide
      · exact num_nodig (by omega) (by decide) h
theorem rw_1 {s : ByteArray} (h : (wordsOf 45 s).length = 2) : RW s ⟨readG ((wordsOf 45 s).getD 0 ⟨#[]⟩), readG ((wordsOf 45 s).getD 1 ⟨#[]⟩), false⟩ := by
  intro y hy he
  subst he
  cases hh : y.h with
  | true => rw [(wire_eq hy hh).2] at h; cases h
  | false =>
    rw [wire_min hy hh]
    unfold okW at hy
    show (⟨readG (numB _), readG (numB _), false⟩ : EW) = y
    rw [read_num (by omega), read_num (by omega)]
    obtain ⟨a, b, c⟩ := y
    simp only at *
    subst hh
    congr 1 <;> omega
theorem rw_2 {s : ByteArray} (h1 : (wordsOf 45 s).length ≠ 2) (h : (wordsOf 61 s).length = 2) : RW s ⟨readG ((wordsOf 61 s).getD 0 ⟨#[]⟩), readG ((wordsOf 61 s).getD 1 ⟨#[]⟩), true⟩ := by
  intro y hy he
  subst he
  cases hh : y.h with
  | false => rw [wire_min hy hh] at h1; exact absurd rfl h1
  | true =>
    rw [(wire_eq hy hh).1]
    unfold okW at hy
    show (⟨readG (numB _), readG (numB _), true⟩ : EW) = y
    rw [read_num (by omega), read_num (by omega)]
    obtain ⟨a, b, c⟩ := y
    simp only at *
    subst hh
    congr 1 <;> omega
theorem rw_3 {s : ByteArray} (h1 : (wordsOf 45 s).length ≠ 2) (h : (wordsOf 61 s).length ≠ 2) (x : EW) : RW s x := by
  intro y hy he
  exfalso
  subst he
  cases hh : y.h with
  | false => rw [wire_min hy hh] at h1; exact h1 rfl
  | true => rw [(wire_eq hy hh).1] at h; exact h rfl
/-- What the cutting of a text lays. -/
theorem split_cells {c : UInt8} {s : ByteArray} {w w2 : World} {v : Value} (ho : w2.ownsRow w.heap.size 9 1 v (wordsOf c s).length ((wordsOf c s).map Value.string)) : ∃ g cap, v = .slice (some ⟨g, 0, none⟩) (wordsOf c s).length cap ∧ w.heap.size ≤ g ∧ g < w2.heap.size ∧ ∀ k, k < (wordsOf c s).length → w2.cell? ⟨g, k, none⟩ = some (.string ((wordsOf c s).getD k ⟨#[]⟩)) := by
  have h0 := wordsOf_pos c s
  obtain ⟨g, cap, rfl⟩ := Go.Joins.ownsRow_form ho (by omega)
  have hl := World.ownsRow.lt ho g rfl
  refine ⟨g, cap, rfl, hl.1, hl.2, fun k hk => ?_⟩
  have := World.ownsRow.cells ho (g := g) rfl k (.string ((wordsOf c s).getD k ⟨#[]⟩)) (by simp [List.getD, hk])
  rwa [Addr.add_lit, Nat.zero_add] at this
set_option maxHeartbeats 4000000 in
theorem spec_l16ReadWire_any (s : ByteArray) (w : World) (hs : s.size ≤ 1048576) :
    Calls Tryz.prog 25 #[.string s] w fun e w' => (∃ x : EW, e = .returned (.agg #[.int .i64 x.a, .int .i64 x.b, .bool x.h]) ∧ (-1 ≤ x.a ∧ x.a ≤ 1000000) ∧ (-1 ≤ x.b ∧ x.b ≤ 1000000) ∧ RW s x) ∧ Below w.heap.size w w' := by
  go_enter Tryz.func25, Tryz.ntmps25
  go_wp2_with fail
  obtain ⟨W, hW⟩ : ∃ W, W = (w.alloc (.cells #[.int .i64 0, .int .i64 0, .bool false] 40)).alloc (.cells #[.int .u8 45, .int .u8 61] 5) := ⟨_, rfl⟩
  have c0 : W.cell? ⟨w.heap.size, 0, none⟩ = some (.int .i64 0) := by rw [hW]; exact (by repeat (first | (refine Eq.trans (World.cell?_alloc_at _ _ _ _ ?hh) ?_; (case hh => (simp; done)); rfl) | refine cell_alloc_keep _ ?_))
  have c1 : W.cell? ⟨w.heap.size, 1, none⟩ = some (.int .i64 0) := by rw [hW]; exact (by repeat (first | (refine Eq.trans (World.cell?_alloc_at _ _ _ _ ?hh) ?_; (case hh => (simp; done)); rfl) | refine cell_alloc_keep _ ?_))
  have c2 : W.cell? ⟨w.heap.size, 2, none⟩ = some (.bool false) := by rw [hW]; exact (by repeat (first | (refine Eq.trans (World.cell?_alloc_at _ _ _ _ ?hh) ?_; (case hh => (simp; done)); rfl) | refine cell_alloc_keep _ ?_))
  have d0 : W.cell? ⟨w.heap.size + 1, 0, none⟩ = some (.int .u8 45) := by rw [hW]; exact (by repeat (first | (refine Eq.trans (World.cell?_alloc_at _ _ _ _ ?hh) ?_; (case hh => (simp; done)); rfl) | refine cell_alloc_keep _ ?_))
  have d1 : W.cell? ⟨w.heap.size + 1, 1, none⟩ = some (.int .u8 61) := by rw [hW]; exact (by repeat (first | (refine Eq.trans (World.cell?_alloc_at _ _ _ _ ?hh) ?_; (case hh => (simp; done)); rfl) | refine cell_alloc_keep _ ?_))
  have f0 : W.frozen? ⟨w.heap.size, 0, none⟩ = false := by rw [hW]; exact (by repeat (first | (refine World.frozen?_alloc_at _ _ _ _ ?hh; case hh => (simp; done)) | (refine frozen_alloc_lt _ ?hh ?_; case hh => first | omega | (simp <;> omega))))
  have f1 : W.frozen? ⟨w.heap.size, 1, none⟩ = false := by rw [hW]; exact (by repeat (first | (refine World.frozen?_alloc_at _ _ _ _ ?hh; case hh => (simp; done)) | (refine frozen_alloc_lt _ ?hh ?_; case hh => first | omega | (simp <;> omega))))
  have f2 : W.frozen? ⟨w.heap.size, 2, none⟩ = false := by rw [hW]; exact (by repeat (first | (refine World.frozen?_alloc_at _ _ _ _ ?hh; case hh => (simp; done)) | (refine frozen_alloc_lt _ ?hh ?_; case hh => first | omega | (simp <;> omega))))
  have BW := Lib.hid (show Below w.heap.size w W from by rw [hW]; exact (by repeat (first | exact Below.refl _ _ | assumption | refine Below.drew ?_ | refine below_drewN ?_ _ | refine Below.alloc ?_ (by first | omega | (simp <;> omega)) _ | refine Below.setCell ?_ (by first | omega | (simp <;> omega)) _ | refine Below.trans ?_ (Below.mono (by assumption) (by first | omega | (simp <;> omega))))))
  have zW : w.heap.size + 2 ≤ W.heap.size := by rw [hW]; simp
  rw [← hW]
  clear hW
  refine wp_loop_rounds 3 ?_
  rw [rounds_succ]
  go_wp2_with fail
  refine (spec_l1Split_any s 45 _ hs).mono ?_; rintro e w2 ⟨v, ps, rfl, ho, hps, hb2⟩
  obtain rfl := words_of hps
  clear hps
  obtain ⟨g, cap, rfl, hg0, hg1, HC⟩ := split_cells ho
  have hwz : ∀ i, ((wordsOf 45 s).getD i ⟨#[]⟩).size ≤ 9223372036854775807 := fun i => by
    by_cases h : i < (wordsOf 45 s).length
    · have h2 : (wordsOf 45 s).getD i ⟨#[]⟩ ∈ wordsOf 45 s := by simp [List.getD, h]
      exact Nat.le_trans (wordsOf_size h2) (by omega)
    · rw [show (wordsOf 45 s).getD i ⟨#[]⟩ = ⟨#[]⟩ from by simp [List.getD, h]]; decide
  have hzw := hb2.size
  replace c0 := bel_zx hb2 c0; replace c1 := bel_zx hb2 c1; replace c2 := bel_zx hb2 c2; replace d0 := bel_zx hb2 d0; replace d1 := bel_zx hb2 d1
  replace f0 := below_frz hb2 rfl (by omega) f0; replace f1 := below_frz hb2 rfl (by omega) f1; replace f2 := below_frz hb2 rfl (by omega) f2
  have B2 := Lib.hid (show Below w.heap.size w w2 from below_step BW.out hb2)
  have zB : w.heap.size + 2 ≤ w2.heap.size := by omega
  clear ho hb2 BW
  by_cases h2 : (wordsOf 45 s).length = 2
  · have i2 : (((wordsOf 45 s).length : Int) == 2) = true := by simp; omega
    have q0 := HC 0 (by omega)
    have q1 := HC 1 (by omega)
    have HR := Lib.hid (rw_1 h2)
    have HZ0 := Lib.hid (hwz 0); have HZ1 := Lib.hid (hwz 1)
    clear hwz HC
    obtain ⟨t0, ht0⟩ : ∃ t, t = (wordsOf 45 s).getD 0 ⟨#[]⟩ := ⟨_, rfl⟩
    obtain ⟨t1, ht1⟩ : ∃ t, t = (wordsOf 45 s).getD 1 ⟨#[]⟩ := ⟨_, rfl⟩
    rw [← ht0] at q0 HR HZ0; rw [← ht1] at q1 HR HZ1
    clear ht0 ht1
    have j0 : (0 : Int) < ((wordsOf 45 s).length : Int) := by omega
    have j1 : (1 : Int) < ((wordsOf 45 s).length : Int) := by omega
    go_upto_region 6 with fail
    replace q0 : w2.drew.cell? ⟨g, 0, none⟩ = some (.string t0) := q0
    replace q1 : w2.drew.cell? ⟨g, 1, none⟩ = some (.string t1) := q1
    have k0 : w2.drew.cell? _ = _ := c0; have k1 : w2.drew.cell? _ = _ := c1; have k2 : w2.drew.cell? _ = _ := c2
    have l0 : w2.drew.frozen? _ = _ := f0; have l1 : w2.drew.frozen? _ = _ := f1; have l2 : w2.drew.frozen? _ = _ := f2
    replace B2 := Lib.hid (show Below w.heap.size w w2.drew from Below.drew B2.out)
    have hb9 : ((45 : Int) == 61) = false := rfl
    refine AnyB.begin (S := (fun w' => w'.cell? ⟨g, 0, none⟩ = some (.string t0) ∧ w'.cell? ⟨g, 1, none⟩ = some (.string t1))) [11] (by kernel_rfl) ?_ (fun hHeld0 => ?_)
    · ((try dsimp only); (first | exact ⟨q0, q1⟩))
    refine AnyB.takeQ (i := 0) (oi := _) (v := ?_) (by simp only [List.getElem?_toArray, List.getElem?_cons_zero, List.getElem?_cons_succ]; rfl) (by kernel_rfl) (by kernel_rfl) (by kernel_rfl) (by intro _ _ _ h; exact h) (Or.inl ⟨by rfl, ?_⟩) ?_
    rotate_left
    · (intro w hSw; (try dsimp only at hSw); go_simp; (try (with_reducible rfl)))
    try simp only [Act.put, List.setIfInBounds_toArray, List.set_cons_zero, List.set_cons_succ]
    refine AnyB.takeQ (i := 1) (oi := _) (v := ?_) (by simp only [List.getElem?_toArray, List.getElem?_cons_zero, List.getElem?_cons_succ]; rfl) (by kernel_rfl) (by kernel_rfl) (by kernel_rfl) (by intro _ _ _ h; exact h) (Or.inl ⟨by rfl, ?_⟩) ?_
    rotate_left
    · (intro w hSw; (try dsimp only at hSw); go_simp; (try (with_reducible rfl)))
    try simp only [Act.put, List.setIfInBounds_toArray, List.set_cons_zero, List.set_cons_succ]
    refine AnyB.take (i := 2) (oi := _) (v := ?_) (by simp only [List.getElem?_toArray, List.getElem?_cons_zero, List.getElem?_cons_succ]; rfl) (by kernel_rfl) (by kernel_rfl) (by kernel_rfl) (by kernel_rfl) (by kernel_rfl) (by intro _ _ _ h; exact h) (Or.inl ⟨by rfl, ?_⟩) (by assumption) ?_
    rotate_left
    · (intro w hSw; (try dsimp only at hSw); go_simp; (try (with_reducible rfl)))
    try simp only [Act.put, List.setIfInBounds_toArray, List.set_cons_zero, List.set_cons_succ]
    refine AnyB.takeQ (i := 4) (oi := _) (v := ?_) (by simp only [List.getElem?_toArray, List.getElem?_cons_zero, List.getElem?_cons_succ]; rfl) (by kernel_rfl) (by kernel_rfl) (by kernel_rfl) (by intro _ _ _ h; exact h) (Or.inl ⟨by rfl, ?_⟩) ?_
    rotate_left
    · (intro w hSw; (try dsimp only at hSw); go_simp; (try (with_reducible rfl)))
    try simp only [Act.put, List.setIfInBounds_toArray, List.set_cons_zero, List.set_cons_succ]
    refine AnyB.takeQ (i := 5) (oi := _) (v := ?_) (by simp only [List.getElem?_toArray, List.getElem?_cons_zero, List.getElem?_cons_succ]; rfl) (by kernel_rfl) (by kernel_rfl) (by kernel_rfl) (by intro _ _ _ h; exact h) (Or.inl ⟨by rfl, ?_⟩) ?_
    rotate_left
    · (intro w hSw; (try dsimp only at hSw); go_simp; (try (with_reducible rfl)))
    try simp only [Act.put, List.setIfInBounds_toArray, List.set_cons_zero, List.set_cons_succ]
    refine AnyB.take (i := 6) (oi := _) (v := ?_) (by simp only [List.getElem?_toArray, List.getElem?_cons_zero, List.getElem?_cons_succ]; rfl) (by kernel_rfl) (by kernel_rfl) (by kernel_rfl) (by kernel_rfl) (by kernel_rfl) (by intro _ _ _ h; exact h) (Or.inl ⟨by rfl, ?_⟩) (by assumption) ?_
    rotate_left
    · (intro w hSw; (try dsimp only at hSw); go_simp; (try (with_reducible rfl)))
    try simp only [Act.put, List.setIfInBounds_toArray, List.set_cons_zero, List.set_cons_succ]
    refine AnyB.takeQ (i := 8) (oi := _) (v := ?_) (by simp only [List.getElem?_toArray, List.getElem?_cons_zero, List.getElem?_cons_succ]; rfl) (by kernel_rfl) (by kernel_rfl) (by kernel_rfl) (by intro _ _ _ h; exact h) (Or.inl ⟨by rfl, ?_⟩) ?_
    rotate_left
    · (intro w hSw; (try dsimp only at hSw); go_simp; (try (with_reducible rfl)))
    try simp only [Act.put, List.setIfInBounds_toArray, List.set_cons_zero, List.set_cons_succ]
    refine AnyB.takeQ (i := 9) (oi := _) (v := ?_) (by simp only [List.getElem?_toArray, List.getElem?_cons_zero, List.getElem?_cons_succ]; rfl) (by kernel_rfl) (by kernel_rfl) (by kernel_rfl) (by intro _ _ _ h; exact h) (Or.inl ⟨by rfl, ?_⟩) ?_
    rotate_left
    · (intro w hSw; (try dsimp only at hSw); go_simp; (try (with_reducible rfl)))
    try simp only [Act.put, List.setIfInBounds_toArray, List.set_cons_zero, List.set_cons_succ]
    refine AnyB.each (rs := [3]) (by kernel_rfl) (by simp) ?_
    refine EachB.cons rfl (fun K hK hB => ?_) ?_
    · skip
      (go_simp; go_at_call 22; refine (spec_l1Read_any t0 _ HZ0.out).mono ?_; rintro e w3 ⟨rfl, rfl⟩; dsimp only)
      refine hK.out _ _ ?_ (fun hHeld1 => ?_)
      · ((try dsimp only); (first | exact ⟨q0, q1⟩))
      clear hB hK K hHeld0
      refine AnyB.each (rs := [7]) (by kernel_rfl) (by simp) ?_
      refine EachB.cons rfl (fun K hK hB => ?_) ?_
      · skip
        (go_simp; go_at_call 22; refine (spec_l1Read_any t1 _ HZ1.out).mono ?_; rintro e w3 ⟨rfl, rfl⟩; dsimp only)
        refine hK.out _ _ ?_ (fun hHeld2 => ?_)
        · ((try dsimp only); (first | exact ⟨q0, q1⟩))
        clear hB hK K hHeld1
        refine AnyB.takeQ (i := 10) (oi := _) (v := ?_) (by simp only [List.getElem?_toArray, List.getElem?_cons_zero, List.getElem?_cons_succ]; rfl) (by kernel_rfl) (by kernel_rfl) (by kernel_rfl) (by intro _ _ _ h; exact h) (Or.inl ⟨by rfl, ?_⟩) ?_
        rotate_left
        · (intro w hSw; (try dsimp only at hSw); go_simp; (try (with_reducible rfl)))
        try simp only [Act.put, List.setIfInBounds_toArray, List.set_cons_zero, List.set_cons_succ]
        refine AnyB.each (rs := [11]) (by kernel_rfl) (by simp) ?_
        refine EachB.cons rfl (fun K hK hB => ?_) ?_
        · skip
          go_simp
          refine hB.out _ _ rfl ?_
          clear hB hK K
          refine AnyB.none (by kernel_rfl) ?_ _
          go_wp2_with fail
          exact bodyPost_ret (v := .agg #[.int .i64 (readG t0), .int .i64 (readG t1), .bool false]) (by simp [results, Tryz.results25, go_sem, c0, c1, c2]; done) rfl ⟨⟨⟨readG t0, readG t1, false⟩, rfl, read_in _, read_in _, HR.out⟩, Below.setCell (Below.setCell (Below.setCell B2.out (Nat.le_refl _) _) (Nat.le_refl _) _) (Nat.le_refl _) _⟩
        exact EachB.nil
      exact EachB.nil
    exact EachB.nil
  · have i2 : (((wordsOf 45 s).length : Int) == 2) = false := by simp; omega
    clear HC hwz hg0 hg1
    obtain ⟨V, hV⟩ : ∃ V, V = w2 := ⟨_, rfl⟩
    rw [← hV] at c0 c1 c2 d0 d1 f0 f1 f2 B2 zB ⊢
    clear hV hzw
    go_wp2_with fail
    rw [rounds_succ]
    go_wp2_with fail
    refine (spec_l1Split_any s 61 _ hs).mono ?_; rintro e w5 ⟨v, ps, rfl, ho, hps, hb2⟩
    obtain rfl := words_of hps
    clear hps
    obtain ⟨g, cap, rfl, hg0, hg1, HC⟩ := split_cells ho
    have hwz : ∀ i, ((wordsOf 61 s).getD i ⟨#[]⟩).size ≤ 9223372036854775807 := fun i => by
      by_cases h : i < (wordsOf 61 s).length
      · have h2 : (wordsOf 61 s).getD i ⟨#[]⟩ ∈ wordsOf 61 s := by simp [List.getD, h]
        exact Nat.le_trans (wordsOf_size h2) (by omega)
      · rw [show (wordsOf 61 s).getD i ⟨#[]⟩ = ⟨#[]⟩ from by simp [List.getD, h]]; decide
    have hzw := hb2.size
    replace c0 := bel_zx hb2 c0; replace c1 := bel_zx hb2 c1; replace c2 := bel_zx hb2 c2; replace d0 := bel_zx hb2 d0; replace d1 := bel_zx hb2 d1
    replace f0 := below_frz hb2 rfl (by omega) f0; replace f1 := below_frz hb2 rfl (by omega) f1; replace f2 := below_frz hb2 rfl (by omega) f2
    have B5 := Lib.hid (show Below w.heap.size w w5 from below_step B2.out hb2)
    have zB : w.heap.size + 2 ≤ w5.heap.size := by omega
    clear ho hb2 B2
    by_cases h3 : (wordsOf 61 s).length = 2
    · have i3 : (((wordsOf 61 s).length : Int) == 2) = true := by simp; omega
      have q0 := HC 0 (by omega)
      have q1 := HC 1 (by omega)
      have HR := Lib.hid (rw_2 h2 h3)
      have HZ0 := Lib.hid (hwz 0); have HZ1 := Lib.hid (hwz 1)
      clear hwz HC
      obtain ⟨t0, ht0⟩ : ∃ t, t = (wordsOf 61 s).getD 0 ⟨#[]⟩ := ⟨_, rfl⟩
      obtain ⟨t1, ht1⟩ : ∃ t, t = (wordsOf 61 s).getD 1 ⟨#[]⟩ := ⟨_, rfl⟩
      rw [← ht0] at q0 HR HZ0; rw [← ht1] at q1 HR HZ1
      clear ht0 ht1
      have j0 : (0 : Int) < ((wordsOf 61 s).length : Int) := by omega
      have j1 : (1 : Int) < ((wordsOf 61 s).length : Int) := by omega
      go_upto_region 6 with fail
      replace q0 : w5.drew.cell? ⟨g, 0, none⟩ = some (.string t0) := q0
      replace q1 : w5.drew.cell? ⟨g, 1, none⟩ = some (.string t1) := q1
      have k0 : w5.drew.cell? _ = _ := c0; have k1 : w5.drew.cell? _ = _ := c1; have k2 : w5.drew.cell? _ = _ := c2
      have l0 : w5.drew.frozen? _ = _ := f0; have l1 : w5.drew.frozen? _ = _ := f1; have l2 : w5.drew.frozen? _ = _ := f2
      replace B5 := Lib.hid (show Below w.heap.size w w5.drew from Below.drew B5.out)
      have hb9 : ((61 : Int) == 61) = true := rfl
      refine AnyB.begin (S := (fun w' => w'.cell? ⟨g, 0, none⟩ = some (.string t0) ∧ w'.cell? ⟨g, 1, none⟩ = some (.string t1))) [11] (by kernel_rfl) ?_ (fun hHeld0 => ?_)
      · ((try dsimp only); (first | exact ⟨q0, q1⟩))
      refine AnyB.takeQ (i := 0) (oi := _) (v := ?_) (by simp only [List.getElem?_toArray, List.getElem?_cons_zero, List.getElem?_cons_succ]; rfl) (by kernel_rfl) (by kernel_rfl) (by kernel_rfl) (by intro _ _ _ h; exact h) (Or.inl ⟨by rfl, ?_⟩) ?_
      rotate_left
      · (intro w hSw; (try dsimp only at hSw); go_simp; (try (with_reducible rfl)))
      try simp only [Act.put, List.setIfInBounds_toArray, List.set_cons_zero, List.set_cons_succ]
      refine AnyB.takeQ (i := 1) (oi := _) (v := ?_) (by simp only [List.getElem?_toArray, List.getElem?_cons_zero, List.getElem?_cons_succ]; rfl) (by kernel_rfl) (by kernel_rfl) (by kernel_rfl) (by intro _ _ _ h; exact h) (Or.inl ⟨by rfl, ?_⟩) ?_
      rotate_left
      · (intro w hSw; (try dsimp only at hSw); go_simp; (try (with_reducible rfl)))
      try simp only [Act.put, List.setIfInBounds_toArray, List.set_cons_zero, List.set_cons_succ]
      refine AnyB.take (i := 2) (oi := _) (v := ?_) (by simp only [List.getElem?_toArray, List.getElem?_cons_zero, List.getElem?_cons_succ]; rfl) (by kernel_rfl) (by kernel_rfl) (by kernel_rfl) (by kernel_rfl) (by kernel_rfl) (by intro _ _ _ h; exact h) (Or.inl ⟨by rfl, ?_⟩) (by assumption) ?_
      rotate_left
      · (intro w hSw; (try dsimp only at hSw); go_simp; (try (with_reducible rfl)))
      try simp only [Act.put, List.setIfInBounds_toArray, List.set_cons_zero, List.set_cons_succ]
      refine AnyB.takeQ (i := 4) (oi := _) (v := ?_) (by simp only [List.getElem?_toArray, List.getElem?_cons_zero, List.getElem?_cons_succ]; rfl) (by kernel_rfl) (by kernel_rfl) (by kernel_rfl) (by intro _ _ _ h; exact h) (Or.inl ⟨by rfl, ?_⟩) ?_
      rotate_left
      · (intro w hSw; (try dsimp only at hSw); go_simp; (try (with_reducible rfl)))
      try simp only [Act.put, List.setIfInBounds_toArray, List.set_cons_zero, List.set_cons_succ]
      refine AnyB.takeQ (i := 5) (oi := _) (v := ?_) (by simp only [List.getElem?_toArray, List.getElem?_cons_zero, List.getElem?_cons_succ]; rfl) (by kernel_rfl) (by kernel_rfl) (by kernel_rfl) (by intro _ _ _ h; exact h) (Or.inl ⟨by rfl, ?_⟩) ?_
      rotate_left
      · (intro w hSw; (try dsimp only at hSw); go_simp; (try (with_reducible rfl)))
      try simp only [Act.put, List.setIfInBounds_toArray, List.set_cons_zero, List.set_cons_succ]
      refine AnyB.take (i := 6) (oi := _) (v := ?_) (by simp only [List.getElem?_toArray, List.getElem?_cons_zero, List.getElem?_cons_succ]; rfl) (by kernel_rfl) (by kernel_rfl) (by kernel_rfl) (by kernel_rfl) (by kernel_rfl) (by intro _ _ _ h; exact h) (Or.inl ⟨by rfl, ?_⟩) (by assumption) ?_
      rotate_left
      · (intro w hSw; (try dsimp only at hSw); go_simp; (try (with_reducible rfl)))
      try simp only [Act.put, List.setIfInBounds_toArray, List.set_cons_zero, List.set_cons_succ]
      refine AnyB.takeQ (i := 8) (oi := _) (v := ?_) (by simp only [List.getElem?_toArray, List.getElem?_cons_zero, List.getElem?_cons_succ]; rfl) (by kernel_rfl) (by kernel_rfl) (by kernel_rfl) (by intro _ _ _ h; exact h) (Or.inl ⟨by rfl, ?_⟩) ?_
      rotate_left
      · (intro w hSw; (try dsimp only at hSw); go_simp; (try (with_reducible rfl)))
      try simp only [Act.put, List.setIfInBounds_toArray, List.set_cons_zero, List.set_cons_succ]
      refine AnyB.takeQ (i := 9) (oi := _) (v := ?_) (by simp only [List.getElem?_toArray, List.getElem?_cons_zero, List.getElem?_cons_succ]; rfl) (by kernel_rfl) (by kernel_rfl) (by kernel_rfl) (by intro _ _ _ h; exact h) (Or.inl ⟨by rfl, ?_⟩) ?_
      rotate_left
      · (intro w hSw; (try dsimp only at hSw); go_simp; (try (with_reducible rfl)))
      try simp only [Act.put, List.setIfInBounds_toArray, List.set_cons_zero, List.set_cons_succ]
      refine AnyB.each (rs := [3]) (by kernel_rfl) (by simp) ?_
      refine EachB.cons rfl (fun K hK hB => ?_) ?_
      · skip
        (go_simp; go_at_call 22; refine (spec_l1Read_any t0 _ HZ0.out).mono ?_; rintro e w3 ⟨rfl, rfl⟩; dsimp only)
        refine hK.out _ _ ?_ (fun hHeld1 => ?_)
        · ((try dsimp only); (first | exact ⟨q0, q1⟩))
        clear hB hK K hHeld0
        refine AnyB.each (rs := [7]) (by kernel_rfl) (by simp) ?_
        refine EachB.cons rfl (fun K hK hB => ?_) ?_
        · skip
          (go_simp; go_at_call 22; refine (spec_l1Read_any t1 _ HZ1.out).mono ?_; rintro e w3 ⟨rfl, rfl⟩; dsimp only)
          refine hK.out _ _ ?_ (fun hHeld2 => ?_)
          · ((try dsimp only); (first | exact ⟨q0, q1⟩))
          clear hB hK K hHeld1
          refine AnyB.takeQ (i := 10) (oi := _) (v := ?_) (by simp only [List.getElem?_toArray, List.getElem?_cons_zero, List.getElem?_cons_succ]; rfl) (by kernel_rfl) (by kernel_rfl) (by kernel_rfl) (by intro _ _ _ h; exact h) (Or.inl ⟨by rfl, ?_⟩) ?_
          rotate_left
          · (intro w hSw; (try dsimp only at hSw); go_simp; (try (with_reducible rfl)))
          try simp only [Act.put, List.setIfInBounds_toArray, List.set_cons_zero, List.set_cons_succ]
          refine AnyB.each (rs := [11]) (by kernel_rfl) (by simp) ?_
          refine EachB.cons rfl (fun K hK hB => ?_) ?_
          · skip
            go_simp
            refine hB.out _ _ rfl ?_
            clear hB hK K
            refine AnyB.none (by kernel_rfl) ?_ _
            go_wp2_with fail
            exact bodyPost_ret (v := .agg #[.int .i64 (readG t0), .int .i64 (readG t1), .bool true]) (by simp [results, Tryz.results25, go_sem, c0, c1, c2]; done) rfl ⟨⟨⟨readG t0, readG t1, true⟩, rfl, read_in _, read_in _, HR.out⟩, Below.setCell (Below.setCell (Below.setCell B5.out (Nat.le_refl _) _) (Nat.le_refl _) _) (Nat.le_refl _) _⟩
          exact EachB.nil
        exact EachB.nil
      exact EachB.nil
    · have i3 : (((wordsOf 61 s).length : Int) == 2) = false := by simp; omega
      have HR := Lib.hid (rw_3 h2 h3 ⟨-1, 0, false⟩)
      clear HC hwz hg0 hg1
      go_wp2_with fail
      rw [rounds_succ]
      go_wp2_with fail
      exact bodyPost_ret (v := .agg #[.int .i64 (-1), .int .i64 0, .bool false]) (by simp [results, Tryz.results25, go_sem, c0, c1, c2]; done) rfl ⟨⟨⟨-1, 0, false⟩, rfl, by decide, by decide, HR.out⟩, Below.setCell (Below.setCell (Below.setCell B5.out (Nat.le_refl _) _) (Nat.le_refl _) _) (Nat.le_refl _) _⟩
end Go.Proofs.YtliophgfgmjhiaaGreatDoor
