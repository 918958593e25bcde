/- The nearest code word, in the program and in the reference. -/
import Derived.Test.YtlelcnlibacnaaaRm5
import Derived.BigRegion
namespace Go.Proofs.Ytlelcnlibacnaaa
set_option linter.unusedSimpArgs false
set_option linter.unusedVariables false
set_option linter.unnecessarySimpa false
set_option maxRecDepth 200000
open Go.ChangeShapes Go.WideShapes Go.ChangeAt Go.RowKit

def nearF (x : Nat) (s : Nat × Nat) (y : Nat) : Nat × Nat := if pop (x ^^^ y) < s.2 then (y, pop (x ^^^ y)) else s
def nearTo (L : List Nat) (x k : Nat) : Nat × Nat := (L.take k).foldl (nearF x) (0, pop x)
def near (n x : Nat) : Nat × Nat := nearTo (codesS n) x (codesS n).length
theorem nearTo_succ {L : List Nat} {x k : Nat} (h : k < L.length) : nearTo L x (k + 1) = nearF x (nearTo L x k) (L.getD k 0) := by
  unfold nearTo
  rw [List.take_succ_eq_append_getElem h, List.foldl_append]
  simp [List.getD, h]
theorem near_hit {L : List Nat} {x k y p : Nat} (h : k < L.length) (hy : y = L.getD k 0) (hp : p = pop (x ^^^ y)) (hlt : p < (nearTo L x k).2) : nearTo L x (k + 1) = (y, p) := by
  rw [nearTo_succ h, nearF, ← hy, ← hp, if_pos hlt]
theorem near_miss {L : List Nat} {x k y p : Nat} (h : k < L.length) (hy : y = L.getD k 0) (hp : p = pop (x ^^^ y)) (hlt : ¬ p < (nearTo L x k).2) : nearTo L x (k + 1) = nearTo L x k := by
  rw [nearTo_succ h, nearF, ← hy, ← hp, if_neg hlt]
theorem pop_le (x : Nat) : pop x ≤ 64 := setB_len x 64
theorem pop_lt {x m : Nat} (hm : m ≤ 64) (h : x < 2 ^ m) : pop x ≤ m := by
  unfold pop
  rw [← setB_eq h (Nat.lt_of_lt_of_le h (Nat.pow_le_pow_right (by omega) hm))]
  exact setB_len x m
theorem nearTo_bd {L : List Nat} {x : Nat} (hs : ∀ y ∈ L, y < 2147483648) : ∀ k, (nearTo L x k).1 < 2147483648 ∧ (nearTo L x k).2 ≤ 64
  | 0 => by simp [nearTo]; exact pop_le x
  | k + 1 => by
    have ih := nearTo_bd (x := x) hs k
    by_cases h : k < L.length
    · rw [nearTo_succ h, nearF]
      split
      · exact ⟨mem_small hs h, pop_le _⟩
      · exact ih
    · unfold nearTo at ih ⊢
      rw [List.take_of_length_le (by omega)] at ih ⊢; exact ih
theorem xor_comm31 (x y : Nat) : x ^^^ y = y ^^^ x := Nat.xor_comm x y
theorem ret_ii {a b c d : Int} (h : a = b) (h2 : c = d) : Ending.returned (.tuple #[.int .i64 a, .int .i64 c]) = .returned (.tuple #[.int .i64 b, .int .i64 d]) := by rw [h, h2]
set_option maxHeartbeats 2000000 in
theorem spec_l15Nearest_any (n x : Nat) (w : World) (h1 : 1 ≤ n) (h2 : n ≤ 5) (hx : x < 2147483648) :
    Calls Try.prog 65 #[.int .i64 (n : Int), .int .i64 (x : Int)] w fun e w' => e = .returned (.tuple #[.int .i64 ((near n x).1 : Int), .int .i64 ((near n x).2 : Int)]) ∧ Below w.heap.size w w' := by
  have CO := code_ok h1 h2
  have hl64 := CO.few
  have HS := Lib.hid CO.small
  have h0 := codes_pos h1 h2
  clear CO
  have HP := Lib.hid (pop_31 hx)
  go_enter Try.func65, Try.ntmps65
  go_wp2_with fail
  refine (spec_l1Set_big x _ hx).mono ?_; rintro e w1 ⟨v, rfl, ho, hb1⟩
  obtain ⟨a, cap, rfl⟩ := ho.forms
  rw [ints_len, HP.out]
  clear ho
  go_wp2_with fail
  refine (spec_l15Codes_any n _ h1 h2).mono ?_; rintro e w2 ⟨v, rfl, ho, hb2⟩
  obtain ⟨b, off, cap2, rfl, hb, hlc, hcm, hc⟩ := rd_low ho.rd h0
  obtain ⟨L, hL⟩ : ∃ L, L = codesS n := ⟨_, rfl⟩
  have B2 := Lib.hid (below_step hb1 hb2)
  rw [← hL] at hl64 h0 hlc hc HS
  rw [← hL]
  have Hc := Lib.hid hc; have HL := Lib.hid hL
  clear hc hL ho hb1 hb2
  go_wp2_with fail
  go_loopw [6, 7, 17] (fun bst lst i wr => ∃ k : Nat, k ≤ L.length ∧ i = .int .i64 k ∧ bst = .int .i64 ((nearTo L x k).1 : Int) ∧ lst = .int .i64 ((nearTo L x k).2 : Int) ∧ Below w2.heap.size w2 wr) (fun _ _ i _ => L.length - (intOf i).toNat)
  case atStart => exact ⟨0, Nat.zero_le _, rfl, rfl, rfl, Below.refl _ _⟩
  case round =>
    obtain ⟨k, hk, rfl, rfl, rfl, hbel⟩ := hrel
    by_cases hlt : k < L.length
    · have i1 : (k : Int) < (L.length : Int) := by omega
      obtain ⟨y, hy⟩ : ∃ y, y = L.getD k 0 := ⟨_, rfl⟩
      have cy := (hbel.cell hb).trans (Hc.out k hlt)
      rw [← hy] at cy
      have hyl : y < 2147483648 := by rw [hy]; exact mem_small HS.out hlt
      obtain ⟨z, hz⟩ : ∃ z, z = x ^^^ y := ⟨_, rfl⟩
      have hxor : bits .xor .i64 (x : Int) (y : Int) = (z : Int) := by rw [hz]; exact bits_xor x y (by omega) (by omega)
      have hz31 : z < 2147483648 := by rw [hz]; exact Nat.xor_lt_two_pow (n := 31) hx hyl
      obtain ⟨p, hp⟩ : ∃ p, p = pop z := ⟨_, rfl⟩
      have HPz := Lib.hid ((pop_31 hz31).trans hp.symm)
      obtain ⟨c, hc⟩ : ∃ c, c = nearTo L x k := ⟨_, rfl⟩
      have hbd := nearTo_bd (x := x) HS.out k
      rw [← hc] at hbd
      rw [← hc]
      obtain ⟨c1, c2⟩ := c
      dsimp only at hbd ⊢
      have hpl : p ≤ 64 := by rw [hp]; exact pop_le _
      have hszr := hbel.size
      by_cases hpc : p < c2
      · have g1 : decide ((p : Int) < (c2 : Int)) = true := by simp; omega
        have g2 : decide (p < c2) = true := by simp; omega
        have HN := Lib.hid (near_hit hlt hy (by rw [hp, hz]) (show p < (nearTo L x k).2 by rw [← hc]; exact hpc))
        clear hpc hp hz hy hc
        go_wp2_with fail
        refine (spec_l1Set_big z _ hz31).mono ?_; rintro e w3 ⟨v3, rfl, ho3, hb3⟩
        obtain ⟨a3, cap3, rfl⟩ := ho3.forms
        rw [ints_len, HPz.out]
        clear ho3
        go_wp2_with fail
        go_roundw
        case rel => exact ⟨k + 1, by omega, by go_num, by rw [HN.out], by rw [HN.out], below_step hbel hb3⟩
        case measure => simp [intOf]; omega
      · have g1 : decide ((p : Int) < (c2 : Int)) = false := by simp; omega
        have g2 : decide (p < c2) = false := by simp; omega
        have HN := Lib.hid ((near_miss hlt hy (by rw [hp, hz]) (show ¬ p < (nearTo L x k).2 by rw [← hc]; exact hpc)).trans hc.symm)
        clear hpc hp hz hy hc
        go_wp2_with fail
        refine (spec_l1Set_big z _ hz31).mono ?_; rintro e w3 ⟨v3, rfl, ho3, hb3⟩
        obtain ⟨a3, cap3, rfl⟩ := ho3.forms
        rw [ints_len, HPz.out]
        clear ho3
        go_wp2_with fail
        go_roundw
        case rel => exact ⟨k + 1, by omega, by go_num, by rw [HN.out], by rw [HN.out], below_step hbel hb3⟩
        case measure => simp [intOf]; omega
    · have hr : Hid (nearTo L x k = near n x) := by show _ = _; unfold near; rw [← HL.out, show k = L.length by omega]
      go_wp2_with fail
      go_ret2
      exact ⟨ret_ii (by rw [hr.out]) (by rw [hr.out]), below_step B2.out hbel⟩
/-- The state of the program's loop: its first bound is larger. -/
def nearI (L : List Nat) (n x k : Nat) : Nat × Nat := if k = 0 then (0, 2 ^ n) else nearTo L x k
theorem nearI_pos {L : List Nat} {n x k : Nat} (h : 0 < k) : nearI L n x k = nearTo L x k := if_neg (by omega)
theorem near_one {L : List Nat} {x : Nat} (h : 0 < L.length) (h0 : L.getD 0 0 = 0) : nearTo L x 1 = (0, pop x) := by
  rw [nearTo_succ h, h0, nearF]
  simp [nearTo]
theorem nearI_hit {L : List Nat} {n x k y p : Nat} (h : k < L.length) (hh : L.getD 0 0 = 0) (hy : y = L.getD k 0) (hp : p = pop (y ^^^ x)) (hlt : p < (nearI L n x k).2) : nearI L n x (k + 1) = (y, p) := by
  rw [nearI_pos (by omega)]
  by_cases hk : k = 0
  · subst hk
    have hy0 : y = 0 := hy.trans hh
    subst hy0
    rw [near_one h hh, hp]; simp
  · rw [nearI_pos (by omega)] at hlt
    exact near_hit h hy (by rw [hp, Nat.xor_comm]) hlt
theorem nearI_miss {L : List Nat} {n x k y p : Nat} (h : k < L.length) (hh : L.getD 0 0 = 0) (hpx : pop x < 2 ^ n) (hy : y = L.getD k 0) (hp : p = pop (y ^^^ x)) (hlt : ¬ p < (nearI L n x k).2) : nearI L n x (k + 1) = nearI L n x k := by
  by_cases hk : k = 0
  · subst hk
    have hy0 : y = 0 := hy.trans hh
    subst hy0
    exfalso; apply hlt; rw [hp]; simpa [nearI] using hpx
  · rw [nearI_pos (by omega)] at hlt ⊢
    rw [nearI_pos (by omega)]
    exact near_miss h hy (by rw [hp, Nat.xor_comm]) hlt
theorem nearI_bd {L : List Nat} {n x : Nat} (h2 : n ≤ 5) (hs : ∀ y ∈ L, y < 2147483648) (k : Nat) : (nearI L n x k).1 < 2147483648 ∧ (nearI L n x k).2 ≤ 64 := by
  unfold nearI; split
  · refine ⟨by dsimp only; omega, ?_⟩
    have : (2 : Nat) ^ n ≤ 2 ^ 5 := Nat.pow_le_pow_right (by omega) h2
    dsimp only; omega
  · exact nearTo_bd hs k
set_option maxHeartbeats 4000000 in
theorem impl_nearest_any (n x : Nat) (w : World) (h1 : 1 ≤ n) (h2 : n ≤ 5) (hx : x < 2147483648) (hpx : pop x < 2 ^ n) :
    Calls Try.prog 66 #[.int .i64 (n : Int), .int .i64 (x : Int)] w fun e w' => e = .returned (.tuple #[.int .i64 ((near n x).1 : Int), .int .i64 ((near n x).2 : Int)]) ∧ Below w.heap.size w w' := by
  have CO := code_ok h1 h2
  have hl64 := CO.few
  have HS := Lib.hid CO.small
  have h0 := codes_pos h1 h2
  have hhd : (codesS n).getD 0 0 = 0 := by have := CO.head; revert h0 this; cases codesS n with
    | nil => intro h0; simp at h0
    | cons a l => intro _ h; simpa using h
  clear CO
  obtain ⟨p1, p2⟩ := pow_5 (n := (n : Int)) (by omega)
  rw [Int.toNat_natCast] at p1 p2
  obtain ⟨N, hN⟩ : ∃ N : Nat, N = 2 ^ n := ⟨_, rfl⟩
  have hNi : (2 : Int) ^ n = (N : Int) := by rw [hN]; simp
  rw [hNi] at p1 p2
  rw [← hN] at hpx
  have hw : IntKind.i64.wrap ((2 : Int) ^ n) = (N : Int) := by rw [hNi]; exact IntWalk.i64_in _ (by omega)
  have HN0 := Lib.hid hN; clear hN hNi
  have n0 : (0 : Int) ≤ (n : Int) := by omega
  go_enter Try.func66, Try.ntmps66
  go_wp2_with fail
  go_region
  go_wp2_with fail
  refine (impl_codeWords_any n _ h1 h2).mono ?_; rintro e w2 ⟨v, rfl, ho, hb2⟩
  obtain ⟨b, off, cap2, rfl, hb, hlc, hcm, hc⟩ := rd_low ho.rd h0
  obtain ⟨L, hL⟩ : ∃ L, L = codesS n := ⟨_, rfl⟩
  have B2 := Lib.hid (show Below w.heap.size w w2 from (by repeat (first | exact Below.refl _ _ | assumption | refine Below.drew ?_ | refine below_drewN ?_ _ | refine Below.alloc ?_ (by first | omega | (simp <;> omega)) _ | refine Below.setCell ?_ (by first | omega | (simp <;> omega)) _ | refine Below.trans ?_ (Below.mono (by assumption) (by first | omega | (simp <;> omega))))))
  rw [← hL] at hl64 h0 hlc hc HS hhd
  rw [← hL]
  have Hc := Lib.hid hc; have HL := Lib.hid hL; have HH := Lib.hid hhd
  have HPX := Lib.hid (show pop x < 2 ^ n by rw [← HN0.out]; exact hpx)
  clear hc hL ho hb2 hhd
  go_wp2_with fail
  go_loopw [6, 7, 16] (fun bst lst i wr => ∃ k : Nat, k ≤ L.length ∧ i = .int .i64 k ∧ bst = .int .i64 ((nearI L n x k).1 : Int) ∧ lst = .int .i64 ((nearI L n x k).2 : Int) ∧ Below w2.heap.size w2 wr) (fun _ _ i _ => L.length - (intOf i).toNat)
  case atStart => exact ⟨0, Nat.zero_le _, rfl, rfl, by show Value.int .i64 (N : Int) = .int .i64 ((2 ^ n : Nat) : Int); rw [HN0.out], Below.refl _ _⟩
  case round =>
    obtain ⟨k, hk, rfl, rfl, rfl, hbel⟩ := hrel
    by_cases hlt : k < L.length
    · have i1 : (k : Int) < (L.length : Int) := by omega
      obtain ⟨y, hy⟩ : ∃ y, y = L.getD k 0 := ⟨_, rfl⟩
      have cy := (hbel.cell hb).trans (Hc.out k hlt)
      rw [← hy] at cy
      have hyl : y < 2147483648 := by rw [hy]; exact mem_small HS.out hlt
      obtain ⟨z, hz⟩ : ∃ z, z = y ^^^ x := ⟨_, rfl⟩
      have hxor : bits .xor .i64 (y : Int) (x : Int) = (z : Int) := by rw [hz]; exact bits_xor y x (by omega) (by omega)
      have hz31 : z < 2147483648 := by rw [hz]; exact Nat.xor_lt_two_pow (n := 31) hyl hx
      obtain ⟨p, hp⟩ : ∃ p, p = pop z := ⟨_, rfl⟩
      obtain ⟨c, hc⟩ : ∃ c, c = nearI L n x k := ⟨_, rfl⟩
      have hbd := nearI_bd (x := x) h2 HS.out k
      rw [← hc] at hbd
      rw [← hc]
      obtain ⟨c1, c2⟩ := c
      dsimp only at hbd ⊢
      have hpl : p ≤ 64 := by rw [hp]; exact pop_le _
      have HP := Lib.hid hp
      have hszr := hbel.size
      by_cases hpc : p < c2
      · have g1 : decide ((p : Int) < (c2 : Int)) = true := by simp; omega
        have g2 : decide (p < c2) = true := by simp; omega
        have HN := Lib.hid (nearI_hit (n := n) hlt HH.out hy (by rw [hp, hz]) (show p < (nearI L n x k).2 by rw [← hc]; exact hpc))
        clear hpc hp hz hy hc
        go_wp2_with fail
        refine (impl_bitsIn_any z _ (by omega)).mono ?_; rintro e w' ⟨rfl, rfl⟩; rw [← HP.out]
        go_wp2_with fail
        go_roundw
        case rel => exact ⟨k + 1, by omega, by go_num, by rw [HN.out], by rw [HN.out], hbel⟩
        case measure => simp [intOf]; omega
      · have g1 : decide ((p : Int) < (c2 : Int)) = false := by simp; omega
        have g2 : decide (p < c2) = false := by simp; omega
        have HN := Lib.hid ((nearI_miss (n := n) hlt HH.out HPX.out hy (by rw [hp, hz]) (show ¬ p < (nearI L n x k).2 by rw [← hc]; exact hpc)).trans hc.symm)
        clear hpc hp hz hy hc
        go_wp2_with fail
        refine (impl_bitsIn_any z _ (by omega)).mono ?_; rintro e w' ⟨rfl, rfl⟩; rw [← HP.out]
        go_wp2_with fail
        go_roundw
        case rel => exact ⟨k + 1, by omega, by go_num, by rw [HN.out], by rw [HN.out], hbel⟩
        case measure => simp [intOf]; omega
    · have hr : Hid (nearI L n x k = near n x) := by show _ = _; rw [nearI_pos (by omega)]; unfold near; rw [← HL.out, show k = L.length by omega]
      go_wp2_with fail
      go_ret2
      exact ⟨ret_ii (by rw [hr.out]) (by rw [hr.out]), below_step B2.out hbel⟩
/-- What NearestCode answers. -/
noncomputable def nearG (n b : Int) : Nat × Nat := if wordB n b = true then near n.toNat b.toNat else (0, 0)
theorem nearG_0 {n b : Int} (h : wordB n b = false) : nearG n b = (0, 0) := if_neg (by rw [h]; exact Bool.false_ne_true)
theorem nearG_1 {n b : Int} (h : wordB n b = true) : nearG n b = near n.toNat b.toNat := if_pos h
theorem ret_iib {a b c d : Int} {p q : Bool} (h : a = b) (h2 : c = d) (h3 : p = q) : Ending.returned (.tuple #[.int .i64 a, .int .i64 c, .bool p]) = .returned (.tuple #[.int .i64 b, .int .i64 d, .bool q]) := by rw [h, h2, h3]
theorem word_pop {m x : Nat} (h1 : 1 ≤ m) (h2 : m ≤ 5) (h : (x : Int) ≤ topN (m : Int)) : x < 2147483648 ∧ pop x < 2 ^ m := by
  have ht : x < 2 ^ (2 ^ m - 1) := by
    have : m = 1 ∨ m = 2 ∨ m = 3 ∨ m = 4 ∨ m = 5 := by omega
    rcases this with rfl | rfl | rfl | rfl | rfl
    · have : topN ((1 : Nat) : Int) = 1 := by decide
      omega
    · have : topN ((2 : Nat) : Int) = 7 := by decide
      omega
    · have : topN ((3 : Nat) : Int) = 127 := by decide
      omega
    · have : topN ((4 : Nat) : Int) = 32767 := by decide
      omega
    · have : topN ((5 : Nat) : Int) = 2147483647 := by decide
      omega
  have hm : (2 : Nat) ^ m ≤ 2 ^ 5 := Nat.pow_le_pow_right (by omega) h2
  have hp := pop_lt (m := 2 ^ m - 1) (by omega) ht
  have h0 : 0 < (2 : Nat) ^ m := Nat.pow_pos (by decide)
  exact ⟨Nat.lt_of_lt_of_le ht (show 2 ^ (2 ^ m - 1) ≤ 2 ^ 31 from Nat.pow_le_pow_right (by omega) (by omega)), by omega⟩
theorem spec_NearestCode_any (n b : Int) (w : World) : Calls Try.prog 28 #[.int .i64 n, .int .i64 b] w fun e w' => e = .returned (.tuple #[.int .i64 ((nearG n b).1 : Int), .int .i64 ((nearG n b).2 : Int), .bool (wordB n b)]) ∧ Below w.heap.size w w' := by
  by_cases hb : wordB n b = true
  · obtain ⟨⟨n1, n2⟩, b1, b2⟩ := wordB_ok hb
    obtain ⟨m, rfl⟩ := Int.eq_ofNat_of_zero_le (show 0 ≤ n by omega)
    obtain ⟨x, rfl⟩ := Int.eq_ofNat_of_zero_le b1
    have HG := Lib.hid (nearG_1 hb)
    have HB := Lib.hid hb
    have m1 : 1 ≤ m := by omega
    have m5 : m ≤ 5 := by omega
    obtain ⟨x31, hpx⟩ := word_pop m1 m5 b2
    have HX := Lib.hid hpx
    clear hb b2 hpx
    go_enter Try.func28, Try.ntmps28
    go_wp2_with fail
    refine (spec_l15Word_any _ _ _).mono ?_; rintro e w' ⟨rfl, rfl⟩; rw [HB.out]
    go_wp2_with fail
    refine (spec_l15Nearest_any m x _ m1 m5 x31).mono ?_; rintro e w1 ⟨rfl, hb1⟩
    go_wp2_with fail
    go_ret3
    exact ⟨ret_iib (by rw [HG.out]; rfl) (by rw [HG.out]; rfl) HB.out.symm, hb1⟩
  · have hf : wordB n b = false := by simpa using hb
    have HG := Lib.hid (nearG_0 hf)
    have HB := Lib.hid hf; clear hf hb
    go_enter Try.func28, Try.ntmps28
    go_wp2_with fail
    refine (spec_l15Word_any _ _ _).mono ?_; rintro e w' ⟨rfl, rfl⟩; rw [HB.out]
    go_wp2_with fail
    go_ret3
    exact ⟨ret_iib (by rw [HG.out]; rfl) (by rw [HG.out]; rfl) HB.out.symm, Below.refl _ _⟩
theorem impl_NearestCode_any (n b : Int) (w : World) : Calls Try.prog 29 #[.int .i64 n, .int .i64 b] w fun e w' => e = .returned (.tuple #[.int .i64 ((nearG n b).1 : Int), .int .i64 ((nearG n b).2 : Int), .bool (wordB n b)]) ∧ Below w.heap.size w w' := by
  by_cases hb : wordB n b = true
  · obtain ⟨⟨n1, n2⟩, b1, b2⟩ := wordB_ok hb
    obtain ⟨m, rfl⟩ := Int.eq_ofNat_of_zero_le (show 0 ≤ n by omega)
    obtain ⟨x, rfl⟩ := Int.eq_ofNat_of_zero_le b1
    have HG := Lib.hid (nearG_1 hb)
    have HB := Lib.hid hb
    have m1 : 1 ≤ m := by omega
    have m5 : m ≤ 5 := by omega
    obtain ⟨x31, hpx⟩ := word_pop m1 m5 b2
    have HX := Lib.hid hpx
    clear hb b2 hpx
    go_enter Try.func29, Try.ntmps29
    go_wp2_with fail
    refine (impl_isWord_any _ _ _).mono ?_; rintro e w' ⟨rfl, rfl⟩; rw [HB.out]
    go_wp2_with fail
    refine (impl_nearest_any m x _ m1 m5 x31 HX.out).mono ?_; rintro e w1 ⟨rfl, hb1⟩
    go_wp2_with fail
    go_ret3
    exact ⟨ret_iib (by rw [HG.out]; rfl) (by rw [HG.out]; rfl) HB.out.symm, hb1⟩
  · have hf : wordB n b = false := by simpa using hb
    have HG := Lib.hid (nearG_0 hf)
    have HB := Lib.hid hf; clear hf hb
    go_enter Try.func29, Try.ntmps29
    go_wp2_with fail
    refine (impl_isWord_any _ _ _).mono ?_; rintro e w' ⟨rfl, rfl⟩; rw [HB.out]
    go_wp2_with fail
    go_ret3
    exact ⟨ret_iib (by rw [HG.out]; rfl) (by rw [HG.out]; rfl) HB.out.symm, Below.refl _ _⟩
end Go.Proofs.Ytlelcnlibacnaaa
