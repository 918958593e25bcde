/- CodeWords, IsCodeWord in the program and in the reference. -/
import Derived.Test.YtlelcnlibacnaaaRm4
namespace Go.Proofs.Ytlelcnlibacnaaa
set_option linter.unusedSimpArgs false
set_option linter.unusedVariables false
set_option linter.unnecessarySimpa false
set_option maxRecDepth 200000
open Go.ChangeShapes Go.WideShapes Go.ChangeAt Go.RowKit

def CodePost (w : World) (r : Option (List Int)) (e : Ending) (w' : World) : Prop := ∃ v, e = .returned (.tuple #[v, .bool r.isSome]) ∧ OwnI w' w.heap.size v (r.getD []) ∧ Below w.heap.size w w'
theorem CodePost.none {w w' : World} {r : Option (List Int)} (hr : r = none) (hb : Below w.heap.size w w') : CodePost w r (.returned (.tuple #[.slice none 0 0, .bool false])) w' := by
  subst hr; exact ⟨_, rfl, own_nil _ _, hb⟩
theorem CodePost.some {w w' : World} {r : Option (List Int)} {v : Value} {zs : List Int} (hr : r = some zs) (ho : OwnI w' w.heap.size v zs) (hb : Below w.heap.size w w') : CodePost w r (.returned (.tuple #[v, .bool true])) w' := by
  subst hr; exact ⟨_, rfl, ho, hb⟩
def codeG (n : Int) : Option (List Int) := if 1 ≤ n ∧ n ≤ 5 then some (ints (codesS n.toNat)) else none
theorem codeG_len (n : Int) : ((codeG n).getD []).length ≤ 1000000 := by
  unfold codeG
  split
  · next h =>
    have := (code_ok (n := n.toNat) (by omega) (by omega)).few
    simp [ints_len]; omega
  · simp
def topN (n : Int) : Int := 2 ^ (2 ^ n.toNat - 1) - 1
def wordB (n b : Int) : Bool := decide (1 ≤ n ∧ n ≤ 5) && decide (0 ≤ b ∧ b ≤ topN n)
theorem wordB_n {n b : Int} (h : ¬ (1 ≤ n ∧ n ≤ 5)) : false = wordB n b := by unfold wordB; rw [decide_eq_false h]; rfl
theorem wordB_y {n b t : Int} (h : 1 ≤ n ∧ n ≤ 5) (ht : topN n = t) : (decide (0 ≤ b) && decide (b ≤ t)) = wordB n b := by unfold wordB; rw [decide_eq_true h, ht, Bool.true_and, Bool.decide_and]
theorem wordB_ok {n b : Int} (h : wordB n b = true) : (1 ≤ n ∧ n ≤ 5) ∧ 0 ≤ b ∧ b ≤ topN n := by
  unfold wordB at h; simpa using h
theorem top_5 {n : Int} (h : 1 ≤ n ∧ n ≤ 5) : topN n ≤ 2147483647 := by
  have : n = 1 ∨ n = 2 ∨ n = 3 ∨ n = 4 ∨ n = 5 := by omega
  rcases this with rfl | rfl | rfl | rfl | rfl <;> decide
set_option maxHeartbeats 2000000 in
theorem spec_l15Word_any (n b : Int) (w : World) :
    Calls Try.prog 61 #[.int .i64 n, .int .i64 b] w fun e w' => e = .returned (.bool (wordB n b)) ∧ w = w' := by
  by_cases h : 1 ≤ n ∧ n ≤ 5
  · have hn : n = 1 ∨ n = 2 ∨ n = 3 ∨ n = 4 ∨ n = 5 := by omega
    rcases hn with rfl | rfl | rfl | rfl | rfl
    · have HW := Lib.hid (wordB_y (b := b) h (show topN 1 = 1 from by decide))
      clear h
      go_enter Try.func61, Try.ntmps61
      go_wp2_with fail
      refine (l1In_p _ _ _ _).mono ?_; rintro e w' ⟨rfl, rfl⟩; rw [show decide ((1 : Int) ≤ 1 ∧ (1 : Int) ≤ 5) = true from by decide]
      go_wp2_with fail
      refine (l1In_p _ _ _ _).mono ?_; rintro e w' ⟨rfl, rfl⟩
      go_wp2_with fail
      go_ret
      exact ⟨ret_bool HW.out, rfl⟩
    · have HW := Lib.hid (wordB_y (b := b) h (show topN 2 = 7 from by decide))
      clear h
      go_enter Try.func61, Try.ntmps61
      go_wp2_with fail
      refine (l1In_p _ _ _ _).mono ?_; rintro e w' ⟨rfl, rfl⟩; rw [show decide ((1 : Int) ≤ 2 ∧ (2 : Int) ≤ 5) = true from by decide]
      go_wp2_with fail
      refine (l1In_p _ _ _ _).mono ?_; rintro e w' ⟨rfl, rfl⟩
      go_wp2_with fail
      go_ret
      exact ⟨ret_bool HW.out, rfl⟩
    · have HW := Lib.hid (wordB_y (b := b) h (show topN 3 = 127 from by decide))
      clear h
      go_enter Try.func61, Try.ntmps61
      go_wp2_with fail
      refine (l1In_p _ _ _ _).mono ?_; rintro e w' ⟨rfl, rfl⟩; rw [show decide ((1 : Int) ≤ 3 ∧ (3 : Int) ≤ 5) = true from by decide]
      go_wp2_with fail
      refine (l1In_p _ _ _ _).mono ?_; rintro e w' ⟨rfl, rfl⟩
      go_wp2_with fail
      go_ret
      exact ⟨ret_bool HW.out, rfl⟩
    · have HW := Lib.hid (wordB_y (b := b) h (show topN 4 = 32767 from by decide))
      clear h
      go_enter Try.func61, Try.ntmps61
      go_wp2_with fail
      refine (l1In_p _ _ _ _).mono ?_; rintro e w' ⟨rfl, rfl⟩; rw [show decide ((1 : Int) ≤ 4 ∧ (4 : Int) ≤ 5) = true from by decide]
      go_wp2_with fail
      refine (l1In_p _ _ _ _).mono ?_; rintro e w' ⟨rfl, rfl⟩
      go_wp2_with fail
      go_ret
      exact ⟨ret_bool HW.out, rfl⟩
    · have HW := Lib.hid (wordB_y (b := b) h (show topN 5 = 2147483647 from by decide))
      clear h
      go_enter Try.func61, Try.ntmps61
      go_wp2_with fail
      refine (l1In_p _ _ _ _).mono ?_; rintro e w' ⟨rfl, rfl⟩; rw [show decide ((1 : Int) ≤ 5 ∧ (5 : Int) ≤ 5) = true from by decide]
      go_wp2_with fail
      refine (l1In_p _ _ _ _).mono ?_; rintro e w' ⟨rfl, rfl⟩
      go_wp2_with fail
      go_ret
      exact ⟨ret_bool HW.out, rfl⟩
  · have HW := Lib.hid (wordB_n (b := b) h)
    have D1 := Lib.hid (decide_eq_false h); clear h
    go_enter Try.func61, Try.ntmps61
    go_wp2_with fail
    refine (l1In_p _ _ _ _).mono ?_; rintro e w' ⟨rfl, rfl⟩; rw [D1.out]
    go_wp2_with fail
    go_ret
    exact ⟨ret_bool HW.out, rfl⟩
set_option maxHeartbeats 2000000 in
theorem impl_isWord_any (n b : Int) (w : World) :
    Calls Try.prog 63 #[.int .i64 n, .int .i64 b] w fun e w' => e = .returned (.bool (wordB n b)) ∧ w = w' := by
  by_cases h : 1 ≤ n ∧ n ≤ 5
  · have hn : n = 1 ∨ n = 2 ∨ n = 3 ∨ n = 4 ∨ n = 5 := by omega
    rcases hn with rfl | rfl | rfl | rfl | rfl
    · have HW := Lib.hid (wordB_y (b := b) h (show topN 1 = 1 from by decide))
      clear h
      go_enter Try.func63, Try.ntmps63
      go_wp2_with fail
      refine (within_p _ _ _ _).mono ?_; rintro e w' ⟨rfl, rfl⟩; rw [show decide ((1 : Int) ≤ 1 ∧ (1 : Int) ≤ 5) = true from by decide]
      go_wp2_with fail
      refine (within_p _ _ _ _).mono ?_; rintro e w' ⟨rfl, rfl⟩
      go_wp2_with fail
      go_ret
      exact ⟨ret_bool HW.out, rfl⟩
    · have HW := Lib.hid (wordB_y (b := b) h (show topN 2 = 7 from by decide))
      clear h
      go_enter Try.func63, Try.ntmps63
      go_wp2_with fail
      refine (within_p _ _ _ _).mono ?_; rintro e w' ⟨rfl, rfl⟩; rw [show decide ((1 : Int) ≤ 2 ∧ (2 : Int) ≤ 5) = true from by decide]
      go_wp2_with fail
      refine (within_p _ _ _ _).mono ?_; rintro e w' ⟨rfl, rfl⟩
      go_wp2_with fail
      go_ret
      exact ⟨ret_bool HW.out, rfl⟩
    · have HW := Lib.hid (wordB_y (b := b) h (show topN 3 = 127 from by decide))
      clear h
      go_enter Try.func63, Try.ntmps63
      go_wp2_with fail
      refine (within_p _ _ _ _).mono ?_; rintro e w' ⟨rfl, rfl⟩; rw [show decide ((1 : Int) ≤ 3 ∧ (3 : Int) ≤ 5) = true from by decide]
      go_wp2_with fail
      refine (within_p _ _ _ _).mono ?_; rintro e w' ⟨rfl, rfl⟩
      go_wp2_with fail
      go_ret
      exact ⟨ret_bool HW.out, rfl⟩
    · have HW := Lib.hid (wordB_y (b := b) h (show topN 4 = 32767 from by decide))
      clear h
      go_enter Try.func63, Try.ntmps63
      go_wp2_with fail
      refine (within_p _ _ _ _).mono ?_; rintro e w' ⟨rfl, rfl⟩; rw [show decide ((1 : Int) ≤ 4 ∧ (4 : Int) ≤ 5) = true from by decide]
      go_wp2_with fail
      refine (within_p _ _ _ _).mono ?_; rintro e w' ⟨rfl, rfl⟩
      go_wp2_with fail
      go_ret
      exact ⟨ret_bool HW.out, rfl⟩
    · have HW := Lib.hid (wordB_y (b := b) h (show topN 5 = 2147483647 from by decide))
      clear h
      go_enter Try.func63, Try.ntmps63
      go_wp2_with fail
      refine (within_p _ _ _ _).mono ?_; rintro e w' ⟨rfl, rfl⟩; rw [show decide ((1 : Int) ≤ 5 ∧ (5 : Int) ≤ 5) = true from by decide]
      go_wp2_with fail
      refine (within_p _ _ _ _).mono ?_; rintro e w' ⟨rfl, rfl⟩
      go_wp2_with fail
      go_ret
      exact ⟨ret_bool HW.out, rfl⟩
  · have HW := Lib.hid (wordB_n (b := b) h)
    have D1 := Lib.hid (decide_eq_false h); clear h
    go_enter Try.func63, Try.ntmps63
    go_wp2_with fail
    refine (within_p _ _ _ _).mono ?_; rintro e w' ⟨rfl, rfl⟩; rw [D1.out]
    go_wp2_with fail
    go_ret
    exact ⟨ret_bool HW.out, rfl⟩
theorem spec_CodeWords_any (n : Int) (w : World) : Calls Try.prog 21 #[.int .i64 n] w (CodePost w (codeG n)) := by
  by_cases h : 1 ≤ n ∧ n ≤ 5
  · obtain ⟨m, rfl⟩ := Int.eq_ofNat_of_zero_le (show 0 ≤ n by omega)
    have HG := Lib.hid (show codeG (m : Int) = some (ints (codesS m)) from by unfold codeG; rw [if_pos h, Int.toNat_natCast])
    have D1 := Lib.hid (decide_eq_true h)
    have m1 : 1 ≤ m := by omega
    have m5 : m ≤ 5 := by omega
    clear h
    go_enter Try.func21, Try.ntmps21
    go_wp2_with fail
    refine (l1In_p _ _ _ _).mono ?_; rintro e w' ⟨rfl, rfl⟩; rw [D1.out]
    go_wp2_with fail
    refine (spec_l15Codes_any m _ m1 m5).mono ?_; rintro e w1 ⟨v, rfl, ho, hb⟩
    have HO := Lib.hid ho; clear ho
    go_wp2_with fail
    go_ret2
    exact CodePost.some HG.out HO.out hb
  · have HG := Lib.hid (show codeG n = none from by unfold codeG; rw [if_neg h])
    have D1 := Lib.hid (decide_eq_false h); clear h
    go_enter Try.func21, Try.ntmps21
    go_wp2_with fail
    refine (l1In_p _ _ _ _).mono ?_; rintro e w' ⟨rfl, rfl⟩; rw [D1.out]
    go_wp2_with fail
    go_ret2
    exact CodePost.none HG.out (Below.refl _ _)
theorem impl_CodeWords_any (n : Int) (w : World) : Calls Try.prog 22 #[.int .i64 n] w (CodePost w (codeG n)) := by
  by_cases h : 1 ≤ n ∧ n ≤ 5
  · obtain ⟨m, rfl⟩ := Int.eq_ofNat_of_zero_le (show 0 ≤ n by omega)
    have HG := Lib.hid (show codeG (m : Int) = some (ints (codesS m)) from by unfold codeG; rw [if_pos h, Int.toNat_natCast])
    have D1 := Lib.hid (decide_eq_true h)
    have m1 : 1 ≤ m := by omega
    have m5 : m ≤ 5 := by omega
    clear h
    go_enter Try.func22, Try.ntmps22
    go_wp2_with fail
    refine (within_p _ _ _ _).mono ?_; rintro e w' ⟨rfl, rfl⟩; rw [D1.out]
    go_wp2_with fail
    refine (impl_codeWords_any m _ m1 m5).mono ?_; rintro e w1 ⟨v, rfl, ho, hb⟩
    have HO := Lib.hid ho; clear ho
    go_wp2_with fail
    go_ret2
    exact CodePost.some HG.out HO.out hb
  · have HG := Lib.hid (show codeG n = none from by unfold codeG; rw [if_neg h])
    have D1 := Lib.hid (decide_eq_false h); clear h
    go_enter Try.func22, Try.ntmps22
    go_wp2_with fail
    refine (within_p _ _ _ _).mono ?_; rintro e w' ⟨rfl, rfl⟩; rw [D1.out]
    go_wp2_with fail
    go_ret2
    exact CodePost.none HG.out (Below.refl _ _)
/-- Is a number among those of a list? -/
def hasB (L : List Nat) (x : Nat) : Bool := L.any fun y => decide (y = x)
theorem has_yes {L : List Nat} {x k : Nat} (hk : k < L.length) (h : L.getD k 0 = x) : true = hasB L x := by
  symm; unfold hasB; rw [List.any_eq_true]
  exact ⟨L[k], List.getElem_mem hk, by rw [getD_lt hk] at h; simpa using h⟩
theorem has_no {L : List Nat} {x k : Nat} (hk : L.length ≤ k) (h : Hid (∀ j, j < k → j < L.length → L.getD j 0 ≠ x)) : false = hasB L x := by
  symm; unfold hasB; rw [List.any_eq_false]
  intro y hy
  obtain ⟨j, hj, rfl⟩ := List.mem_iff_getElem.1 hy
  have := h.out j (by omega) hj
  rw [getD_lt hj] at this
  simpa using this
theorem rd_low {w : World} {v : Value} {L : List Nat} (h : RdI w v (ints L)) (h0 : 0 < L.length) : ∃ b off cap, v = .slice (some ⟨b, off, none⟩) L.length cap ∧ b < w.heap.size ∧ L.length ≤ cap ∧ cap ≤ 9223372036854775807 ∧ ∀ j, j < L.length → w.cell? ⟨b, off + j, none⟩ = some (.int .i64 (L.getD j 0 : Nat)) := by
  rcases RdI.cases h with ⟨_, he⟩ | ⟨b, off, cap, rfl, hb, hl, hm, hc⟩
  · have hF : L = [] := by simpa [ints] using he
    subst hF; simp at h0
  · rw [ints_len] at hl hc ⊢
    exact ⟨b, off, cap, rfl, hb, hl, hm, fun j hj => by rw [hc j hj]; simp [ints, List.getD, hj]⟩
theorem spec_l1Has_any (v : Value) (L : List Nat) (x : Nat) (w : World) (h : RdI w v (ints L)) (h0 : 0 < L.length) :
    Calls Try.prog 62 #[v, .int .i64 (x : Int)] w fun e w' => e = .returned (.bool (hasB L x)) ∧ w = w' := by
  obtain ⟨b, off, cap, rfl, hb, hlc, hcm, hc⟩ := rd_low h h0
  have Hc := Lib.hid hc; clear hc h
  go_enter Try.func62, Try.ntmps62
  go_wp2_with fail
  go_loop [9] (fun i => ∃ k : Nat, k ≤ L.length ∧ i = .int .i64 k ∧ Hid (∀ j, j < k → j < L.length → L.getD j 0 ≠ x)) (fun i => L.length - (intOf i).toNat)
  case atStart => exact ⟨0, Nat.zero_le _, rfl, (fun j hj => by omega)⟩
  case round =>
    obtain ⟨k, hk, rfl, hpre⟩ := hrel
    by_cases hlt : k < L.length
    · have i1 : (k : Int) < (L.length : Int) := by omega
      obtain ⟨y, hy⟩ : ∃ y, y = L.getD k 0 := ⟨_, rfl⟩
      have cy := Hc.out k hlt
      rw [← hy] at cy
      by_cases hyx : y = x
      · have b1 : ((y : Int) == (x : Int)) = true := beq_iff_eq.2 (by rw [hyx])
        have HR := Lib.hid (has_yes (x := x) hlt (by rw [← hy]; exact hyx))
        clear hyx hy
        go_wp2_with fail
        go_ret
        exact ⟨ret_bool HR.out, rfl⟩
      · have b1 : ((y : Int) == (x : Int)) = false := by simpa using fun e => hyx (by omega)
        have HP : Hid (∀ j, j < k + 1 → j < L.length → L.getD j 0 ≠ x) := by
          intro j hj hjl
          by_cases e : j = k
          · subst e; rw [← hy]; exact hyx
          · exact hpre.out j (by omega) hjl
        clear hyx hy
        go_wp2_with fail
        go_round
        case rel => exact ⟨k + 1, by omega, by go_num, HP⟩
        case measure => simp [intOf]; omega
    · go_wp2_with fail
      go_ret
      exact ⟨ret_bool (has_no (by omega) hpre), rfl⟩
theorem has_cont (L : List Nat) (x : Nat) : ((ints L).take L.length).contains (x : Int) = hasB L x := by
  rw [List.take_of_length_le (by rw [ints_len]; exact Nat.le_refl _)]
  unfold hasB ints
  rw [Bool.eq_iff_iff]
  simp
  constructor
  · rintro ⟨a, ha, e⟩; exact (show a = x by omega) ▸ ha
  · exact fun h => ⟨x, h, rfl⟩
theorem slices_Contains_any (v : Value) (L : List Nat) (x : Nat) (w : World) (h : RdI w v (ints L)) (h0 : 0 < L.length) :
    Calls Try.prog 64 #[v, .int .i64 (x : Int)] w fun e w' => e = .returned (.bool (hasB L x)) ∧ w = w' := by
  obtain ⟨b, off, cap, rfl, hb, hlc, hcm, hc⟩ := rd_low h h0
  have hd := Try.slices_Contains_int b off L.length cap (ints L) (x : Int) w (by rw [ints_len]; exact Nat.le_refl _) (by omega) (fun j hj => by rw [ints_len] at hj; rw [hc j hj]; simp [ints, List.getD, hj])
  refine (show Calls Try.prog 64 _ w _ from hd).mono ?_
  rintro e w' ⟨rfl, rfl⟩
  exact ⟨ret_bool (has_cont L x), rfl⟩
def isG (n b : Int) : Bool := wordB n b && hasB (codesS n.toNat) b.toNat
theorem isG_0 {n b : Int} (h : wordB n b = false) : false = isG n b := by unfold isG; rw [h]; rfl
theorem isG_1 {n b : Int} (h : wordB n b = true) : hasB (codesS n.toNat) b.toNat = isG n b := by unfold isG; rw [h]; rfl
theorem ret_bb {a b c d : Bool} (h : a = b) (h2 : c = d) : Ending.returned (.tuple #[.bool a, .bool c]) = .returned (.tuple #[.bool b, .bool d]) := by rw [h, h2]
theorem codes_pos {n : Nat} (h1 : 1 ≤ n) (h2 : n ≤ 5) : 0 < (codesS n).length := by
  rw [← (code_ok h1 h2).lenI]; exact codesI_pos n _
theorem spec_IsCodeWord_any (n b : Int) (w : World) : Calls Try.prog 26 #[.int .i64 n, .int .i64 b] w fun e w' => e = .returned (.tuple #[.bool (isG n b), .bool (wordB n b)]) ∧ Below w.heap.size w w' := by
  by_cases hb : wordB n b = true
  · obtain ⟨⟨n1, n2⟩, b1, b2⟩ := wordB_ok hb
    obtain ⟨m, rfl⟩ := Int.eq_ofNat_of_zero_le (show 0 ≤ n by omega)
    obtain ⟨x, rfl⟩ := Int.eq_ofNat_of_zero_le b1
    have HG := Lib.hid (isG_1 hb)
    have HB := Lib.hid hb
    have m1 : 1 ≤ m := by omega
    have m5 : m ≤ 5 := by omega
    have HP := Lib.hid (codes_pos m1 m5)
    clear hb b2
    go_enter Try.func26, Try.ntmps26
    go_wp2_with fail
    refine (spec_l15Word_any _ _ _).mono ?_; rintro e w' ⟨rfl, rfl⟩; rw [HB.out]
    go_wp2_with fail
    refine (spec_l15Codes_any m _ m1 m5).mono ?_; rintro e w1 ⟨v, rfl, ho, hb1⟩
    have HR := Lib.hid ho.rd; clear ho
    go_wp2_with fail
    refine (spec_l1Has_any _ (codesS m) x _ HR.out HP.out).mono ?_; rintro e w' ⟨rfl, rfl⟩
    go_wp2_with fail
    go_ret2
    exact ⟨ret_bb HG.out HB.out.symm, hb1⟩
  · have hf : wordB n b = false := by simpa using hb
    have HG := Lib.hid (isG_0 hf)
    have HB := Lib.hid hf; clear hf hb
    go_enter Try.func26, Try.ntmps26
    go_wp2_with fail
    refine (spec_l15Word_any _ _ _).mono ?_; rintro e w' ⟨rfl, rfl⟩; rw [HB.out]
    go_wp2_with fail
    go_ret2
    exact ⟨ret_bb HG.out HB.out.symm, Below.refl _ _⟩
theorem impl_IsCodeWord_any (n b : Int) (w : World) : Calls Try.prog 27 #[.int .i64 n, .int .i64 b] w fun e w' => e = .returned (.tuple #[.bool (isG n b), .bool (wordB n b)]) ∧ Below w.heap.size w w' := by
  by_cases hb : wordB n b = true
  · obtain ⟨⟨n1, n2⟩, b1, b2⟩ := wordB_ok hb
    obtain ⟨m, rfl⟩ := Int.eq_ofNat_of_zero_le (show 0 ≤ n by omega)
    obtain ⟨x, rfl⟩ := Int.eq_ofNat_of_zero_le b1
    have HG := Lib.hid (isG_1 hb)
    have HB := Lib.hid hb
    have m1 : 1 ≤ m := by omega
    have m5 : m ≤ 5 := by omega
    have HP := Lib.hid (codes_pos m1 m5)
    clear hb b2
    go_enter Try.func27, Try.ntmps27
    go_wp2_with fail
    refine (impl_isWord_any _ _ _).mono ?_; rintro e w' ⟨rfl, rfl⟩; rw [HB.out]
    go_wp2_with fail
    refine (impl_codeWords_any m _ m1 m5).mono ?_; rintro e w1 ⟨v, rfl, ho, hb1⟩
    have HR := Lib.hid ho.rd; clear ho
    go_wp2_with fail
    refine (slices_Contains_any _ (codesS m) x _ HR.out HP.out).mono ?_; rintro e w' ⟨rfl, rfl⟩
    go_wp2_with fail
    go_ret2
    exact ⟨ret_bb HG.out HB.out.symm, hb1⟩
  · have hf : wordB n b = false := by simpa using hb
    have HG := Lib.hid (isG_0 hf)
    have HB := Lib.hid hf; clear hf hb
    go_enter Try.func27, Try.ntmps27
    go_wp2_with fail
    refine (impl_isWord_any _ _ _).mono ?_; rintro e w' ⟨rfl, rfl⟩; rw [HB.out]
    go_wp2_with fail
    go_ret2
    exact ⟨ret_bb HG.out HB.out.symm, Below.refl _ _⟩
end Go.Proofs.Ytlelcnlibacnaaa
