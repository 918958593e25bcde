/- The reference's reader of numerals, plain. -/
import Derived.Test.YtliophgfgmjhiaaGreatDoorZ08Fmf1
import Derived.Test.YtliophgfgmjhiaaGreatDoorZ13Pf0
namespace Go.Proofs.YtliophgfgmjhiaaGreatDoor
set_option linter.unusedSimpArgs false
set_option linter.unusedVariables false
set_option linter.unnecessarySimpa false
set_option maxRecDepth 200000
open Go.ChangeShapes Go.WideShapes Go.ChangeAt Go.RowKit

def isDig (b : UInt8) : Bool := decide (48 ≤ b.toNat) && decide (b.toNat ≤ 57)
def rdAcc : Nat → List UInt8 → Option Nat
  | acc, [] => some acc
  | acc, b :: l => if isDig b = true then rdAcc (10 * acc + (b.toNat - 48)) l else none
theorem rdAcc_snoc : ∀ (l : List UInt8) (acc : Nat) (b : UInt8), rdAcc acc (l ++ [b]) = (rdAcc acc l).bind fun n => if isDig b = true then some (10 * n + (b.toNat - 48)) else none
  | [], acc, b => by simp [rdAcc]
  | x :: l, acc, b => by
    rw [List.cons_append]
    unfold rdAcc
    split
    · exact rdAcc_snoc l _ b
    · rfl
theorem rdAcc_none {l : List UInt8} {b : UInt8} (hb : b ∈ l) (h : isDig b = false) : ∀ acc, rdAcc acc l = none := by
  induction l with
  | nil => cases hb
  | cons x l ih =>
    intro acc
    unfold rdAcc
    rcases List.mem_cons.1 hb with rfl | hb
    · rw [h]; rfl
    · split
      · exact ih hb _
      · rfl
/-- What the reference reads. -/
def readG (s : ByteArray) : Int := if ¬ (1 ≤ s.size ∧ s.size ≤ 6) ∨ (s.data.toList.head? = some 48 ∧ 1 < s.size) then -1 else ((rdAcc 0 s.data.toList).map fun n : Nat => (n : Int)).getD (-1)
theorem dig_small : ∀ r : Nat, r < 10 → (UInt8.ofNat (48 + r)).toNat = 48 + r ∧ isDig (UInt8.ofNat (48 + r)) = true := by decide
theorem read_small {c : Nat} (h : c < 10) : readG (numB c) = (c : Int) := by
  rw [num_small c h]
  unfold readG
  obtain ⟨h1, h2⟩ := dig_small c h
  generalize UInt8.ofNat (48 + c) = x at *
  have hs : (ByteArray.mk #[x]).size = 1 := rfl
  rw [if_neg (by rw [hs]; simp)]
  simp [rdAcc, h2, h1]
theorem read_num {c : Nat} (h : c < 100) : readG (numB c) = (c : Int) := by
  by_cases h1 : c < 10
  · exact read_small h1
  · rw [num_big c (by omega), num_small (c / 10) (by omega)]
    obtain ⟨a1, a2⟩ := dig_small (c / 10) (by omega)
    obtain ⟨b1, b2⟩ := dig_small (c % 10) (by omega)
    generalize UInt8.ofNat (48 + c / 10) = x at *
    generalize UInt8.ofNat (48 + c % 10) = y at *
    have hs : (ByteArray.mk #[x] ++ ByteArray.mk #[y]).size = 2 := by rw [ByteArray.size_append]; rfl
    have hl : (ByteArray.mk #[x] ++ ByteArray.mk #[y]).data.toList = [x, y] := by simp
    unfold readG
    rw [hs, hl]
    have hne : ¬ (x = 48) := by
      intro e
      have := congrArg UInt8.toNat e
      rw [a1] at this
      have e2 : (48 : UInt8).toNat = 48 := rfl
      omega
    rw [if_neg (by simp [hne])]
    simp [rdAcc, a2, b2, a1, b1]
    omega
theorem num_no32 {c : Nat} (h : c < 100) : (32 : UInt8) ∉ (numB c).data.toList := by
  have key : ∀ r : Nat, r < 10 → ¬ (32 : UInt8) = UInt8.ofNat (48 + r) := by decide
  by_cases h1 : c < 10
  · have k1 := key c h1
    rw [num_small c h1]
    generalize UInt8.ofNat (48 + c) = x at *
    simpa using k1
  · have k1 := key (c / 10) (by omega)
    have k2 := key (c % 10) (by omega)
    rw [num_big c (by omega), num_small (c / 10) (by omega)]
    generalize UInt8.ofNat (48 + c / 10) = x at *
    generalize UInt8.ofNat (48 + c % 10) = y at *
    simp
    exact ⟨k1, k2⟩
/-- A valid form's text has three words: its syllables, its numbers. -/
theorem text_words {h : ByteArray} {c p : Nat} (hh : (32 : UInt8) ∉ h.data.toList) (hc : c < 100) (hp : p < 100) :
    cutW 32 (h ++ ⟨#[32]⟩ ++ numB c ++ ⟨#[32]⟩ ++ numB p).data.toList = [h.data.toList, (numB c).data.toList, (numB p).data.toList] := by
  have e : (h ++ ⟨#[32]⟩ ++ numB c ++ ⟨#[32]⟩ ++ numB p).data.toList = h.data.toList ++ 32 :: ((numB c).data.toList ++ 32 :: (numB p).data.toList) := by
    simp [List.append_assoc]
  rw [e, cut_three hh (num_no32 hc) (num_no32 hp)]
end Go.Proofs.YtliophgfgmjhiaaGreatDoor
