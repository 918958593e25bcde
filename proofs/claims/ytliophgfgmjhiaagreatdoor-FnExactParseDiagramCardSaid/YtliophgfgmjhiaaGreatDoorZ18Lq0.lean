/- The reading of a log's text, plain. -/
import Derived.Test.YtliophgfgmjhiaaGreatDoorZ12Lg3
import Derived.Test.YtliophgfgmjhiaaGreatDoorZ17Pf4
namespace Go.Proofs.YtliophgfgmjhiaaGreatDoor
set_option linter.unusedSimpArgs false
set_option linter.unusedVariables false
set_option linter.unnecessarySimpa false
set_option maxRecDepth 200000
open Go.ChangeShapes Go.WideShapes Go.ChangeAt Go.RowKit

def ruleTo (b : ByteArray) : Nat → Nat
  | 0 => 0
  | k + 1 => if wordOf (k + 1) = b then k + 1 else ruleTo b k
def wordsOf (c : UInt8) (s : ByteArray) : List ByteArray := (cutW c s.data.toList).map fun l => ⟨l.toArray⟩
def fldE (f : ByteArray → Int) (ws : List ByteArray) (i : Nat) : Int := if i < ws.length then f (ws.getD i ⟨#[]⟩) else 0
def readE (f : ByteArray → Int) (ws : List ByteArray) : E3 := ⟨(ruleTo (ws.getD 0 ⟨#[]⟩) 5 : Nat), fldE f ws 1, fldE f ws 2⟩
def readL (f : ByteArray → Int) (s : ByteArray) : List E3 := (wordsOf 59 s).map fun t => readE f (wordsOf 32 t)
def goodL (f : ByteArray → Int) (s : ByteArray) : Bool := logB (readL f s) && decide (logText (readL f s) = s)
def logQ (f : ByteArray → Int) (s : ByteArray) : Bool := decide (s = ⟨#[45]⟩) || goodL f s
def logR (f : ByteArray → Int) (s : ByteArray) : List E3 := if s = ⟨#[45]⟩ then [] else if goodL f s = true then readL f s else []
theorem words_of {c : UInt8} {s : ByteArray} {ws : List ByteArray} (h : ws.map (·.data.toList) = cutW c s.data.toList) : ws = wordsOf c s := by
  apply words_inj
  rw [h]
  unfold wordsOf
  rw [List.map_map]
  exact (List.map_id _).symm
theorem wordsOf_data (c : UInt8) (s : ByteArray) : (wordsOf c s).map (·.data.toList) = cutW c s.data.toList := by
  unfold wordsOf
  rw [List.map_map]
  exact List.map_id _
theorem wordsOf_pos (c : UInt8) (s : ByteArray) : 0 < (wordsOf c s).length := by
  unfold wordsOf
  rw [List.length_map]
  exact List.length_pos_iff.2 (cut_ne c _)
theorem cut_count (c : UInt8) : ∀ l : List UInt8, (cutW c l).length ≤ l.length + 1
  | [] => by simp [cutW]
  | b :: l => by
    rw [cut_cons]
    have := cut_count c l
    split
    · simp; omega
    · cases h : cutW c l with
      | nil => simp [consHead]
      | cons w ws => rw [h] at this; simp [consHead] at this ⊢; omega
theorem wordsOf_count (c : UInt8) (s : ByteArray) : (wordsOf c s).length ≤ s.size + 1 := by
  unfold wordsOf
  rw [List.length_map]
  have := cut_count c s.data.toList
  rwa [Array.length_toList] at this
theorem wordsOf_size {c : UInt8} {s t : ByteArray} (h : t ∈ wordsOf c s) : t.size ≤ s.size := by
  have h1 : t.data.toList ∈ cutW c s.data.toList := by
    rw [← wordsOf_data]
    exact List.mem_map.2 ⟨t, h, rfl⟩
  have h2 := cut_len h1
  rwa [Array.length_toList, Array.length_toList] at h2
theorem readL_len (f : ByteArray → Int) (s : ByteArray) : (readL f s).length = (wordsOf 59 s).length := by unfold readL; rw [List.length_map]
theorem readL_take (f : ByteArray → Int) (s : ByteArray) {k : Nat} (h : k < (wordsOf 59 s).length) : (readL f s).take (k + 1) = (readL f s).take k ++ [readE f (wordsOf 32 ((wordsOf 59 s).getD k ⟨#[]⟩))] := by
  have h2 : k < (readL f s).length := by rw [readL_len]; exact h
  have e : (readL f s)[k]'h2 = readE f (wordsOf 32 ((wordsOf 59 s).getD k ⟨#[]⟩)) := by simp [readL, List.getD, h]
  rw [List.take_succ_eq_append_getElem h2, e]
theorem ruleTo_le (b : ByteArray) : ∀ k, ruleTo b k ≤ k
  | 0 => Nat.le_refl _
  | k + 1 => by
    unfold ruleTo
    split
    · exact Nat.le_refl _
    · exact Nat.le_succ_of_le (ruleTo_le b k)
/-- The words of the rules are apart. -/
theorem rule_word : ∀ k : Nat, 1 ≤ k → k ≤ 5 → ruleTo (wordOf k) 5 = k
  | 1, _, _ => by decide
  | 2, _, _ => by decide
  | 3, _, _ => by decide
  | 4, _, _ => by decide
  | 5, _, _ => by decide
  | 0, h, _ => by omega
  | k + 6, _, h => by omega
theorem word_no (c : UInt8) (hc : c = 32 ∨ c = 59) : ∀ k : Nat, c ∉ (wordOf k).data.toList
  | 1 => by rcases hc with rfl | rfl <;> decide
  | 2 => by rcases hc with rfl | rfl <;> decide
  | 3 => by rcases hc with rfl | rfl <;> decide
  | 4 => by rcases hc with rfl | rfl <;> decide
  | 5 => by rcases hc with rfl | rfl <;> decide
  | 0 => by rcases hc with rfl | rfl <;> decide
  | k + 6 => by show c ∉ (ByteArray.mk #[]).data.toList; simp
end Go.Proofs.YtliophgfgmjhiaaGreatDoor
