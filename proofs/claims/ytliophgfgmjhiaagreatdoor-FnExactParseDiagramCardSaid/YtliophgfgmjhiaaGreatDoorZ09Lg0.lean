/- The text of a log of rewrites, plain. -/
import Derived.Test.YtliophgfgmjhiaaGreatDoorZ08Fmf1
import Derived.Test.YtliophgfgmjhiaaGreatDoorZ00M
import Derived.Lib.Join
namespace Go.Proofs.YtliophgfgmjhiaaGreatDoor
set_option linter.unusedSimpArgs false
set_option linter.unusedVariables false
set_option linter.unnecessarySimpa false
set_option maxRecDepth 200000
open Go.ChangeShapes Go.WideShapes Go.ChangeAt Go.RowKit

def wordOf : Nat → ByteArray
  | 1 => ⟨#[102, 117, 115, 101]⟩
  | 2 => ⟨#[105, 100]⟩
  | 3 => ⟨#[108, 99]⟩
  | 4 => ⟨#[112, 105, 118, 111, 116]⟩
  | 5 => ⟨#[108, 111, 110, 101, 108, 121]⟩
  | _ => ⟨#[]⟩
def twoR (x : E3) : Bool := decide (x.a = 1) || decide (x.a = 4)
def okStep (x : E3) : Bool := decide (1 ≤ x.a ∧ x.a ≤ 5) && (decide (0 ≤ x.b ∧ x.b ≤ 39) && decide (0 ≤ x.c ∧ x.c ≤ 39)) && (twoR x || decide (x.c = 0))
def logB (xs : List E3) : Bool := xs.all okStep && decide (xs.length ≤ 60)
def headT (x : E3) : ByteArray := wordOf x.a.toNat ++ ⟨#[32]⟩ ++ numB x.b.toNat
def stepW (x : E3) : ByteArray := if twoR x = true then headT x ++ (⟨#[32]⟩ ++ numB x.c.toNat) else headT x
def sepT (s : ByteArray) (k : Nat) : ByteArray := if k = 0 then s else s ++ ⟨#[59]⟩
def textStep (s : ByteArray) (k : Nat) (x : E3) : ByteArray := if twoR x = true then sepT s k ++ headT x ++ (⟨#[32]⟩ ++ numB x.c.toNat) else sepT s k ++ headT x
def textTo (xs : List E3) : Nat → ByteArray
  | 0 => ⟨#[]⟩
  | k + 1 => textStep (textTo xs k) k (xs.getD k ⟨0, 0, 0⟩)
def logText (xs : List E3) : ByteArray := if xs.length = 0 then ⟨#[45]⟩ else textTo xs xs.length
def logStr (xs : List E3) : ByteArray := if logB xs = true then logText xs else ⟨#[]⟩
theorem word_size : ∀ k : Nat, (wordOf k).size ≤ 6
  | 0 => by decide
  | 1 => by decide
  | 2 => by decide
  | 3 => by decide
  | 4 => by decide
  | 5 => by decide
  | _ + 6 => by show (ByteArray.mk #[]).size ≤ 6; decide
theorem ok_parts {x : E3} (h : okStep x = true) : (1 ≤ x.a ∧ x.a ≤ 5) ∧ (0 ≤ x.b ∧ x.b ≤ 39) ∧ (0 ≤ x.c ∧ x.c ≤ 39) ∧ (twoR x = true ∨ x.c = 0) := by
  unfold okStep at h
  simp only [Bool.and_eq_true, Bool.or_eq_true, decide_eq_true_eq] at h
  exact ⟨h.1.1, h.1.2.1, h.1.2.2, h.2⟩
theorem head_size {x : E3} (h : okStep x = true) : (headT x).size ≤ 9 := by
  obtain ⟨_, hb, _, _⟩ := ok_parts h
  have h1 := word_size x.a.toNat
  have h2 := num_size (i := x.b.toNat) (by omega)
  unfold headT
  rw [ByteArray.size_append, ByteArray.size_append]
  have : (ByteArray.mk #[32]).size = 1 := by decide
  omega
theorem stepW_size {x : E3} (h : okStep x = true) : (stepW x).size ≤ 12 := by
  obtain ⟨_, _, hc, _⟩ := ok_parts h
  have h1 := head_size h
  have h2 := num_size (i := x.c.toNat) (by omega)
  have h3 : (ByteArray.mk #[32]).size = 1 := by decide
  unfold stepW
  split
  · rw [ByteArray.size_append, ByteArray.size_append]; omega
  · omega
theorem textStep_eq (s : ByteArray) (k : Nat) (x : E3) : textStep s k x = sepT s k ++ stepW x := by
  unfold textStep stepW
  split
  · rw [ByteArray.append_assoc]
  · rfl
theorem sep_size (s : ByteArray) (k : Nat) : (sepT s k).size ≤ s.size + 1 := by
  unfold sepT
  split
  · omega
  · rw [ByteArray.size_append]
    have : (ByteArray.mk #[59]).size = 1 := by decide
    omega
theorem text_size {xs : List E3} (h : xs.all okStep = true) : ∀ k, k ≤ xs.length → (textTo xs k).size ≤ 13 * k
  | 0, _ => by show (ByteArray.mk #[]).size ≤ 0; decide
  | k + 1, hk => by
    have ih := text_size h k (by omega)
    have hx : okStep (xs.getD k ⟨0, 0, 0⟩) = true := by
      rw [show xs.getD k ⟨0, 0, 0⟩ = xs[k] from by simp [List.getD, show k < xs.length by omega]]
      exact List.all_eq_true.1 h _ (List.getElem_mem _)
    show (textStep (textTo xs k) k _).size ≤ _
    rw [textStep_eq, ByteArray.size_append]
    have h1 := stepW_size hx
    have h2 := sep_size (textTo xs k) k
    omega
theorem join_snoc (L : List (List UInt8)) (y sep : List UInt8) : Lib.join (L ++ [y]) sep = (if L = [] then y else Lib.join L sep ++ sep ++ y) := by
  cases L with
  | nil => simp [Lib.join_one]
  | cons x r =>
    rw [List.cons_append, Lib.join_cons, Lib.join_cons]
    simp [Lib.joinTail, List.append_assoc]
/-- The program's joined words are the reference's text. -/
theorem join_text (xs : List E3) : ∀ k, k ≤ xs.length → Lib.join (((xs.take k).map stepW).map (·.data.toList)) [59] = (textTo xs k).data.toList
  | 0, _ => rfl
  | k + 1, hk => by
    have ih := join_text xs k (by omega)
    have e : xs.getD k ⟨0, 0, 0⟩ = xs[k] := by simp [List.getD, show k < xs.length by omega]
    rw [List.take_succ_eq_append_getElem (show k < xs.length by omega), List.map_append, List.map_append, List.map_singleton, List.map_singleton, join_snoc, ih]
    show _ = (textStep (textTo xs k) k (xs.getD k ⟨0, 0, 0⟩)).data.toList
    rw [e, textStep_eq]
    cases k with
    | zero => simp [sepT, textTo]
    | succ n =>
      have hne : ((xs.take (n + 1)).map stepW).map (·.data.toList) ≠ [] := by
        have : 0 < xs.length := by omega
        intro h9
        have hl : (((xs.take (n + 1)).map stepW).map (·.data.toList)).length = n + 1 := by simp; omega
        rw [h9] at hl
        simp at hl
      rw [if_neg hne]
      simp [sepT]
end Go.Proofs.YtliophgfgmjhiaaGreatDoor
