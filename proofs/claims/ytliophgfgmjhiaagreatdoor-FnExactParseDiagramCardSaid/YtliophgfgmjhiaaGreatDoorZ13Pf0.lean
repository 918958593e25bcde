/- Words of a text, plain: cut at a byte; strings.Split cuts so; three words that make a text are its words. -/
import Derived.Test.YtliophgfgmjhiaaGreatDoorZ00M
import Derived.Lib.Split
import Derived.Lib.SplitLaws
namespace Go.Proofs.YtliophgfgmjhiaaGreatDoor
set_option linter.unusedSimpArgs false
set_option linter.unusedVariables false
set_option linter.unnecessarySimpa false
set_option maxRecDepth 200000
open Go.ChangeShapes Go.WideShapes Go.ChangeAt Go.RowKit

def consHead (b : UInt8) : List (List UInt8) → List (List UInt8)
  | [] => [[b]]
  | w :: ws => (b :: w) :: ws
def cutW (c : UInt8) : List UInt8 → List (List UInt8)
  | [] => [[]]
  | b :: l => if b = c then [] :: cutW c l else consHead b (cutW c l)
theorem cut_cons (c b : UInt8) (l : List UInt8) : cutW c (b :: l) = if b = c then [] :: cutW c l else consHead b (cutW c l) := rfl
theorem cut_ne (c : UInt8) : ∀ l, cutW c l ≠ []
  | [] => by simp [cutW]
  | b :: l => by
    unfold cutW
    split
    · simp
    · cases h : cutW c l with
      | nil => exact absurd h (cut_ne c l)
      | cons w ws => simp [consHead]
theorem cut_none {c : UInt8} : ∀ {a : List UInt8}, c ∉ a → cutW c a = [a]
  | [], _ => rfl
  | b :: l, h => by
    have hb : b ≠ c := fun e => h (by simp [e])
    unfold cutW
    rw [if_neg hb, cut_none (fun h9 => h (by simp [h9]))]
    rfl
theorem cut_app {c : UInt8} : ∀ {a : List UInt8} (b : List UInt8), c ∉ a → cutW c (a ++ c :: b) = a :: cutW c b
  | [], b, _ => by simp [cutW]
  | x :: l, b, h => by
    have hb : x ≠ c := fun e => h (by simp [e])
    rw [List.cons_append, cut_cons, if_neg hb, cut_app b (fun h9 => h (by simp [h9]))]
    rfl
/-- Three words without the byte, joined by it. -/
theorem cut_three {c : UInt8} {a b d : List UInt8} (ha : c ∉ a) (hb : c ∉ b) (hd : c ∉ d) : cutW c (a ++ c :: (b ++ c :: d)) = [a, b, d] := by
  rw [cut_app _ ha, cut_app _ hb, cut_none hd]
theorem index_hit (c : UInt8) (l : List UInt8) : Lib.index (c :: l) [c] = 0 := by
  unfold Lib.index; simp
theorem index_skip {b c : UInt8} (h : b ≠ c) (l : List UInt8) : Lib.index (b :: l) [c] = if Lib.index l [c] == -1 then -1 else Lib.index l [c] + 1 := by
  conv => lhs; unfold Lib.index
  have : ([c] : List UInt8).isPrefixOf (b :: l) = false := by
    simp [List.isPrefixOf]
    exact fun e => h e.symm
  rw [this]
  rfl
theorem splitK_skip {b c : UInt8} (h : b ≠ c) (k : Nat) (l : List UInt8) : Lib.splitK [c] 0 k (b :: l) = consHead b (Lib.splitK [c] 0 k l) := by
  cases k with
  | zero => rfl
  | succ k =>
    unfold Lib.splitK
    rw [index_skip h]
    have hge := Lib.index_ge l [c]
    by_cases hi : Lib.index l [c] = -1
    · have e1 : (Lib.index l [c] == -1) = true := beq_iff_eq.2 hi
      simp only [e1, if_true]
      rfl
    · have e1 : (Lib.index l [c] == -1) = false := beq_eq_false_iff_ne.2 hi
      have e2 : (Lib.index l [c] + 1 == -1) = false := beq_eq_false_iff_ne.2 (by omega)
      simp only [e1, Bool.false_eq_true, if_false, e2]
      have e3 : (Lib.index l [c] + 1).toNat = (Lib.index l [c]).toNat + 1 := by omega
      rw [e3]
      simp [consHead]
theorem splitK_cut (c : UInt8) : ∀ l : List UInt8, Lib.splitK [c] 0 (Lib.count l [c]) l = cutW c l
  | [] => by
    rw [Lib.count_one]; rfl
  | b :: l => by
    by_cases h : b = c
    · subst h
      rw [Lib.count_cons_eq, Nat.add_comm]
      unfold Lib.splitK
      rw [index_hit]
      have ih := splitK_cut b l
      conv => rhs; unfold cutW
      rw [if_pos rfl, ← ih]
      rfl
    · rw [Lib.count_cons_ne _ _ _ h, splitK_skip h, splitK_cut c l]
      conv => rhs; unfold cutW
      rw [if_neg h]
/-- What strings.Split yields at a byte. -/
theorem splitB_cut (c : UInt8) (s : ByteArray) : (Lib.splitB ⟨#[c]⟩ 0 (Lib.countB s ⟨#[c]⟩) s).map (·.data.toList) = cutW c s.data.toList := by
  rw [Lib.splitB_data]
  exact splitK_cut c s.data.toList
/-- Cut words hold no such byte. -/
theorem cut_mem {c : UInt8} : ∀ {l : List UInt8} {w : List UInt8}, w ∈ cutW c l → c ∉ w
  | [], w, h => by simp [cutW] at h; simp [h]
  | b :: l, w, h => by
    unfold cutW at h
    split at h
    · rcases List.mem_cons.1 h with rfl | h
      · simp
      · exact cut_mem h
    · next hb =>
      cases hc : cutW c l with
      | nil => exact absurd hc (cut_ne c l)
      | cons w0 ws =>
        rw [hc] at h
        simp only [consHead] at h
        rcases List.mem_cons.1 h with rfl | h
        · intro h9
          rcases List.mem_cons.1 h9 with e | e
          · exact hb e.symm
          · exact cut_mem (show w0 ∈ cutW c l by rw [hc]; simp) e
        · exact cut_mem (show w ∈ cutW c l by rw [hc]; simp [h])
end Go.Proofs.YtliophgfgmjhiaaGreatDoor
