/- ParseForm: the reference. -/
import Derived.Test.YtliophgfgmjhiaaGreatDoorZ16Pf3
import Derived.Test.YtliophgfgmjhiaaGreatDoorZ04Brk
import Derived.BigRegion
import Derived.BigQuiet
import Derived.Deep.DeepCutAuto
namespace Go.Proofs.YtliophgfgmjhiaaGreatDoor
set_option linter.unusedSimpArgs false
set_option linter.unusedVariables false
set_option linter.unnecessarySimpa false
set_option maxRecDepth 200000
open Go.ChangeShapes Go.WideShapes Go.ChangeAt Go.RowKit

def headOf (a : ByteArray) : ByteArray := if a = ⟨#[45]⟩ then ⟨#[]⟩ else a
/-- Is this reading of three words the one that the text was made of? -/
def madeB (s h : ByteArray) (c p : Int) : Bool := validForm h c p && decide (formText h c.toNat p.toNat = s)
theorem bel_pf {w w' : World} {b o : Nat} {u : Value} (hb : Below w.heap.size w w') (hc : w.cell? ⟨b, o, none⟩ = some u) : w'.cell? ⟨b, o, none⟩ = some u :=
  (hb.cell (World.block_lt_of_cell? _ _ hc)).trans hc
theorem cut_len {c : UInt8} : ∀ {l w : List UInt8}, w ∈ cutW c l → w.length ≤ l.length
  | [], w, h => by simp [cutW] at h; simp [h]
  | b :: l, w, h => by
    rw [cut_cons] at h
    split at h
    · rcases List.mem_cons.1 h with rfl | h
      · simp
      · exact Nat.le_succ_of_le (cut_len h)
    · cases hc : cutW c l with
      | nil => exact absurd hc (cut_ne c l)
      | cons w0 ws =>
        rw [hc] at h
        simp only [consHead] at h
        rcases List.mem_cons.1 h with rfl | h
        · have := cut_len (show w0 ∈ cutW c l by rw [hc]; simp)
          simp; exact this
        · exact Nat.le_succ_of_le (cut_len (show w ∈ cutW c l by rw [hc]; simp [h]))
theorem cell_set_oth {w : World} {b i j : Nat} {u v : Value} (h : w.cell? ⟨b, i, none⟩ = some u) (hne : j ≠ i) : (w.setCell ⟨b, j, none⟩ v).cell? ⟨b, i, none⟩ = some u :=
  (World.cell?_setCell_other _ _ _ _ (fun e => hne (by injection e))).trans h
theorem bytes_inj {a b : ByteArray} (h : a.data.toList = b.data.toList) : a = b := by
  apply ByteArray.ext
  exact Array.ext' h
theorem words_inj : ∀ {xs ys : List ByteArray}, xs.map (·.data.toList) = ys.map (·.data.toList) → xs = ys
  | [], [], _ => rfl
  | [], _ :: _, h => by simp at h
  | _ :: _, [], h => by simp at h
  | x :: xs, y :: ys, h => by
    rw [List.map_cons, List.map_cons] at h
    injection h with h1 h2
    rw [bytes_inj h1, words_inj h2]
end Go.Proofs.YtliophgfgmjhiaaGreatDoor
