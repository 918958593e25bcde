/- What strconv.Atoi yields as a number, plain. -/
import Derived.Test.YtliophgfgmjhiaaGreatDoorZ14Pf1
import Derived.Lib.AtoiAll
import Derived.Lib.LaidTab
import Derived.Test.YtliophgfgmjhiaaGreatDoorShelf
namespace Go.Proofs.YtliophgfgmjhiaaGreatDoor
set_option linter.unusedSimpArgs false
set_option linter.unusedVariables false
set_option linter.unnecessarySimpa false
set_option maxRecDepth 200000
open Go.ChangeShapes Go.WideShapes Go.ChangeAt Go.RowKit

def atoG (s : ByteArray) : Int := match Lib.atoiAll s.data.toList with
  | .ok v => v
  | .range => Lib.atoiSat s.data.toList
  | _ => 0
def atoL (l : List UInt8) : Int := match Lib.atoiAll l with
  | .ok v => v
  | .range => Lib.atoiSat l
  | _ => 0
theorem ato_one : ∀ r : Nat, r < 10 → atoL [UInt8.ofNat (48 + r)] = (r : Int) := by decide +kernel
theorem ato_two : ∀ q : Nat, q < 10 → ∀ r : Nat, r < 10 → atoL [UInt8.ofNat (48 + q), UInt8.ofNat (48 + r)] = ((10 * q + r : Nat) : Int) := by decide +kernel
theorem ato_num {c : Nat} (h : c < 100) : atoG (numB c) = (c : Int) := by
  show atoL (numB c).data.toList = _
  by_cases h1 : c < 10
  · rw [num_small c h1]
    exact ato_one c h1
  · rw [num_big c (by omega), num_small (c / 10) (by omega)]
    have h2 := ato_two (c / 10) (by omega) (c % 10) (by omega)
    generalize UInt8.ofNat (48 + c / 10) = x at *
    generalize UInt8.ofNat (48 + c % 10) = y at *
    have hl : (ByteArray.mk #[x] ++ ByteArray.mk #[y]).data.toList = [x, y] := by simp
    rw [hl, h2]
    omega
theorem ato_range {l : List UInt8} {v : Int} (h : Lib.atoiAll l = .ok v) : -9223372036854775808 ≤ v ∧ v ≤ 9223372036854775807 := by
  cases l with
  | nil => cases h
  | cons c r =>
    simp only [Lib.atoiAll] at h
    split at h
    · cases h
    · cases h
    · split at h
      · cases h
      · split at h
        · cases h
        · injection h with h
          subst h
          split <;> omega
/-- What the readings of numerals ask of the world: the errors' variables and the table of tens. -/
structure Strc (w : World) : Prop where
  syn : ∃ te pe, w.var? Tryz.prog "strconv.ErrSyntax" = some #[.iface te pe]
  rng : ∃ te pe, w.var? Tryz.prog "strconv.ErrRange" = some #[.iface te pe]
  tab : Lib.TabIs Tryz.prog w "internal/strconv.uint64pow10" .u64 Lib.pow10Tab
theorem var_below {w w' : World} {n : String} {cs : Array Value} (h : w.var? Tryz.prog n = some cs) (hb : Below w.heap.size w w') : w'.var? Tryz.prog n = some cs := by
  unfold World.var? at h ⊢
  cases hg : Tryz.prog.globalNamed n with
  | none => rw [hg] at h; cases h
  | some g =>
    rw [hg] at h
    simp only [Option.bind_some] at h ⊢
    have hl : g < w.heap.size := by
      cases hh : w.heap[g]? with
      | none => rw [hh] at h; cases h
      | some o => exact (Array.getElem?_eq_some_iff.1 hh).1
    rw [hb.block g hl]; exact h
theorem Strc.call {w w' : World} (h : Strc w) (hb : Below w.heap.size w w') : Strc w' := by
  obtain ⟨⟨a, b, h1⟩, ⟨c, d, h2⟩, h3⟩ := h
  exact ⟨⟨a, b, var_below h1 hb⟩, ⟨c, d, var_below h2 hb⟩, var_below h3 hb⟩
end Go.Proofs.YtliophgfgmjhiaaGreatDoor
