/- ParseForm: the program. -/
import Derived.Test.YtindldkileidmaaDoorPf9
import Derived.Test.YtindldkileidmaaDoorPf4
import Derived.BigRegion
namespace Go.Proofs.YtindldkileidmaaDoor
set_option linter.unusedSimpArgs false
set_option linter.unusedVariables false
set_option linter.unnecessarySimpa false
set_option maxRecDepth 200000
open Go.ChangeShapes Go.WideShapes Go.ChangeAt Go.RowKit

/-- What the program's reading of words asks of the world: a cell of the library. -/
def MaxL (w : World) : Prop := ∃ m, w.cell? ⟨1, 0, none⟩ = some (.int .i64 m)
theorem MaxL.call {w w' : World} (h : MaxL w) (hb : Below w.heap.size w w') : MaxL w' := by
  obtain ⟨m, h⟩ := h
  exact ⟨m, bel_pf hb h⟩
theorem impl_split (c : UInt8) (s : ByteArray) (w : World) (hs : s.size ≤ 1048576) (hm : MaxL w) :
    Calls Tryd.prog 18 #[.string s, .string ⟨#[c]⟩] w fun e w' => ∃ ws : List ByteArray, ws.map (·.data.toList) = cutW c s.data.toList ∧ e = .returned (.slice (some ⟨w.heap.size, 0, none⟩) ws.length ws.length) ∧ w' = w.alloc (.cells (ws.map Value.string).toArray 9) := by
  obtain ⟨m, hm⟩ := hm
  refine (Tryd.strings_Split s ⟨#[c]⟩ m w (by omega) hm (by simp [ByteArray.size])).mono ?_
  rintro e w' ⟨rfl, rfl⟩
  refine ⟨_, splitB_cut c s, ?_, rfl⟩
  rw [Lib.splitB_all ⟨#[c]⟩ (by simp [ByteArray.size]) 0 _ s rfl]
theorem impl_split3 {c : UInt8} {s a b d : ByteArray} (hw : cutW c s.data.toList = [a.data.toList, b.data.toList, d.data.toList]) (w : World) (hs : s.size ≤ 1048576) (hm : MaxL w) :
    Calls Tryd.prog 18 #[.string s, .string ⟨#[c]⟩] w fun e w' => e = .returned (.slice (some ⟨w.heap.size, 0, none⟩) 3 3) ∧ w' = w.alloc (.cells #[.string a, .string b, .string d] 9) := by
  refine (impl_split c s w hs hm).mono ?_
  rintro e w' ⟨ws, h, rfl, rfl⟩
  obtain rfl : ws = [a, b, d] := words_inj (by rw [h, hw]; rfl)
  exact ⟨rfl, rfl⟩
end Go.Proofs.YtindldkileidmaaDoor
