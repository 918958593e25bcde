/- What stays of boxes, rows and cells over an act that touches one block alone. -/
import Derived.Test.YtfcmakabejnicaaOwnG
import Derived.Test.YtfcmakabejnicaaCut1
namespace Go.Proofs.Ytfcmakabejnicaa
set_option linter.unusedSimpArgs false
set_option linter.unusedVariables false
set_option linter.unnecessarySimpa false
set_option maxRecDepth 200000
open Go.ChangeShapes Go.WideShapes Go.ChangeAt Go.RowKit

/-- All blocks but g are as they were. -/
structure Far (g : Nat) (w w' : World) : Prop where
  size : w.heap.size ≤ w'.heap.size
  block : ∀ k, k < w.heap.size → k ≠ g → w'.heap[k]? = w.heap[k]?
theorem Far.call {w w' : World} (h : Below w.heap.size w w') : Far w.heap.size w w' := ⟨h.size, fun k hk _ => h.block k hk⟩
theorem Far.alloc (w : World) (X : Obj) : Far w.heap.size w (w.alloc X) := Far.call (Below.alloc (Below.refl _ _) (Nat.le_refl _) X)
theorem Far.set (w : World) (g o : Nat) (v : Value) : Far g w (w.setCell ⟨g, o, none⟩ v) := by
  refine ⟨by simp, fun k _ hne => Below.heap_setCell _ _ _ _ (fun e => hne ?_)⟩
  first | exact e | exact e.symm
theorem Far.trans {g : Nat} {a b c : World} (h : Far g a b) (k : Far g b c) : Far g a c :=
  ⟨Nat.le_trans h.size k.size, fun i hi hne => (k.block i (Nat.lt_of_lt_of_le hi h.size) hne).trans (h.block i hi hne)⟩
def set3 (w : World) (g : Nat) (a b c : Value) : World := ((w.setCell ⟨g, 0, none⟩ a).setCell ⟨g, 1, none⟩ b).setCell ⟨g, 2, none⟩ c
theorem Far.set3 (w : World) (g : Nat) (a b c : Value) : Far g w (set3 w g a b c) := ((Far.set w g 0 a).trans (Far.set _ g 1 b)).trans (Far.set _ g 2 c)
theorem cell_far {g b o : Nat} {w w' : World} {v : Value} (h : w.cell? ⟨b, o, none⟩ = some v) (k : Far g w w') (hne : b ≠ g) : w'.cell? ⟨b, o, none⟩ = some v := by
  have hl := World.block_lt_of_cell? _ _ h
  rw [← h]; exact World.cell?_of_block (k.block b hl hne)
theorem frz_far {g b o : Nat} {w w' : World} (h : w.frozen? ⟨b, o, none⟩ = false) (k : Far g w w') (hl : b < w.heap.size) (hne : b ≠ g) : w'.frozen? ⟨b, o, none⟩ = false := by
  rw [← h]; exact World.frozen?_of_block (k.block b hl hne)
/-- A box of three cells. -/
structure Box3 (w : World) (g : Nat) (a b c : Value) : Prop where
  c0 : w.cell? ⟨g, 0, none⟩ = some a
  c1 : w.cell? ⟨g, 1, none⟩ = some b
  c2 : w.cell? ⟨g, 2, none⟩ = some c
  f0 : w.frozen? ⟨g, 0, none⟩ = false
  f1 : w.frozen? ⟨g, 1, none⟩ = false
  f2 : w.frozen? ⟨g, 2, none⟩ = false
theorem Box3.lt {w : World} {g : Nat} {a b c : Value} (h : Box3 w g a b c) : g < w.heap.size := World.block_lt_of_cell? _ _ h.c0
theorem Box3.far {w w' : World} {g g' : Nat} {a b c : Value} (h : Box3 w g a b c) (k : Far g' w w') (hne : g ≠ g') : Box3 w' g a b c :=
  ⟨cell_far h.c0 k hne, cell_far h.c1 k hne, cell_far h.c2 k hne, frz_far h.f0 k h.lt hne, frz_far h.f1 k h.lt hne, frz_far h.f2 k h.lt hne⟩
theorem Box3.call {w w' : World} {g : Nat} {a b c : Value} (h : Box3 w g a b c) (k : Below w.heap.size w w') : Box3 w' g a b c := h.far (Far.call k) (Nat.ne_of_lt h.lt)
theorem Box3.alloc {w : World} {g : Nat} {a b c : Value} (h : Box3 w g a b c) (X : Obj) : Box3 (w.alloc X) g a b c := h.far (Far.alloc w X) (Nat.ne_of_lt h.lt)
theorem Box3.drew {w : World} {g : Nat} {a b c : Value} (h : Box3 w g a b c) : Box3 w.drew g a b c := ⟨h.c0, h.c1, h.c2, h.f0, h.f1, h.f2⟩
theorem Box3.new (w : World) (a b c : Value) (t : TypeId) : Box3 (w.alloc (.cells #[a, b, c] t)) w.heap.size a b c :=
  ⟨new_cell w _ t 0 a rfl, new_cell w _ t 1 b rfl, new_cell w _ t 2 c rfl, new_frz w _ t 0, new_frz w _ t 1, new_frz w _ t 2⟩
theorem Box3.set {w : World} {g : Nat} {a b c : Value} (h : Box3 w g a b c) (x y z : Value) : Box3 (set3 w g x y z) g x y z := by
  obtain ⟨h0, h1, h2⟩ := box_set3 x y z h.c0 h.c1 h.c2
  exact ⟨h0, h1, h2, by unfold set3; simp only [World.frozen?_setCell]; exact h.f0, by unfold set3; simp only [World.frozen?_setCell]; exact h.f1, by unfold set3; simp only [World.frozen?_setCell]; exact h.f2⟩
/-- A row read over an act that touches another block. -/
theorem rd_far {w w' : World} {g q n sz c n0 : Nat} {xs : List Value} (h : Rd w (.slice (some ⟨g, 0, none⟩) n c) n0 sz xs) (k : Far q w w') (hne : g ≠ q) : Rd w' (.slice (some ⟨g, 0, none⟩) n c) n0 sz xs := by
  refine ⟨h.1, ?_⟩
  rcases h.2 with h0 | ⟨b, off, cap, hv, hb, h3, h4, h5⟩
  · exact .inl h0
  · refine .inr ⟨b, off, cap, hv, Nat.lt_of_lt_of_le hb k.size, h3, h4, fun j v hj => ?_⟩
    injection hv with hv1 hv2 hv3
    injection hv1 with hv1
    injection hv1 with e1 e2 e3
    exact cell_far (h5 j v hj) k (by rw [← e1]; exact hne)
theorem below_put3 {B g : Nat} {a w : World} (h : Below B a w) (hg : B ≤ g) (x y z : Value) : Below B a (set3 w g x y z) :=
  Below.setCell (Below.setCell (Below.setCell h hg _) hg _) hg _
end Go.Proofs.Ytfcmakabejnicaa
