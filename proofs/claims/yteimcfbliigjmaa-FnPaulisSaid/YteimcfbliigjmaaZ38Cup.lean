/- A draw's state: the cursor in a box at the world's end. -/
import Derived.Test.YteimcfbliigjmaaZ37Cu1
import Derived.BigRegion
namespace Go.Proofs.Yteimcfbliigjmaa
set_option linter.unusedSimpArgs false
set_option linter.unusedVariables false
set_option linter.unnecessarySimpa false
set_option maxRecDepth 200000
open Go.ChangeShapes Go.WideShapes Go.ChangeAt Go.RowKit

theorem Cur.lt {w : World} {b N : Nat} {zs : List Int} {cv : Value} (h : Cur w b zs cv N) : b < w.heap.size := by
  obtain ⟨a, s, _, hc⟩ := h
  exact World.block_lt_of_cell? _ _ hc.c1
theorem grown_below0 {w0 w w' : World} {r : Option Nat} (h : w0.grownBy w r) (hb : Below w.heap.size w w') : w0.grownBy w' r :=
  ⟨hb.os.trans h.os, hb.tape.trans h.tape, hb.output.trans h.output, Nat.le_trans h.size hb.size, fun k hk hn => (hb.block k (Nat.lt_of_lt_of_le hk h.size)).trans (h.block k hk hn)⟩
theorem own_above {w : World} {B b : Nat} {v : Value} {zs : List Int} (h : OwnI w B v zs) (hb : b < B) : ∀ g, v.ownBlock = some g → g ≠ b := fun g e e2 => by
  have := (World.ownsRow.lt (show w.ownsRow B _ _ v _ _ from h) g e).1
  omega
theorem code_keep {w w' : World} {b g off x n c : Nat} {u : Value} (h : w.cell? ⟨g, off + x, none⟩ = some u) (hg : w.grownBy w' (some b)) (ho : ∀ g2, (Value.slice (some ⟨g, off, none⟩) n c).ownBlock = some g2 → g2 ≠ b) : w'.cell? ⟨g, off + x, none⟩ = some u := by
  have hne : g ≠ b := ho g rfl
  rw [World.cell?_of_block (w := w) (w' := w') (a := ⟨g, off + x, none⟩) (hg.block g (World.block_lt_of_cell? _ _ h) (fun e2 => hne (by injection e2)))]
  exact h
set_option maxHeartbeats 8000000 in
theorem cur_new {w : World} {v : Value} {zs : List Int} (h : RdB w v zs) : Cur (w.alloc (.cells #[v, .int .i64 0, .int .u64 0] 47)) w.heap.size zs v 0 := by
  have hb : Below w.heap.size w (w.alloc (.cells #[v, .int .i64 0, .int .u64 0] 47)) := (by repeat (first | exact Below.refl _ _ | assumption | refine Below.drew ?_ | refine below_drewN ?_ _ | refine Below.alloc ?_ (by first | omega | (simp <;> omega)) _ | refine Below.setCell ?_ (by first | omega | (simp <;> omega)) _ | refine Below.trans ?_ (Below.mono (by assumption) (by first | omega | (simp <;> omega)))))
  have hc := news_cells w [v, .int .i64 0, .int .u64 0] 47
  refine ⟨0, 0, Nat.le_refl _, Rd.below h hb rfl, ?_, ?_, ?_, new_frz _ _ _ _, new_frz _ _ _ _, fun h9 g e e2 => ?_, by decide⟩
  · have := hc 0 _ rfl
    rwa [Addr.add_lit] at this
  · have := hc 1 _ rfl
    rwa [Addr.add_lit] at this
  · have := hc 2 _ rfl
    rwa [Addr.add_lit] at this
  · rcases h.2 with ⟨⟨a0, c0, rfl⟩, h0⟩ | ⟨b, off, cap, rfl, hb, _, _, _⟩
    · exact h9 h0
    · injection e with e
      have e3 : b = g := e
      omega
theorem lit_num (w : World) (L : List Int) (h : L.length ≤ 1000) : RdI (w.alloc (.cells (L.map (Value.int .i64)).toArray 3)) (.slice (some ⟨w.heap.size, 0, none⟩) L.length L.length) L := by
  refine ⟨by simp, .inr ⟨w.heap.size, 0, L.length, rfl, by simp, Nat.le_refl _, by omega, fun j u hj => ?_⟩⟩
  have := news_cells w (L.map (Value.int .i64)) 3 j u hj
  rwa [Addr.add_lit] at this
theorem off_new {w0 w : World} {n c : Nat} (h : w0.heap.size < w.heap.size) : ∀ g, (Value.slice (some ⟨w.heap.size, 0, none⟩) n c).ownBlock = some g → g ≠ w0.heap.size := fun g e => by
  have e3 : w.heap.size = g := by injection e
  omega
theorem below_box {w0 w w' : World} {B b : Nat} (h : Below B w0 w) (hg : w.grownBy w' (some b)) (h1 : B ≤ b) (h2 : B ≤ w.heap.size) : Below B w0 w' :=
  Below.grown h hg h2 (fun k hk => by injection hk with hk; omega)
/-- The state of the draw: the cursor in the box at w's end. -/
structure Dr (w0 w : World) (zs : List Int) (cv : Value) (N : Nat) : Prop where
  cur : Cur w w0.heap.size zs cv N
  bel : Below w0.heap.size w0 w
  lt : w0.heap.size < w.heap.size
theorem Dr.step {w0 w w' : World} {zs : List Int} {cv : Value} {N M : Nat} (h : Dr w0 w zs cv N) (hc : Cur w' w0.heap.size zs cv M) (hg : w.grownBy w' (some w0.heap.size)) : Dr w0 w' zs cv M :=
  ⟨hc, below_box h.bel hg (Nat.le_refl _) (Nat.le_of_lt h.lt), Nat.lt_of_lt_of_le h.lt hg.size⟩
theorem Dr.call {w0 w w' : World} {zs : List Int} {cv : Value} {N : Nat} (h : Dr w0 w zs cv N) (hb : Below w.heap.size w w') : Dr w0 w' zs cv N :=
  ⟨h.cur.call hb, Below.trans h.bel (hb.mono (Nat.le_of_lt h.lt)), Nat.lt_of_lt_of_le h.lt hb.size⟩
end Go.Proofs.Yteimcfbliigjmaa
