/- A diagram under construction: its box, the words that are read. -/
import Derived.Test.YtliophgfgmjhiaaGreatDoorZ06Zx4
import Derived.Test.YtliophgfgmjhiaaGreatDoorZ23Zx9
import Derived.Test.YtliophgfgmjhiaaGreatDoorZ17Pf4
import Derived.Test.YtliophgfgmjhiaaGreatDoorZ02M
namespace Go.Proofs.YtliophgfgmjhiaaGreatDoor
set_option linter.unusedSimpArgs false
set_option linter.unusedVariables false
set_option linter.unnecessarySimpa false
set_option maxRecDepth 200000
open Go.ChangeShapes Go.WideShapes Go.ChangeAt Go.RowKit

structure BoxD (w : World) (B : Nat) (n : Int) (v0 v1 : Value) (t r : Int) : Prop where
  c0 : w.cell? ⟨B, 0, none⟩ = some (.int .i64 n)
  c1 : w.cell? ⟨B, 1, none⟩ = some v0
  c2 : w.cell? ⟨B, 2, none⟩ = some v1
  c3 : w.cell? ⟨B, 3, none⟩ = some (.int .i64 t)
  c4 : w.cell? ⟨B, 4, none⟩ = some (.int .i64 r)
  f0 : w.frozen? ⟨B, 0, none⟩ = false
  f1 : w.frozen? ⟨B, 1, none⟩ = false
  f2 : w.frozen? ⟨B, 2, none⟩ = false
  f3 : w.frozen? ⟨B, 3, none⟩ = false
  f4 : w.frozen? ⟨B, 4, none⟩ = false
def Wd (w : World) (g : Nat) (ws : List ByteArray) : Prop := ∀ k, k < ws.length → w.cell? ⟨g, k, none⟩ = some (.string (ws.getD k ⟨#[]⟩))
section
variable {w w' : World} {B : Nat} {n : Int} {v0 v1 : Value} {t r : Int}
theorem BoxD.lt (h : BoxD w B n v0 v1 t r) : B < w.heap.size := World.block_lt_of_cell? _ _ h.c0
theorem BoxD.bel (h : BoxD w B n v0 v1 t r) (hb : Below w.heap.size w w') : BoxD w' B n v0 v1 t r :=
  ⟨bel_zx hb h.c0, bel_zx hb h.c1, bel_zx hb h.c2, bel_zx hb h.c3, bel_zx hb h.c4, below_frz hb rfl h.lt h.f0, below_frz hb rfl h.lt h.f1, below_frz hb rfl h.lt h.f2, below_frz hb rfl h.lt h.f3, below_frz hb rfl h.lt h.f4⟩
theorem BoxD.drew (h : BoxD w B n v0 v1 t r) : BoxD w.drew B n v0 v1 t r := ⟨h.c0, h.c1, h.c2, h.c3, h.c4, h.f0, h.f1, h.f2, h.f3, h.f4⟩
theorem BoxD.alloc (h : BoxD w B n v0 v1 t r) (X : Obj) : BoxD (w.alloc X) B n v0 v1 t r :=
  ⟨cell_alloc_keep _ h.c0, cell_alloc_keep _ h.c1, cell_alloc_keep _ h.c2, cell_alloc_keep _ h.c3, cell_alloc_keep _ h.c4, frozen_alloc_lt _ h.lt h.f0, frozen_alloc_lt _ h.lt h.f1, frozen_alloc_lt _ h.lt h.f2, frozen_alloc_lt _ h.lt h.f3, frozen_alloc_lt _ h.lt h.f4⟩
theorem cell_gz {w w' : World} {v u : Value} {base sz k b o : Nat} {e : TypeId} {xs : List Value} (hown : w.ownsRow base e sz v k xs) (hg : w.grownBy w' v.ownBlock) (hlt : b < base) (hc : w.cell? ⟨b, o, none⟩ = some u) : w'.cell? ⟨b, o, none⟩ = some u := by
  have hb := hg.block b (World.block_lt_of_cell? _ _ hc) (fun h => by have := (World.ownsRow.lt hown b h.symm).1; omega)
  rw [World.cell?_of_block (w := w) (w' := w') (a := ⟨b, o, none⟩) hb]; exact hc
theorem frz_gz {w w' : World} {v : Value} {base sz k b o : Nat} {e : TypeId} {xs : List Value} (hown : w.ownsRow base e sz v k xs) (hg : w.grownBy w' v.ownBlock) (hlt : b < base) (hl : b < w.heap.size) (hc : w.frozen? ⟨b, o, none⟩ = false) : w'.frozen? ⟨b, o, none⟩ = false := by
  have hb := hg.block b hl (fun h => by have := (World.ownsRow.lt hown b h.symm).1; omega)
  rw [World.frozen?_of_block (w := w) (w' := w') (a := ⟨b, o, none⟩) hb]; exact hc
theorem BoxD.grown {v : Value} {base sz k : Nat} {e : TypeId} {xs : List Value} (h : BoxD w B n v0 v1 t r) (hown : w.ownsRow base e sz v k xs) (hg : w.grownBy w' v.ownBlock) (hlt : B < base) : BoxD w' B n v0 v1 t r :=
  ⟨cell_gz hown hg hlt h.c0, cell_gz hown hg hlt h.c1, cell_gz hown hg hlt h.c2, cell_gz hown hg hlt h.c3, cell_gz hown hg hlt h.c4, frz_gz hown hg hlt h.lt h.f0, frz_gz hown hg hlt h.lt h.f1, frz_gz hown hg hlt h.lt h.f2, frz_gz hown hg hlt h.lt h.f3, frz_gz hown hg hlt h.lt h.f4⟩
theorem frz_sz {a b : Addr} {v : Value} (h : w.frozen? a = false) : (w.setCell b v).frozen? a = false := by simpa using h
theorem BoxD.set1 (h : BoxD w B n v0 v1 t r) (v : Value) : BoxD (w.setCell ⟨B, 1, none⟩ v) B n v v1 t r :=
  ⟨cell_set_oth h.c0 (by decide), World.cell?_setCell_same _ _ _ h.c1, cell_set_oth h.c2 (by decide), cell_set_oth h.c3 (by decide), cell_set_oth h.c4 (by decide), frz_sz h.f0, frz_sz h.f1, frz_sz h.f2, frz_sz h.f3, frz_sz h.f4⟩
theorem BoxD.set2 (h : BoxD w B n v0 v1 t r) (v : Value) : BoxD (w.setCell ⟨B, 2, none⟩ v) B n v0 v t r :=
  ⟨cell_set_oth h.c0 (by decide), cell_set_oth h.c1 (by decide), World.cell?_setCell_same _ _ _ h.c2, cell_set_oth h.c3 (by decide), cell_set_oth h.c4 (by decide), frz_sz h.f0, frz_sz h.f1, frz_sz h.f2, frz_sz h.f3, frz_sz h.f4⟩
theorem BoxD.oth (h : BoxD w B n v0 v1 t r) {b o : Nat} (hne : b ≠ B) (v : Value) : BoxD (w.setCell ⟨b, o, none⟩ v) B n v0 v1 t r :=
  have k : ∀ {i : Nat} {u : Value}, w.cell? ⟨B, i, none⟩ = some u → (w.setCell ⟨b, o, none⟩ v).cell? ⟨B, i, none⟩ = some u := fun hc => (World.cell?_setCell_other _ _ _ _ (fun e => hne (by injection e))).trans hc
  ⟨k h.c0, k h.c1, k h.c2, k h.c3, k h.c4, frz_sz h.f0, frz_sz h.f1, frz_sz h.f2, frz_sz h.f3, frz_sz h.f4⟩
theorem BoxD.new (w : World) (n : Int) (v0 v1 : Value) (t r : Int) : BoxD (w.alloc (.cells #[.int .i64 n, v0, v1, .int .i64 t, .int .i64 r] 25)) w.heap.size n v0 v1 t r :=
  ⟨(by repeat (first | (refine Eq.trans (World.cell?_alloc_at _ _ _ _ ?hh) ?_; (case hh => (simp; done)); rfl) | refine cell_alloc_keep _ ?_)), (by repeat (first | (refine Eq.trans (World.cell?_alloc_at _ _ _ _ ?hh) ?_; (case hh => (simp; done)); rfl) | refine cell_alloc_keep _ ?_)), (by repeat (first | (refine Eq.trans (World.cell?_alloc_at _ _ _ _ ?hh) ?_; (case hh => (simp; done)); rfl) | refine cell_alloc_keep _ ?_)), (by repeat (first | (refine Eq.trans (World.cell?_alloc_at _ _ _ _ ?hh) ?_; (case hh => (simp; done)); rfl) | refine cell_alloc_keep _ ?_)), (by repeat (first | (refine Eq.trans (World.cell?_alloc_at _ _ _ _ ?hh) ?_; (case hh => (simp; done)); rfl) | refine cell_alloc_keep _ ?_)), (by repeat (first | (refine World.frozen?_alloc_at _ _ _ _ ?hh; case hh => (simp; done)) | (refine frozen_alloc_lt _ ?hh ?_; case hh => first | omega | (simp <;> omega)))), (by repeat (first | (refine World.frozen?_alloc_at _ _ _ _ ?hh; case hh => (simp; done)) | (refine frozen_alloc_lt _ ?hh ?_; case hh => first | omega | (simp <;> omega)))), (by repeat (first | (refine World.frozen?_alloc_at _ _ _ _ ?hh; case hh => (simp; done)) | (refine frozen_alloc_lt _ ?hh ?_; case hh => first | omega | (simp <;> omega)))), (by repeat (first | (refine World.frozen?_alloc_at _ _ _ _ ?hh; case hh => (simp; done)) | (refine frozen_alloc_lt _ ?hh ?_; case hh => first | omega | (simp <;> omega)))), (by repeat (first | (refine World.frozen?_alloc_at _ _ _ _ ?hh; case hh => (simp; done)) | (refine frozen_alloc_lt _ ?hh ?_; case hh => first | omega | (simp <;> omega))))⟩
theorem Wd.bel {g : Nat} {ws : List ByteArray} (h : Wd w g ws) (hb : Below w.heap.size w w') : Wd w' g ws := fun k hk => bel_zx hb (h k hk)
theorem Wd.drew {g : Nat} {ws : List ByteArray} (h : Wd w g ws) : Wd w.drew g ws := fun k hk => h k hk
theorem Wd.alloc {g : Nat} {ws : List ByteArray} (h : Wd w g ws) (X : Obj) : Wd (w.alloc X) g ws := fun k hk => cell_alloc_keep _ (h k hk)
theorem Wd.grown {g : Nat} {ws : List ByteArray} {v : Value} {base sz k : Nat} {e : TypeId} {xs : List Value} (h : Wd w g ws) (hown : w.ownsRow base e sz v k xs) (hg : w.grownBy w' v.ownBlock) (hlt : g < base) : Wd w' g ws := fun j hj => cell_gz hown hg hlt (h j hj)
theorem Wd.set {g : Nat} {ws : List ByteArray} (h : Wd w g ws) {b o : Nat} (hne : b ≠ g) (v : Value) : Wd (w.setCell ⟨b, o, none⟩ v) g ws := fun k hk =>
  (World.cell?_setCell_other _ _ _ _ (fun e => hne (by injection e))).trans (h k hk)
end
end Go.Proofs.YtliophgfgmjhiaaGreatDoor
