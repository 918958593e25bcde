/- Slices that are read, and slices that a call has made itself: general lemmas over any program. -/
import Derived.Test.YtnckabohlakbgaaGreatZ00Base
import Derived.OwnWalk
import Derived.Laws.MakeOwn
import Derived.Deep.Light
import Derived.BigQuiet
import Derived.Deep.QuietTactic
import Derived.Deep.RegionHeld3
import Derived.Test.YtnckabohlakbgaaGreatZ02M
import Derived.Below
import Derived.Laws.OwnMore
import Derived.Deep.AppendLies
import Derived.Deep.Draws
import Derived.Maps.AppendAt
import Derived.RegionTactic
namespace Go.Proofs.YtnckabohlakbgaaGreat
set_option linter.unusedSimpArgs false
set_option linter.unusedVariables false
set_option linter.unnecessarySimpa false
set_option maxRecDepth 200000
open Go.ChangeShapes Go.WideShapes Go.ChangeAt Go.RowKit

/-- A slice value of n elements of sz cells each, which reads as the cells xs. -/
def Rd (w : World) (v : Value) (n sz : Nat) (xs : List Value) : Prop :=
  xs.length = n * sz ∧ (((∃ a cap, v = .slice a 0 cap) ∧ n = 0) ∨ ∃ b off cap, v = .slice (some ⟨b, off, none⟩) n cap ∧ b < w.heap.size ∧ n ≤ cap ∧ cap ≤ 9223372036854775807 ∧ ∀ j u, xs[j]? = some u → w.cell? ⟨b, off + j, none⟩ = some u)
/-- The same for whole numbers. -/
def RdI (w : World) (v : Value) (zs : List Int) : Prop := Rd w v zs.length 1 (zs.map (Value.int .i64))

section
variable {w w' : World} {v : Value} {n sz : Nat} {xs : List Value} {base : Nat} {e : TypeId}
theorem Rd.below {B : Nat} (h : Rd w v n sz xs) (hb : Below B w w') (hB : B = w.heap.size) : Rd w' v n sz xs := by
  subst hB
  refine ⟨h.1, ?_⟩
  rcases h.2 with h0 | ⟨b, off, cap, h1, h2, h3, h4, h5⟩
  · exact .inl h0
  · exact .inr ⟨b, off, cap, h1, Nat.lt_of_lt_of_le h2 hb.size, h3, h4, fun j u hj => by rw [hb.cell (p := ⟨b, off + j, none⟩) h2]; exact h5 j u hj⟩
theorem Rd.of_own (h : w.ownsRow base e sz v n xs) : Rd w v n sz xs := by
  refine ⟨h.1, ?_⟩
  rcases h.2 with h0 | ⟨g, cap, cur, rfl, hbg, hg, hnc, hcm, hcs, htake⟩
  · exact .inl ⟨⟨none, 0, h0.1⟩, h0.2⟩
  · refine .inr ⟨g, 0, cap, rfl, (Array.getElem?_eq_some_iff.1 hg).1, hnc, by simpa [maxLen] using hcm, fun j u hj => ?_⟩
    have := World.ownsRow.cells h (g := g) rfl j u hj
    rw [Nat.zero_add]
    have hadd : (⟨g, 0, none⟩ : Addr).add j = ⟨g, j, none⟩ := by unfold Addr.add; split <;> simp_all
    rw [← hadd]; exact this
theorem own_below {B : Nat} (h : w.ownsRow base e sz v n xs) (hb : Below B w w') (hB : B = w.heap.size) : w'.ownsRow base e sz v n xs := by
  subst hB
  refine ⟨h.1, ?_⟩
  rcases h.2 with h0 | ⟨g, cap, cur, rfl, hbg, hg, r⟩
  · exact .inl h0
  · exact .inr ⟨g, cap, cur, rfl, hbg, by rw [hb.block g (Array.getElem?_eq_some_iff.1 hg).1]; exact hg, r⟩
theorem own_le {base' : Nat} (h : w.ownsRow base e sz v n xs) (hb : base' ≤ base) : w.ownsRow base' e sz v n xs :=
  ⟨h.1, h.2.elim Or.inl (fun ⟨g, cap, cur, hv, hg, r⟩ => Or.inr ⟨g, cap, cur, hv, Nat.le_trans hb hg, r⟩)⟩
end

theorem grown_old {w w' : World} {v : Value} {base sz n b o : Nat} {e : TypeId} {xs : List Value} (hown : w.ownsRow base e sz v n xs) (hg : w.grownBy w' v.ownBlock) (hb : b < base) (hlt : b < w.heap.size) :
    w'.cell? ⟨b, o, none⟩ = w.cell? ⟨b, o, none⟩ ∧ w'.frozen? ⟨b, o, none⟩ = w.frozen? ⟨b, o, none⟩ := by
  have hblk : w'.heap[b]? = w.heap[b]? := hg.block b hlt (fun e => by
    have := (hown.lt b e.symm).1
    omega)
  exact ⟨World.cell?_of_block (w := w) (a := ⟨b, o, none⟩) hblk, World.frozen?_of_block (w := w) (a := ⟨b, o, none⟩) hblk⟩
theorem cell_alloc_keep {w : World} {b o : Nat} {u : Value} (X : Obj) (hc : w.cell? ⟨b, o, none⟩ = some u) : (w.alloc X).cell? ⟨b, o, none⟩ = some u := by
  have hlt : b < w.heap.size := World.block_lt_of_cell? w ⟨b, o, none⟩ hc
  rw [World.cell?_of_block (w := w) (w' := w.alloc X) (a := ⟨b, o, none⟩) (Below.heap_alloc w X b hlt)]; exact hc
theorem frozen_alloc_keep {w : World} {b o : Nat} {u : Value} (X : Obj) (hc : w.cell? ⟨b, o, none⟩ = some u) (hf : w.frozen? ⟨b, o, none⟩ = false) : (w.alloc X).frozen? ⟨b, o, none⟩ = false := by
  have hlt : b < w.heap.size := World.block_lt_of_cell? w ⟨b, o, none⟩ hc
  rw [World.frozen?_of_block (w := w) (w' := w.alloc X) (a := ⟨b, o, none⟩) (Below.heap_alloc w X b hlt)]; exact hf
theorem frozen_alloc_lt {w : World} {b o : Nat} (X : Obj) (h : b < w.heap.size) (hf : w.frozen? ⟨b, o, none⟩ = false) : (w.alloc X).frozen? ⟨b, o, none⟩ = false := by
  rw [World.frozen?_of_block (w := w) (w' := w.alloc X) (a := ⟨b, o, none⟩) (Below.heap_alloc w X b h)]; exact hf
theorem grown_below {w0 w w' : World} {v : Value} {B base sz n : Nat} {e : TypeId} {xs : List Value} (h : Below B w0 w) (hown : w.ownsRow base e sz v n xs) (hg : w.grownBy w' v.ownBlock) (hB : B ≤ base) (hBw : B ≤ w.heap.size) : Below B w0 w' :=
  h.grown hg hBw (fun k hk => Nat.le_trans hB (hown.lt k hk).1)
theorem news_cells (w : World) (us : List Value) (t : TypeId) : ∀ (j : Nat) (u : Value), us[j]? = some u → (w.alloc (.cells us.toArray t)).cell? ((⟨w.heap.size, 0, none⟩ : Addr).add j) = some u := by
  intro j u h
  have hadd : (⟨w.heap.size, 0, none⟩ : Addr).add j = ⟨w.heap.size, j, none⟩ := by unfold Addr.add; split <;> simp_all
  rw [hadd, World.cell?_alloc_at _ _ _ _ rfl]
  simpa using h
/-- Outside the blocks from lo up to hi nothing that was there has changed. -/
structure Mid (lo hi : Nat) (w w' : World) : Prop where
  os : w'.os = w.os
  tape : w'.tape = w.tape
  output : w'.output = w.output
  size : w.heap.size ≤ w'.heap.size
  block : ∀ k, k < w.heap.size → (k < lo ∨ hi ≤ k) → w'.heap[k]? = w.heap[k]?
theorem Mid.of_below {w w' : World} {lo hi B : Nat} (h : Below B w w') (hB : B = w.heap.size) : Mid lo hi w w' := by
  subst hB
  exact ⟨h.os, h.tape, h.output, h.size, fun k hk _ => h.block k hk⟩
theorem Mid.trans {w w' w'' : World} {lo hi : Nat} (h : Mid lo hi w w') (k : Mid lo hi w' w'') : Mid lo hi w w'' :=
  ⟨k.os.trans h.os, k.tape.trans h.tape, k.output.trans h.output, Nat.le_trans h.size k.size, fun i hi hh => (k.block i (Nat.lt_of_lt_of_le hi h.size) hh).trans (h.block i hi hh)⟩
theorem Mid.alloc (w : World) (lo hi : Nat) (o : Obj) : Mid lo hi w (w.alloc o) := .of_below ((Below.refl w.heap.size w).alloc (Nat.le_refl _) o) rfl
theorem Mid.below {w w' : World} {lo hi B : Nat} (h : Mid lo hi w w') (hB : B ≤ lo) (hBw : B ≤ w.heap.size) : Below B w w' :=
  ⟨h.os, h.tape, h.output, h.size, fun k hk => h.block k (by omega) (.inl (by omega))⟩
theorem Mid.cell {w w' : World} {lo hi b o : Nat} {u : Value} (h : Mid lo hi w w') (hb : b < lo ∨ hi ≤ b) (hc : w.cell? ⟨b, o, none⟩ = some u) : w'.cell? ⟨b, o, none⟩ = some u := by
  have hlt : b < w.heap.size := World.block_lt_of_cell? w ⟨b, o, none⟩ hc
  rw [World.cell?_of_block (w := w) (a := ⟨b, o, none⟩) (h.block b hlt hb)]; exact hc
theorem Mid.own {w w' : World} {lo hi base sz n : Nat} {e : TypeId} {v : Value} {xs : List Value} (h : Mid lo hi w w') (ho : w.ownsRow base e sz v n xs) (hb : ∀ g, v.ownBlock = some g → g < lo ∨ hi ≤ g) : w'.ownsRow base e sz v n xs := by
  refine ⟨ho.1, ?_⟩
  rcases ho.2 with h0 | ⟨g, cap, cur, rfl, hbg, hg, r⟩
  · exact .inl h0
  · exact .inr ⟨g, cap, cur, rfl, hbg, by rw [h.block g (Array.getElem?_eq_some_iff.1 hg).1 (hb g rfl)]; exact hg, r⟩

theorem below_cell {w w' : World} {b o B : Nat} {u : Value} (h : Below B w w') (hB : B = w.heap.size) (hc : w.cell? ⟨b, o, none⟩ = some u) : w'.cell? ⟨b, o, none⟩ = some u := by
  subst hB
  exact (h.cell (p := ⟨b, o, none⟩) (World.block_lt_of_cell? w _ hc)).trans hc

theorem below_frz {w w' : World} {b o B : Nat} (h : Below B w w') (hB : B = w.heap.size) (hlt : b < w.heap.size) (hf : w.frozen? ⟨b, o, none⟩ = false) : w'.frozen? ⟨b, o, none⟩ = false := by
  subst hB
  exact (h.frozen (p := ⟨b, o, none⟩) hlt).trans hf

theorem box_set3 {w3 : World} {nb : Nat} {u0 u1 u2 : Value} (v0 v1 v2 : Value) (c0 : w3.cell? ⟨nb, 0, none⟩ = some u0) (c1 : w3.cell? ⟨nb, 1, none⟩ = some u1) (c2 : w3.cell? ⟨nb, 2, none⟩ = some u2) :
    (((w3.setCell ⟨nb, 0, none⟩ v0).setCell ⟨nb, 1, none⟩ v1).setCell ⟨nb, 2, none⟩ v2).cell? ⟨nb, 0, none⟩ = some v0 ∧ (((w3.setCell ⟨nb, 0, none⟩ v0).setCell ⟨nb, 1, none⟩ v1).setCell ⟨nb, 2, none⟩ v2).cell? ⟨nb, 1, none⟩ = some v1 ∧ (((w3.setCell ⟨nb, 0, none⟩ v0).setCell ⟨nb, 1, none⟩ v1).setCell ⟨nb, 2, none⟩ v2).cell? ⟨nb, 2, none⟩ = some v2 := by
  have ne : ∀ i j : Nat, i ≠ j → (⟨nb, i, none⟩ : Addr) ≠ ⟨nb, j, none⟩ := fun i j h e => h (by injection e)
  have g0 : w3.cell? ⟨nb, 0, none⟩ = some u0 := by exact c0
  have h0 : (w3.setCell ⟨nb, 0, none⟩ v0).cell? ⟨nb, 0, none⟩ = some v0 := World.cell?_setCell_same _ _ _ g0
  have g1 : (w3.setCell ⟨nb, 0, none⟩ v0).cell? ⟨nb, 1, none⟩ = some u1 := by refine (World.cell?_setCell_other _ _ _ _ (ne 0 1 (by omega))).trans ?_; exact c1
  have h1 : ((w3.setCell ⟨nb, 0, none⟩ v0).setCell ⟨nb, 1, none⟩ v1).cell? ⟨nb, 1, none⟩ = some v1 := World.cell?_setCell_same _ _ _ g1
  have g2 : ((w3.setCell ⟨nb, 0, none⟩ v0).setCell ⟨nb, 1, none⟩ v1).cell? ⟨nb, 2, none⟩ = some u2 := by refine (World.cell?_setCell_other _ _ _ _ (ne 1 2 (by omega))).trans ?_; refine (World.cell?_setCell_other _ _ _ _ (ne 0 2 (by omega))).trans ?_; exact c2
  have h2 : (((w3.setCell ⟨nb, 0, none⟩ v0).setCell ⟨nb, 1, none⟩ v1).setCell ⟨nb, 2, none⟩ v2).cell? ⟨nb, 2, none⟩ = some v2 := World.cell?_setCell_same _ _ _ g2
  have k0 : (((w3.setCell ⟨nb, 0, none⟩ v0).setCell ⟨nb, 1, none⟩ v1).setCell ⟨nb, 2, none⟩ v2).cell? ⟨nb, 0, none⟩ = some v0 := by refine (World.cell?_setCell_other _ _ _ _ (ne 2 0 (by omega))).trans ?_; refine (World.cell?_setCell_other _ _ _ _ (ne 1 0 (by omega))).trans ?_; exact h0
  have k1 : (((w3.setCell ⟨nb, 0, none⟩ v0).setCell ⟨nb, 1, none⟩ v1).setCell ⟨nb, 2, none⟩ v2).cell? ⟨nb, 1, none⟩ = some v1 := by refine (World.cell?_setCell_other _ _ _ _ (ne 2 1 (by omega))).trans ?_; exact h1
  have k2 : (((w3.setCell ⟨nb, 0, none⟩ v0).setCell ⟨nb, 1, none⟩ v1).setCell ⟨nb, 2, none⟩ v2).cell? ⟨nb, 2, none⟩ = some v2 := by exact h2
  exact ⟨k0, k1, k2⟩
theorem grown_trans0 {a b c : World} {row : Option Nat} (h1 : a.grownBy b row) (h2 : b.grownBy c row) : a.grownBy c row :=
  ⟨h2.os.trans h1.os, h2.tape.trans h1.tape, h2.output.trans h1.output, Nat.le_trans h1.size h2.size, fun i hi hn => (h2.block i (Nat.lt_of_lt_of_le hi h1.size) hn).trans (h1.block i hi hn)⟩
theorem below_step {w W W' : World} (h : Below w.heap.size w W) (k : Below W.heap.size W W') : Below w.heap.size w W' := h.trans (k.mono h.size)
theorem Mid.rd {w w' : World} {lo hi n sz : Nat} {v : Value} {xs : List Value} (h : Mid lo hi w w') (hr : Rd w v n sz xs) (hb : ∀ a m c, v = .slice (some a) m c → a.block < lo ∨ hi ≤ a.block) : Rd w' v n sz xs := by
  refine ⟨hr.1, ?_⟩
  rcases hr.2 with h0 | ⟨b, off, cap, rfl, h2, h3, h4, h5⟩
  · exact .inl h0
  · exact .inr ⟨b, off, cap, rfl, Nat.lt_of_lt_of_le h2 h.size, h3, h4, fun j u hj => h.cell (hb _ _ _ rfl) (h5 j u hj)⟩

theorem RdI.cases {w : World} {v : Value} {zs : List Int} (h : RdI w v zs) : ((∃ a cap, v = .slice a 0 cap) ∧ zs = []) ∨
    ∃ b off cap, v = .slice (some ⟨b, off, none⟩) zs.length cap ∧ b < w.heap.size ∧ zs.length ≤ cap ∧ cap ≤ 9223372036854775807 ∧ ∀ j, j < zs.length → w.cell? ⟨b, off + j, none⟩ = some (.int .i64 (zs.getD j 0)) := by
  rcases h.2 with ⟨h0, h1⟩ | ⟨b, off, cap, h1, h2, h3, h4, h5⟩
  · exact .inl ⟨h0, List.eq_nil_of_length_eq_zero h1⟩
  · refine .inr ⟨b, off, cap, h1, h2, h3, h4, fun j hj => h5 j _ ?_⟩
    simp [List.getD, hj]
theorem RdI.form {w : World} {v : Value} {zs : List Int} (h : RdI w v zs) : ∃ a cap, v = .slice a zs.length cap ∧ zs.length ≤ 9223372036854775807 := by
  rcases h.cases with ⟨⟨a0, c0, rfl⟩, rfl⟩ | ⟨b, off, cap, rfl, _, h1, h2, _⟩
  · exact ⟨a0, c0, rfl, by simp⟩
  · exact ⟨_, _, rfl, by omega⟩
theorem RdI.cases0 {w : World} {v : Value} {zs : List Int} (h : RdI w v zs) : (zs = [] ∧ ∃ a cap, v = .slice a 0 cap) ∨
    (0 < zs.length ∧ ∃ b off cap, v = .slice (some ⟨b, off, none⟩) zs.length cap ∧ b < w.heap.size ∧ zs.length ≤ cap ∧ cap ≤ 9223372036854775807 ∧ ∀ j, j < zs.length → w.cell? ⟨b, off + j, none⟩ = some (.int .i64 (zs.getD j 0))) := by
  rcases h.cases with ⟨⟨a0, c0, rfl⟩, rfl⟩ | ⟨b, off, cap, rfl, h1, h2, h3, h4⟩
  · exact .inl ⟨rfl, a0, c0, rfl⟩
  · rcases Nat.eq_zero_or_pos zs.length with h0 | h0
    · exact .inl ⟨List.eq_nil_of_length_eq_zero h0, _, _, by rw [h0]⟩
    · exact .inr ⟨h0, b, off, cap, rfl, h1, h2, h3, h4⟩
end Go.Proofs.YtnckabohlakbgaaGreat
namespace Go.Proofs.YtnckabohlakbgaaGreat
set_option linter.unusedSimpArgs false
set_option linter.unusedVariables false
set_option linter.unnecessarySimpa false
set_option maxRecDepth 200000
open Go.ChangeShapes Go.WideShapes Go.ChangeAt Go.RowKit

structure E2 where (a b : Int)
deriving DecidableEq
structure E3 where (a b c : Int)
deriving DecidableEq
structure E4 where (a b c d : Int)
deriving DecidableEq
structure EW where (a b : Int) (h : Bool)
deriving DecidableEq
def E2.cs (x : E2) : List Value := [.int .i64 x.a, .int .i64 x.b]
def E3.cs (x : E3) : List Value := [.int .i64 x.a, .int .i64 x.b, .int .i64 x.c]
def E4.cs (x : E4) : List Value := [.int .i64 x.a, .int .i64 x.b, .int .i64 x.c, .int .i64 x.d]
def EW.cs (x : EW) : List Value := [.int .i64 x.a, .int .i64 x.b, .bool x.h]

theorem E2.len (x : E2) : x.cs.length = 2 := rfl
theorem E3.len (x : E3) : x.cs.length = 3 := rfl
theorem E4.len (x : E4) : x.cs.length = 4 := rfl
theorem EW.len (x : EW) : x.cs.length = 3 := rfl

section
variable {α : Type} {f : α → List Value} {sz : Nat}
theorem flat_len (hf : ∀ x, (f x).length = sz) (xs : List α) : (xs.flatMap f).length = xs.length * sz := by
  induction xs with
  | nil => simp
  | cons x xs ih => simp [hf, ih, Nat.add_mul]; omega
theorem flat_get (hf : ∀ x, (f x).length = sz) : ∀ (xs : List α) (i j : Nat) (hi : i < xs.length), j < sz → (xs.flatMap f)[i * sz + j]? = (f xs[i])[j]?
  | [], _, _, hi, _ => by simp at hi
  | x :: xs, 0, j, _, hj => by
    simp only [List.flatMap_cons, Nat.zero_mul, Nat.zero_add, List.getElem_cons_zero]
    rw [List.getElem?_append_left (by rw [hf]; exact hj)]
  | x :: xs, i + 1, j, hi, hj => by
    simp only [List.flatMap_cons, List.getElem_cons_succ]
    rw [List.getElem?_append_right (by rw [hf, Nat.add_mul]; omega), hf]
    have e : (i + 1) * sz + j - sz = i * sz + j := by rw [Nat.add_mul]; omega
    rw [e]
    exact flat_get hf xs i j (by simpa using hi) hj

/-- A slice value that reads as the elements xs, each of sz cells. -/
def RdE (w : World) (v : Value) (f : α → List Value) (sz : Nat) (xs : List α) : Prop := Rd w v xs.length sz (xs.flatMap f)
/-- A slice of such elements that the call itself has made. -/
def OwnE (w : World) (base : Nat) (e : TypeId) (v : Value) (f : α → List Value) (sz : Nat) (xs : List α) : Prop := w.ownsRow base e sz v xs.length (xs.flatMap f)
theorem OwnE.rd {w : World} {base : Nat} {e : TypeId} {v : Value} {xs : List α} (h : OwnE w base e v f sz xs) : RdE w v f sz xs := Rd.of_own h
theorem OwnE.below {w w' : World} {base B : Nat} {e : TypeId} {v : Value} {xs : List α} (h : OwnE w base e v f sz xs) (hb : Below B w w') (hB : B = w.heap.size) : OwnE w' base e v f sz xs := own_below h hb hB
theorem OwnE.set {w : World} {base : Nat} {e : TypeId} {v : Value} {xs : List α} (h : OwnE w base e v f sz xs) {a : Addr} (ha : a.block < base) (u : Value) : OwnE (w.setCell a u) base e v f sz xs := ownsRow_setCell_below h ha u
theorem OwnE.lt {w : World} {base : Nat} {e : TypeId} {v : Value} {xs : List α} (h : OwnE w base e v f sz xs) : ∀ k, v.ownBlock = some k → base ≤ k ∧ k < w.heap.size := World.ownsRow.lt h
theorem OwnE.le {w : World} {base base' : Nat} {e : TypeId} {v : Value} {xs : List α} (h : OwnE w base e v f sz xs) (hb : base' ≤ base) : OwnE w base' e v f sz xs := own_le h hb
theorem OwnE.nil (w : World) (base : Nat) (e : TypeId) : OwnE w base e (.slice none 0 0) f sz ([] : List α) := World.ownsRow_nil _ _ _ _
theorem OwnE.forms {w : World} {base : Nat} {e : TypeId} {v : Value} {xs : List α} (h : OwnE w base e v f sz xs) : ∃ a cap, v = .slice a xs.length cap := by
  rcases Go.Joins.ownsRow_forms h with ⟨rfl, h0⟩ | ⟨g, cap, rfl⟩
  · exact ⟨none, 0, by rw [h0]⟩
  · exact ⟨_, _, rfl⟩
theorem RdE.below {w w' : World} {B : Nat} {v : Value} {xs : List α} (h : RdE w v f sz xs) (hb : Below B w w') (hB : B = w.heap.size) : RdE w' v f sz xs := Rd.below h hb hB
theorem RdE.form {w : World} {v : Value} {xs : List α} (h : RdE w v f sz xs) : ∃ a cap, v = .slice a xs.length cap ∧ xs.length ≤ 9223372036854775807 := by
  rcases h.2 with ⟨⟨a0, c0, rfl⟩, h0⟩ | ⟨b, off, cap, rfl, _, h1, h2, _⟩
  · exact ⟨a0, c0, by rw [h0], by omega⟩
  · exact ⟨_, _, rfl, by omega⟩
theorem RdE.cases0 {w : World} {v : Value} {xs : List α} (hf : ∀ x, (f x).length = sz) (h : RdE w v f sz xs) : (xs = [] ∧ ∃ a cap, v = .slice a 0 cap) ∨
    (0 < xs.length ∧ ∃ b off cap, v = .slice (some ⟨b, off, none⟩) xs.length cap ∧ b < w.heap.size ∧ xs.length ≤ cap ∧ cap ≤ 9223372036854775807 ∧ ∀ i (hi : i < xs.length) j u, j < sz → (f xs[i])[j]? = some u → w.cell? ⟨b, off + (i * sz + j), none⟩ = some u) := by
  rcases h.2 with ⟨⟨a0, c0, rfl⟩, h0⟩ | ⟨b, off, cap, rfl, h1, h2, h3, h4⟩
  · exact .inl ⟨List.eq_nil_of_length_eq_zero h0, a0, c0, rfl⟩
  · rcases Nat.eq_zero_or_pos xs.length with h0 | h0
    · exact .inl ⟨List.eq_nil_of_length_eq_zero h0, _, _, by rw [h0]⟩
    · exact .inr ⟨h0, b, off, cap, rfl, h1, h2, h3, fun i hi j u hj hu => h4 _ u (by rw [flat_get hf xs i j hi hj]; exact hu)⟩
end
theorem own_lit0 {α : Type} {f : α → List Value} {sz : Nat} (w : World) (base : Nat) (e : TypeId) (g : Nat) (hg : g = w.heap.size) (hb : base ≤ g) : OwnE (w.alloc (.cells #[] e)) base e (.slice (some ⟨g, 0, none⟩) 0 0) f sz ([] : List α) := by
  subst hg
  refine ⟨by simp, .inr ⟨w.heap.size, 0, #[], rfl, hb, ?_, Nat.le_refl _, Nat.zero_le _, by simp, by simp⟩⟩
  show (w.heap.push _)[w.heap.size]? = _
  simp
/-- What a function that answers a list of gates and 'ok' leaves: the gates in a block of its own. -/
def SlPost {α : Type} (f : α → List Value) (sz : Nat) (t : TypeId) (w : World) (r : Option (List α)) (e : Ending) (w' : World) : Prop :=
  ∃ v, e = .returned (.tuple #[v, .bool r.isSome]) ∧ OwnE w' w.heap.size t v f sz (r.getD []) ∧ Below w.heap.size w w'
theorem SlPost.none {α : Type} {f : α → List Value} {sz : Nat} {t : TypeId} {w w' : World} {r : Option (List α)} (hr : r = none) (hb : Below w.heap.size w w') : SlPost f sz t w r (.returned (.tuple #[.slice none 0 0, .bool false])) w' := by
  subst hr; exact ⟨_, rfl, OwnE.nil _ _ _, hb⟩
theorem SlPost.some {α : Type} {f : α → List Value} {sz : Nat} {t : TypeId} {w w' : World} {r : Option (List α)} {xs : List α} {v : Value} (hr : r = some xs) (ho : OwnE w' w.heap.size t v f sz xs) (hb : Below w.heap.size w w') : SlPost f sz t w r (.returned (.tuple #[v, .bool true])) w' := by
  subst hr; exact ⟨_, rfl, ho, hb⟩

end Go.Proofs.YtnckabohlakbgaaGreat
namespace Go.Proofs.YtnckabohlakbgaaGreat
set_option linter.unusedSimpArgs false
set_option linter.unusedVariables false
set_option linter.unnecessarySimpa false
set_option maxRecDepth 200000
open Go.ChangeShapes Go.WideShapes Go.ChangeAt Go.RowKit

structure PN where (p x z : Nat)
deriving DecidableEq
def PN.e (a : PN) : E3 := ⟨(a.p : Int), (a.x : Int), (a.z : Int)⟩
structure PNok (a : PN) : Prop where
  p : a.p ≤ 3
  x : a.x ≤ 31
  z : a.z ≤ 31
def bt (x q : Nat) : Nat := (x.testBit q).toNat
def pop5 (x : Nat) : Nat := bt x 0 + bt x 1 + bt x 2 + bt x 3 + bt x 4
theorem pop_5 {x : Nat} (h : x ≤ 31) : pop x = pop5 x :=
  Nat.eq_of_beq_eq_true (of_natAll (n := 32) (p := fun x => Nat.beq (pop x) (pop5 x)) (by decide +kernel) x (by omega))
theorem xor31 {x y : Nat} (hx : x ≤ 31) (hy : y ≤ 31) : x ^^^ y ≤ 31 := by
  have := Nat.xor_lt_two_pow (x := x) (y := y) (n := 5) (by omega) (by omega); omega
theorem and31 {x y : Nat} (hx : x ≤ 31) : x &&& y ≤ 31 := by
  have : x &&& y ≤ x := Nat.and_le_left
  omega
/-- The product, its phase by sums of one bits. -/
def mulN (a b : PN) : PN :=
  ⟨(a.p + b.p + pop (a.x &&& a.z) + pop (b.x &&& b.z) + 2 * pop (a.z &&& b.x) + 3 * pop ((a.x ^^^ b.x) &&& (a.z ^^^ b.z))) % 4, a.x ^^^ b.x, a.z ^^^ b.z⟩
theorem mulN_ok {a b : PN} (ha : PNok a) (hb : PNok b) : PNok (mulN a b) := by
  refine ⟨?_, xor31 ha.x hb.x, xor31 ha.z hb.z⟩
  unfold mulN; dsimp only; omega
def ltr (a : PN) (q : Nat) : Nat := bt a.x q + 2 * bt a.z q
/-- The table of signs. -/
def sgT (x y : Nat) : Nat :=
  if x = 1 ∧ y = 2 ∨ x = 2 ∧ y = 3 ∨ x = 3 ∧ y = 1 then 3 else if x = 1 ∧ y = 3 ∨ x = 2 ∧ y = 1 ∨ x = 3 ∧ y = 2 then 1 else 0
def sgTo (a b : PN) : Nat → Nat
  | 0 => 0
  | k + 1 => sgTo a b k + sgT (ltr a k) (ltr b k)
theorem sgT_le (x y : Nat) : sgT x y ≤ 3 := by unfold sgT; split <;> (try split) <;> omega
theorem sgTo_le (a b : PN) : ∀ k, sgTo a b k ≤ 3 * k
  | 0 => Nat.le_refl _
  | k + 1 => by have := sgTo_le a b k; have := sgT_le (ltr a k) (ltr b k); unfold sgTo; omega
theorem sg_bit : ∀ ax az bx bz : Bool, (sgT (ax.toNat + 2 * az.toNat) (bx.toNat + 2 * bz.toNat)) % 4 = ((ax && az).toNat + (bx && bz).toNat + 2 * (az && bx).toNat + 3 * ((ax ^^ bx) && (az ^^ bz)).toNat) % 4 := by decide
theorem sg_q (a b : PN) (q : Nat) : (sgT (ltr a q) (ltr b q)) % 4 = (bt (a.x &&& a.z) q + bt (b.x &&& b.z) q + 2 * bt (a.z &&& b.x) q + 3 * bt ((a.x ^^^ b.x) &&& (a.z ^^^ b.z)) q) % 4 := by
  have h := sg_bit (a.x.testBit q) (a.z.testBit q) (b.x.testBit q) (b.z.testBit q)
  unfold ltr bt
  rw [Nat.testBit_and, Nat.testBit_and, Nat.testBit_and, Nat.testBit_and, Nat.testBit_xor, Nat.testBit_xor]
  exact h
theorem mul_sg {a b : PN} (ha : PNok a) (hb : PNok b) : (a.p + b.p + sgTo a b 5) % 4 = (mulN a b).p := by
  unfold mulN; dsimp only
  rw [pop_5 (and31 ha.x), pop_5 (and31 hb.x), pop_5 (and31 ha.z), pop_5 (and31 (xor31 ha.x hb.x))]
  have h0 := sg_q a b 0; have h1 := sg_q a b 1; have h2 := sg_q a b 2; have h3 := sg_q a b 3; have h4 := sg_q a b 4
  simp only [sgTo, pop5]
  omega
/-- Two operators commute. -/
def commN (a b : PN) : Bool := (pop (a.x &&& b.z) + pop (a.z &&& b.x)) % 2 == 0
theorem comm_iff (a b : PN) : (mulN a b = mulN b a) ↔ commN a b = true := by
  unfold mulN commN
  rw [Nat.xor_comm b.x a.x, Nat.xor_comm b.z a.z, Nat.and_comm b.z a.x, beq_iff_eq]
  constructor
  · intro h; injection h with h _ _; omega
  · intro h
    have e : ∀ S u v : Nat, (u + v) % 2 = 0 → (S + 2 * u) % 4 = (S + 2 * v) % 4 := by intro S u v h; omega
    congr 1
    omega
end Go.Proofs.YtnckabohlakbgaaGreat
namespace Go.Proofs.YtnckabohlakbgaaGreat
set_option linter.unusedSimpArgs false
set_option linter.unusedVariables false
set_option linter.unnecessarySimpa false
set_option maxRecDepth 200000
open Go.ChangeShapes Go.WideShapes Go.ChangeAt Go.RowKit

/-- The product of two codes. -/
def mulU (a b : Nat) : Nat := if a = 4 ∨ b = 4 then 4 else (a + b) % 4
theorem mulU_le : ∀ a b : Nat, a ≤ 4 → b ≤ 4 → mulU a b ≤ 4 := by intro a b _ _; unfold mulU; split <;> omega
theorem mulU_ne {a b : Nat} (h : mulU a b ≠ 4) : a ≠ 4 ∧ b ≠ 4 := by
  constructor <;> intro h2 <;> exact h (by unfold mulU; simp [h2])
theorem mulU_swap {a b c d : Nat} (ha : a ≤ 4) (hb : b ≤ 4) (hc : c ≤ 4) (hd : d ≤ 4) : mulU (mulU a b) (mulU c d) = mulU (mulU a c) (mulU b d) := by
  have h : ∀ a : Fin 5, ∀ b : Fin 5, ∀ c : Fin 5, ∀ d : Fin 5, mulU (mulU a b) (mulU c d) = mulU (mulU a c) (mulU b d) := by decide +kernel
  exact h ⟨a, by omega⟩ ⟨b, by omega⟩ ⟨c, by omega⟩ ⟨d, by omega⟩
theorem mulU_assoc {a b c : Nat} (ha : a ≤ 4) (hb : b ≤ 4) (hc : c ≤ 4) : mulU (mulU a b) c = mulU a (mulU b c) := by
  have h : ∀ a : Fin 5, ∀ b : Fin 5, ∀ c : Fin 5, mulU (mulU a b) c = mulU a (mulU b c) := by decide +kernel
  exact h ⟨a, by omega⟩ ⟨b, by omega⟩ ⟨c, by omega⟩
theorem mulU_comm (a b : Nat) : mulU a b = mulU b a := by
  unfold mulU
  by_cases h : a = 4 <;> by_cases h2 : b = 4 <;> simp [h, h2, Nat.add_comm]
/-- The factor of a letter (0 to 3: I, X, Z, Y) for two bits. -/
def facU (l i j : Nat) : Nat :=
  if l = 0 then (if i = j then 0 else 4) else if l = 1 then (if i = j then 4 else 0) else if l = 2 then (if i = j then 2 * i else 4) else if i = j then 4 else 1 + 2 * j
theorem facU_le (l i j : Nat) (hi : i ≤ 1) (hj : j ≤ 1) : facU l i j ≤ 4 := by unfold facU; (repeat' split) <;> omega
/-- The bit of a qubit in a state of n qubits. -/
def qb (n i q : Nat) : Nat := bt i (n - 1 - q)
theorem qb_le (n i q : Nat) : qb n i q ≤ 1 := by unfold qb bt; cases i.testBit (n - 1 - q) <;> decide
/-- The cell of an operator at row i and column j, over the first k qubits. -/
def cellU (n : Nat) (p : PN) (i j : Nat) : Nat → Nat
  | 0 => p.p
  | k + 1 => mulU (cellU n p i j k) (facU (ltr p k) (qb n i k) (qb n j k))
theorem cellU_le (n : Nat) (p : PN) (i j : Nat) (hp : p.p ≤ 3) : ∀ k, cellU n p i j k ≤ 4
  | 0 => by unfold cellU; omega
  | k + 1 => mulU_le _ _ (cellU_le n p i j hp k) (facU_le _ _ _ (qb_le _ _ _) (qb_le _ _ _))
theorem fac_mul : ∀ xa za xb zb i j : Bool,
    mulU (facU (xa.toNat + 2 * za.toNat) i.toNat (i ^^ xa).toNat) (facU (xb.toNat + 2 * zb.toNat) (i ^^ xa).toNat j.toNat) = mulU (sgT (xa.toNat + 2 * za.toNat) (xb.toNat + 2 * zb.toNat)) (facU ((xa ^^ xb).toNat + 2 * (za ^^ zb).toNat) i.toNat j.toNat) := by decide +kernel
/-- Column k is the one where row i of an operator is not zero. -/
def Hits (n x i k : Nat) : Prop := ∀ q, q < n → k.testBit (n - 1 - q) = (i.testBit (n - 1 - q) ^^ x.testBit q)
theorem fac_zero : ∀ xa za i k : Bool, facU (xa.toNat + 2 * za.toNat) i.toNat k.toNat ≠ 4 → k = (i ^^ xa) := by decide +kernel
theorem cellU_hits {n : Nat} {p : PN} {i k : Nat} : ∀ m, cellU n p i k m ≠ 4 → ∀ q, q < m → k.testBit (n - 1 - q) = (i.testBit (n - 1 - q) ^^ p.x.testBit q)
  | 0, _, q, hq => by omega
  | m + 1, h, q, hq => by
    obtain ⟨h1, h2⟩ := mulU_ne h
    by_cases e : q = m
    · subst e; exact fac_zero _ (p.z.testBit q) _ _ h2
    · exact cellU_hits m h1 q (by omega)
theorem sgTo_le4 (x y : Nat) : sgT x y ≤ 4 := Nat.le_trans (sgT_le x y) (by omega)
theorem cell_mul {n : Nat} {a b : PN} {i j k : Nat} (ha : a.p ≤ 3) (hb : b.p ≤ 3) (h : Hits n a.x i k) : ∀ m, m ≤ n →
    mulU (cellU n a i k m) (cellU n b k j m) = cellU n ⟨(a.p + b.p + sgTo a b m) % 4, a.x ^^^ b.x, a.z ^^^ b.z⟩ i j m
  | 0, _ => by
    show mulU a.p b.p = (a.p + b.p + 0) % 4
    unfold mulU
    rw [if_neg (show ¬ (a.p = 4 ∨ b.p = 4) by omega)]; rfl
  | m + 1, hm => by
    have ih := cell_mul (j := j) ha hb h m (by omega)
    have hq := h m (by omega)
    simp only [cellU]
    have f := fac_mul (a.x.testBit m) (a.z.testBit m) (b.x.testBit m) (b.z.testBit m) (i.testBit (n - 1 - m)) (j.testBit (n - 1 - m))
    rw [← hq] at f
    rw [mulU_swap (cellU_le _ _ _ _ ha _) (facU_le _ _ _ (qb_le _ _ _) (qb_le _ _ _)) (cellU_le _ _ _ _ hb _) (facU_le _ _ _ (qb_le _ _ _) (qb_le _ _ _)), ih]
    have f2 : mulU (facU (ltr a m) (qb n i m) (qb n k m)) (facU (ltr b m) (qb n k m) (qb n j m)) = mulU (sgT (ltr a m) (ltr b m)) (facU (ltr ⟨(a.p + b.p + sgTo a b (m + 1)) % 4, a.x ^^^ b.x, a.z ^^^ b.z⟩ m) (qb n i m) (qb n j m)) := by
      unfold ltr qb bt
      dsimp only
      rw [Nat.testBit_xor, Nat.testBit_xor]
      exact f
    rw [f2, ← mulU_assoc (cellU_le _ _ _ _ (by dsimp only; omega) _) (sgTo_le4 _ _) (facU_le _ _ _ (qb_le _ _ _) (qb_le _ _ _))]
    congr 1
    have sh : ∀ (p s : Nat) (x z : Nat), s ≤ 3 → ∀ m, mulU (cellU n ⟨p % 4, x, z⟩ i j m) s = cellU n ⟨(p + s) % 4, x, z⟩ i j m := by
      intro p s x z hs m
      induction m with
      | zero => show mulU (p % 4) s = (p + s) % 4; unfold mulU; rw [if_neg (show ¬ (p % 4 = 4 ∨ s = 4) by omega)]; omega
      | succ m ih =>
        simp only [cellU]
        have e1 : ltr ⟨p % 4, x, z⟩ m = ltr ⟨(p + s) % 4, x, z⟩ m := rfl
        rw [mulU_assoc (cellU_le _ _ _ _ (by dsimp only; omega) _) (facU_le _ _ _ (qb_le _ _ _) (qb_le _ _ _)) (by omega), mulU_comm _ s,
          ← mulU_assoc (cellU_le _ _ _ _ (by dsimp only; omega) _) (by omega) (facU_le _ _ _ (qb_le _ _ _) (qb_le _ _ _)), ih, e1]
    rw [sh _ _ _ _ (sgT_le _ _), show sgTo a b (m + 1) = sgTo a b m + sgT (ltr a m) (ltr b m) from rfl, ← Nat.add_assoc]
theorem bt_high {x n q : Nat} (h : x < 2 ^ n) (hq : n ≤ q) : bt x q = 0 := by
  unfold bt
  rw [Nat.testBit_lt_two_pow (Nat.lt_of_lt_of_le h (Nat.pow_le_pow_right (by omega) hq))]; rfl
theorem sgTo_high {n : Nat} {a b : PN} (hx : a.x < 2 ^ n) (hz : a.z < 2 ^ n) : ∀ d, sgTo a b (n + d) = sgTo a b n
  | 0 => rfl
  | d + 1 => by
    have ih := sgTo_high (b := b) hx hz d
    have e : ltr a (n + d) = 0 := by unfold ltr; rw [bt_high hx (by omega), bt_high hz (by omega)]
    show sgTo a b (n + d) + sgT (ltr a (n + d)) (ltr b (n + d)) = _
    rw [ih, e]
    unfold sgT; simp
/-- The column that row i of an operator hits. -/
def hitN (n x i : Nat) : Nat := i ^^^ ((List.range n).foldl (fun r q => r + 2 ^ (n - 1 - q) * bt x q) 0)
theorem hit_iff : ∀ n : Fin 4, ∀ x : Fin 8, ∀ i : Fin 8, x.val < 2 ^ n.val → i.val < 2 ^ n.val → (hitN n x i < 2 ^ n.val ∧ (∀ q : Fin 3, q.val < n.val → (hitN n x i).testBit (n.val - 1 - q.val) = (i.val.testBit (n.val - 1 - q.val) ^^ x.val.testBit q.val))) := by decide +kernel
theorem bits_eqF : ∀ n : Fin 4, ∀ k : Fin 8, ∀ l : Fin 8, k.val < 2 ^ n.val → l.val < 2 ^ n.val → (∀ q : Fin 3, q.val < n.val → k.val.testBit (n.val - 1 - q.val) = l.val.testBit (n.val - 1 - q.val)) → k = l := by decide +kernel
theorem pow3 {n : Nat} (h : n ≤ 3) : 2 ^ n ≤ 8 := Nat.pow_le_pow_right (by omega) h (n := 2)
theorem hit_lt {n x i : Nat} (hn : n ≤ 3) (hx : x < 2 ^ n) (hi : i < 2 ^ n) : hitN n x i < 2 ^ n := by
  have := pow3 hn
  exact (hit_iff ⟨n, by omega⟩ ⟨x, by omega⟩ ⟨i, by omega⟩ hx hi).1
theorem hit_hits {n x i : Nat} (hn : n ≤ 3) (hx : x < 2 ^ n) (hi : i < 2 ^ n) : Hits n x i (hitN n x i) := fun q hq => by
  have := pow3 hn
  exact (hit_iff ⟨n, by omega⟩ ⟨x, by omega⟩ ⟨i, by omega⟩ hx hi).2 ⟨q, by omega⟩ hq
theorem hits_eq {n x i k : Nat} (hn : n ≤ 3) (hx : x < 2 ^ n) (hi : i < 2 ^ n) (hk : k < 2 ^ n) (h : Hits n x i k) : k = hitN n x i := by
  have h8 := pow3 hn
  have h2 := hit_hits hn hx hi
  have h3 := hit_lt hn hx hi
  have := bits_eqF ⟨n, by omega⟩ ⟨k, by omega⟩ ⟨hitN n x i, by omega⟩ hk h3 (fun q hq => by
    have := h q hq; have h4 := h2 q hq; dsimp only; rw [this, h4])
  injection this
/-- A valid operator on n qubits. -/
structure PNn (n : Nat) (a : PN) : Prop where
  p : a.p ≤ 3
  x : a.x < 2 ^ n
  z : a.z < 2 ^ n
theorem PNn.ok {n : Nat} {a : PN} (hn : n ≤ 5) (h : PNn n a) : PNok a := by
  have : 2 ^ n ≤ 32 := Nat.pow_le_pow_right (by omega) hn (n := 2)
  have := h.x; have := h.z
  exact ⟨h.p, by omega, by omega⟩
/-- The sum of a row with a column, over the first m states. -/
def addU (a b : Nat) : Nat := if a = 4 then b else a
def sumU (n : Nat) (a b : PN) (i j : Nat) : Nat → Nat
  | 0 => 4
  | m + 1 => addU (sumU n a b i j m) (mulU (cellU n a i m n) (cellU n b m j n))
theorem sumU_is {n : Nat} {a b : PN} {i j : Nat} (hn : n ≤ 3) (ha : PNn n a) (hi : i < 2 ^ n) : ∀ m, m ≤ 2 ^ n →
    sumU n a b i j m = if m ≤ hitN n a.x i then 4 else mulU (cellU n a i (hitN n a.x i) n) (cellU n b (hitN n a.x i) j n)
  | 0, _ => by simp [sumU]
  | m + 1, hm => by
    have ih := sumU_is (b := b) (j := j) hn ha hi m (by omega)
    have hz : m ≠ hitN n a.x i → mulU (cellU n a i m n) (cellU n b m j n) = 4 := fun hne => by
      by_cases h : mulU (cellU n a i m n) (cellU n b m j n) = 4
      · exact h
      · exact absurd (hits_eq hn ha.x hi (by omega) (cellU_hits n (mulU_ne h).1)) hne
    simp only [sumU]
    rw [ih]
    by_cases h1 : m ≤ hitN n a.x i
    · rw [if_pos h1]
      by_cases h2 : m = hitN n a.x i
      · rw [if_neg (by omega), ← h2]; simp [addU]
      · rw [if_pos (by omega), hz h2]; rfl
    · rw [if_neg h1, if_neg (by omega), hz (by omega)]
      unfold addU; split
      · rename_i e; exact e.symm
      · rfl
/-- One of the two summands is zero. -/
theorem sumU_one {n : Nat} {a b : PN} {i j m : Nat} (hn : n ≤ 3) (ha : PNn n a) (hi : i < 2 ^ n) (hm : m < 2 ^ n) :
    sumU n a b i j m = 4 ∨ mulU (cellU n a i m n) (cellU n b m j n) = 4 := by
  rw [sumU_is hn ha hi m (by omega)]
  by_cases h1 : m ≤ hitN n a.x i
  · rw [if_pos h1]; exact .inl rfl
  · refine .inr ?_
    by_cases h : mulU (cellU n a i m n) (cellU n b m j n) = 4
    · exact h
    · have := hits_eq hn ha.x hi (by omega) (cellU_hits n (mulU_ne h).1); omega
/-- The matrix of the product is the product of the matrices. -/
theorem sumU_mul {n : Nat} {a b : PN} {i j : Nat} (hn : n ≤ 3) (ha : PNn n a) (hb : PNn n b) (hi : i < 2 ^ n) : sumU n a b i j (2 ^ n) = cellU n (mulN a b) i j n := by
  rw [sumU_is hn ha hi _ (Nat.le_refl _), if_neg (Nat.not_le.2 (hit_lt hn ha.x hi)), cell_mul ha.p hb.p (hit_hits hn ha.x hi) n (Nat.le_refl _)]
  have e := mul_sg (ha.ok (by omega)) (hb.ok (by omega))
  have e2 := sgTo_high (b := b) ha.x ha.z (5 - n)
  rw [show n + (5 - n) = 5 by omega] at e2
  rw [e2] at e
  rw [e]
  rfl
theorem mulN_n {n : Nat} {a b : PN} (ha : PNn n a) (hb : PNn n b) : PNn n (mulN a b) := by
  refine ⟨?_, Nat.xor_lt_two_pow ha.x hb.x, Nat.xor_lt_two_pow ha.z hb.z⟩
  unfold mulN; dsimp only; omega
end Go.Proofs.YtnckabohlakbgaaGreat
namespace Go.Proofs.YtnckabohlakbgaaGreat
set_option linter.unusedSimpArgs false
set_option linter.unusedVariables false
set_option linter.unnecessarySimpa false
set_option maxRecDepth 200000
open Go.RowKit

theorem block_of_add (a : Addr) (n : Nat) : (a.add n).block = a.block := by unfold Addr.add; split <;> rfl
def Reads (w : World) (B size : Nat) (A : Option Addr) (n : Nat) (xs : List Value) : Prop :=
  xs.length = n * size ∧ (0 < n → ∃ ad, A = some ad ∧ ad.block < B ∧ ∀ j u, xs[j]? = some u → w.cell? (ad.add j) = some u)

section
variable {w w' : World} {B B' size n : Nat} {A : Option Addr} {xs : List Value}
theorem Reads.keep (h : Reads w B size A n xs) (hk : ∀ p : Addr, p.block < B → w'.cell? p = w.cell? p) : Reads w' B size A n xs :=
  ⟨h.1, fun hn => by
    obtain ⟨ad, e, hb, hc⟩ := h.2 hn
    exact ⟨ad, e, hb, fun j u hu => (hk _ (by rw [block_of_add]; exact hb)).trans (hc j u hu)⟩⟩
theorem Reads.below (h : Reads w B size A n xs) (hb : Below B w w') : Reads w' B size A n xs := h.keep fun _ hp => hb.cell hp
theorem Reads.drew (h : Reads w B size A n xs) : Reads w.drew B size A n xs := h
theorem Reads.drewN (h : Reads w B size A n xs) (k : Nat) : Reads (w.drewN k) B size A n xs := h
theorem Reads.alloc (h : Reads w B size A n xs) (hB : B ≤ w.heap.size) (o : Obj) : Reads (w.alloc o) B size A n xs := h.keep fun p hp => World.cell?_alloc_lt w o p (by omega)
theorem Reads.setCell (h : Reads w B size A n xs) {p : Addr} (hB : B ≤ p.block) (u : Value) : Reads (w.setCell p u) B size A n xs :=
  h.keep fun q hq => World.cell?_setCell_other w p q u (fun e => by subst e; omega)
theorem Reads.grown (h : Reads w B size A n xs) {row : Option Nat} (hg : w.grownBy w' row) (hB : B ≤ w.heap.size) (hr : ∀ g, row = some g → B ≤ g) : Reads w' B size A n xs :=
  h.keep fun p hp => World.cell?_of_block (hg.block p.block (by omega) (fun e => by have := hr _ e.symm; omega))
theorem Reads.of_own {base : Nat} {e : TypeId} {c : Nat} (h : w.ownsRow base e size (.slice A n c) n xs) : Reads w w.heap.size size A n xs := by
  refine ⟨h.1, fun hn => ?_⟩
  obtain ⟨g, cap, hv, _, hlt⟩ := h.form hn
  have hA : A = some ⟨g, 0, none⟩ := by injection hv
  subst hA
  exact ⟨_, rfl, hlt, h.cells (g := g) rfl⟩
end

section
variable {P : Program} (w : World)

theorem run_append_of_nil (base : Nat) (t ty e : TypeId) (i : TypeInfo) (size : Nat) (ht : P.underlying t = some (.slice e)) (hi : P.info? e = some i)
    (v : Value) (n : Nat) (xs : List Value) (hown : w.ownsRow base e size v n xs) (c : Nat) : (Builtin.append_ #[t, t] ty #[v, .slice none 0 c]).run P w = .ok v w := by
  rcases hown.2 with ⟨rfl, rfl⟩ | ⟨g, cap, cur, rfl, _, _, hnc, _⟩
  · simp [Builtin.append_, run_underlying ht, sizeOf, typeInfo, hi, Builtin.lenOf, Builtin.firstCells]
  · simp [Builtin.append_, run_underlying ht, sizeOf, typeInfo, hi, Builtin.lenOf, Builtin.firstCells, hnc, storeCells]

theorem run_append_any (base : Nat) (t ty e : TypeId) (i : TypeInfo) (z : Value) (size bytes : Nat) (ht : P.underlying t = some (.slice e)) (hi : P.info? e = some i) (hz : i.zero = some z)
    (hsize : i.size = size) (hby : i.bytes = bytes) (hzs : z.cells.size = size) (hsz : 0 < size)
    (v : Value) (n : Nat) (xs : List Value) (hown : w.ownsRow base e size v n xs)
    (B : Nat) (A : Option Addr) (m c : Nat) (news : List Value) (hr : Reads w B size A m news) (h1 : ∀ u ∈ news, u.oneCell' = true)
    (h63 : n + m ≤ maxLen) (hbytes : (n + m) * bytes ≤ 140737488355328) (hbase : base ≤ w.heap.size) :
    ∃ v' w', (Builtin.append_ #[t, t] ty #[v, .slice A m c]).run P w = .ok v' w' ∧ w'.ownsRow base e size v' (n + m) (xs ++ news) ∧ w.grownBy w' v.ownBlock ∧
      (v'.ownBlock = v.ownBlock ∨ v'.ownBlock = some w.heap.size) := by
  rcases A with _ | ad
  · have hm : m = 0 := by
      rcases Nat.eq_zero_or_pos m with h0 | h0
      · exact h0
      · obtain ⟨ad, h, _⟩ := hr.2 h0
        cases h
    subst hm
    have hn : news = [] := List.eq_nil_of_length_eq_zero (by simpa using hr.1)
    subst hn
    exact ⟨v, w, run_append_of_nil w base t ty e i size ht hi v n xs hown c, by simpa using hown, World.grownBy.refl w _, .inl rfl⟩
  · have hcells : ∀ j u, news[j]? = some u → w.cell? (ad.add j) = some u := by
      intro j u hu
      rcases Nat.eq_zero_or_pos m with h0 | h0
      · subst h0
        have hn : news = [] := List.eq_nil_of_length_eq_zero (by simpa using hr.1)
        subst hn
        simp at hu
      · obtain ⟨ad', h, _, hc⟩ := hr.2 h0
        injection h with h
        subst h
        exact hc j u hu
    obtain ⟨v', w', hrun, h2, h3, _, h5⟩ := run_append_own_at (P := P) w base t ty e i z size bytes ht hi hz hsize hby hzs hsz v n xs hown ad m c news hr.1 hcells h1 h63 hbytes hbase
    exact ⟨v', w', hrun, h2, h3, h5⟩

theorem wp_append_any {o : Oper} {a : Act} {K : Act → World → Prop} {Q : Exit → Act → World → Prop} (s x : Operand) (t : TypeId)
    (ho : o.op = .call { callee := .builtin .append, args := #[s, x], argTypes := #[t, t] })
    (base : Nat) (e : TypeId) (i : TypeInfo) (z : Value) (size bytes : Nat) (ht : P.underlying t = some (.slice e)) (hi : P.info? e = some i) (hz : i.zero = some z)
    (hsize : i.size = size) (hby : i.bytes = bytes) (hzs : z.cells.size = size) (hsz : 0 < size)
    (v : Value) (n : Nat) (xs : List Value) (hs : a.eval s = v) (hown : w.ownsRow base e size v n xs)
    (B : Nat) (A : Option Addr) (m c : Nat) (news : List Value) (hx : a.eval x = .slice A m c) (hr : Reads w B size A m news) (h1 : ∀ u ∈ news, u.oneCell' = true)
    (h63 : n + m ≤ maxLen) (hbytes : (n + m) * bytes ≤ 140737488355328) (hbase : base ≤ w.heap.size)
    (h : ∀ v' w', w'.ownsRow base e size v' (n + m) (xs ++ news) → w.grownBy w' v.ownBlock → (v'.ownBlock = v.ownBlock ∨ v'.ownBlock = some w.heap.size) → K (a.put o.dst v') w') : o.wp P a w K Q := by
  obtain ⟨v', w', hrun, h2, h3, h4⟩ := run_append_any (P := P) w base t o.type e i z size bytes ht hi hz hsize hby hzs hsz v n xs hown B A m c news hr h1 h63 hbytes hbase
  unfold Oper.wp execOp
  simp only [ho, resolve, invoke, builtin, Sem.run_bind, Sem.run_pure, Result.andThen_ok, List.map_toArray, List.map_cons, List.map_nil, hs, hx, hrun]
  exact h v' w' h2 h3 h4

theorem wpList_append_any {ops : Array Oper} {rest : List Oper} {o : Oper} {a : Act} {Q : Exit → Act → World → Prop} (hgd : o.guard = none) (s x : Operand) (t : TypeId)
    (ho : o.op = .call { callee := .builtin .append, args := #[s, x], argTypes := #[t, t] })
    (base : Nat) (e : TypeId) (i : TypeInfo) (z : Value) (size bytes : Nat) (ht : P.underlying t = some (.slice e)) (hi : P.info? e = some i) (hz : i.zero = some z)
    (hsize : i.size = size) (hby : i.bytes = bytes) (hzs : z.cells.size = size) (hsz : 0 < size)
    (v : Value) (n : Nat) (xs : List Value) (hs : a.eval s = v) (hown : w.ownsRow base e size v n xs)
    (B : Nat) (A : Option Addr) (m c : Nat) (news : List Value) (hx : a.eval x = .slice A m c) (hr : Reads w B size A m news) (h1 : ∀ u ∈ news, u.oneCell' = true)
    (h63 : n + m ≤ maxLen) (hbytes : (n + m) * bytes ≤ 140737488355328) (hbase : base ≤ w.heap.size)
    (h : ∀ v' w', w'.ownsRow base e size v' (n + m) (xs ++ news) → w.grownBy w' v.ownBlock → (v'.ownBlock = v.ownBlock ∨ v'.ownBlock = some w.heap.size) → wpList P ops Q rest (a.put o.dst v') w') : wpList P ops Q (o :: rest) a w :=
  wpList_plain hgd fun _ hK => wp_append_any w s x t ho base e i z size bytes ht hi hz hsize hby hzs hsz v n xs hs hown B A m c news hx hr h1 h63 hbytes hbase fun v' w' h2 h3 h4 => hK _ _ (h v' w' h2 h3 h4)

theorem step_append_any {ops : Array Oper} {o : Oper} {a : Act} {K : Act → World → Prop} {Q : Exit → Act → World → Prop} {E : Prop} (hgd : o.guard = none) (s x : Operand) (t : TypeId)
    (ho : o.op = .call { callee := .builtin .append, args := #[s, x], argTypes := #[t, t] })
    (base : Nat) (e : TypeId) (i : TypeInfo) (z : Value) (size bytes : Nat) (ht : P.underlying t = some (.slice e)) (hi : P.info? e = some i) (hz : i.zero = some z)
    (hsize : i.size = size) (hby : i.bytes = bytes) (hzs : z.cells.size = size) (hsz : 0 < size)
    (v : Value) (n : Nat) (xs : List Value) (hs : a.eval s = v) (hown : w.ownsRow base e size v n xs)
    (B : Nat) (A : Option Addr) (m c : Nat) (news : List Value) (hx : a.eval x = .slice A m c) (hr : Reads w B size A m news) (h1 : ∀ u ∈ news, u.oneCell' = true)
    (h63 : n + m ≤ maxLen) (hbytes : (n + m) * bytes ≤ 140737488355328) (hbase : base ≤ w.heap.size)
    (h : ∀ v' w', w'.ownsRow base e size v' (n + m) (xs ++ news) → w.grownBy w' v.ownBlock → (v'.ownBlock = v.ownBlock ∨ v'.ownBlock = some w.heap.size) → K (a.put o.dst v') w') :
    if Region.wanted o (yielded ops a.tmps) = true then Oper.wp P o a w K Q else E := by
  have hw : Region.wanted o (yielded ops a.tmps) = true := by simp [Region.wanted, hgd]
  rw [if_pos hw]
  exact wp_append_any w s x t ho base e i z size bytes ht hi hz hsize hby hzs hsz v n xs hs hown B A m c news hx hr h1 h63 hbytes hbase h
end

theorem Reads.of_rd {w : World} {sz n c : Nat} {A : Option Addr} {xs : List Value} (h : Rd w (.slice A n c) n sz xs) : Reads w w.heap.size sz A n xs := by
  refine ⟨h.1, fun hn => ?_⟩
  rcases h.2 with ⟨_, h0⟩ | ⟨b, off, cap, e, hb, _, _, hc⟩
  · omega
  · injection e with e1 e2 e3
    subst e1
    exact ⟨⟨b, off, none⟩, rfl, hb, fun j u hu => by rw [Addr.add_lit]; exact hc j u hu⟩
theorem flat_one {α : Type} {f : α → List Value} (hf : ∀ x, ∀ u ∈ f x, u.oneCell' = true) (xs : List α) : ∀ u ∈ xs.flatMap f, u.oneCell' = true := by
  intro u hu
  obtain ⟨x, _, hx⟩ := List.mem_flatMap.1 hu
  exact hf x u hx
theorem E2.one (x : E2) : ∀ u ∈ x.cs, u.oneCell' = true := by intro u hu; simp [E2.cs] at hu; rcases hu with rfl | rfl <;> rfl
theorem E3.one (x : E3) : ∀ u ∈ x.cs, u.oneCell' = true := by intro u hu; simp [E3.cs] at hu; rcases hu with rfl | rfl | rfl <;> rfl
theorem EW.one (x : EW) : ∀ u ∈ x.cs, u.oneCell' = true := by intro u hu; simp [EW.cs] at hu; rcases hu with rfl | rfl | rfl <;> rfl
end Go.Proofs.YtnckabohlakbgaaGreat
