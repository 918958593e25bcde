/- Slices that are read, and slices that a call has made itself: general lemmas over any program. -/
import Derived.Test.YtjdffjnennodaaaZ00Base
import Derived.OwnWalk
import Derived.Laws.MakeOwn
import Derived.Deep.Light
import Derived.BigQuiet
import Derived.Deep.QuietTactic
namespace Go.Proofs.Ytjdffjnennodaaa
set_option linter.unusedSimpArgs false
set_option linter.unusedVariables false
set_option linter.unnecessarySimpa false
set_option maxRecDepth 200000
open Go.ChangeShapes Go.WideShapes Go.ChangeAt Go.RowKit

/-- A slice value of n elements of sz cells each, which reads as the cells xs. -/
def Rd (w : World) (v : Value) (n sz : Nat) (xs : List Value) : Prop :=
  xs.length = n * sz ∧ (((∃ a cap, v = .slice a 0 cap) ∧ n = 0) ∨ ∃ b off cap, v = .slice (some ⟨b, off, none⟩) n cap ∧ b < w.heap.size ∧ n ≤ cap ∧ cap ≤ 9223372036854775807 ∧ ∀ j u, xs[j]? = some u → w.cell? ⟨b, off + j, none⟩ = some u)
/-- The same for whole numbers. -/
def RdI (w : World) (v : Value) (zs : List Int) : Prop := Rd w v zs.length 1 (zs.map (Value.int .i64))

section
variable {w w' : World} {v : Value} {n sz : Nat} {xs : List Value} {base : Nat} {e : TypeId}
theorem Rd.below {B : Nat} (h : Rd w v n sz xs) (hb : Below B w w') (hB : B = w.heap.size) : Rd w' v n sz xs := by
  subst hB
  refine ⟨h.1, ?_⟩
  rcases h.2 with h0 | ⟨b, off, cap, h1, h2, h3, h4, h5⟩
  · exact .inl h0
  · exact .inr ⟨b, off, cap, h1, Nat.lt_of_lt_of_le h2 hb.size, h3, h4, fun j u hj => by rw [hb.cell (p := ⟨b, off + j, none⟩) h2]; exact h5 j u hj⟩
theorem Rd.of_own (h : w.ownsRow base e sz v n xs) : Rd w v n sz xs := by
  refine ⟨h.1, ?_⟩
  rcases h.2 with h0 | ⟨g, cap, cur, rfl, hbg, hg, hnc, hcm, hcs, htake⟩
  · exact .inl ⟨⟨none, 0, h0.1⟩, h0.2⟩
  · refine .inr ⟨g, 0, cap, rfl, (Array.getElem?_eq_some_iff.1 hg).1, hnc, by simpa [maxLen] using hcm, fun j u hj => ?_⟩
    have := World.ownsRow.cells h (g := g) rfl j u hj
    rw [Nat.zero_add]
    have hadd : (⟨g, 0, none⟩ : Addr).add j = ⟨g, j, none⟩ := by unfold Addr.add; split <;> simp_all
    rw [← hadd]; exact this
theorem own_below {B : Nat} (h : w.ownsRow base e sz v n xs) (hb : Below B w w') (hB : B = w.heap.size) : w'.ownsRow base e sz v n xs := by
  subst hB
  refine ⟨h.1, ?_⟩
  rcases h.2 with h0 | ⟨g, cap, cur, rfl, hbg, hg, r⟩
  · exact .inl h0
  · exact .inr ⟨g, cap, cur, rfl, hbg, by rw [hb.block g (Array.getElem?_eq_some_iff.1 hg).1]; exact hg, r⟩
theorem own_le {base' : Nat} (h : w.ownsRow base e sz v n xs) (hb : base' ≤ base) : w.ownsRow base' e sz v n xs :=
  ⟨h.1, h.2.elim Or.inl (fun ⟨g, cap, cur, hv, hg, r⟩ => Or.inr ⟨g, cap, cur, hv, Nat.le_trans hb hg, r⟩)⟩
/-- Only the blocks of one slice may have changed. -/
theorem below_of_grown {row : Option Nat} {B : Nat} (hg : w.grownBy w' row) (hB : B ≤ w.heap.size) (hr : ∀ k, row = some k → B ≤ k) : Below B w w' :=
  (Below.refl B w).grown hg hB hr
end

theorem grown_old {w w' : World} {v : Value} {base sz n b o : Nat} {e : TypeId} {xs : List Value} (hown : w.ownsRow base e sz v n xs) (hg : w.grownBy w' v.ownBlock) (hb : b < base) (hlt : b < w.heap.size) :
    w'.cell? ⟨b, o, none⟩ = w.cell? ⟨b, o, none⟩ ∧ w'.frozen? ⟨b, o, none⟩ = w.frozen? ⟨b, o, none⟩ := by
  have hblk : w'.heap[b]? = w.heap[b]? := hg.block b hlt (fun e => by
    have := (hown.lt b e.symm).1
    omega)
  exact ⟨World.cell?_of_block (w := w) (a := ⟨b, o, none⟩) hblk, World.frozen?_of_block (w := w) (a := ⟨b, o, none⟩) hblk⟩
theorem grown_keep {w w' : World} {v u : Value} {base sz n b o : Nat} {e : TypeId} {xs : List Value} (X : Obj) (hown : w.ownsRow base e sz v n xs) (hg : (w.alloc X).grownBy w' v.ownBlock) (hc : w.cell? ⟨b, o, none⟩ = some u) (hf : w.frozen? ⟨b, o, none⟩ = false) (hb : b < base) :
    w'.cell? ⟨b, o, none⟩ = some u ∧ w'.frozen? ⟨b, o, none⟩ = false := by
  have hlt : b < w.heap.size := World.block_lt_of_cell? w ⟨b, o, none⟩ hc
  have h := grown_old (o := o) (hown.alloc X) hg hb (by simp; omega)
  rw [World.cell?_of_block (w := w) (w' := w.alloc X) (a := ⟨b, o, none⟩) (Below.heap_alloc w X b hlt), World.frozen?_of_block (w := w) (w' := w.alloc X) (a := ⟨b, o, none⟩) (Below.heap_alloc w X b hlt)] at h
  exact ⟨h.1.trans hc, h.2.trans hf⟩
theorem cell_alloc_keep {w : World} {b o : Nat} {u : Value} (X : Obj) (hc : w.cell? ⟨b, o, none⟩ = some u) : (w.alloc X).cell? ⟨b, o, none⟩ = some u := by
  have hlt : b < w.heap.size := World.block_lt_of_cell? w ⟨b, o, none⟩ hc
  rw [World.cell?_of_block (w := w) (w' := w.alloc X) (a := ⟨b, o, none⟩) (Below.heap_alloc w X b hlt)]; exact hc
theorem cell_alloc_swap {w : World} {b o : Nat} {u : Value} (X Y : Obj) (hb : b < w.heap.size) (hc : (w.alloc Y).cell? ⟨b, o, none⟩ = some u) : (w.alloc X).cell? ⟨b, o, none⟩ = some u := by
  rw [World.cell?_of_block (w := w) (w' := w.alloc Y) (a := ⟨b, o, none⟩) (Below.heap_alloc w Y b hb)] at hc
  rw [World.cell?_of_block (w := w) (w' := w.alloc X) (a := ⟨b, o, none⟩) (Below.heap_alloc w X b hb)]; exact hc
theorem cell_set_keep {w : World} {nb b o o2 : Nat} {u v : Value} (hb : b < nb) (hc : w.cell? ⟨b, o, none⟩ = some u) : (w.setCell ⟨nb, o2, none⟩ v).cell? ⟨b, o, none⟩ = some u :=
  ((Below.setCell (p := ⟨nb, o2, none⟩) (Below.refl nb w) (Nat.le_refl _) v).cell (p := ⟨b, o, none⟩) hb).trans hc
theorem frozen_alloc_keep {w : World} {b o : Nat} {u : Value} (X : Obj) (hc : w.cell? ⟨b, o, none⟩ = some u) (hf : w.frozen? ⟨b, o, none⟩ = false) : (w.alloc X).frozen? ⟨b, o, none⟩ = false := by
  have hlt : b < w.heap.size := World.block_lt_of_cell? w ⟨b, o, none⟩ hc
  rw [World.frozen?_of_block (w := w) (w' := w.alloc X) (a := ⟨b, o, none⟩) (Below.heap_alloc w X b hlt)]; exact hf
theorem frozen_alloc_lt {w : World} {b o : Nat} (X : Obj) (h : b < w.heap.size) (hf : w.frozen? ⟨b, o, none⟩ = false) : (w.alloc X).frozen? ⟨b, o, none⟩ = false := by
  rw [World.frozen?_of_block (w := w) (w' := w.alloc X) (a := ⟨b, o, none⟩) (Below.heap_alloc w X b h)]; exact hf
theorem grown_same {w w' : World} {v u : Value} {base sz n b o : Nat} {e : TypeId} {xs : List Value} (hown : w.ownsRow base e sz v n xs) (hg : w.grownBy w' v.ownBlock) (hc : w.cell? ⟨b, o, none⟩ = some u) (hf : w.frozen? ⟨b, o, none⟩ = false) (hb : b < base) :
    w'.cell? ⟨b, o, none⟩ = some u ∧ w'.frozen? ⟨b, o, none⟩ = false := by
  have hlt : b < w.heap.size := World.block_lt_of_cell? w ⟨b, o, none⟩ hc
  have h := grown_old (o := o) hown hg hb hlt
  exact ⟨h.1.trans hc, h.2.trans hf⟩
theorem grown_below {w0 w w' : World} {v : Value} {B base sz n : Nat} {e : TypeId} {xs : List Value} (h : Below B w0 w) (hown : w.ownsRow base e sz v n xs) (hg : w.grownBy w' v.ownBlock) (hB : B ≤ base) (hBw : B ≤ w.heap.size) : Below B w0 w' :=
  h.grown hg hBw (fun k hk => Nat.le_trans hB (hown.lt k hk).1)
theorem news_cells (w : World) (us : List Value) (t : TypeId) : ∀ (j : Nat) (u : Value), us[j]? = some u → (w.alloc (.cells us.toArray t)).cell? ((⟨w.heap.size, 0, none⟩ : Addr).add j) = some u := by
  intro j u h
  have hadd : (⟨w.heap.size, 0, none⟩ : Addr).add j = ⟨w.heap.size, j, none⟩ := by unfold Addr.add; split <;> simp_all
  rw [hadd, World.cell?_alloc_at _ _ _ _ rfl]
  simpa using h
/-- 'append' to a slice of the call's own, of one element or more: what comes out shows what it is. -/
theorem wpList_append_some {P : Program} (w : World) {ops : Array Oper} {rest : List Oper} {o : Oper} {a : Act} {Q : Exit → Act → World → Prop} (hgd : o.guard = none) (s x : Operand) (t : TypeId)
    (ho : o.op = .call { callee := .builtin .append, args := #[s, x], argTypes := #[t, t] })
    (base : Nat) (e : TypeId) (i : TypeInfo) (z : Value) (size bytes : Nat) (ht : P.underlying t = some (.slice e)) (hi : P.info? e = some i) (hz : i.zero = some z)
    (hsize : i.size = size) (hby : i.bytes = bytes) (hzs : z.cells.size = size) (hsz : 0 < size)
    (v : Value) (n : Nat) (xs : List Value) (hs : a.eval s = v) (hown : w.ownsRow base e size v n xs)
    (ad : Addr) (m c : Nat) (news : List Value) (hx : a.eval x = .slice (some ad) m c) (hl : news.length = m * size) (hnews : ∀ j u, news[j]? = some u → w.cell? (ad.add j) = some u) (h1 : ∀ u ∈ news, u.oneCell' = true)
    (h63 : n + m ≤ maxLen) (hbytes : (n + m) * bytes ≤ 140737488355328) (hbase : base ≤ w.heap.size) (hm : 0 < m)
    (h : ∀ g cap w', w'.ownsRow base e size (.slice (some ⟨g, 0, none⟩) (n + m) cap) (n + m) (xs ++ news) → base ≤ g → w.grownBy w' v.ownBlock → w.heap.size ≤ w'.heap.size → wpList P ops Q rest (a.put o.dst (.slice (some ⟨g, 0, none⟩) (n + m) cap)) w') : wpList P ops Q (o :: rest) a w := by
  refine wpList_append_own w hgd s x t ho base e i z size bytes ht hi hz hsize hby hzs hsz v n xs hs hown ad m c news hx hl hnews h1 h63 hbytes hbase ?_
  intro v' w' ho' hg' _
  obtain ⟨g, cap, rfl⟩ := Go.Joins.ownsRow_form ho' (by omega)
  exact h g cap w' ho' (ho'.lt g rfl).1 hg' hg'.size

/-- Outside the blocks from lo up to hi nothing that was there has changed. -/
structure Mid (lo hi : Nat) (w w' : World) : Prop where
  os : w'.os = w.os
  tape : w'.tape = w.tape
  output : w'.output = w.output
  size : w.heap.size ≤ w'.heap.size
  block : ∀ k, k < w.heap.size → (k < lo ∨ hi ≤ k) → w'.heap[k]? = w.heap[k]?
theorem Mid.of_grown {w w' : World} {row : Option Nat} {lo hi : Nat} (h : w.grownBy w' row) (hr : ∀ k, row = some k → lo ≤ k ∧ k < hi) : Mid lo hi w w' :=
  ⟨h.os, h.tape, h.output, h.size, fun k hk hkk => h.block k hk (fun e => by have := hr k e.symm; omega)⟩
theorem Mid.of_below {w w' : World} {lo hi B : Nat} (h : Below B w w') (hB : B = w.heap.size) : Mid lo hi w w' := by
  subst hB
  exact ⟨h.os, h.tape, h.output, h.size, fun k hk _ => h.block k hk⟩
theorem Mid.trans {w w' w'' : World} {lo hi : Nat} (h : Mid lo hi w w') (k : Mid lo hi w' w'') : Mid lo hi w w'' :=
  ⟨k.os.trans h.os, k.tape.trans h.tape, k.output.trans h.output, Nat.le_trans h.size k.size, fun i hi hh => (k.block i (Nat.lt_of_lt_of_le hi h.size) hh).trans (h.block i hi hh)⟩
theorem Mid.alloc (w : World) (lo hi : Nat) (o : Obj) : Mid lo hi w (w.alloc o) := .of_below ((Below.refl w.heap.size w).alloc (Nat.le_refl _) o) rfl
theorem Mid.below {w w' : World} {lo hi B : Nat} (h : Mid lo hi w w') (hB : B ≤ lo) (hBw : B ≤ w.heap.size) : Below B w w' :=
  ⟨h.os, h.tape, h.output, h.size, fun k hk => h.block k (by omega) (.inl (by omega))⟩
theorem Mid.cell {w w' : World} {lo hi b o : Nat} {u : Value} (h : Mid lo hi w w') (hb : b < lo ∨ hi ≤ b) (hc : w.cell? ⟨b, o, none⟩ = some u) : w'.cell? ⟨b, o, none⟩ = some u := by
  have hlt : b < w.heap.size := World.block_lt_of_cell? w ⟨b, o, none⟩ hc
  rw [World.cell?_of_block (w := w) (a := ⟨b, o, none⟩) (h.block b hlt hb)]; exact hc
theorem Mid.own {w w' : World} {lo hi base sz n : Nat} {e : TypeId} {v : Value} {xs : List Value} (h : Mid lo hi w w') (ho : w.ownsRow base e sz v n xs) (hb : ∀ g, v.ownBlock = some g → g < lo ∨ hi ≤ g) : w'.ownsRow base e sz v n xs := by
  refine ⟨ho.1, ?_⟩
  rcases ho.2 with h0 | ⟨g, cap, cur, rfl, hbg, hg, r⟩
  · exact .inl h0
  · exact .inr ⟨g, cap, cur, rfl, hbg, by rw [h.block g (Array.getElem?_eq_some_iff.1 hg).1 (hb g rfl)]; exact hg, r⟩

theorem below_cell {w w' : World} {b o B : Nat} {u : Value} (h : Below B w w') (hB : B = w.heap.size) (hc : w.cell? ⟨b, o, none⟩ = some u) : w'.cell? ⟨b, o, none⟩ = some u := by
  subst hB
  exact (h.cell (p := ⟨b, o, none⟩) (World.block_lt_of_cell? w _ hc)).trans hc

theorem below_frz {w w' : World} {b o B : Nat} (h : Below B w w') (hB : B = w.heap.size) (hlt : b < w.heap.size) (hf : w.frozen? ⟨b, o, none⟩ = false) : w'.frozen? ⟨b, o, none⟩ = false := by
  subst hB
  exact (h.frozen (p := ⟨b, o, none⟩) hlt).trans hf

/-- A box of four cells, made ahead of a call: what the call leaves of it. -/
theorem new_box4 {w w3 : World} {z0 z1 z2 z3 : Value} {t : TypeId} (hb : Below (w.alloc (.cells #[z0, z1, z2, z3] t)).heap.size (w.alloc (.cells #[z0, z1, z2, z3] t)) w3) :
    (w3.cell? ⟨w.heap.size, 0, none⟩ = some z0 ∧ w3.cell? ⟨w.heap.size, 1, none⟩ = some z1 ∧ w3.cell? ⟨w.heap.size, 2, none⟩ = some z2 ∧ w3.cell? ⟨w.heap.size, 3, none⟩ = some z3) ∧
    (w3.frozen? ⟨w.heap.size, 0, none⟩ = false ∧ w3.frozen? ⟨w.heap.size, 1, none⟩ = false ∧ w3.frozen? ⟨w.heap.size, 2, none⟩ = false ∧ w3.frozen? ⟨w.heap.size, 3, none⟩ = false) ∧ w.heap.size < w3.heap.size := by
  have hs : w.heap.size < (w.alloc (.cells #[z0, z1, z2, z3] t)).heap.size := by simp
  have hc := fun o u h => below_cell (b := w.heap.size) (o := o) (u := u) hb rfl h
  obtain ⟨_, hf⟩ := bcell hb
  refine ⟨⟨hc 0 _ ?_, hc 1 _ ?_, hc 2 _ ?_, hc 3 _ ?_⟩, ⟨?_, ?_, ?_, ?_⟩, Nat.lt_of_lt_of_le hs hb.size⟩
  all_goals first | (rw [World.cell?_alloc_at _ _ _ _ rfl]; rfl) | (rw [hf _ _ hs]; refine World.frozen?_alloc_at _ _ _ _ ?_; simp)
theorem new_box4d {w w3 : World} {z0 z1 z2 z3 : Value} {t : TypeId} (hb : Below (w.alloc (.cells #[z0, z1, z2, z3] t)).drew.heap.size (w.alloc (.cells #[z0, z1, z2, z3] t)).drew w3) :
    (w3.cell? ⟨w.heap.size, 0, none⟩ = some z0 ∧ w3.cell? ⟨w.heap.size, 1, none⟩ = some z1 ∧ w3.cell? ⟨w.heap.size, 2, none⟩ = some z2 ∧ w3.cell? ⟨w.heap.size, 3, none⟩ = some z3) ∧
    (w3.frozen? ⟨w.heap.size, 0, none⟩ = false ∧ w3.frozen? ⟨w.heap.size, 1, none⟩ = false ∧ w3.frozen? ⟨w.heap.size, 2, none⟩ = false ∧ w3.frozen? ⟨w.heap.size, 3, none⟩ = false) ∧ w.heap.size < w3.heap.size := by
  have hs : w.heap.size < (w.alloc (.cells #[z0, z1, z2, z3] t)).drew.heap.size := by simp
  have hc : ∀ o u, (w.alloc (.cells #[z0, z1, z2, z3] t)).cell? ⟨w.heap.size, o, none⟩ = some u → w3.cell? ⟨w.heap.size, o, none⟩ = some u := fun o u h => ((bcell hb).1 _ o hs).trans h
  have hf : ∀ o, (w.alloc (.cells #[z0, z1, z2, z3] t)).frozen? ⟨w.heap.size, o, none⟩ = false → w3.frozen? ⟨w.heap.size, o, none⟩ = false := fun o h => ((bcell hb).2 _ o hs).trans h
  refine ⟨⟨hc 0 _ ?_, hc 1 _ ?_, hc 2 _ ?_, hc 3 _ ?_⟩, ⟨hf _ ?_, hf _ ?_, hf _ ?_, hf _ ?_⟩, Nat.lt_of_lt_of_le hs hb.size⟩
  all_goals first | (rw [World.cell?_alloc_at _ _ _ _ rfl]; rfl) | (refine World.frozen?_alloc_at _ _ _ _ ?_; simp)
/-- The box that a declared variable of four cells lies in, whichever the order of its making was. -/
theorem box_made {w3 : World} {z0 z1 z2 z3 : Value} {t : TypeId} : 
    ((w3.alloc (.cells #[z0, z1, z2, z3] t)).cell? ⟨w3.heap.size, 0, none⟩ = some z0 ∧ (w3.alloc (.cells #[z0, z1, z2, z3] t)).cell? ⟨w3.heap.size, 1, none⟩ = some z1 ∧ (w3.alloc (.cells #[z0, z1, z2, z3] t)).cell? ⟨w3.heap.size, 2, none⟩ = some z2 ∧ (w3.alloc (.cells #[z0, z1, z2, z3] t)).cell? ⟨w3.heap.size, 3, none⟩ = some z3) ∧ w3.heap.size < (w3.alloc (.cells #[z0, z1, z2, z3] t)).heap.size := by
  refine ⟨⟨?_, ?_, ?_, ?_⟩, by simp⟩
  all_goals (rw [World.cell?_alloc_at _ _ _ _ rfl]; rfl)
theorem box_set {w3 : World} {nb : Nat} {u0 u1 u2 u3 : Value} (v0 v1 v2 v3 : Value) (c0 : w3.cell? ⟨nb, 0, none⟩ = some u0) (c1 : w3.cell? ⟨nb, 1, none⟩ = some u1) (c2 : w3.cell? ⟨nb, 2, none⟩ = some u2) (c3 : w3.cell? ⟨nb, 3, none⟩ = some u3) (hl : nb < w3.heap.size) :
    (((((w3.setCell ⟨nb, 0, none⟩ v0).setCell ⟨nb, 1, none⟩ v1).setCell ⟨nb, 2, none⟩ v2).setCell ⟨nb, 3, none⟩ v3).cell? ⟨nb, 0, none⟩ = some v0 ∧
     ((((w3.setCell ⟨nb, 0, none⟩ v0).setCell ⟨nb, 1, none⟩ v1).setCell ⟨nb, 2, none⟩ v2).setCell ⟨nb, 3, none⟩ v3).cell? ⟨nb, 1, none⟩ = some v1 ∧
     ((((w3.setCell ⟨nb, 0, none⟩ v0).setCell ⟨nb, 1, none⟩ v1).setCell ⟨nb, 2, none⟩ v2).setCell ⟨nb, 3, none⟩ v3).cell? ⟨nb, 2, none⟩ = some v2 ∧
     ((((w3.setCell ⟨nb, 0, none⟩ v0).setCell ⟨nb, 1, none⟩ v1).setCell ⟨nb, 2, none⟩ v2).setCell ⟨nb, 3, none⟩ v3).cell? ⟨nb, 3, none⟩ = some v3) ∧
     nb < ((((w3.setCell ⟨nb, 0, none⟩ v0).setCell ⟨nb, 1, none⟩ v1).setCell ⟨nb, 2, none⟩ v2).setCell ⟨nb, 3, none⟩ v3).heap.size := by
  have ne : ∀ i j : Nat, i ≠ j → (⟨nb, i, none⟩ : Addr) ≠ ⟨nb, j, none⟩ := fun i j h e => h (by injection e)
  have g1 : (w3.setCell ⟨nb, 0, none⟩ v0).cell? ⟨nb, 1, none⟩ = some u1 := (World.cell?_setCell_other _ _ _ _ (ne 0 1 (by omega))).trans c1
  have g2 : ((w3.setCell ⟨nb, 0, none⟩ v0).setCell ⟨nb, 1, none⟩ v1).cell? ⟨nb, 2, none⟩ = some u2 := (World.cell?_setCell_other _ _ _ _ (ne 1 2 (by omega))).trans ((World.cell?_setCell_other _ _ _ _ (ne 0 2 (by omega))).trans c2)
  have g3 : (((w3.setCell ⟨nb, 0, none⟩ v0).setCell ⟨nb, 1, none⟩ v1).setCell ⟨nb, 2, none⟩ v2).cell? ⟨nb, 3, none⟩ = some u3 := (World.cell?_setCell_other _ _ _ _ (ne 2 3 (by omega))).trans ((World.cell?_setCell_other _ _ _ _ (ne 1 3 (by omega))).trans ((World.cell?_setCell_other _ _ _ _ (ne 0 3 (by omega))).trans c3))
  have h0 := World.cell?_setCell_same _ _ v0 c0
  have h1 := World.cell?_setCell_same _ _ v1 g1
  have h2 := World.cell?_setCell_same _ _ v2 g2
  have h3 := World.cell?_setCell_same _ _ v3 g3
  refine ⟨⟨?_, ?_, ?_, h3⟩, World.block_lt_of_cell? _ _ h3⟩
  · exact (World.cell?_setCell_other _ _ _ _ (ne 3 0 (by omega))).trans ((World.cell?_setCell_other _ _ _ _ (ne 2 0 (by omega))).trans ((World.cell?_setCell_other _ _ _ _ (ne 1 0 (by omega))).trans h0))
  · exact (World.cell?_setCell_other _ _ _ _ (ne 3 1 (by omega))).trans ((World.cell?_setCell_other _ _ _ _ (ne 2 1 (by omega))).trans h1)
  · exact (World.cell?_setCell_other _ _ _ _ (ne 3 2 (by omega))).trans h2
theorem box_set2 {w3 : World} {nb : Nat} {u0 u1 : Value} (v0 v1 : Value) (c0 : w3.cell? ⟨nb, 0, none⟩ = some u0) (c1 : w3.cell? ⟨nb, 1, none⟩ = some u1) :
    ((w3.setCell ⟨nb, 0, none⟩ v0).setCell ⟨nb, 1, none⟩ v1).cell? ⟨nb, 0, none⟩ = some v0 ∧ ((w3.setCell ⟨nb, 0, none⟩ v0).setCell ⟨nb, 1, none⟩ v1).cell? ⟨nb, 1, none⟩ = some v1 := by
  have ne : ∀ i j : Nat, i ≠ j → (⟨nb, i, none⟩ : Addr) ≠ ⟨nb, j, none⟩ := fun i j h e => h (by injection e)
  have g0 : w3.cell? ⟨nb, 0, none⟩ = some u0 := by exact c0
  have h0 : (w3.setCell ⟨nb, 0, none⟩ v0).cell? ⟨nb, 0, none⟩ = some v0 := World.cell?_setCell_same _ _ _ g0
  have g1 : (w3.setCell ⟨nb, 0, none⟩ v0).cell? ⟨nb, 1, none⟩ = some u1 := by refine (World.cell?_setCell_other _ _ _ _ (ne 0 1 (by omega))).trans ?_; exact c1
  have h1 : ((w3.setCell ⟨nb, 0, none⟩ v0).setCell ⟨nb, 1, none⟩ v1).cell? ⟨nb, 1, none⟩ = some v1 := World.cell?_setCell_same _ _ _ g1
  have k0 : ((w3.setCell ⟨nb, 0, none⟩ v0).setCell ⟨nb, 1, none⟩ v1).cell? ⟨nb, 0, none⟩ = some v0 := by refine (World.cell?_setCell_other _ _ _ _ (ne 1 0 (by omega))).trans ?_; exact h0
  have k1 : ((w3.setCell ⟨nb, 0, none⟩ v0).setCell ⟨nb, 1, none⟩ v1).cell? ⟨nb, 1, none⟩ = some v1 := by exact h1
  exact ⟨k0, k1⟩
theorem box_set3 {w3 : World} {nb : Nat} {u0 u1 u2 : Value} (v0 v1 v2 : Value) (c0 : w3.cell? ⟨nb, 0, none⟩ = some u0) (c1 : w3.cell? ⟨nb, 1, none⟩ = some u1) (c2 : w3.cell? ⟨nb, 2, none⟩ = some u2) :
    (((w3.setCell ⟨nb, 0, none⟩ v0).setCell ⟨nb, 1, none⟩ v1).setCell ⟨nb, 2, none⟩ v2).cell? ⟨nb, 0, none⟩ = some v0 ∧ (((w3.setCell ⟨nb, 0, none⟩ v0).setCell ⟨nb, 1, none⟩ v1).setCell ⟨nb, 2, none⟩ v2).cell? ⟨nb, 1, none⟩ = some v1 ∧ (((w3.setCell ⟨nb, 0, none⟩ v0).setCell ⟨nb, 1, none⟩ v1).setCell ⟨nb, 2, none⟩ v2).cell? ⟨nb, 2, none⟩ = some v2 := by
  have ne : ∀ i j : Nat, i ≠ j → (⟨nb, i, none⟩ : Addr) ≠ ⟨nb, j, none⟩ := fun i j h e => h (by injection e)
  have g0 : w3.cell? ⟨nb, 0, none⟩ = some u0 := by exact c0
  have h0 : (w3.setCell ⟨nb, 0, none⟩ v0).cell? ⟨nb, 0, none⟩ = some v0 := World.cell?_setCell_same _ _ _ g0
  have g1 : (w3.setCell ⟨nb, 0, none⟩ v0).cell? ⟨nb, 1, none⟩ = some u1 := by refine (World.cell?_setCell_other _ _ _ _ (ne 0 1 (by omega))).trans ?_; exact c1
  have h1 : ((w3.setCell ⟨nb, 0, none⟩ v0).setCell ⟨nb, 1, none⟩ v1).cell? ⟨nb, 1, none⟩ = some v1 := World.cell?_setCell_same _ _ _ g1
  have g2 : ((w3.setCell ⟨nb, 0, none⟩ v0).setCell ⟨nb, 1, none⟩ v1).cell? ⟨nb, 2, none⟩ = some u2 := by refine (World.cell?_setCell_other _ _ _ _ (ne 1 2 (by omega))).trans ?_; refine (World.cell?_setCell_other _ _ _ _ (ne 0 2 (by omega))).trans ?_; exact c2
  have h2 : (((w3.setCell ⟨nb, 0, none⟩ v0).setCell ⟨nb, 1, none⟩ v1).setCell ⟨nb, 2, none⟩ v2).cell? ⟨nb, 2, none⟩ = some v2 := World.cell?_setCell_same _ _ _ g2
  have k0 : (((w3.setCell ⟨nb, 0, none⟩ v0).setCell ⟨nb, 1, none⟩ v1).setCell ⟨nb, 2, none⟩ v2).cell? ⟨nb, 0, none⟩ = some v0 := by refine (World.cell?_setCell_other _ _ _ _ (ne 2 0 (by omega))).trans ?_; refine (World.cell?_setCell_other _ _ _ _ (ne 1 0 (by omega))).trans ?_; exact h0
  have k1 : (((w3.setCell ⟨nb, 0, none⟩ v0).setCell ⟨nb, 1, none⟩ v1).setCell ⟨nb, 2, none⟩ v2).cell? ⟨nb, 1, none⟩ = some v1 := by refine (World.cell?_setCell_other _ _ _ _ (ne 2 1 (by omega))).trans ?_; exact h1
  have k2 : (((w3.setCell ⟨nb, 0, none⟩ v0).setCell ⟨nb, 1, none⟩ v1).setCell ⟨nb, 2, none⟩ v2).cell? ⟨nb, 2, none⟩ = some v2 := by exact h2
  exact ⟨k0, k1, k2⟩
theorem box_set4c {w3 : World} {nb : Nat} {u0 u1 u2 u3 : Value} (v0 v1 v2 v3 : Value) (c0 : w3.cell? ⟨nb, 0, none⟩ = some u0) (c1 : w3.cell? ⟨nb, 1, none⟩ = some u1) (c2 : w3.cell? ⟨nb, 2, none⟩ = some u2) (c3 : w3.cell? ⟨nb, 3, none⟩ = some u3) :
    ((((w3.setCell ⟨nb, 0, none⟩ v0).setCell ⟨nb, 1, none⟩ v1).setCell ⟨nb, 2, none⟩ v2).setCell ⟨nb, 3, none⟩ v3).cell? ⟨nb, 0, none⟩ = some v0 ∧ ((((w3.setCell ⟨nb, 0, none⟩ v0).setCell ⟨nb, 1, none⟩ v1).setCell ⟨nb, 2, none⟩ v2).setCell ⟨nb, 3, none⟩ v3).cell? ⟨nb, 1, none⟩ = some v1 ∧ ((((w3.setCell ⟨nb, 0, none⟩ v0).setCell ⟨nb, 1, none⟩ v1).setCell ⟨nb, 2, none⟩ v2).setCell ⟨nb, 3, none⟩ v3).cell? ⟨nb, 2, none⟩ = some v2 ∧ ((((w3.setCell ⟨nb, 0, none⟩ v0).setCell ⟨nb, 1, none⟩ v1).setCell ⟨nb, 2, none⟩ v2).setCell ⟨nb, 3, none⟩ v3).cell? ⟨nb, 3, none⟩ = some v3 := by
  have ne : ∀ i j : Nat, i ≠ j → (⟨nb, i, none⟩ : Addr) ≠ ⟨nb, j, none⟩ := fun i j h e => h (by injection e)
  have g0 : w3.cell? ⟨nb, 0, none⟩ = some u0 := by exact c0
  have h0 : (w3.setCell ⟨nb, 0, none⟩ v0).cell? ⟨nb, 0, none⟩ = some v0 := World.cell?_setCell_same _ _ _ g0
  have g1 : (w3.setCell ⟨nb, 0, none⟩ v0).cell? ⟨nb, 1, none⟩ = some u1 := by refine (World.cell?_setCell_other _ _ _ _ (ne 0 1 (by omega))).trans ?_; exact c1
  have h1 : ((w3.setCell ⟨nb, 0, none⟩ v0).setCell ⟨nb, 1, none⟩ v1).cell? ⟨nb, 1, none⟩ = some v1 := World.cell?_setCell_same _ _ _ g1
  have g2 : ((w3.setCell ⟨nb, 0, none⟩ v0).setCell ⟨nb, 1, none⟩ v1).cell? ⟨nb, 2, none⟩ = some u2 := by refine (World.cell?_setCell_other _ _ _ _ (ne 1 2 (by omega))).trans ?_; refine (World.cell?_setCell_other _ _ _ _ (ne 0 2 (by omega))).trans ?_; exact c2
  have h2 : (((w3.setCell ⟨nb, 0, none⟩ v0).setCell ⟨nb, 1, none⟩ v1).setCell ⟨nb, 2, none⟩ v2).cell? ⟨nb, 2, none⟩ = some v2 := World.cell?_setCell_same _ _ _ g2
  have g3 : (((w3.setCell ⟨nb, 0, none⟩ v0).setCell ⟨nb, 1, none⟩ v1).setCell ⟨nb, 2, none⟩ v2).cell? ⟨nb, 3, none⟩ = some u3 := by refine (World.cell?_setCell_other _ _ _ _ (ne 2 3 (by omega))).trans ?_; refine (World.cell?_setCell_other _ _ _ _ (ne 1 3 (by omega))).trans ?_; refine (World.cell?_setCell_other _ _ _ _ (ne 0 3 (by omega))).trans ?_; exact c3
  have h3 : ((((w3.setCell ⟨nb, 0, none⟩ v0).setCell ⟨nb, 1, none⟩ v1).setCell ⟨nb, 2, none⟩ v2).setCell ⟨nb, 3, none⟩ v3).cell? ⟨nb, 3, none⟩ = some v3 := World.cell?_setCell_same _ _ _ g3
  have k0 : ((((w3.setCell ⟨nb, 0, none⟩ v0).setCell ⟨nb, 1, none⟩ v1).setCell ⟨nb, 2, none⟩ v2).setCell ⟨nb, 3, none⟩ v3).cell? ⟨nb, 0, none⟩ = some v0 := by refine (World.cell?_setCell_other _ _ _ _ (ne 3 0 (by omega))).trans ?_; refine (World.cell?_setCell_other _ _ _ _ (ne 2 0 (by omega))).trans ?_; refine (World.cell?_setCell_other _ _ _ _ (ne 1 0 (by omega))).trans ?_; exact h0
  have k1 : ((((w3.setCell ⟨nb, 0, none⟩ v0).setCell ⟨nb, 1, none⟩ v1).setCell ⟨nb, 2, none⟩ v2).setCell ⟨nb, 3, none⟩ v3).cell? ⟨nb, 1, none⟩ = some v1 := by refine (World.cell?_setCell_other _ _ _ _ (ne 3 1 (by omega))).trans ?_; refine (World.cell?_setCell_other _ _ _ _ (ne 2 1 (by omega))).trans ?_; exact h1
  have k2 : ((((w3.setCell ⟨nb, 0, none⟩ v0).setCell ⟨nb, 1, none⟩ v1).setCell ⟨nb, 2, none⟩ v2).setCell ⟨nb, 3, none⟩ v3).cell? ⟨nb, 2, none⟩ = some v2 := by refine (World.cell?_setCell_other _ _ _ _ (ne 3 2 (by omega))).trans ?_; exact h2
  have k3 : ((((w3.setCell ⟨nb, 0, none⟩ v0).setCell ⟨nb, 1, none⟩ v1).setCell ⟨nb, 2, none⟩ v2).setCell ⟨nb, 3, none⟩ v3).cell? ⟨nb, 3, none⟩ = some v3 := by exact h3
  exact ⟨k0, k1, k2, k3⟩
theorem box_set5 {w3 : World} {nb : Nat} {u0 u1 u2 u3 u4 : Value} (v0 v1 v2 v3 v4 : Value) (c0 : w3.cell? ⟨nb, 0, none⟩ = some u0) (c1 : w3.cell? ⟨nb, 1, none⟩ = some u1) (c2 : w3.cell? ⟨nb, 2, none⟩ = some u2) (c3 : w3.cell? ⟨nb, 3, none⟩ = some u3) (c4 : w3.cell? ⟨nb, 4, none⟩ = some u4) :
    (((((w3.setCell ⟨nb, 0, none⟩ v0).setCell ⟨nb, 1, none⟩ v1).setCell ⟨nb, 2, none⟩ v2).setCell ⟨nb, 3, none⟩ v3).setCell ⟨nb, 4, none⟩ v4).cell? ⟨nb, 0, none⟩ = some v0 ∧ (((((w3.setCell ⟨nb, 0, none⟩ v0).setCell ⟨nb, 1, none⟩ v1).setCell ⟨nb, 2, none⟩ v2).setCell ⟨nb, 3, none⟩ v3).setCell ⟨nb, 4, none⟩ v4).cell? ⟨nb, 1, none⟩ = some v1 ∧ (((((w3.setCell ⟨nb, 0, none⟩ v0).setCell ⟨nb, 1, none⟩ v1).setCell ⟨nb, 2, none⟩ v2).setCell ⟨nb, 3, none⟩ v3).setCell ⟨nb, 4, none⟩ v4).cell? ⟨nb, 2, none⟩ = some v2 ∧ (((((w3.setCell ⟨nb, 0, none⟩ v0).setCell ⟨nb, 1, none⟩ v1).setCell ⟨nb, 2, none⟩ v2).setCell ⟨nb, 3, none⟩ v3).setCell ⟨nb, 4, none⟩ v4).cell? ⟨nb, 3, none⟩ = some v3 ∧ (((((w3.setCell ⟨nb, 0, none⟩ v0).setCell ⟨nb, 1, none⟩ v1).setCell ⟨nb, 2, none⟩ v2).setCell ⟨nb, 3, none⟩ v3).setCell ⟨nb, 4, none⟩ v4).cell? ⟨nb, 4, none⟩ = some v4 := by
  have ne : ∀ i j : Nat, i ≠ j → (⟨nb, i, none⟩ : Addr) ≠ ⟨nb, j, none⟩ := fun i j h e => h (by injection e)
  have g0 : w3.cell? ⟨nb, 0, none⟩ = some u0 := by exact c0
  have h0 : (w3.setCell ⟨nb, 0, none⟩ v0).cell? ⟨nb, 0, none⟩ = some v0 := World.cell?_setCell_same _ _ _ g0
  have g1 : (w3.setCell ⟨nb, 0, none⟩ v0).cell? ⟨nb, 1, none⟩ = some u1 := by refine (World.cell?_setCell_other _ _ _ _ (ne 0 1 (by omega))).trans ?_; exact c1
  have h1 : ((w3.setCell ⟨nb, 0, none⟩ v0).setCell ⟨nb, 1, none⟩ v1).cell? ⟨nb, 1, none⟩ = some v1 := World.cell?_setCell_same _ _ _ g1
  have g2 : ((w3.setCell ⟨nb, 0, none⟩ v0).setCell ⟨nb, 1, none⟩ v1).cell? ⟨nb, 2, none⟩ = some u2 := by refine (World.cell?_setCell_other _ _ _ _ (ne 1 2 (by omega))).trans ?_; refine (World.cell?_setCell_other _ _ _ _ (ne 0 2 (by omega))).trans ?_; exact c2
  have h2 : (((w3.setCell ⟨nb, 0, none⟩ v0).setCell ⟨nb, 1, none⟩ v1).setCell ⟨nb, 2, none⟩ v2).cell? ⟨nb, 2, none⟩ = some v2 := World.cell?_setCell_same _ _ _ g2
  have g3 : (((w3.setCell ⟨nb, 0, none⟩ v0).setCell ⟨nb, 1, none⟩ v1).setCell ⟨nb, 2, none⟩ v2).cell? ⟨nb, 3, none⟩ = some u3 := by refine (World.cell?_setCell_other _ _ _ _ (ne 2 3 (by omega))).trans ?_; refine (World.cell?_setCell_other _ _ _ _ (ne 1 3 (by omega))).trans ?_; refine (World.cell?_setCell_other _ _ _ _ (ne 0 3 (by omega))).trans ?_; exact c3
  have h3 : ((((w3.setCell ⟨nb, 0, none⟩ v0).setCell ⟨nb, 1, none⟩ v1).setCell ⟨nb, 2, none⟩ v2).setCell ⟨nb, 3, none⟩ v3).cell? ⟨nb, 3, none⟩ = some v3 := World.cell?_setCell_same _ _ _ g3
  have g4 : ((((w3.setCell ⟨nb, 0, none⟩ v0).setCell ⟨nb, 1, none⟩ v1).setCell ⟨nb, 2, none⟩ v2).setCell ⟨nb, 3, none⟩ v3).cell? ⟨nb, 4, none⟩ = some u4 := by refine (World.cell?_setCell_other _ _ _ _ (ne 3 4 (by omega))).trans ?_; refine (World.cell?_setCell_other _ _ _ _ (ne 2 4 (by omega))).trans ?_; refine (World.cell?_setCell_other _ _ _ _ (ne 1 4 (by omega))).trans ?_; refine (World.cell?_setCell_other _ _ _ _ (ne 0 4 (by omega))).trans ?_; exact c4
  have h4 : (((((w3.setCell ⟨nb, 0, none⟩ v0).setCell ⟨nb, 1, none⟩ v1).setCell ⟨nb, 2, none⟩ v2).setCell ⟨nb, 3, none⟩ v3).setCell ⟨nb, 4, none⟩ v4).cell? ⟨nb, 4, none⟩ = some v4 := World.cell?_setCell_same _ _ _ g4
  have k0 : (((((w3.setCell ⟨nb, 0, none⟩ v0).setCell ⟨nb, 1, none⟩ v1).setCell ⟨nb, 2, none⟩ v2).setCell ⟨nb, 3, none⟩ v3).setCell ⟨nb, 4, none⟩ v4).cell? ⟨nb, 0, none⟩ = some v0 := by refine (World.cell?_setCell_other _ _ _ _ (ne 4 0 (by omega))).trans ?_; refine (World.cell?_setCell_other _ _ _ _ (ne 3 0 (by omega))).trans ?_; refine (World.cell?_setCell_other _ _ _ _ (ne 2 0 (by omega))).trans ?_; refine (World.cell?_setCell_other _ _ _ _ (ne 1 0 (by omega))).trans ?_; exact h0
  have k1 : (((((w3.setCell ⟨nb, 0, none⟩ v0).setCell ⟨nb, 1, none⟩ v1).setCell ⟨nb, 2, none⟩ v2).setCell ⟨nb, 3, none⟩ v3).setCell ⟨nb, 4, none⟩ v4).cell? ⟨nb, 1, none⟩ = some v1 := by refine (World.cell?_setCell_other _ _ _ _ (ne 4 1 (by omega))).trans ?_; refine (World.cell?_setCell_other _ _ _ _ (ne 3 1 (by omega))).trans ?_; refine (World.cell?_setCell_other _ _ _ _ (ne 2 1 (by omega))).trans ?_; exact h1
  have k2 : (((((w3.setCell ⟨nb, 0, none⟩ v0).setCell ⟨nb, 1, none⟩ v1).setCell ⟨nb, 2, none⟩ v2).setCell ⟨nb, 3, none⟩ v3).setCell ⟨nb, 4, none⟩ v4).cell? ⟨nb, 2, none⟩ = some v2 := by refine (World.cell?_setCell_other _ _ _ _ (ne 4 2 (by omega))).trans ?_; refine (World.cell?_setCell_other _ _ _ _ (ne 3 2 (by omega))).trans ?_; exact h2
  have k3 : (((((w3.setCell ⟨nb, 0, none⟩ v0).setCell ⟨nb, 1, none⟩ v1).setCell ⟨nb, 2, none⟩ v2).setCell ⟨nb, 3, none⟩ v3).setCell ⟨nb, 4, none⟩ v4).cell? ⟨nb, 3, none⟩ = some v3 := by refine (World.cell?_setCell_other _ _ _ _ (ne 4 3 (by omega))).trans ?_; exact h3
  have k4 : (((((w3.setCell ⟨nb, 0, none⟩ v0).setCell ⟨nb, 1, none⟩ v1).setCell ⟨nb, 2, none⟩ v2).setCell ⟨nb, 3, none⟩ v3).setCell ⟨nb, 4, none⟩ v4).cell? ⟨nb, 4, none⟩ = some v4 := by exact h4
  exact ⟨k0, k1, k2, k3, k4⟩
theorem old_box4 {w2 w3 : World} {b : Nat} {z0 z1 z2 z3 : Value} (hb : Below w2.heap.size w2 w3)
    (c : w2.cell? ⟨b, 0, none⟩ = some z0 ∧ w2.cell? ⟨b, 1, none⟩ = some z1 ∧ w2.cell? ⟨b, 2, none⟩ = some z2 ∧ w2.cell? ⟨b, 3, none⟩ = some z3)
    (f : w2.frozen? ⟨b, 0, none⟩ = false ∧ w2.frozen? ⟨b, 1, none⟩ = false ∧ w2.frozen? ⟨b, 2, none⟩ = false ∧ w2.frozen? ⟨b, 3, none⟩ = false) (hl : b < w2.heap.size) :
    (w3.cell? ⟨b, 0, none⟩ = some z0 ∧ w3.cell? ⟨b, 1, none⟩ = some z1 ∧ w3.cell? ⟨b, 2, none⟩ = some z2 ∧ w3.cell? ⟨b, 3, none⟩ = some z3) ∧
    (w3.frozen? ⟨b, 0, none⟩ = false ∧ w3.frozen? ⟨b, 1, none⟩ = false ∧ w3.frozen? ⟨b, 2, none⟩ = false ∧ w3.frozen? ⟨b, 3, none⟩ = false) ∧ b < w3.heap.size :=
  ⟨⟨below_cell hb rfl c.1, below_cell hb rfl c.2.1, below_cell hb rfl c.2.2.1, below_cell hb rfl c.2.2.2⟩,
   ⟨((bcell hb).2 _ _ hl).trans f.1, ((bcell hb).2 _ _ hl).trans f.2.1, ((bcell hb).2 _ _ hl).trans f.2.2.1, ((bcell hb).2 _ _ hl).trans f.2.2.2⟩, Nat.lt_of_lt_of_le hl hb.size⟩

theorem grown_trans0 {a b c : World} {row : Option Nat} (h1 : a.grownBy b row) (h2 : b.grownBy c row) : a.grownBy c row :=
  ⟨h2.os.trans h1.os, h2.tape.trans h1.tape, h2.output.trans h1.output, Nat.le_trans h1.size h2.size, fun i hi hn => (h2.block i (Nat.lt_of_lt_of_le hi h1.size) hn).trans (h1.block i hi hn)⟩
theorem ret_num {k : IntKind} {a b : Int} (h : a = b) : Value.int k a = .int k b := by rw [h]

theorem below_step {w W W' : World} (h : Below w.heap.size w W) (k : Below W.heap.size W W') : Below w.heap.size w W' := h.trans (k.mono h.size)
theorem Mid.rd {w w' : World} {lo hi n sz : Nat} {v : Value} {xs : List Value} (h : Mid lo hi w w') (hr : Rd w v n sz xs) (hb : ∀ a m c, v = .slice (some a) m c → a.block < lo ∨ hi ≤ a.block) : Rd w' v n sz xs := by
  refine ⟨hr.1, ?_⟩
  rcases hr.2 with h0 | ⟨b, off, cap, rfl, h2, h3, h4, h5⟩
  · exact .inl h0
  · exact .inr ⟨b, off, cap, rfl, Nat.lt_of_lt_of_le h2 h.size, h3, h4, fun j u hj => h.cell (hb _ _ _ rfl) (h5 j u hj)⟩

theorem take_next (zs : List Int) (k : Nat) (h : k < zs.length) : zs.take (k + 1) = zs.take k ++ [zs.getD k 0] := by
  rw [List.take_succ_eq_append_getElem h]
  simp [List.getD, h]

theorem RdI.cases {w : World} {v : Value} {zs : List Int} (h : RdI w v zs) : ((∃ a cap, v = .slice a 0 cap) ∧ zs = []) ∨
    ∃ b off cap, v = .slice (some ⟨b, off, none⟩) zs.length cap ∧ b < w.heap.size ∧ zs.length ≤ cap ∧ cap ≤ 9223372036854775807 ∧ ∀ j, j < zs.length → w.cell? ⟨b, off + j, none⟩ = some (.int .i64 (zs.getD j 0)) := by
  rcases h.2 with ⟨h0, h1⟩ | ⟨b, off, cap, h1, h2, h3, h4, h5⟩
  · exact .inl ⟨h0, List.eq_nil_of_length_eq_zero h1⟩
  · refine .inr ⟨b, off, cap, h1, h2, h3, h4, fun j hj => h5 j _ ?_⟩
    simp [List.getD, hj]
theorem RdI.form {w : World} {v : Value} {zs : List Int} (h : RdI w v zs) : ∃ a cap, v = .slice a zs.length cap ∧ zs.length ≤ 9223372036854775807 := by
  rcases h.cases with ⟨⟨a0, c0, rfl⟩, rfl⟩ | ⟨b, off, cap, rfl, _, h1, h2, _⟩
  · exact ⟨a0, c0, rfl, by simp⟩
  · exact ⟨_, _, rfl, by omega⟩
theorem RdI.cases0 {w : World} {v : Value} {zs : List Int} (h : RdI w v zs) : (zs = [] ∧ ∃ a cap, v = .slice a 0 cap) ∨
    (0 < zs.length ∧ ∃ b off cap, v = .slice (some ⟨b, off, none⟩) zs.length cap ∧ b < w.heap.size ∧ zs.length ≤ cap ∧ cap ≤ 9223372036854775807 ∧ ∀ j, j < zs.length → w.cell? ⟨b, off + j, none⟩ = some (.int .i64 (zs.getD j 0))) := by
  rcases h.cases with ⟨⟨a0, c0, rfl⟩, rfl⟩ | ⟨b, off, cap, rfl, h1, h2, h3, h4⟩
  · exact .inl ⟨rfl, a0, c0, rfl⟩
  · rcases Nat.eq_zero_or_pos zs.length with h0 | h0
    · exact .inl ⟨List.eq_nil_of_length_eq_zero h0, _, _, by rw [h0]⟩
    · exact .inr ⟨h0, b, off, cap, rfl, h1, h2, h3, h4⟩
end Go.Proofs.Ytjdffjnennodaaa
