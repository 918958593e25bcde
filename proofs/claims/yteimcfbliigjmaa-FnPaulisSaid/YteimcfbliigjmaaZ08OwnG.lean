/- Slices of three-cell structs that are changed in place: general lemmas over any program. -/
import Derived.Test.YteimcfbliigjmaaZ03Slice1
import Derived.Test.YteimcfbliigjmaaZ04Words
import Derived.Test.YteimcfbliigjmaaZ07Cut1
namespace Go.Proofs.Yteimcfbliigjmaa
set_option linter.unusedSimpArgs false
set_option linter.unusedVariables false
set_option linter.unnecessarySimpa false
set_option maxRecDepth 200000
open Go.ChangeShapes Go.WideShapes Go.ChangeAt Go.RowKit

/-- A slice of three-cell structs of n elements in block g. -/
def OwnG (w : World) (base : Nat) (t : TypeId) (g n cap : Nat) (xs : List E3) : Prop := w.ownsRow base t 3 (.slice (some ⟨g, 0, none⟩) n cap) n (xs.flatMap E3.cs)
theorem OwnG.len {w : World} {base g n cap : Nat} {t : TypeId} {xs : List E3} (h : OwnG w base t g n cap xs) : xs.length = n := by
  have := h.1; rw [flat_len E3.len] at this; omega
theorem OwnG.of {w : World} {base g n cap : Nat} {t : TypeId} {xs : List E3} (h : OwnE w base t (.slice (some ⟨g, 0, none⟩) n cap) E3.cs 3 xs) (hl : xs.length = n) : OwnG w base t g n cap xs := by
  unfold OwnE at h; rw [hl] at h; exact h
theorem OwnG.own {w : World} {base g n cap : Nat} {t : TypeId} {xs : List E3} (h : OwnG w base t g n cap xs) : OwnE w base t (.slice (some ⟨g, 0, none⟩) n cap) E3.cs 3 xs := by
  have hl := h.len; unfold OwnE; rw [hl]; exact h
theorem OwnG.cell {w : World} {base g n cap : Nat} {t : TypeId} {xs : List E3} (h : OwnG w base t g n cap xs) (i : Nat) (hi : i < n) :
    w.cell? ⟨g, i * 3, none⟩ = some (.int .i64 (xs.getD i ⟨0, 0, 0⟩).a) ∧ w.cell? ⟨g, i * 3 + 1, none⟩ = some (.int .i64 (xs.getD i ⟨0, 0, 0⟩).b) ∧ w.cell? ⟨g, i * 3 + 2, none⟩ = some (.int .i64 (xs.getD i ⟨0, 0, 0⟩).c) := by
  have hl := h.len
  have e : xs.getD i ⟨0, 0, 0⟩ = xs[i] := by simp [List.getD, show i < xs.length by omega]
  have key : ∀ j u, j < 3 → (E3.cs xs[i])[j]? = some u → w.cell? ⟨g, i * 3 + j, none⟩ = some u := by
    intro j u hj hu
    have := World.ownsRow.cells h (g := g) rfl (i * 3 + j) u (by rw [flat_get E3.len xs i j (by omega) hj]; exact hu)
    rw [Addr.add_lit, Nat.zero_add] at this
    exact this
  rw [e]
  exact ⟨key 0 _ (by omega) rfl, key 1 _ (by omega) rfl, key 2 _ (by omega) rfl⟩
theorem OwnG.frz {w : World} {base g n cap : Nat} {t : TypeId} {xs : List E3} (h : OwnG w base t g n cap xs) (j : Nat) : w.frozen? ⟨g, j, none⟩ = false := World.ownsRow.frozenAt h j
theorem OwnG.lt {w : World} {base g n cap : Nat} {t : TypeId} {xs : List E3} (h : OwnG w base t g n cap xs) : base ≤ g ∧ g < w.heap.size := World.ownsRow.lt h g rfl
theorem OwnG.below {w w' : World} {base g n cap B : Nat} {t : TypeId} {xs : List E3} (h : OwnG w base t g n cap xs) (hb : Below B w w') (hB : B = w.heap.size) : OwnG w' base t g n cap xs := own_below h hb hB
theorem set_flat (e : E3) : ∀ (xs : List E3) (i : Nat), i < xs.length → (((xs.flatMap E3.cs).set (i * 3) (.int .i64 e.a)).set (i * 3 + 1) (.int .i64 e.b)).set (i * 3 + 2) (.int .i64 e.c) = (xs.set i e).flatMap E3.cs
  | [], _, h => by simp at h
  | x :: xs, 0, _ => by simp [E3.cs]
  | x :: xs, i + 1, h => by
    have ih := set_flat e xs i (by simpa using h)
    simp only [List.flatMap_cons, List.set_cons_succ]
    rw [← ih]
    have h3 : (E3.cs x).length = 3 := rfl
    rw [List.set_append_right _ _ (by rw [h3]; omega), List.set_append_right _ _ (by rw [h3]; omega), List.set_append_right _ _ (by rw [h3]; omega), h3]
    rw [show (i + 1) * 3 - 3 = i * 3 from by omega, show (i + 1) * 3 + 1 - 3 = i * 3 + 1 from by omega, show (i + 1) * 3 + 2 - 3 = i * 3 + 2 from by omega]
theorem OwnG.set {w : World} {base g n cap : Nat} {t : TypeId} {xs : List E3} (h : OwnG w base t g n cap xs) (i : Nat) (hi : i < n) (e : E3) :
    OwnG (((w.setCell ⟨g, i * 3, none⟩ (.int .i64 e.a)).setCell ⟨g, i * 3 + 1, none⟩ (.int .i64 e.b)).setCell ⟨g, i * 3 + 2, none⟩ (.int .i64 e.c)) base t g n cap (xs.set i e) := by
  have hl := h.len
  have h1 := (World.ownsRow.stored h (i * 3) (.int .i64 e.a)).1
  have h2 := (World.ownsRow.stored h1 (i * 3 + 1) (.int .i64 e.b)).1
  have h3 := (World.ownsRow.stored h2 (i * 3 + 2) (.int .i64 e.c)).1
  rw [set_flat e xs i (by omega)] at h3
  exact h3
/-- What a call has just laid into a block of its own reads. -/
theorem reads_news (w : World) (us : List Value) (t : TypeId) (sz m : Nat) (h : us.length = m * sz) : Reads (w.alloc (.cells us.toArray t)) (w.heap.size + 1) sz (some ⟨w.heap.size, 0, none⟩) m us :=
  ⟨h, fun _ => ⟨_, rfl, by simp, news_cells w us t⟩⟩
theorem below_set3 (w : World) (g a b c : Nat) (u v x : Value) : Below 0 w (((w.setCell ⟨g, a, none⟩ u).setCell ⟨g, b, none⟩ v).setCell ⟨g, c, none⟩ x) :=
  Below.setCell (p := ⟨g, c, none⟩) (Below.setCell (p := ⟨g, b, none⟩) (Below.setCell (p := ⟨g, a, none⟩) (Below.refl 0 w) (Nat.zero_le _) u) (Nat.zero_le _) v) (Nat.zero_le _) x
theorem grown_set3 {w0 w : World} {g : Nat} (h : w0.grownBy w (some g)) (hg : g < w0.heap.size) (a b c : Nat) (u v x : Value) : w0.grownBy (((w.setCell ⟨g, a, none⟩ u).setCell ⟨g, b, none⟩ v).setCell ⟨g, c, none⟩ x) (some g) :=
  have q := below_set3 w g a b c u v x
  ⟨q.os.trans h.os, q.tape.trans h.tape, q.output.trans h.output, Nat.le_trans h.size q.size, fun k hk hne => by
    have hkg : k ≠ g := fun e => hne (by rw [e])
    rw [Below.heap_setCell _ _ _ k hkg, Below.heap_setCell _ _ _ k hkg, Below.heap_setCell _ _ _ k hkg]; exact h.block k hk hne⟩
theorem grown_drew {w0 w : World} {r : Option Nat} (h : w0.grownBy w r) : w0.grownBy w.drew r := ⟨h.os, h.tape, h.output, h.size, h.block⟩
theorem grown_call {w0 w w' : World} {r : Option Nat} (h : w0.grownBy w r) (hb : Below w.heap.size w w') : w0.grownBy w' r :=
  ⟨hb.os.trans h.os, hb.tape.trans h.tape, hb.output.trans h.output, Nat.le_trans h.size hb.size, fun k hk hne => (hb.block k (Nat.lt_of_lt_of_le hk h.size)).trans (h.block k hk hne)⟩
theorem rd_set_ne {w : World} {g o n sz c n0 : Nat} {xs : List Value} {p : Addr} (h : Rd w (.slice (some ⟨g, o, none⟩) n c) n0 sz xs) (hne : g ≠ p.block) (u : Value) : Rd (w.setCell p u) (.slice (some ⟨g, o, none⟩) n c) n0 sz xs := by
  refine ⟨h.1, ?_⟩
  rcases h.2 with h0 | ⟨b, off, cap, hv, hb, h3, h4, h5⟩
  · exact .inl h0
  · refine .inr ⟨b, off, cap, hv, by simpa using hb, h3, h4, fun j v hj => ?_⟩
    injection hv with hv1 hv2 hv3
    injection hv1 with hv1
    injection hv1 with e1 e2 e3
    exact (World.cell?_setCell_other _ _ _ _ (fun e => hne (by rw [e, e1]))).trans (h5 j v hj)
theorem own_E3 {w : World} {base : Nat} {t : TypeId} {v : Value} {xs : List E3} {m : Nat} (h : OwnE w base t v E3.cs 3 xs) (hl : xs.length = m) (hm : 0 < m) : ∃ g cap, v = .slice (some ⟨g, 0, none⟩) m cap ∧ base ≤ g ∧ g < w.heap.size := by
  obtain ⟨g, cap, rfl⟩ := Go.Joins.ownsRow_form h (by omega)
  have := h.lt g rfl
  exact ⟨g, cap, by rw [hl], this.1, this.2⟩
end Go.Proofs.Yteimcfbliigjmaa
