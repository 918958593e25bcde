/- What stays of boxes, rows and cells over an act that touches one block alone. -/
import Derived.Test.YtnckabohlakbgaaGreatZ05M
import Derived.Test.YtnckabohlakbgaaGreatZ22M
import Derived.Test.YtnckabohlakbgaaGreatZ23Tab2
import Derived.Test.YtnckabohlakbgaaGreatZ02M
namespace Go.Proofs.YtnckabohlakbgaaGreat
set_option linter.unusedSimpArgs false
set_option linter.unusedVariables false
set_option linter.unnecessarySimpa false
set_option maxRecDepth 200000
open Go.ChangeShapes Go.WideShapes Go.ChangeAt Go.RowKit

/-- All blocks but g are as they were. -/
structure Far (g : Nat) (w w' : World) : Prop where
  size : w.heap.size ≤ w'.heap.size
  block : ∀ k, k < w.heap.size → k ≠ g → w'.heap[k]? = w.heap[k]?
theorem Far.call {w w' : World} (h : Below w.heap.size w w') : Far w.heap.size w w' := ⟨h.size, fun k hk _ => h.block k hk⟩
theorem Far.alloc (w : World) (X : Obj) : Far w.heap.size w (w.alloc X) := Far.call (Below.alloc (Below.refl _ _) (Nat.le_refl _) X)
theorem Far.set (w : World) (g o : Nat) (v : Value) : Far g w (w.setCell ⟨g, o, none⟩ v) := by
  refine ⟨by simp, fun k _ hne => Below.heap_setCell _ _ _ _ (fun e => hne ?_)⟩
  first | exact e | exact e.symm
theorem Far.trans {g : Nat} {a b c : World} (h : Far g a b) (k : Far g b c) : Far g a c :=
  ⟨Nat.le_trans h.size k.size, fun i hi hne => (k.block i (Nat.lt_of_lt_of_le hi h.size) hne).trans (h.block i hi hne)⟩
def set3 (w : World) (g : Nat) (a b c : Value) : World := ((w.setCell ⟨g, 0, none⟩ a).setCell ⟨g, 1, none⟩ b).setCell ⟨g, 2, none⟩ c
theorem Far.set3 (w : World) (g : Nat) (a b c : Value) : Far g w (set3 w g a b c) := ((Far.set w g 0 a).trans (Far.set _ g 1 b)).trans (Far.set _ g 2 c)
theorem cell_far {g b o : Nat} {w w' : World} {v : Value} (h : w.cell? ⟨b, o, none⟩ = some v) (k : Far g w w') (hne : b ≠ g) : w'.cell? ⟨b, o, none⟩ = some v := by
  have hl := World.block_lt_of_cell? _ _ h
  rw [← h]; exact World.cell?_of_block (k.block b hl hne)
theorem frz_far {g b o : Nat} {w w' : World} (h : w.frozen? ⟨b, o, none⟩ = false) (k : Far g w w') (hl : b < w.heap.size) (hne : b ≠ g) : w'.frozen? ⟨b, o, none⟩ = false := by
  rw [← h]; exact World.frozen?_of_block (k.block b hl hne)
/-- A box of three cells. -/
structure Box3 (w : World) (g : Nat) (a b c : Value) : Prop where
  c0 : w.cell? ⟨g, 0, none⟩ = some a
  c1 : w.cell? ⟨g, 1, none⟩ = some b
  c2 : w.cell? ⟨g, 2, none⟩ = some c
  f0 : w.frozen? ⟨g, 0, none⟩ = false
  f1 : w.frozen? ⟨g, 1, none⟩ = false
  f2 : w.frozen? ⟨g, 2, none⟩ = false
theorem Box3.lt {w : World} {g : Nat} {a b c : Value} (h : Box3 w g a b c) : g < w.heap.size := World.block_lt_of_cell? _ _ h.c0
theorem Box3.far {w w' : World} {g g' : Nat} {a b c : Value} (h : Box3 w g a b c) (k : Far g' w w') (hne : g ≠ g') : Box3 w' g a b c :=
  ⟨cell_far h.c0 k hne, cell_far h.c1 k hne, cell_far h.c2 k hne, frz_far h.f0 k h.lt hne, frz_far h.f1 k h.lt hne, frz_far h.f2 k h.lt hne⟩
theorem Box3.call {w w' : World} {g : Nat} {a b c : Value} (h : Box3 w g a b c) (k : Below w.heap.size w w') : Box3 w' g a b c := h.far (Far.call k) (Nat.ne_of_lt h.lt)
theorem Box3.alloc {w : World} {g : Nat} {a b c : Value} (h : Box3 w g a b c) (X : Obj) : Box3 (w.alloc X) g a b c := h.far (Far.alloc w X) (Nat.ne_of_lt h.lt)
theorem Box3.drew {w : World} {g : Nat} {a b c : Value} (h : Box3 w g a b c) : Box3 w.drew g a b c := ⟨h.c0, h.c1, h.c2, h.f0, h.f1, h.f2⟩
theorem Box3.new (w : World) (a b c : Value) (t : TypeId) : Box3 (w.alloc (.cells #[a, b, c] t)) w.heap.size a b c :=
  ⟨new_cell w _ t 0 a rfl, new_cell w _ t 1 b rfl, new_cell w _ t 2 c rfl, new_frz w _ t 0, new_frz w _ t 1, new_frz w _ t 2⟩
theorem Box3.set {w : World} {g : Nat} {a b c : Value} (h : Box3 w g a b c) (x y z : Value) : Box3 (set3 w g x y z) g x y z := by
  obtain ⟨h0, h1, h2⟩ := box_set3 x y z h.c0 h.c1 h.c2
  exact ⟨h0, h1, h2, by unfold set3; simp only [World.frozen?_setCell]; exact h.f0, by unfold set3; simp only [World.frozen?_setCell]; exact h.f1, by unfold set3; simp only [World.frozen?_setCell]; exact h.f2⟩
theorem below_put3 {B g : Nat} {a w : World} (h : Below B a w) (hg : B ≤ g) (x y z : Value) : Below B a (set3 w g x y z) :=
  Below.setCell (Below.setCell (Below.setCell h hg _) hg _) hg _
end Go.Proofs.YtnckabohlakbgaaGreat
namespace Go.Proofs.YtnckabohlakbgaaGreat
set_option linter.unusedSimpArgs false
set_option linter.unusedVariables false
set_option linter.unnecessarySimpa false
set_option maxRecDepth 200000
open Go.ChangeShapes Go.WideShapes Go.ChangeAt Go.RowKit

theorem OwnG.farF {w w' : World} {base g n cap q : Nat} {t : TypeId} {xs : List E3} (h : OwnG w base t g n cap xs) (k : Far q w w') (hne : g ≠ q) : OwnG w' base t g n cap xs := by
  have hl := h.lt.2
  refine ⟨h.1, ?_⟩
  rcases h.2 with h0 | ⟨g', cap', cur, hv, hb, hg, r⟩
  · exact .inl h0
  · refine .inr ⟨g', cap', cur, hv, hb, ?_, r⟩
    injection hv with hv1 hv2 hv3
    injection hv1 with hv1
    injection hv1 with e1 e2 e3
    subst e1
    rw [k.block _ hl hne]; exact hg
def put3 (w : World) (g i : Nat) (e : E3) : World := ((w.setCell ⟨g, i * 3, none⟩ (.int .i64 e.a)).setCell ⟨g, i * 3 + 1, none⟩ (.int .i64 e.b)).setCell ⟨g, i * 3 + 2, none⟩ (.int .i64 e.c)
theorem Far.put3 (w : World) (g i : Nat) (e : E3) : Far g w (put3 w g i e) := ((Far.set w g _ _).trans (Far.set _ g _ _)).trans (Far.set _ g _ _)
theorem OwnG.ph {w : World} {base g n cap : Nat} {t : TypeId} {xs : List E3} (h : OwnG w base t g n cap xs) (i : Nat) (hi : i < n) (v : Int) :
    OwnG (w.setCell ⟨g, i * 3, none⟩ (.int .i64 v)) base t g n cap (xs.set i ⟨v, (xs.getD i ⟨0, 0, 0⟩).b, (xs.getD i ⟨0, 0, 0⟩).c⟩) := by
  have hl := h.len
  have h1 := (World.ownsRow.stored h (i * 3) (.int .i64 v)).1
  have e := set_flat ⟨v, (xs.getD i ⟨0, 0, 0⟩).b, (xs.getD i ⟨0, 0, 0⟩).c⟩ xs i (by omega)
  have hlen : (xs.flatMap E3.cs).length = xs.length * 3 := flat_len E3.len xs
  have g1 := flat_get E3.len xs i 1 (by omega) (by omega)
  have g2 := flat_get E3.len xs i 2 (by omega) (by omega)
  have ex : xs.getD i ⟨0, 0, 0⟩ = xs[i] := by simp [List.getD, show i < xs.length by omega]
  dsimp only at e
  rw [ex] at e ⊢
  have s1 : ((xs.flatMap E3.cs).set (i * 3) (.int .i64 v)).set (i * 3 + 1) (.int .i64 xs[i].b) = (xs.flatMap E3.cs).set (i * 3) (.int .i64 v) := by
    apply List.ext_getElem?
    intro j
    rw [List.getElem?_set]
    by_cases hj : i * 3 + 1 = j
    · subst hj
      rw [if_pos rfl, List.getElem?_set_ne (by omega), g1]
      simp [E3.cs, hlen]; omega
    · rw [if_neg hj]
  have s2 : ((xs.flatMap E3.cs).set (i * 3) (.int .i64 v)).set (i * 3 + 2) (.int .i64 xs[i].c) = (xs.flatMap E3.cs).set (i * 3) (.int .i64 v) := by
    apply List.ext_getElem?
    intro j
    rw [List.getElem?_set]
    by_cases hj : i * 3 + 2 = j
    · subst hj
      rw [if_pos rfl, List.getElem?_set_ne (by omega), g2]
      simp [E3.cs, hlen]; omega
    · rw [if_neg hj]
  rw [s1, s2] at e
  rw [e] at h1
  exact h1
/-- A block of the walk's own that is none of the tableau's. -/
structure Off (b gT g0 g1 g : Nat) : Prop where
  low : b + 2 ≤ g
  nT : g ≠ gT
  n0 : g ≠ g0
  n1 : g ≠ g1
/-- The walk's state: the gate's box, the answer's box, the tableau's box and its two rows. -/
structure GSt (W0 w : World) (b n k a c gT g0 p0 g1 p1 : Nat) (X Z : List E3) : Prop where
  P : Box3 w b (.int .i64 (k : Int)) (.int .i64 (a : Int)) (.int .i64 (c : Int))
  R : Box3 w (b + 1) (.int .i64 0) (.slice none 0 0) (.slice none 0 0)
  T : Box3 w gT (.int .i64 (n : Int)) (.slice (some ⟨g0, 0, none⟩) n p0) (.slice (some ⟨g1, 0, none⟩) n p1)
  O0 : OwnG w (b + 2) 33 g0 n p0 X
  O1 : OwnG w (b + 2) 33 g1 n p1 Z
  bw : Below b W0 w
  ne : g0 ≠ g1 ∧ g0 ≠ gT ∧ g1 ≠ gT
  lT : b + 2 ≤ gT
variable {W0 w w' : World} {b n k a c gT g0 p0 g1 p1 : Nat} {X Z : List E3}
theorem GSt.off (h : GSt W0 w b n k a c gT g0 p0 g1 p1 X Z) {g : Nat} (hg : w.heap.size ≤ g) : Off b gT g0 g1 g :=
  ⟨by have := h.R.lt; omega, by have := h.T.lt; omega, by have := h.O0.lt; omega, by have := h.O1.lt; omega⟩
theorem GSt.far (h : GSt W0 w b n k a c gT g0 p0 g1 p1 X Z) {q : Nat} (f : Far q w w') (hq : Off b gT g0 g1 q) (hb : Below b W0 w') : GSt W0 w' b n k a c gT g0 p0 g1 p1 X Z :=
  ⟨h.P.far f (by have := hq.low; omega), h.R.far f (by have := hq.low; omega), h.T.far f hq.nT.symm, h.O0.farF f hq.n0.symm, h.O1.farF f hq.n1.symm, hb, h.ne, h.lT⟩
theorem GSt.call (h : GSt W0 w b n k a c gT g0 p0 g1 p1 X Z) (hb : Below w.heap.size w w') : GSt W0 w' b n k a c gT g0 p0 g1 p1 X Z :=
  h.far (Far.call hb) (h.off (Nat.le_refl _)) (Below.trans h.bw (hb.mono (by have := h.P.lt; omega)))
theorem GSt.drew (h : GSt W0 w b n k a c gT g0 p0 g1 p1 X Z) : GSt W0 w.drew b n k a c gT g0 p0 g1 p1 X Z := h.call (Below.drew (Below.refl _ _))
theorem GSt.drewN (h : GSt W0 w b n k a c gT g0 p0 g1 p1 X Z) (j : Nat) : GSt W0 (w.drewN j) b n k a c gT g0 p0 g1 p1 X Z := h.call (below_drewN (Below.refl _ _) j)
theorem GSt.alloc (h : GSt W0 w b n k a c gT g0 p0 g1 p1 X Z) (o : Obj) : GSt W0 (w.alloc o) b n k a c gT g0 p0 g1 p1 X Z := h.call (Below.alloc (Below.refl _ _) (Nat.le_refl _) o)
theorem GSt.box (h : GSt W0 w b n k a c gT g0 p0 g1 p1 X Z) {g : Nat} (hg : Off b gT g0 g1 g) (x y z : Value) : GSt W0 (set3 w g x y z) b n k a c gT g0 p0 g1 p1 X Z :=
  h.far (Far.set3 w g x y z) hg (below_put3 h.bw (by have := hg.low; omega) x y z)
theorem below_putE {B g : Nat} {a w : World} (h : Below B a w) (hg : B ≤ g) (i : Nat) (e : E3) : Below B a (put3 w g i e) :=
  Below.setCell (Below.setCell (Below.setCell h hg _) hg _) hg _
theorem GSt.setX (h : GSt W0 w b n k a c gT g0 p0 g1 p1 X Z) (i : Nat) (hi : i < n) (e : E3) : GSt W0 (put3 w g0 i e) b n k a c gT g0 p0 g1 p1 (X.set i e) Z :=
  have f := Far.put3 w g0 i e
  have hl := h.O0.lt
  ⟨h.P.far f (by omega), h.R.far f (by omega), h.T.far f h.ne.2.1.symm, OwnG.set h.O0 i hi e, h.O1.farF f h.ne.1.symm, below_putE h.bw (by omega) i e, h.ne, h.lT⟩
theorem GSt.setZ (h : GSt W0 w b n k a c gT g0 p0 g1 p1 X Z) (i : Nat) (hi : i < n) (e : E3) : GSt W0 (put3 w g1 i e) b n k a c gT g0 p0 g1 p1 X (Z.set i e) :=
  have f := Far.put3 w g1 i e
  have hl := h.O1.lt
  ⟨h.P.far f (by omega), h.R.far f (by omega), h.T.far f h.ne.2.2.symm, h.O0.farF f h.ne.1, OwnG.set h.O1 i hi e, below_putE h.bw (by omega) i e, h.ne, h.lT⟩
theorem GSt.phX (h : GSt W0 w b n k a c gT g0 p0 g1 p1 X Z) (i : Nat) (hi : i < n) (v : Int) : GSt W0 (w.setCell ⟨g0, i * 3, none⟩ (.int .i64 v)) b n k a c gT g0 p0 g1 p1 (X.set i ⟨v, (X.getD i ⟨0, 0, 0⟩).b, (X.getD i ⟨0, 0, 0⟩).c⟩) Z :=
  have f := Far.set w g0 (i * 3) (.int .i64 v)
  have hl := h.O0.lt
  ⟨h.P.far f (by omega), h.R.far f (by omega), h.T.far f h.ne.2.1.symm, OwnG.ph h.O0 i hi v, h.O1.farF f h.ne.1.symm, Below.setCell h.bw (by dsimp only; omega) _, h.ne, h.lT⟩
theorem GSt.phZ (h : GSt W0 w b n k a c gT g0 p0 g1 p1 X Z) (i : Nat) (hi : i < n) (v : Int) : GSt W0 (w.setCell ⟨g1, i * 3, none⟩ (.int .i64 v)) b n k a c gT g0 p0 g1 p1 X (Z.set i ⟨v, (Z.getD i ⟨0, 0, 0⟩).b, (Z.getD i ⟨0, 0, 0⟩).c⟩) :=
  have f := Far.set w g1 (i * 3) (.int .i64 v)
  have hl := h.O1.lt
  ⟨h.P.far f (by omega), h.R.far f (by omega), h.T.far f h.ne.2.2.symm, h.O0.farF f h.ne.1, OwnG.ph h.O1 i hi v, Below.setCell h.bw (by dsimp only; omega) _, h.ne, h.lT⟩
/-- A box of the walk's own over the stores of the tableau. -/
theorem Box3.putE {x y z : Value} {g q : Nat} (h : Box3 w g x y z) (i : Nat) (e : E3) (hne : g ≠ q) : Box3 (put3 w q i e) g x y z := h.far (Far.put3 w q i e) hne
theorem Box3.ph {x y z : Value} {g q : Nat} (h : Box3 w g x y z) (i : Nat) (v : Value) (hne : g ≠ q) : Box3 (w.setCell ⟨q, i, none⟩ v) g x y z := h.far (Far.set w q i v) hne
/-- What the walk of a gate's tableau leaves. -/
def GPost (n : Nat) (w : World) (X Z : List E3) (e : Ending) (w' : World) : Prop :=
  ∃ r0 r1, e = .returned (.agg #[.int .i64 (n : Int), r0, r1]) ∧ OwnE w' w.heap.size 33 r0 E3.cs 3 X ∧ OwnE w' w.heap.size 33 r1 E3.cs 3 Z ∧ Apart r0 r1 ∧ Below w.heap.size w w'
theorem GSt.done {w0 w : World} {n k a c gT g0 p0 g1 p1 : Nat} {X Z : List E3} (h : GSt w0 w w0.heap.size n k a c gT g0 p0 g1 p1 X Z) (x y z : Value) :
    GPost n w0 X Z (.returned (.agg #[.int .i64 (n : Int), .slice (some ⟨g0, 0, none⟩) n p0, .slice (some ⟨g1, 0, none⟩) n p1])) (set3 w (w0.heap.size + 1) x y z) :=
  have f := Far.set3 w (w0.heap.size + 1) x y z
  have l0 := h.O0.lt
  have l1 := h.O1.lt
  ⟨_, _, rfl, OwnE.le (h.O0.farF f (by omega)).own (by omega), OwnE.le (h.O1.farF f (by omega)).own (by omega),
    fun g h0 h1 => h.ne.1 (by
      have e0 : some g0 = some g := h0
      have e1 : some g1 = some g := h1
      injection e0 with e0; injection e1 with e1; omega), below_put3 h.bw (by omega) x y z⟩
theorem GPost.eq {n : Nat} {w0 w : World} {X Z X' Z' : List E3} {e : Ending} (h : GPost n w0 X Z e w) (hx : X = X') (hz : Z = Z') : GPost n w0 X' Z' e w := by subst hx; subst hz; exact h
theorem idX_get {n a : Nat} (h : a < n) : (idX n).getD a ⟨0, 0, 0⟩ = ⟨0, (2 : Int) ^ a, 0⟩ := by unfold idX; simp [List.getD, h]
theorem idZ_get {n a : Nat} (h : a < n) : (idZ n).getD a ⟨0, 0, 0⟩ = ⟨0, 0, (2 : Int) ^ a⟩ := by unfold idZ; simp [List.getD, h]
theorem set_pes (L : List PN) (i p x z : Nat) : (pes L).set i ⟨(p : Int), (x : Int), (z : Int)⟩ = pes (L.set i ⟨p, x, z⟩) := by
  unfold pes; rw [List.map_set]; rfl
theorem E3set_get {L : List E3} {i : Nat} (h : i < L.length) (e : E3) : (L.set i e).getD i ⟨0, 0, 0⟩ = e := by simp [List.getD, h]
end Go.Proofs.YtnckabohlakbgaaGreat
