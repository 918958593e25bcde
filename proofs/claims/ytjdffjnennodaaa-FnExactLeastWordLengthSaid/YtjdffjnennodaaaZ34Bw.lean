/- Boxes of one-cell values that a call has made: general lemmas over any program. -/
import Derived.Test.YtjdffjnennodaaaZ15Words
import Derived.Test.YtjdffjnennodaaaZ06Dat
import Derived.Test.YtjdffjnennodaaaZ30M
namespace Go.Proofs.Ytjdffjnennodaaa
set_option linter.unusedSimpArgs false
set_option linter.unusedVariables false
set_option linter.unnecessarySimpa false
set_option maxRecDepth 200000
open Go.ChangeShapes Go.WideShapes Go.ChangeAt Go.RowKit

/-- Block g holds the cells us. -/
structure Bw (w : World) (g : Nat) (us : List Value) : Prop where
  lt : g < w.heap.size
  cs : ∀ j u, us[j]? = some u → w.cell? ⟨g, j, none⟩ = some u
  fz : ∀ j, j < us.length → w.frozen? ⟨g, j, none⟩ = false
section
variable {w w' w0 : World} {g g2 : Nat} {us vs : List Value} {a b c d e : Value}
theorem Bw.of_block (h : Bw w g us) (hb : w'.heap[g]? = w.heap[g]?) (hs : w.heap.size ≤ w'.heap.size) : Bw w' g us :=
  ⟨Nat.lt_of_lt_of_le h.lt hs, fun j u hu => (World.cell?_of_block (w := w) (w' := w') (a := ⟨g, j, none⟩) hb).trans (h.cs j u hu), fun j hj => (World.frozen?_of_block (w := w) (w' := w') (a := ⟨g, j, none⟩) hb).trans (h.fz j hj)⟩
theorem Bw.call (h : Bw w g us) (hb : Below w.heap.size w w') : Bw w' g us := h.of_block (hb.block g h.lt) hb.size
theorem Bw.kept {r : Option Nat} (h : Bw w g us) (hg : w.grownBy w' r) (hn : some g ≠ r) : Bw w' g us := h.of_block (hg.block g h.lt hn) hg.size
theorem Bw.alloc (h : Bw w g us) (X : Obj) : Bw (w.alloc X) g us := h.of_block (Below.heap_alloc w X g h.lt) (by simp)
theorem Bw.new (w : World) (us : List Value) (t : TypeId) (hg : w.heap.size = g) : Bw (w.alloc (.cells us.toArray t)) g us := by
  subst hg
  refine ⟨by simp, fun j u hu => ?_, fun j _ => new_frz _ _ _ _⟩
  have := news_cells w us t j u hu
  rwa [Addr.add_lit, Nat.zero_add] at this
theorem Bw.set (h : Bw w g us) (k : Nat) (u : Value) : Bw (w.setCell ⟨g, k, none⟩ u) g (us.set k u) := by
  refine ⟨by simpa using h.lt, fun j x hx => ?_, fun j hj => ?_⟩
  · by_cases e : k = j
    · subst e
      by_cases hk : k < us.length
      · rw [List.getElem?_set_self hk] at hx
        injection hx with hx
        subst hx
        exact World.cell?_setCell_same _ _ _ (h.cs k us[k] (by simp [hk]))
      · rw [List.getElem?_eq_none (by simp; omega)] at hx; cases hx
    · rw [List.getElem?_set_ne e] at hx
      exact (World.cell?_setCell_other _ _ _ _ (fun e2 => e (by cases e2; rfl))).trans (h.cs j x hx)
  · rw [World.frozen?_setCell]; exact h.fz j (by simpa using hj)
theorem Bw.other (h : Bw w g us) (hne : g ≠ g2) (k : Nat) (u : Value) : Bw (w.setCell ⟨g2, k, none⟩ u) g us := by
  refine ⟨by simpa using h.lt, fun j x hx => ?_, fun j hj => ?_⟩
  · exact (World.cell?_setCell_other _ _ _ _ (fun e => hne (by injection e with e1 _; exact e1.symm))).trans (h.cs j x hx)
  · rw [World.frozen?_setCell]; exact h.fz j hj
theorem Bw.drew (h : Bw w g us) : Bw w.drew g us := ⟨h.lt, h.cs, h.fz⟩
theorem Bw.c2 (h : Bw w g [a, b]) : (w.cell? ⟨g, 0, none⟩ = some a ∧ w.cell? ⟨g, 1, none⟩ = some b) ∧ w.frozen? ⟨g, 0, none⟩ = false ∧ w.frozen? ⟨g, 1, none⟩ = false :=
  ⟨⟨h.cs 0 _ rfl, h.cs 1 _ rfl⟩, h.fz 0 (by simp), h.fz 1 (by simp)⟩
theorem Bw.c3 (h : Bw w g [a, b, c]) : (w.cell? ⟨g, 0, none⟩ = some a ∧ w.cell? ⟨g, 1, none⟩ = some b ∧ w.cell? ⟨g, 2, none⟩ = some c) ∧ w.frozen? ⟨g, 0, none⟩ = false ∧ w.frozen? ⟨g, 1, none⟩ = false ∧ w.frozen? ⟨g, 2, none⟩ = false :=
  ⟨⟨h.cs 0 _ rfl, h.cs 1 _ rfl, h.cs 2 _ rfl⟩, h.fz 0 (by simp), h.fz 1 (by simp), h.fz 2 (by simp)⟩
theorem Bw.c4 (h : Bw w g [a, b, c, d]) : (w.cell? ⟨g, 0, none⟩ = some a ∧ w.cell? ⟨g, 1, none⟩ = some b ∧ w.cell? ⟨g, 2, none⟩ = some c ∧ w.cell? ⟨g, 3, none⟩ = some d) ∧ w.frozen? ⟨g, 0, none⟩ = false ∧ w.frozen? ⟨g, 1, none⟩ = false ∧ w.frozen? ⟨g, 2, none⟩ = false ∧ w.frozen? ⟨g, 3, none⟩ = false :=
  ⟨⟨h.cs 0 _ rfl, h.cs 1 _ rfl, h.cs 2 _ rfl, h.cs 3 _ rfl⟩, h.fz 0 (by simp), h.fz 1 (by simp), h.fz 2 (by simp), h.fz 3 (by simp)⟩
theorem Bw.c5 (h : Bw w g [a, b, c, d, e]) : (w.cell? ⟨g, 0, none⟩ = some a ∧ w.cell? ⟨g, 1, none⟩ = some b ∧ w.cell? ⟨g, 2, none⟩ = some c ∧ w.cell? ⟨g, 3, none⟩ = some d ∧ w.cell? ⟨g, 4, none⟩ = some e) ∧ w.frozen? ⟨g, 0, none⟩ = false ∧ w.frozen? ⟨g, 1, none⟩ = false ∧ w.frozen? ⟨g, 2, none⟩ = false ∧ w.frozen? ⟨g, 3, none⟩ = false ∧ w.frozen? ⟨g, 4, none⟩ = false :=
  ⟨⟨h.cs 0 _ rfl, h.cs 1 _ rfl, h.cs 2 _ rfl, h.cs 3 _ rfl, h.cs 4 _ rfl⟩, h.fz 0 (by simp), h.fz 1 (by simp), h.fz 2 (by simp), h.fz 3 (by simp), h.fz 4 (by simp)⟩
/-- The world behind stores into cells k, k + 1, .. of block g. -/
def putB (w : World) (g k : Nat) : List Value → World
  | [] => w
  | u :: us => putB (w.setCell ⟨g, k, none⟩ u) g (k + 1) us
theorem putB_below {B : Nat} (hB : B ≤ g) : ∀ (us : List Value) (w : World) (k : Nat), Below B w0 w → Below B w0 (putB w g k us)
  | [], _, _, h => h
  | u :: us, w, k, h => putB_below hB us _ (k + 1) (Below.setCell (p := ⟨g, k, none⟩) h hB u)
theorem putB_other (hne : g2 ≠ g) : ∀ (us : List Value) (w : World) (k : Nat), Bw w g2 vs → Bw (putB w g k us) g2 vs
  | [], _, _, h => h
  | u :: us, w, k, h => putB_other hne us _ (k + 1) (h.other hne k u)
theorem putB_size : ∀ (us : List Value) (w : World) (k : Nat), (putB w g k us).heap.size = w.heap.size
  | [], _, _ => rfl
  | u :: us, w, k => by
    show (putB _ g (k + 1) us).heap.size = _
    rw [putB_size us]; simp
end
/-- A state: what lies below B is as it was; boxes of the call's own, in blocks of their own, the newest first. -/
structure Sb (B : Nat) (w0 w : World) (L : List (Nat × List Value)) : Prop where
  hB : B ≤ w0.heap.size
  bel : Below B w0 w
  bx : ∀ p ∈ L, Bw w p.1 p.2
  ap : L.Pairwise (fun p q => p.1 ≠ q.1)
  ge : ∀ p ∈ L, w0.heap.size ≤ p.1
section
variable {B : Nat} {w0 w w' : World} {L M : List (Nat × List Value)} {g : Nat} {us : List Value}
theorem Sb.nil (w : World) : Sb w.heap.size w w [] := ⟨Nat.le_refl _, Below.refl _ _, by simp, by simp, by simp⟩
theorem Sb.nilB (w : World) (hB : B ≤ w.heap.size) : Sb B w w [] := ⟨hB, Below.refl _ _, by simp, by simp, by simp⟩
theorem Sb.call (h : Sb B w0 w L) (hb : Below w.heap.size w w') : Sb B w0 w' L :=
  ⟨h.hB, Below.trans h.bel (hb.mono (Nat.le_trans h.hB h.bel.size)), fun p hp => (h.bx p hp).call hb, h.ap, h.ge⟩
theorem Bw.callB {B2 : Nat} (h : Bw w g us) (hb : Below B2 w w') (hg : g < B2) : Bw w' g us := h.of_block (hb.block g hg) hb.size
theorem Sb.callB {B2 : Nat} (h : Sb B w0 w L) (hb : Below B2 w w') (hB2 : B ≤ B2) (hl : ∀ p ∈ L, p.1 < B2) : Sb B w0 w' L :=
  ⟨h.hB, Below.trans h.bel (hb.mono hB2), fun p hp => (h.bx p hp).callB hb (hl p hp), h.ap, h.ge⟩
theorem Sb.drew (h : Sb B w0 w L) : Sb B w0 w.drew L := ⟨h.hB, Below.drew h.bel, fun p hp => (h.bx p hp).drew, h.ap, h.ge⟩
theorem Sb.alloc (h : Sb B w0 w L) (X : Obj) : Sb B w0 (w.alloc X) L :=
  ⟨h.hB, Below.alloc h.bel (Nat.le_trans h.hB h.bel.size) _, fun p hp => (h.bx p hp).alloc X, h.ap, h.ge⟩
theorem Sb.push (h : Sb B w0 w L) (us : List Value) (t : TypeId) {g : Nat} (hg : w.heap.size = g) : Sb B w0 (w.alloc (.cells us.toArray t)) ((g, us) :: L) := by
  have ha := h.alloc (.cells us.toArray t)
  refine ⟨h.hB, ha.bel, fun p hp => ?_, List.pairwise_cons.2 ⟨fun q hq e => ?_, h.ap⟩, fun p hp => ?_⟩
  · rcases List.mem_cons.1 hp with rfl | hp
    · exact Bw.new w us t hg
    · exact ha.bx p hp
  · have := (h.bx q hq).lt
    dsimp only at e; omega
  · rcases List.mem_cons.1 hp with rfl | hp
    · have := h.bel.size; dsimp only; omega
    · exact h.ge p hp
theorem Sb.sub (h : Sb B w0 w L) (hs : List.Sublist M L) : Sb B w0 w M := ⟨h.hB, h.bel, fun p hp => h.bx p (hs.subset hp), h.ap.sublist hs, fun p hp => h.ge p (hs.subset hp)⟩
theorem Sb.tail {p : Nat × List Value} (h : Sb B w0 w (p :: L)) : Sb B w0 w L := h.sub (List.sublist_cons_self _ _)
theorem Sb.head (h : Sb B w0 w ((g, us) :: L)) : Bw w g us := h.bx (g, us) (by simp)
theorem Sb.at (h : Sb B w0 w L) (i : Nat) (hi : L[i]? = some (g, us)) : Bw w g us := h.bx (g, us) (List.mem_of_getElem? hi)
theorem Sb.kept {r : Option Nat} (h : Sb B w0 w L) (hg : w.grownBy w' r) (hr : ∀ b, r = some b → B ≤ b ∧ ∀ p ∈ L, p.1 ≠ b) : Sb B w0 w' L :=
  ⟨h.hB, h.bel.grown hg (Nat.le_trans h.hB h.bel.size) (fun k hk => (hr k hk).1), fun p hp => (h.bx p hp).kept hg (fun e => (hr p.1 e.symm).2 p hp rfl), h.ap, h.ge⟩
theorem Sb.perm (h : Sb B w0 w L) (hp : L.Perm M) : Sb B w0 w M := ⟨h.hB, h.bel, fun p hm => h.bx p (hp.mem_iff.2 hm), (hp.pairwise_iff (fun h => Ne.symm h)).1 h.ap, fun p hm => h.ge p (hp.mem_iff.2 hm)⟩
/-- A store into the newest box. -/
theorem Sb.set0 (h : Sb B w0 w ((g, us) :: L)) (k : Nat) (u : Value) : Sb B w0 (w.setCell ⟨g, k, none⟩ u) ((g, us.set k u) :: L) := by
  obtain ⟨h1, h2⟩ := List.pairwise_cons.1 h.ap
  refine ⟨h.hB, Below.setCell (p := ⟨g, k, none⟩) h.bel (Nat.le_trans h.hB (h.ge (g, us) (by simp))) u, fun p hp => ?_, List.pairwise_cons.2 ⟨fun q hq => h1 q hq, h2⟩, fun p hp => ?_⟩
  · rcases List.mem_cons.1 hp with rfl | hp
    · exact h.head.set k u
    · exact (h.bx p (by simp [hp])).other (fun e => h1 p hp e.symm) k u
  · rcases List.mem_cons.1 hp with rfl | hp
    · exact h.ge (g, us) (by simp)
    · exact h.ge p (by simp [hp])
theorem Sb.set1 {p1 : Nat × List Value} (h : Sb B w0 w (p1 :: (g, us) :: L)) (k : Nat) (u : Value) : Sb B w0 (w.setCell ⟨g, k, none⟩ u) (p1 :: (g, us.set k u) :: L) :=
  ((h.perm (List.Perm.swap _ _ _)).set0 k u).perm (List.Perm.swap _ _ _)
theorem Sb.set2 {p1 p2 : Nat × List Value} (h : Sb B w0 w (p1 :: p2 :: (g, us) :: L)) (k : Nat) (u : Value) : Sb B w0 (w.setCell ⟨g, k, none⟩ u) (p1 :: p2 :: (g, us.set k u) :: L) :=
  ((h.perm (show List.Perm (p1 :: p2 :: (g, us) :: L) ((g, us) :: p1 :: p2 :: L) from List.perm_middle (l₁ := [p1, p2]))).set0 k u).perm (List.perm_middle (l₁ := [p1, p2])).symm
theorem Sb.lt (h : Sb B w0 w ((g, us) :: L)) : g < w.heap.size := h.head.lt
theorem Sb.lt1 {p1 : Nat × List Value} (h : Sb B w0 w (p1 :: (g, us) :: L)) : g < w.heap.size := h.tail.head.lt
/-- The cells of an element of a slice of the call's own. -/
theorem own_at {α : Type} {f : α → List Value} {sz base n c : Nat} {t : TypeId} {a : Option Addr} {xs : List α} (hf : ∀ x, (f x).length = sz) (h : OwnE w base t (.slice a n c) f sz xs) (i : Nat) (hi : i < xs.length) :
    ∃ g, a = some ⟨g, 0, none⟩ ∧ base ≤ g ∧ g < w.heap.size ∧ ∀ j u, j < sz → (f xs[i])[j]? = some u → w.cell? ⟨g, i * sz + j, none⟩ = some u := by
  rcases h.2 with ⟨_, h0⟩ | ⟨g, cap, cur, e, hbg, _⟩
  · omega
  · injection e with e1 e2 e3
    subst e1
    refine ⟨g, rfl, hbg, (OwnE.lt h g rfl).2, fun j u hj hu => ?_⟩
    have := World.ownsRow.cells h (g := g) rfl (i * sz + j) u (by rw [flat_get hf xs i j hi hj]; exact hu)
    rwa [Addr.add_lit, Nat.zero_add] at this
theorem own_set_ne {base sz n : Nat} {t : TypeId} {v : Value} {xs : List Value} (h : w.ownsRow base t sz v n xs) {a : Addr} (hne : v.ownBlock ≠ some a.block) (u : Value) : (w.setCell a u).ownsRow base t sz v n xs := by
  have hb := Below.setCell (p := a) (Below.refl 0 w) (Nat.zero_le _) u
  refine own_other (v' := .slice (some ⟨a.block, 0, none⟩) 0 0) (w := w) ?_ h (fun g e1 e2 => hne (e1.trans ?_))
  · exact ⟨hb.os, hb.tape, hb.output, hb.size, fun k _ hk => Below.heap_setCell _ _ _ k (fun e => hk (by rw [e]; rfl))⟩
  · exact e2.symm
end
end Go.Proofs.Ytjdffjnennodaaa
