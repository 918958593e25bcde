/- Plain data of the program's structs with slices, and what arguments of such types look like in memory. -/
import Derived.Test.YtnckabohlakbgaaGreatZ04M
import Derived.Test.YtnckabohlakbgaaGreatZ03M
import Derived.ChangeSame
import Derived.Test.YtnckabohlakbgaaGreatZ00Base
import Derived.Test.YtnckabohlakbgaaGreatZ02M
import Derived.BigQuiet
import Derived.Deep.QuietTactic
namespace Go.Proofs.YtnckabohlakbgaaGreat
set_option linter.unusedSimpArgs false
set_option linter.unusedVariables false
set_option linter.unnecessarySimpa false
set_option maxRecDepth 200000
open Go.ChangeShapes Go.WideShapes Go.ChangeAt Go.RowKit Go.Joins Go.Deep

structure Circ where (n : Int) (gs : List E3)
deriving DecidableEq
structure Tab where (n : Int) (xs : List E3) (zs : List E3)
deriving DecidableEq
structure PP where (n : Int) (ph : Int) (ts : List E2) (out : List Int)
deriving DecidableEq
structure Dia where (n : Int) (ns : List E2) (ws : List EW) (turn : Int) (root : Int)
deriving DecidableEq
def Circ.zero : Circ := ⟨0, []⟩
def Tab.zero : Tab := ⟨0, [], []⟩
def PP.zero : PP := ⟨0, 0, [], []⟩
def Dia.zero : Dia := ⟨0, [], [], 0, 0⟩
/-- Two slices do not lie in one block. -/
def Apart (u v : Value) : Prop := ∀ g, u.ownBlock = some g → v.ownBlock ≠ some g
theorem own_form {w : World} {base sz n : Nat} {e : TypeId} {v : Value} {xs : List Value} (h : w.ownsRow base e sz v n xs) : ∃ a cap, v = .slice a n cap := by
  rcases Go.Joins.ownsRow_forms h with ⟨rfl, h0⟩ | ⟨g, cap, rfl⟩
  · exact ⟨none, 0, by rw [h0]⟩
  · exact ⟨_, _, rfl⟩
theorem Rd.form_any {w : World} {v : Value} {n sz : Nat} {xs : List Value} (h : Rd w v n sz xs) : ∃ a cap, v = .slice a n cap := by
  rcases h.2 with ⟨⟨a0, c0, rfl⟩, h0⟩ | ⟨b, off, cap, rfl, _⟩
  · exact ⟨a0, c0, by rw [h0]⟩
  · exact ⟨_, _, rfl⟩
theorem own_other {w w' : World} {base sz n : Nat} {e : TypeId} {v v' : Value} {xs : List Value} (hg : w.grownBy w' v'.ownBlock) (ho : w.ownsRow base e sz v n xs) (h : ∀ g, v.ownBlock = some g → v'.ownBlock = some g → False) : w'.ownsRow base e sz v n xs := by
  refine ⟨ho.1, ?_⟩
  rcases ho.2 with h0 | ⟨g, cap, cur, rfl, hbg, hg2, r⟩
  · exact .inl h0
  · exact .inr ⟨g, cap, cur, rfl, hbg, by rw [hg.block g (Array.getElem?_eq_some_iff.1 hg2).1 (fun hh => h g rfl hh.symm)]; exact hg2, r⟩
section
variable {H : Type} {enc : TypeId × Value → H} {P : Program} {w : World} {base : Nat} {spare : Nat → Bool} {held : Bool}
end
section
variable {H : Type} {enc : TypeId × Value → H} {W : World} {base : Nat} {spare : Nat → Bool} {held : Bool} {r : Reach} {b0 : Nat}
end
end Go.Proofs.YtnckabohlakbgaaGreat
namespace Go.Proofs.YtnckabohlakbgaaGreat
set_option linter.unusedSimpArgs false
set_option linter.unusedVariables false
set_option linter.unnecessarySimpa false
set_option maxRecDepth 200000
open Go.ChangeShapes Go.WideShapes Go.ChangeAt Go.RowKit
theorem cell_drew {w : World} {a : Addr} {u : Value} (h : w.cell? a = some u) : w.drew.cell? a = some u := h
theorem frz_drew {w : World} {a : Addr} (h : w.frozen? a = false) : w.drew.frozen? a = false := h
theorem cell_set_far {w : World} {b nb o o2 : Nat} {u v : Value} (hne : b ≠ nb) (h : w.cell? ⟨b, o, none⟩ = some u) : (w.setCell ⟨nb, o2, none⟩ v).cell? ⟨b, o, none⟩ = some u :=
  (World.cell?_setCell_other _ _ _ _ (fun e => hne (by injection e with e1; exact e1.symm))).trans h
theorem new_cell (W : World) (cs : Array Value) (t : TypeId) (j : Nat) (v : Value) (h : cs[j]? = some v) : (W.alloc (.cells cs t)).cell? ⟨W.heap.size, j, none⟩ = some v := by
  rw [World.cell?_alloc_at _ _ _ _ rfl]; exact h
theorem new_frz (W : World) (cs : Array Value) (t : TypeId) (j : Nat) : (W.alloc (.cells cs t)).frozen? ⟨W.heap.size, j, none⟩ = false := World.frozen?_alloc_at _ _ _ _ rfl
end Go.Proofs.YtnckabohlakbgaaGreat
namespace Go.Proofs.YtnckabohlakbgaaGreat
set_option linter.unusedSimpArgs false
set_option linter.unusedVariables false
set_option linter.unnecessarySimpa false
set_option maxRecDepth 200000
open Go.ChangeShapes Go.WideShapes Go.ChangeAt Go.RowKit

/-- A slice of three-cell structs of n elements in block g. -/
def OwnG (w : World) (base : Nat) (t : TypeId) (g n cap : Nat) (xs : List E3) : Prop := w.ownsRow base t 3 (.slice (some ⟨g, 0, none⟩) n cap) n (xs.flatMap E3.cs)
theorem OwnG.len {w : World} {base g n cap : Nat} {t : TypeId} {xs : List E3} (h : OwnG w base t g n cap xs) : xs.length = n := by
  have := h.1; rw [flat_len E3.len] at this; omega
theorem OwnG.of {w : World} {base g n cap : Nat} {t : TypeId} {xs : List E3} (h : OwnE w base t (.slice (some ⟨g, 0, none⟩) n cap) E3.cs 3 xs) (hl : xs.length = n) : OwnG w base t g n cap xs := by
  unfold OwnE at h; rw [hl] at h; exact h
theorem OwnG.own {w : World} {base g n cap : Nat} {t : TypeId} {xs : List E3} (h : OwnG w base t g n cap xs) : OwnE w base t (.slice (some ⟨g, 0, none⟩) n cap) E3.cs 3 xs := by
  have hl := h.len; unfold OwnE; rw [hl]; exact h
theorem OwnG.cell {w : World} {base g n cap : Nat} {t : TypeId} {xs : List E3} (h : OwnG w base t g n cap xs) (i : Nat) (hi : i < n) :
    w.cell? ⟨g, i * 3, none⟩ = some (.int .i64 (xs.getD i ⟨0, 0, 0⟩).a) ∧ w.cell? ⟨g, i * 3 + 1, none⟩ = some (.int .i64 (xs.getD i ⟨0, 0, 0⟩).b) ∧ w.cell? ⟨g, i * 3 + 2, none⟩ = some (.int .i64 (xs.getD i ⟨0, 0, 0⟩).c) := by
  have hl := h.len
  have e : xs.getD i ⟨0, 0, 0⟩ = xs[i] := by simp [List.getD, show i < xs.length by omega]
  have key : ∀ j u, j < 3 → (E3.cs xs[i])[j]? = some u → w.cell? ⟨g, i * 3 + j, none⟩ = some u := by
    intro j u hj hu
    have := World.ownsRow.cells h (g := g) rfl (i * 3 + j) u (by rw [flat_get E3.len xs i j (by omega) hj]; exact hu)
    rw [Addr.add_lit, Nat.zero_add] at this
    exact this
  rw [e]
  exact ⟨key 0 _ (by omega) rfl, key 1 _ (by omega) rfl, key 2 _ (by omega) rfl⟩
theorem OwnG.frz {w : World} {base g n cap : Nat} {t : TypeId} {xs : List E3} (h : OwnG w base t g n cap xs) (j : Nat) : w.frozen? ⟨g, j, none⟩ = false := World.ownsRow.frozenAt h j
theorem OwnG.lt {w : World} {base g n cap : Nat} {t : TypeId} {xs : List E3} (h : OwnG w base t g n cap xs) : base ≤ g ∧ g < w.heap.size := World.ownsRow.lt h g rfl
theorem OwnG.below {w w' : World} {base g n cap B : Nat} {t : TypeId} {xs : List E3} (h : OwnG w base t g n cap xs) (hb : Below B w w') (hB : B = w.heap.size) : OwnG w' base t g n cap xs := own_below h hb hB
theorem set_flat (e : E3) : ∀ (xs : List E3) (i : Nat), i < xs.length → (((xs.flatMap E3.cs).set (i * 3) (.int .i64 e.a)).set (i * 3 + 1) (.int .i64 e.b)).set (i * 3 + 2) (.int .i64 e.c) = (xs.set i e).flatMap E3.cs
  | [], _, h => by simp at h
  | x :: xs, 0, _ => by simp [E3.cs]
  | x :: xs, i + 1, h => by
    have ih := set_flat e xs i (by simpa using h)
    simp only [List.flatMap_cons, List.set_cons_succ]
    rw [← ih]
    have h3 : (E3.cs x).length = 3 := rfl
    rw [List.set_append_right _ _ (by rw [h3]; omega), List.set_append_right _ _ (by rw [h3]; omega), List.set_append_right _ _ (by rw [h3]; omega), h3]
    rw [show (i + 1) * 3 - 3 = i * 3 from by omega, show (i + 1) * 3 + 1 - 3 = i * 3 + 1 from by omega, show (i + 1) * 3 + 2 - 3 = i * 3 + 2 from by omega]
theorem OwnG.set {w : World} {base g n cap : Nat} {t : TypeId} {xs : List E3} (h : OwnG w base t g n cap xs) (i : Nat) (hi : i < n) (e : E3) :
    OwnG (((w.setCell ⟨g, i * 3, none⟩ (.int .i64 e.a)).setCell ⟨g, i * 3 + 1, none⟩ (.int .i64 e.b)).setCell ⟨g, i * 3 + 2, none⟩ (.int .i64 e.c)) base t g n cap (xs.set i e) := by
  have hl := h.len
  have h1 := (World.ownsRow.stored h (i * 3) (.int .i64 e.a)).1
  have h2 := (World.ownsRow.stored h1 (i * 3 + 1) (.int .i64 e.b)).1
  have h3 := (World.ownsRow.stored h2 (i * 3 + 2) (.int .i64 e.c)).1
  rw [set_flat e xs i (by omega)] at h3
  exact h3
/-- What a call has just laid into a block of its own reads. -/
theorem reads_news (w : World) (us : List Value) (t : TypeId) (sz m : Nat) (h : us.length = m * sz) : Reads (w.alloc (.cells us.toArray t)) (w.heap.size + 1) sz (some ⟨w.heap.size, 0, none⟩) m us :=
  ⟨h, fun _ => ⟨_, rfl, by simp, news_cells w us t⟩⟩
theorem own_E3 {w : World} {base : Nat} {t : TypeId} {v : Value} {xs : List E3} {m : Nat} (h : OwnE w base t v E3.cs 3 xs) (hl : xs.length = m) (hm : 0 < m) : ∃ g cap, v = .slice (some ⟨g, 0, none⟩) m cap ∧ base ≤ g ∧ g < w.heap.size := by
  obtain ⟨g, cap, rfl⟩ := Go.Joins.ownsRow_form h (by omega)
  have := h.lt g rfl
  exact ⟨g, cap, by rw [hl], this.1, this.2⟩
end Go.Proofs.YtnckabohlakbgaaGreat
namespace Go.Proofs.YtnckabohlakbgaaGreat
set_option linter.unusedSimpArgs false
set_option linter.unusedVariables false
set_option linter.unnecessarySimpa false
set_option maxRecDepth 200000
open Go.ChangeShapes Go.WideShapes Go.ChangeAt Go.RowKit

/-- Block g holds the cells us. -/
structure Bw (w : World) (g : Nat) (us : List Value) : Prop where
  lt : g < w.heap.size
  cs : ∀ j u, us[j]? = some u → w.cell? ⟨g, j, none⟩ = some u
  fz : ∀ j, j < us.length → w.frozen? ⟨g, j, none⟩ = false
section
variable {w w' w0 : World} {g g2 : Nat} {us vs : List Value} {a b c d e : Value}
theorem Bw.of_block (h : Bw w g us) (hb : w'.heap[g]? = w.heap[g]?) (hs : w.heap.size ≤ w'.heap.size) : Bw w' g us :=
  ⟨Nat.lt_of_lt_of_le h.lt hs, fun j u hu => (World.cell?_of_block (w := w) (w' := w') (a := ⟨g, j, none⟩) hb).trans (h.cs j u hu), fun j hj => (World.frozen?_of_block (w := w) (w' := w') (a := ⟨g, j, none⟩) hb).trans (h.fz j hj)⟩
theorem Bw.call (h : Bw w g us) (hb : Below w.heap.size w w') : Bw w' g us := h.of_block (hb.block g h.lt) hb.size
theorem Bw.kept {r : Option Nat} (h : Bw w g us) (hg : w.grownBy w' r) (hn : some g ≠ r) : Bw w' g us := h.of_block (hg.block g h.lt hn) hg.size
theorem Bw.alloc (h : Bw w g us) (X : Obj) : Bw (w.alloc X) g us := h.of_block (Below.heap_alloc w X g h.lt) (by simp)
theorem Bw.new (w : World) (us : List Value) (t : TypeId) (hg : w.heap.size = g) : Bw (w.alloc (.cells us.toArray t)) g us := by
  subst hg
  refine ⟨by simp, fun j u hu => ?_, fun j _ => new_frz _ _ _ _⟩
  have := news_cells w us t j u hu
  rwa [Addr.add_lit, Nat.zero_add] at this
theorem Bw.set (h : Bw w g us) (k : Nat) (u : Value) : Bw (w.setCell ⟨g, k, none⟩ u) g (us.set k u) := by
  refine ⟨by simpa using h.lt, fun j x hx => ?_, fun j hj => ?_⟩
  · by_cases e : k = j
    · subst e
      by_cases hk : k < us.length
      · rw [List.getElem?_set_self hk] at hx
        injection hx with hx
        subst hx
        exact World.cell?_setCell_same _ _ _ (h.cs k us[k] (by simp [hk]))
      · rw [List.getElem?_eq_none (by simp; omega)] at hx; cases hx
    · rw [List.getElem?_set_ne e] at hx
      exact (World.cell?_setCell_other _ _ _ _ (fun e2 => e (by cases e2; rfl))).trans (h.cs j x hx)
  · rw [World.frozen?_setCell]; exact h.fz j (by simpa using hj)
theorem Bw.other (h : Bw w g us) (hne : g ≠ g2) (k : Nat) (u : Value) : Bw (w.setCell ⟨g2, k, none⟩ u) g us := by
  refine ⟨by simpa using h.lt, fun j x hx => ?_, fun j hj => ?_⟩
  · exact (World.cell?_setCell_other _ _ _ _ (fun e => hne (by injection e with e1 _; exact e1.symm))).trans (h.cs j x hx)
  · rw [World.frozen?_setCell]; exact h.fz j hj
theorem Bw.drew (h : Bw w g us) : Bw w.drew g us := ⟨h.lt, h.cs, h.fz⟩
theorem Bw.c2 (h : Bw w g [a, b]) : (w.cell? ⟨g, 0, none⟩ = some a ∧ w.cell? ⟨g, 1, none⟩ = some b) ∧ w.frozen? ⟨g, 0, none⟩ = false ∧ w.frozen? ⟨g, 1, none⟩ = false :=
  ⟨⟨h.cs 0 _ rfl, h.cs 1 _ rfl⟩, h.fz 0 (by simp), h.fz 1 (by simp)⟩
theorem Bw.c3 (h : Bw w g [a, b, c]) : (w.cell? ⟨g, 0, none⟩ = some a ∧ w.cell? ⟨g, 1, none⟩ = some b ∧ w.cell? ⟨g, 2, none⟩ = some c) ∧ w.frozen? ⟨g, 0, none⟩ = false ∧ w.frozen? ⟨g, 1, none⟩ = false ∧ w.frozen? ⟨g, 2, none⟩ = false :=
  ⟨⟨h.cs 0 _ rfl, h.cs 1 _ rfl, h.cs 2 _ rfl⟩, h.fz 0 (by simp), h.fz 1 (by simp), h.fz 2 (by simp)⟩
theorem Bw.c4 (h : Bw w g [a, b, c, d]) : (w.cell? ⟨g, 0, none⟩ = some a ∧ w.cell? ⟨g, 1, none⟩ = some b ∧ w.cell? ⟨g, 2, none⟩ = some c ∧ w.cell? ⟨g, 3, none⟩ = some d) ∧ w.frozen? ⟨g, 0, none⟩ = false ∧ w.frozen? ⟨g, 1, none⟩ = false ∧ w.frozen? ⟨g, 2, none⟩ = false ∧ w.frozen? ⟨g, 3, none⟩ = false :=
  ⟨⟨h.cs 0 _ rfl, h.cs 1 _ rfl, h.cs 2 _ rfl, h.cs 3 _ rfl⟩, h.fz 0 (by simp), h.fz 1 (by simp), h.fz 2 (by simp), h.fz 3 (by simp)⟩
theorem Bw.c5 (h : Bw w g [a, b, c, d, e]) : (w.cell? ⟨g, 0, none⟩ = some a ∧ w.cell? ⟨g, 1, none⟩ = some b ∧ w.cell? ⟨g, 2, none⟩ = some c ∧ w.cell? ⟨g, 3, none⟩ = some d ∧ w.cell? ⟨g, 4, none⟩ = some e) ∧ w.frozen? ⟨g, 0, none⟩ = false ∧ w.frozen? ⟨g, 1, none⟩ = false ∧ w.frozen? ⟨g, 2, none⟩ = false ∧ w.frozen? ⟨g, 3, none⟩ = false ∧ w.frozen? ⟨g, 4, none⟩ = false :=
  ⟨⟨h.cs 0 _ rfl, h.cs 1 _ rfl, h.cs 2 _ rfl, h.cs 3 _ rfl, h.cs 4 _ rfl⟩, h.fz 0 (by simp), h.fz 1 (by simp), h.fz 2 (by simp), h.fz 3 (by simp), h.fz 4 (by simp)⟩
end
/-- A state: what lies below B is as it was; boxes of the call's own, in blocks of their own, the newest first. -/
structure Sb (B : Nat) (w0 w : World) (L : List (Nat × List Value)) : Prop where
  hB : B ≤ w0.heap.size
  bel : Below B w0 w
  bx : ∀ p ∈ L, Bw w p.1 p.2
  ap : L.Pairwise (fun p q => p.1 ≠ q.1)
  ge : ∀ p ∈ L, w0.heap.size ≤ p.1
section
variable {B : Nat} {w0 w w' : World} {L M : List (Nat × List Value)} {g : Nat} {us : List Value}
theorem Sb.nil (w : World) : Sb w.heap.size w w [] := ⟨Nat.le_refl _, Below.refl _ _, by simp, by simp, by simp⟩
theorem Sb.nilB (w : World) (hB : B ≤ w.heap.size) : Sb B w w [] := ⟨hB, Below.refl _ _, by simp, by simp, by simp⟩
theorem Sb.call (h : Sb B w0 w L) (hb : Below w.heap.size w w') : Sb B w0 w' L :=
  ⟨h.hB, Below.trans h.bel (hb.mono (Nat.le_trans h.hB h.bel.size)), fun p hp => (h.bx p hp).call hb, h.ap, h.ge⟩
theorem Bw.callB {B2 : Nat} (h : Bw w g us) (hb : Below B2 w w') (hg : g < B2) : Bw w' g us := h.of_block (hb.block g hg) hb.size
theorem Sb.callB {B2 : Nat} (h : Sb B w0 w L) (hb : Below B2 w w') (hB2 : B ≤ B2) (hl : ∀ p ∈ L, p.1 < B2) : Sb B w0 w' L :=
  ⟨h.hB, Below.trans h.bel (hb.mono hB2), fun p hp => (h.bx p hp).callB hb (hl p hp), h.ap, h.ge⟩
theorem Sb.drew (h : Sb B w0 w L) : Sb B w0 w.drew L := ⟨h.hB, Below.drew h.bel, fun p hp => (h.bx p hp).drew, h.ap, h.ge⟩
theorem Sb.alloc (h : Sb B w0 w L) (X : Obj) : Sb B w0 (w.alloc X) L :=
  ⟨h.hB, Below.alloc h.bel (Nat.le_trans h.hB h.bel.size) _, fun p hp => (h.bx p hp).alloc X, h.ap, h.ge⟩
theorem Sb.push (h : Sb B w0 w L) (us : List Value) (t : TypeId) {g : Nat} (hg : w.heap.size = g) : Sb B w0 (w.alloc (.cells us.toArray t)) ((g, us) :: L) := by
  have ha := h.alloc (.cells us.toArray t)
  refine ⟨h.hB, ha.bel, fun p hp => ?_, List.pairwise_cons.2 ⟨fun q hq e => ?_, h.ap⟩, fun p hp => ?_⟩
  · rcases List.mem_cons.1 hp with rfl | hp
    · exact Bw.new w us t hg
    · exact ha.bx p hp
  · have := (h.bx q hq).lt
    dsimp only at e; omega
  · rcases List.mem_cons.1 hp with rfl | hp
    · have := h.bel.size; dsimp only; omega
    · exact h.ge p hp
theorem Sb.sub (h : Sb B w0 w L) (hs : List.Sublist M L) : Sb B w0 w M := ⟨h.hB, h.bel, fun p hp => h.bx p (hs.subset hp), h.ap.sublist hs, fun p hp => h.ge p (hs.subset hp)⟩
theorem Sb.tail {p : Nat × List Value} (h : Sb B w0 w (p :: L)) : Sb B w0 w L := h.sub (List.sublist_cons_self _ _)
theorem Sb.head (h : Sb B w0 w ((g, us) :: L)) : Bw w g us := h.bx (g, us) (by simp)
theorem Sb.at (h : Sb B w0 w L) (i : Nat) (hi : L[i]? = some (g, us)) : Bw w g us := h.bx (g, us) (List.mem_of_getElem? hi)
theorem Sb.kept {r : Option Nat} (h : Sb B w0 w L) (hg : w.grownBy w' r) (hr : ∀ b, r = some b → B ≤ b ∧ ∀ p ∈ L, p.1 ≠ b) : Sb B w0 w' L :=
  ⟨h.hB, h.bel.grown hg (Nat.le_trans h.hB h.bel.size) (fun k hk => (hr k hk).1), fun p hp => (h.bx p hp).kept hg (fun e => (hr p.1 e.symm).2 p hp rfl), h.ap, h.ge⟩
theorem Sb.perm (h : Sb B w0 w L) (hp : L.Perm M) : Sb B w0 w M := ⟨h.hB, h.bel, fun p hm => h.bx p (hp.mem_iff.2 hm), (hp.pairwise_iff (fun h => Ne.symm h)).1 h.ap, fun p hm => h.ge p (hp.mem_iff.2 hm)⟩
/-- A store into the newest box. -/
theorem Sb.set0 (h : Sb B w0 w ((g, us) :: L)) (k : Nat) (u : Value) : Sb B w0 (w.setCell ⟨g, k, none⟩ u) ((g, us.set k u) :: L) := by
  obtain ⟨h1, h2⟩ := List.pairwise_cons.1 h.ap
  refine ⟨h.hB, Below.setCell (p := ⟨g, k, none⟩) h.bel (Nat.le_trans h.hB (h.ge (g, us) (by simp))) u, fun p hp => ?_, List.pairwise_cons.2 ⟨fun q hq => h1 q hq, h2⟩, fun p hp => ?_⟩
  · rcases List.mem_cons.1 hp with rfl | hp
    · exact h.head.set k u
    · exact (h.bx p (by simp [hp])).other (fun e => h1 p hp e.symm) k u
  · rcases List.mem_cons.1 hp with rfl | hp
    · exact h.ge (g, us) (by simp)
    · exact h.ge p (by simp [hp])
theorem Sb.set1 {p1 : Nat × List Value} (h : Sb B w0 w (p1 :: (g, us) :: L)) (k : Nat) (u : Value) : Sb B w0 (w.setCell ⟨g, k, none⟩ u) (p1 :: (g, us.set k u) :: L) :=
  ((h.perm (List.Perm.swap _ _ _)).set0 k u).perm (List.Perm.swap _ _ _)
theorem Sb.set2 {p1 p2 : Nat × List Value} (h : Sb B w0 w (p1 :: p2 :: (g, us) :: L)) (k : Nat) (u : Value) : Sb B w0 (w.setCell ⟨g, k, none⟩ u) (p1 :: p2 :: (g, us.set k u) :: L) :=
  ((h.perm (show List.Perm (p1 :: p2 :: (g, us) :: L) ((g, us) :: p1 :: p2 :: L) from List.perm_middle (l₁ := [p1, p2]))).set0 k u).perm (List.perm_middle (l₁ := [p1, p2])).symm
theorem Sb.lt (h : Sb B w0 w ((g, us) :: L)) : g < w.heap.size := h.head.lt
theorem Sb.lt1 {p1 : Nat × List Value} (h : Sb B w0 w (p1 :: (g, us) :: L)) : g < w.heap.size := h.tail.head.lt
/-- The cells of an element of a slice of the call's own. -/
theorem own_at {α : Type} {f : α → List Value} {sz base n c : Nat} {t : TypeId} {a : Option Addr} {xs : List α} (hf : ∀ x, (f x).length = sz) (h : OwnE w base t (.slice a n c) f sz xs) (i : Nat) (hi : i < xs.length) :
    ∃ g, a = some ⟨g, 0, none⟩ ∧ base ≤ g ∧ g < w.heap.size ∧ ∀ j u, j < sz → (f xs[i])[j]? = some u → w.cell? ⟨g, i * sz + j, none⟩ = some u := by
  rcases h.2 with ⟨_, h0⟩ | ⟨g, cap, cur, e, hbg, _⟩
  · omega
  · injection e with e1 e2 e3
    subst e1
    refine ⟨g, rfl, hbg, (OwnE.lt h g rfl).2, fun j u hj hu => ?_⟩
    have := World.ownsRow.cells h (g := g) rfl (i * sz + j) u (by rw [flat_get hf xs i j hi hj]; exact hu)
    rwa [Addr.add_lit, Nat.zero_add] at this
theorem own_set_ne {base sz n : Nat} {t : TypeId} {v : Value} {xs : List Value} (h : w.ownsRow base t sz v n xs) {a : Addr} (hne : v.ownBlock ≠ some a.block) (u : Value) : (w.setCell a u).ownsRow base t sz v n xs := by
  have hb := Below.setCell (p := a) (Below.refl 0 w) (Nat.zero_le _) u
  refine own_other (v' := .slice (some ⟨a.block, 0, none⟩) 0 0) (w := w) ?_ h (fun g e1 e2 => hne (e1.trans ?_))
  · exact ⟨hb.os, hb.tape, hb.output, hb.size, fun k _ hk => Below.heap_setCell _ _ _ k (fun e => hk (by rw [e]; rfl))⟩
  · exact e2.symm
end
end Go.Proofs.YtnckabohlakbgaaGreat
namespace Go.Proofs.YtnckabohlakbgaaGreat
set_option linter.unusedSimpArgs false
set_option linter.unusedVariables false
set_option linter.unnecessarySimpa false
set_option maxRecDepth 200000
open Go.ChangeShapes Go.WideShapes Go.ChangeAt Go.RowKit

def tn (g : E3) : PN := ⟨g.a.toNat, g.b.toNat, g.c.toNat⟩
/-- A valid operator on n qubits. -/
def PauOk (n : Int) (g : E3) : Prop := (0 ≤ g.a ∧ g.a ≤ 3) ∧ (0 ≤ g.b ∧ g.b ≤ 2 ^ n.toNat - 1) ∧ (0 ≤ g.c ∧ g.c ≤ 2 ^ n.toNat - 1)
instance (n : Int) (g : E3) : Decidable (PauOk n g) := by unfold PauOk; infer_instance
/-- A valid image. -/
def ImOk (n : Int) (g : E3) : Prop := PauOk n g ∧ g.a % 2 = 0
instance (n : Int) (g : E3) : Decidable (ImOk n g) := by unfold ImOk; infer_instance
def pauB (n : Int) (g : E3) : Bool := decide ((1 ≤ n ∧ n ≤ 5) ∧ PauOk n g)
theorem pow_5 {n : Int} (h0 : 1 ≤ n) (h1 : n ≤ 5) : (2 : Int) ^ n.toNat ≤ 32 ∧ 2 ≤ (2 : Int) ^ n.toNat := by
  obtain h | h | h | h | h : n = 1 ∨ n = 2 ∨ n = 3 ∨ n = 4 ∨ n = 5 := by omega
  all_goals subst h; decide
theorem PauOk.nat {n : Int} {g : E3} (h0 : 1 ≤ n) (h1 : n ≤ 5) (h : PauOk n g) : g = (tn g).e ∧ PNok (tn g) := by
  obtain ⟨⟨a0, a1⟩, ⟨b0, b1⟩, ⟨c0, c1⟩⟩ := h
  have hp := (pow_5 h0 h1).1
  obtain ⟨a, b, c⟩ := g
  dsimp only at *
  refine ⟨?_, ⟨?_, ?_, ?_⟩⟩
  · unfold tn PN.e; dsimp only; congr 1 <;> omega
  all_goals (unfold tn; dsimp only; omega)
theorem tn_e (a : PN) : tn a.e = a := by unfold tn PN.e; simp
/-- Two images stand as those of a tableau: they commute unless they are of one qubit. -/
def pairB (n : Int) (L : List E3) (i j : Nat) : Bool := commN (tn (L.getD i ⟨0, 0, 0⟩)) (tn (L.getD j ⟨0, 0, 0⟩)) != decide ((i : Int) = (j : Int) + n)
def TabOk (d : Tab) : Prop :=
  (1 ≤ d.n ∧ d.n ≤ 5) ∧ (d.xs.length : Int) = d.n ∧ (d.zs.length : Int) = d.n ∧ (∀ i, i < d.xs.length + d.zs.length → ImOk d.n ((d.xs ++ d.zs).getD i ⟨0, 0, 0⟩)) ∧
    ∀ i, i < d.xs.length + d.zs.length → ∀ j, j < i → pairB d.n (d.xs ++ d.zs) i j = true
noncomputable instance (d : Tab) : Decidable (TabOk d) := Classical.propDecidable _
noncomputable def tabB (d : Tab) : Bool := decide (TabOk d)
/-- The image of an operator, as the program makes it: after k qubits. -/
def imgN (xs zs : List PN) (p : PN) : Nat → PN
  | 0 => ⟨(p.p + pop (p.x &&& p.z)) % 4, 0, 0⟩
  | k + 1 =>
    let s1 := if p.x.testBit k = true then mulN (imgN xs zs p k) (xs.getD k ⟨0, 0, 0⟩) else imgN xs zs p k
    if p.z.testBit k = true then mulN s1 (zs.getD k ⟨0, 0, 0⟩) else s1
/-- The same, as the reference makes it. -/
def imgS (xs zs : List PN) (p : PN) : Nat → PN
  | 0 => ⟨p.p, 0, 0⟩
  | k + 1 =>
    let s1 := if p.x.testBit k = true then mulN (imgS xs zs p k) (xs.getD k ⟨0, 0, 0⟩) else imgS xs zs p k
    let s2 := if p.z.testBit k = true then mulN s1 (zs.getD k ⟨0, 0, 0⟩) else s1
    if p.x.testBit k = true ∧ p.z.testBit k = true then ⟨(s2.p + 1) % 4, s2.x, s2.z⟩ else s2
def cb (m k : Nat) : Nat := (setB m k).length
theorem cb_succ (m k : Nat) : cb m (k + 1) = cb m k + bt m k := by
  unfold cb bt; rw [setB_succ]
  cases h : m.testBit k <;> simp
def Shift (s t : PN) (u : Nat) : Prop := s.x = t.x ∧ s.z = t.z ∧ s.p ≤ 3 ∧ t.p ≤ 3 ∧ s.p % 4 = (t.p + u) % 4
theorem Shift.mul {s t : PN} {u : Nat} (h : Shift s t u) (b : PN) : Shift (mulN s b) (mulN t b) u := by
  obtain ⟨h1, h2, h3, h4, h5⟩ := h
  refine ⟨by unfold mulN; dsimp only; rw [h1], by unfold mulN; dsimp only; rw [h2], ?_, ?_, ?_⟩
  · unfold mulN; dsimp only; omega
  · unfold mulN; dsimp only; omega
  · unfold mulN; dsimp only; rw [h1, h2]; omega
theorem img_shift (xs zs : List PN) (p : PN) (hp : p.p ≤ 3) : ∀ k, Shift (imgN xs zs p k) (imgS xs zs p k) (pop (p.x &&& p.z) + 3 * cb (p.x &&& p.z) k)
  | 0 => by
    refine ⟨rfl, rfl, by unfold imgN; dsimp only; omega, by unfold imgS; dsimp only; omega, ?_⟩
    unfold imgN imgS cb setB; simp
  | k + 1 => by
    have ih := img_shift xs zs p hp k
    have hb : bt (p.x &&& p.z) k = (p.x.testBit k && p.z.testBit k).toNat := by unfold bt; rw [Nat.testBit_and]
    rw [cb_succ, hb]
    unfold imgN imgS
    cases h1 : p.x.testBit k <;> cases h2 : p.z.testBit k
    · simpa using ih
    · simpa using ih.mul _
    · simpa using ih.mul _
    · have i2 := (ih.mul (xs.getD k ⟨0, 0, 0⟩)).mul (zs.getD k ⟨0, 0, 0⟩)
      obtain ⟨a1, a2, a3, a4, a5⟩ := i2
      simp only [if_true, and_self, Bool.and_self, Bool.toNat_true]
      refine ⟨a1, a2, a3, by dsimp only; omega, by dsimp only; omega⟩
theorem PN.eq_of {s t : PN} (h0 : s.p = t.p) (h1 : s.x = t.x) (h2 : s.z = t.z) : s = t := by
  cases s; cases t; dsimp only at *; rw [h0, h1, h2]
theorem cb_all {m n : Nat} (h : m < 2 ^ n) (hn : n ≤ 64) : cb m n = pop m := by
  unfold cb pop
  rw [setB_eq h (Nat.lt_of_lt_of_le h (Nat.pow_le_pow_right (by omega) hn))]
theorem img_same (xs zs : List PN) {p : PN} {n : Nat} (hp : p.p ≤ 3) (hx : p.x < 2 ^ n) (hn : n ≤ 64) : imgS xs zs p n = imgN xs zs p n := by
  obtain ⟨h1, h2, h3, h4, h5⟩ := img_shift xs zs p hp n
  have hlt : p.x &&& p.z < 2 ^ n := Nat.lt_of_le_of_lt Nat.and_le_left hx
  rw [cb_all hlt hn] at h5
  exact PN.eq_of (by omega) h1.symm h2.symm
structure PLok (L : List PN) : Prop where
  all : ∀ a ∈ L, PNok a
theorem PLok.get {L : List PN} (h : PLok L) (i : Nat) : PNok (L.getD i ⟨0, 0, 0⟩) := by
  by_cases hi : i < L.length
  · have e : L.getD i ⟨0, 0, 0⟩ = L[i] := by simp [List.getD, hi]
    rw [e]; exact h.all _ (List.getElem_mem hi)
  · have e : L.getD i ⟨0, 0, 0⟩ = ⟨0, 0, 0⟩ := by simp [List.getD, hi]
    rw [e]; exact ⟨by decide, by decide, by decide⟩
theorem imgN_ok {xs zs : List PN} {p : PN} (hx : PLok xs) (hz : PLok zs) : ∀ k, PNok (imgN xs zs p k)
  | 0 => ⟨by unfold imgN; dsimp only; omega, by simp [imgN], by simp [imgN]⟩
  | k + 1 => by
    have ih := imgN_ok (p := p) hx hz k
    unfold imgN
    dsimp only
    split
    · split
      · exact mulN_ok (mulN_ok ih (hx.get k)) (hz.get k)
      · exact mulN_ok ih (hz.get k)
    · split
      · exact mulN_ok ih (hx.get k)
      · exact ih
theorem imgS_ok {xs zs : List PN} {p : PN} (hp : p.p ≤ 3) (hx : PLok xs) (hz : PLok zs) : ∀ k, PNok (imgS xs zs p k)
  | 0 => ⟨hp, by simp [imgS], by simp [imgS]⟩
  | k + 1 => by
    have ih := imgS_ok (p := p) hp hx hz k
    have h1 : PNok (if p.x.testBit k = true then mulN (imgS xs zs p k) (xs.getD k ⟨0, 0, 0⟩) else imgS xs zs p k) := by
      split
      · exact mulN_ok ih (hx.get k)
      · exact ih
    have h2 : PNok (if p.z.testBit k = true then mulN (if p.x.testBit k = true then mulN (imgS xs zs p k) (xs.getD k ⟨0, 0, 0⟩) else imgS xs zs p k) (zs.getD k ⟨0, 0, 0⟩) else (if p.x.testBit k = true then mulN (imgS xs zs p k) (xs.getD k ⟨0, 0, 0⟩) else imgS xs zs p k)) := by
      split
      · exact mulN_ok h1 (hz.get k)
      · exact h1
    unfold imgS
    dsimp only
    split
    · exact ⟨by dsimp only; omega, h2.x, h2.z⟩
    · exact h2
end Go.Proofs.YtnckabohlakbgaaGreat
namespace Go.Proofs.YtnckabohlakbgaaGreat
set_option linter.unusedSimpArgs false
set_option linter.unusedVariables false
set_option linter.unnecessarySimpa false
set_option maxRecDepth 200000
open Go.ChangeShapes Go.WideShapes Go.ChangeAt Go.RowKit

theorem toNat_u64 (x : Nat) (h1 : x < 18446744073709551616) : (BitVec.ofInt 64 (x : Int)).toNat = x := by
  rw [BitVec.ofInt_natCast, BitVec.toNat_ofNat]
  exact Nat.mod_eq_of_lt (by omega)
theorem bits_andU (x y : Nat) (hx : x < 9223372036854775808) (hy : y < 9223372036854775808) : bits .and .u64 (x : Int) (y : Int) = ((x &&& y : Nat) : Int) := by
  show IntKind.u64.wrap ((BitVec.ofInt 64 (x : Int) &&& BitVec.ofInt 64 (y : Int)).toNat : Int) = _
  rw [BitVec.toNat_and, toNat_u64 _ (by omega), toNat_u64 _ (by omega)]
  have : x &&& y ≤ x := Nat.and_le_left
  exact IntWalk.u64_in _ (by omega)
theorem and_127 (y : Nat) (hy : y < 9223372036854775808) : bits .and .i64 (y : Int) 127 = ((y % 128 : Nat) : Int) := by
  have h := bits_and y 127 hy (by omega)
  have e : y &&& 127 = y % 128 := Nat.and_two_pow_sub_one_eq_mod y 7
  rw [e] at h; exact h
theorem OnesCount64_any (x : Nat) (w : World) (hx : x < 4294967296) :
    Calls Tryz.prog 99 #[.int .u64 (x : Int)] w fun e w' => e = .returned (.int .i64 (pop x : Int)) ∧ w = w' := by
  obtain ⟨a1, h1⟩ : ∃ a, a = x / 2 &&& repB 85 8 := ⟨_, rfl⟩
  obtain ⟨a2, h2⟩ : ∃ a, a = x &&& repB 85 8 := ⟨_, rfl⟩
  have l1 : a1 ≤ x / 2 := h1 ▸ Nat.and_le_left
  have l2 : a2 ≤ x := h2 ▸ Nat.and_le_left
  obtain ⟨b1, h3⟩ : ∃ b, b = (a1 + a2) / 4 &&& repB 51 8 := ⟨_, rfl⟩
  obtain ⟨b2, h4⟩ : ∃ b, b = (a1 + a2) &&& repB 51 8 := ⟨_, rfl⟩
  have l3 : b1 ≤ (a1 + a2) / 4 := h3 ▸ Nat.and_le_left
  have l4 : b2 ≤ a1 + a2 := h4 ▸ Nat.and_le_left
  obtain ⟨y, h5⟩ : ∃ y, y = ((b1 + b2) / 16 + (b1 + b2)) &&& repB 15 8 := ⟨_, rfl⟩
  have l5 : y ≤ (b1 + b2) / 16 + (b1 + b2) := h5 ▸ Nat.and_le_left
  have m0 : repB 85 8 = 6148914691236517205 := by decide
  have m1 : repB 51 8 = 3689348814741910323 := by decide
  have m2 : repB 15 8 = 1085102592571150095 := by decide
  have e1 : bits .and .u64 ((x : Int) / 2) 6148914691236517205 = (a1 : Int) := by
    have := bits_andU (x / 2) 6148914691236517205 (by omega) (by omega); rw [h1, m0, ← this]; simp
  have e2 : bits .and .u64 (x : Int) 6148914691236517205 = (a2 : Int) := by
    have := bits_andU x 6148914691236517205 (by omega) (by omega); rw [h2, m0, ← this]; simp
  have e3 : bits .and .u64 (((a1 : Int) + (a2 : Int)) / 4) 3689348814741910323 = (b1 : Int) := by
    have := bits_andU ((a1 + a2) / 4) 3689348814741910323 (by omega) (by omega); rw [h3, m1, ← this]; simp
  have e4 : bits .and .u64 ((a1 : Int) + (a2 : Int)) 3689348814741910323 = (b2 : Int) := by
    have := bits_andU (a1 + a2) 3689348814741910323 (by omega) (by omega); rw [h4, m1, ← this]; simp
  have e5 : bits .and .u64 (((b1 : Int) + (b2 : Int)) / 16 + ((b1 : Int) + (b2 : Int))) 1085102592571150095 = (y : Int) := by
    have := bits_andU ((b1 + b2) / 16 + (b1 + b2)) 1085102592571150095 (by omega) (by omega); rw [h5, m2, ← this]; simp
  obtain ⟨y1, h6⟩ : ∃ y1, y1 = y + y / 256 := ⟨_, rfl⟩
  obtain ⟨y2, h7⟩ : ∃ y2, y2 = y1 + y1 / 65536 := ⟨_, rfl⟩
  obtain ⟨y3, h8⟩ : ∃ y3, y3 = y2 + y2 / 4294967296 := ⟨_, rfl⟩
  obtain ⟨r1, r2⟩ := pop_sum x y y1 y2 y3 (by rw [h5, show b1 + b2 = S2 8 (a1 + a2) from by rw [h3, h4]; rfl, show a1 + a2 = S1 8 x from by rw [h1, h2]; rfl]; rfl) h6 h7 h8
  have e8 : bits .and .i64 (y3 : Int) 127 = (pop x : Int) := by rw [and_127 _ r1, r2]
  have s6 : ((y : Int) + (y : Int) / 256) = (y1 : Int) := by omega
  have s7 : ((y1 : Int) + (y1 : Int) / 65536) = (y2 : Int) := by omega
  have s8 : ((y2 : Int) + (y2 : Int) / 4294967296) = (y3 : Int) := by omega
  have k1 : y ≤ 8589934592 := by omega
  have k2 : y1 ≤ 17179869184 := by omega
  have k3 : y2 ≤ 34359738368 := by omega
  have k4 : a1 ≤ 2147483648 := by omega
  have k5 : a2 ≤ 4294967296 := by omega
  have k6 : b1 ≤ 4294967296 := by omega
  have k7 : b2 ≤ 8589934592 := by omega
  have k8 : y3 ≤ 34359738368 + 8 := by omega
  clear h1 h2 h3 h4 h5 h6 h7 h8 m0 m1 m2 r2 l1 l2 l3 l4 l5
  go_enter Tryz.func99, Tryz.ntmps99
  go_wp2_with fail
  go_ret
  exact ⟨rfl, rfl⟩
theorem OnesCount_any (x : Nat) (w : World) (hx : x < 4294967296) :
    Calls Tryz.prog 70 #[.int .u64 (x : Int)] w fun e w' => e = .returned (.int .i64 (pop x : Int)) ∧ w = w' := by
  go_enter Tryz.func70, Tryz.ntmps70
  go_wp2_with fail
  refine (OnesCount64_any x _ hx).mono ?_; rintro e w' ⟨rfl, rfl⟩
  go_wp2_with fail
  go_ret
  exact ⟨rfl, rfl⟩
end Go.Proofs.YtnckabohlakbgaaGreat
namespace Go.Proofs.YtnckabohlakbgaaGreat
set_option linter.unusedSimpArgs false
set_option linter.unusedVariables false
set_option linter.unnecessarySimpa false
set_option maxRecDepth 200000
open Go.ChangeShapes Go.WideShapes Go.ChangeAt Go.RowKit

theorem bt_le (x q : Nat) : bt x q ≤ 1 := by unfold bt; cases x.testBit q <;> simp
theorem bit_one (y k : Nat) (h : y < 9223372036854775808) : bits .and .i64 ((y : Int) / 2 ^ k) 1 = (bt y k : Int) := by
  have e : ((y : Int) / 2 ^ k) = ((y / 2 ^ k : Nat) : Int) := by simp
  have hle : y / 2 ^ k ≤ y := Nat.div_le_self _ _
  rw [e]
  unfold bt
  rw [Nat.testBit, Nat.one_and_eq_mod_two, Nat.shiftRight_eq_div_pow]
  generalize y / 2 ^ k = q at hle
  rw [bits_and1 _ (by omega) (by omega)]
  have h2 : q % 2 = 0 ∨ q % 2 = 1 := by omega
  have e3 : ((q : Int) % 2) = ((q % 2 : Nat) : Int) := by simp
  rw [e3]
  rcases h2 with h2 | h2 <;> rw [h2] <;> simp
theorem spec_l7Letter_any (a : PN) (q : Nat) (w : World) (ha : PNok a) (hq : q ≤ 60) :
    Calls Tryz.prog 74 #[.agg #[.int .i64 ((a).p : Int), .int .i64 ((a).x : Int), .int .i64 ((a).z : Int)], .int .i64 (q : Int)] w fun e w' => e = .returned (.int .i64 (ltr a q : Int)) ∧ Below w.heap.size w w' := by
  obtain ⟨p, x, z⟩ := a
  obtain ⟨hp, hx, hz⟩ := ha
  dsimp only at *
  have b1 := bit_one x q (by omega)
  have b2 := bit_one z q (by omega)
  have l1 := bt_le x q; have l2 := bt_le z q
  go_enter Tryz.func74, Tryz.ntmps74
  go_wp2_with fail
  go_ret
  exact ⟨ret_int (by unfold ltr; simp), belo⟩
set_option maxHeartbeats 1000000 in
theorem spec_l7Sign_any (x y : Nat) (w : World) (hx : x ≤ 3) (hy : y ≤ 3) :
    Calls Tryz.prog 100 #[.int .i64 (x : Int), .int .i64 (y : Int)] w fun e w' => e = .returned (.int .i64 (sgT x y : Int)) ∧ Below w.heap.size w w' := by
  have c : (w.alloc (.cells #[.int .i64 0, .int .i64 0, .int .i64 0, .int .i64 0, .int .i64 0, .int .i64 0, .int .i64 3, .int .i64 1, .int .i64 0, .int .i64 1, .int .i64 0, .int .i64 3, .int .i64 0, .int .i64 3, .int .i64 1, .int .i64 0] 136)).cell? ⟨w.heap.size, x * 4 + y, none⟩ = some (.int .i64 (sgT x y : Int)) := by
    rw [World.cell?_alloc_at _ _ _ _ rfl]
    obtain rfl | rfl | rfl | rfl : x = 0 ∨ x = 1 ∨ x = 2 ∨ x = 3 := by omega
    all_goals
      obtain rfl | rfl | rfl | rfl : y = 0 ∨ y = 1 ∨ y = 2 ∨ y = 3 := by omega
      all_goals rfl
  have i1 : (x : Int) < 4 := by omega
  have i2 : (y : Int) < 4 := by omega
  have i3 : (0 : Int) ≤ x := by omega
  have i4 : (0 : Int) ≤ y := by omega
  go_enter Tryz.func100, Tryz.ntmps100
  go_wp2_with fail
  go_ret
  exact ⟨rfl, belo⟩
theorem tmod4 (p : Int) : (Int.tmod p 4 + 4) % 4 = p % 4 ∧ -3 ≤ Int.tmod p 4 ∧ Int.tmod p 4 ≤ 3 := by
  have h := Int.tmod_def p 4
  have h1 := Int.tmod_lt_of_pos p (show (0 : Int) < 4 by decide)
  have h2 := Int.lt_tmod_of_pos p (show (0 : Int) < 4 by decide)
  generalize p.tdiv 4 = q at h
  omega
end Go.Proofs.YtnckabohlakbgaaGreat
namespace Go.Proofs.YtnckabohlakbgaaGreat
set_option linter.unusedSimpArgs false
set_option linter.unusedVariables false
set_option linter.unnecessarySimpa false
set_option maxRecDepth 200000
open Go.ChangeShapes Go.WideShapes Go.ChangeAt Go.RowKit

theorem ret_agg3 {a b : Int} {y z : Value} (h : a = b) : Ending.returned (.agg #[.int .i64 a, y, z]) = .returned (.agg #[.int .i64 b, y, z]) := by rw [h]
theorem quiet_left {f : FuncId} {args : Array Value} {w : World} {n : Nat} {v : Value} (h : Calls Tryz.prog f args (w.drewN n) fun e w' => e = .returned v ∧ w.drewN n = w') :
    Calls Tryz.prog f args (w.drewN n) fun e w'' => e = .returned v ∧ ∃ m, w'' = w.drewN m :=
  h.mono fun _ _ h => ⟨h.1, n, h.2.symm⟩
theorem quiet_add_left {f : FuncId} {args : Array Value} {w : World} {a n : Nat} {v : Value} (h : Calls Tryz.prog f args (w.drewN (a + n)) fun e w' => e = .returned v ∧ w.drewN (a + n) = w') :
    Calls Tryz.prog f args (w.drewN (a + n)) fun e w'' => e = .returned v ∧ ∃ m, w'' = w.drewN (a + m) :=
  h.mono fun _ _ h => ⟨h.1, n, h.2.symm⟩
theorem pop31 {x : Nat} (h : x ≤ 31) : pop x ≤ 5 := by
  rw [pop_5 h]; unfold pop5
  have := bt_le x 0; have := bt_le x 1; have := bt_le x 2; have := bt_le x 3; have := bt_le x 4
  omega
set_option maxHeartbeats 1000000 in
theorem impl_times_any (a b : PN) (w : World) (ha : PNok a) (hb : PNok b) :
    Calls Tryz.prog 71 #[.agg #[.int .i64 ((a).p : Int), .int .i64 ((a).x : Int), .int .i64 ((a).z : Int)], .agg #[.int .i64 ((b).p : Int), .int .i64 ((b).x : Int), .int .i64 ((b).z : Int)]] w fun e w' => e = .returned (.agg #[.int .i64 ((mulN a b).p : Int), .int .i64 ((mulN a b).x : Int), .int .i64 ((mulN a b).z : Int)]) ∧ Below w.heap.size w w' := by
  obtain ⟨p, x, z⟩ := a
  obtain ⟨p2, x2, z2⟩ := b
  obtain ⟨hp, hx, hz⟩ := ha
  obtain ⟨hp2, hx2, hz2⟩ := hb
  dsimp only at *
  have HM : mulN ⟨p, x, z⟩ ⟨p2, x2, z2⟩ = ⟨(p + p2 + pop (x &&& z) + pop (x2 &&& z2) + 2 * pop (z &&& x2) + 3 * pop ((x ^^^ x2) &&& (z ^^^ z2))) % 4, x ^^^ x2, z ^^^ z2⟩ := rfl
  have e1 := bits_xor x x2 (by omega) (by omega)
  have e2 := bits_xor z z2 (by omega) (by omega)
  have e3 := bits_and x z (by omega) (by omega)
  have e4 := bits_and x2 z2 (by omega) (by omega)
  have e5 := bits_and z x2 (by omega) (by omega)
  have x1 := xor31 hx hx2
  have z1 := xor31 hz hz2
  have e6 := bits_and (x ^^^ x2) (z ^^^ z2) (by omega) (by omega)
  have m3 := @and31 x z hx
  have m4 := @and31 x2 z2 hx2
  have m5 := @and31 z x2 hz
  have m6 := @and31 (x ^^^ x2) (z ^^^ z2) x1
  generalize x ^^^ x2 = X at *
  generalize z ^^^ z2 = Z at *
  generalize x &&& z = M3 at *
  generalize x2 &&& z2 = M4 at *
  generalize z &&& x2 = M5 at *
  generalize X &&& Z = M6 at *
  have q3 := OnesCount_any M3; have q4 := OnesCount_any M4; have q5 := OnesCount_any M5; have q6 := OnesCount_any M6
  have r3 := pop31 m3; have r4 := pop31 m4; have r5 := pop31 m5; have r6 := pop31 m6
  generalize pop M3 = N3 at *
  generalize pop M4 = N4 at *
  generalize pop M5 = N5 at *
  generalize pop M6 = N6 at *
  rw [HM]
  clear HM
  have Q3 := Lib.hid q3; have Q4 := Lib.hid q4; have Q5 := Lib.hid q5; have Q6 := Lib.hid q6
  clear q3 q4 q5 q6
  go_enter Tryz.func71, Tryz.ntmps71
  go_wp2_with fail
  go_quiet (fail)
  go_wp2_with fail
  go_quiet ((first | (go_at_call_of 70 M3; exact quiet_add_left (Q3.out _ (by omega))) | (go_at_call_of 70 M4; exact quiet_add_left (Q4.out _ (by omega))) | (go_at_call_of 70 M5; exact quiet_add_left (Q5.out _ (by omega))) | (go_at_call_of 70 M6; exact quiet_add_left (Q6.out _ (by omega)))))
  generalize hP : ((p : Int) + p2 + N3 + N4 + 2 * N5 - N6) = P
  have hP2 : -5 ≤ P ∧ P ≤ 30 := by omega
  obtain ⟨hP3, hP4⟩ := hP2
  obtain ⟨t1, t2, t3⟩ := tmod4 P
  have HP := Lib.hid hP; clear hP
  go_wp2_with fail
  refine bodyPost_ret (v := .agg #[.int .i64 (P % 4), .int .i64 (X : Int), .int .i64 (Z : Int)]) (by simp [results, Tryz.results71, go_sem]) rfl ⟨?_, belo⟩
  rw [ret_agg3 (show P % 4 = (((p + p2 + N3 + N4 + 2 * N5 + 3 * N6) % 4 : Nat) : Int) from by rw [← HP.out]; omega)]
theorem commN_def (a b : PN) : commN a b = ((pop (a.x &&& b.z) + pop (a.z &&& b.x)) % 2 == 0) := rfl
set_option maxHeartbeats 1000000 in
theorem impl_commute_any (a b : PN) (w : World) (ha : PNok a) (hb : PNok b) :
    Calls Tryz.prog 44 #[.agg #[.int .i64 ((a).p : Int), .int .i64 ((a).x : Int), .int .i64 ((a).z : Int)], .agg #[.int .i64 ((b).p : Int), .int .i64 ((b).x : Int), .int .i64 ((b).z : Int)]] w fun e w' => e = .returned (.bool (commN a b)) ∧ Below w.heap.size w w' := by
  rw [commN_def]
  obtain ⟨p, x, z⟩ := a
  obtain ⟨p2, x2, z2⟩ := b
  obtain ⟨hp, hx, hz⟩ := ha
  obtain ⟨hp2, hx2, hz2⟩ := hb
  dsimp only at *
  have e1 := bits_and x z2 (by omega) (by omega)
  have e2 := bits_and z x2 (by omega) (by omega)
  have m1 := @and31 x z2 hx
  have m2 := @and31 z x2 hz
  generalize x &&& z2 = M1 at *
  generalize z &&& x2 = M2 at *
  have q1 := OnesCount_any M1; have q2 := OnesCount_any M2
  have r1 := pop31 m1; have r2 := pop31 m2
  generalize pop M1 = N1 at *
  generalize pop M2 = N2 at *
  have Q1 := Lib.hid q1; have Q2 := Lib.hid q2
  clear q1 q2
  go_enter Tryz.func44, Tryz.ntmps44
  go_wp2_with fail
  go_quiet ((first | (go_at_call_of 70 M1; exact quiet_left (Q1.out _ (by omega))) | (go_at_call_of 70 M2; exact quiet_left (Q2.out _ (by omega)))))
  go_wp2_with fail
  go_ret
  exact ⟨ret_bool (by rw [Bool.eq_iff_iff, beq_iff_eq, beq_iff_eq]; omega), belo⟩
end Go.Proofs.YtnckabohlakbgaaGreat
namespace Go.Proofs.YtnckabohlakbgaaGreat
set_option linter.unusedSimpArgs false
set_option linter.unusedVariables false
set_option linter.unnecessarySimpa false
set_option maxRecDepth 200000
open Go.ChangeShapes Go.WideShapes Go.ChangeAt Go.RowKit

theorem apart_new {u v v' : Value} {H : Nat} (h : Apart u v) (hu : ∀ g, u.ownBlock = some g → g < H) (hv : v'.ownBlock = v.ownBlock ∨ v'.ownBlock = some H) : Apart u v' := by
  intro g h1 h2
  rcases hv with e | e
  · rw [e] at h2; exact h g h1 h2
  · rw [e] at h2; injection h2 with h2; have := hu g h1; omega
theorem apart_app {u v : Value} {g H n c : Nat} (h : Apart u v) (hu : ∀ g, u.ownBlock = some g → g < H) (hat : v.ownBlock = some g ∨ g = H) : Apart u (.slice (some ⟨g, 0, none⟩) n c) :=
  apart_new h hu (by rcases hat with e | e
                     · left; rw [e]; rfl
                     · right; rw [e]; rfl)
theorem Apart.symm {u v : Value} (h : Apart u v) : Apart v u := fun g h1 h2 => h g h2 h1
theorem apart_nil (v : Value) : Apart (.slice none 0 0) v := fun g h => by cases h
theorem cell_grown {w w' : World} {v u : Value} {b o : Nat} (hg : w.grownBy w' v.ownBlock) (hc : w.cell? ⟨b, o, none⟩ = some u) (hne : v.ownBlock ≠ some b) : w'.cell? ⟨b, o, none⟩ = some u := by
  rw [World.cell?_of_block (w := w) (w' := w') (a := ⟨b, o, none⟩) (hg.block b (World.block_lt_of_cell? w _ hc) (Ne.symm hne))]; exact hc
theorem frz_grown {w w' : World} {v : Value} {b o : Nat} (hg : w.grownBy w' v.ownBlock) (hl : b < w.heap.size) (hc : w.frozen? ⟨b, o, none⟩ = false) (hne : v.ownBlock ≠ some b) : w'.frozen? ⟨b, o, none⟩ = false := by
  rw [World.frozen?_of_block (w := w) (w' := w') (a := ⟨b, o, none⟩) (hg.block b hl (Ne.symm hne))]; exact hc
theorem cell_set_other {w : World} {b o o2 : Nat} {u v : Value} (h : w.cell? ⟨b, o, none⟩ = some u) (hne : o2 ≠ o := by decide) : (w.setCell ⟨b, o2, none⟩ v).cell? ⟨b, o, none⟩ = some u :=
  (World.cell?_setCell_other _ _ _ _ (fun e => hne (by injection e))).trans h
theorem add_flat (b j : Nat) : ((⟨b, 0, none⟩ : Addr).add j) = ⟨b, j, none⟩ := by unfold Addr.add; split <;> simp_all
theorem news_at (w : World) (us : List Value) (t : TypeId) (B : Nat) (hB : w.heap.size = B) : ∀ (j : Nat) (u : Value), us[j]? = some u → (w.alloc (.cells us.toArray t)).cell? ((⟨B, 0, none⟩ : Addr).add j) = some u := by subst hB; exact news_cells w us t
theorem news_up {w : World} {us : List Value} {b : Nat} (X : Obj) (h : ∀ j u, us[j]? = some u → w.cell? ((⟨b, 0, none⟩ : Addr).add j) = some u) : ∀ j u, us[j]? = some u → (w.alloc X).cell? ((⟨b, 0, none⟩ : Addr).add j) = some u := by
  intro j u hj; have := h j u hj; rw [add_flat] at this ⊢; exact cell_alloc_keep X this
theorem news_drew {w : World} {us : List Value} {a : Addr} (h : ∀ (j : Nat) u, us[j]? = some u → w.cell? (a.add j) = some u) : ∀ (j : Nat) u, us[j]? = some u → w.drew.cell? (a.add j) = some u := h
theorem news_far {w w' : World} {us : List Value} {L b : Nat} (hn : ∀ b j u, L ≤ b → w.cell? ⟨b, j, none⟩ = some u → w'.cell? ⟨b, j, none⟩ = some u) (hb : L ≤ b) (h : ∀ j u, us[j]? = some u → w.cell? ((⟨b, 0, none⟩ : Addr).add j) = some u) : ∀ j u, us[j]? = some u → w'.cell? ((⟨b, 0, none⟩ : Addr).add j) = some u := by
  intro j u hj; have := h j u hj; rw [add_flat] at this ⊢; exact hn b j u hb this
/-- The world N, then blocks of one's own up to X, then an append to the row vx: what stays. -/
theorem two_step {W0 N X w1 : World} {B sz nx nz : Nat} {e e2 : TypeId} {sz2 : Nat} {vx vz : Value} {xs zs : List Value} (hb : Below N.heap.size N X) (hox : N.ownsRow (B + 1) e sz vx nx xs) (hoz : N.ownsRow (B + 1) e2 sz2 vz nz zs) (hap : Apart vx vz) (hbel : Below B W0 N) (hB : B < N.heap.size) (hgr : X.grownBy w1 vx.ownBlock) :
    w1.ownsRow (B + 1) e2 sz2 vz nz zs ∧ Below B W0 w1 ∧ N.heap.size ≤ X.heap.size ∧ X.heap.size ≤ w1.heap.size ∧ (∀ o u, N.cell? ⟨B, o, none⟩ = some u → w1.cell? ⟨B, o, none⟩ = some u) ∧ (∀ o, N.frozen? ⟨B, o, none⟩ = false → w1.frozen? ⟨B, o, none⟩ = false) ∧ (∀ b j u, N.heap.size ≤ b → X.cell? ⟨b, j, none⟩ = some u → w1.cell? ⟨b, j, none⟩ = some u) := by
  have hs := hb.size
  have nb : vx.ownBlock ≠ some B := fun h => by have := (hox.lt _ h).1; omega
  refine ⟨own_other hgr (own_below hoz hb rfl) (fun g h1 h2 => hap g h2 h1), ?_, hs, hgr.size, ?_, ?_, ?_⟩
  · exact (hbel.trans (hb.mono (by omega))).grown hgr (by omega) (fun k hk => Nat.le_trans (Nat.le_succ B) (hox.lt k hk).1)
  · intro o u h; exact cell_grown hgr (below_cell hb rfl h) nb
  · intro o h; exact frz_grown hgr (by omega) (below_frz hb rfl hB h) nb
  · intro b j u hb2 h; exact cell_grown hgr h (fun h2 => by have := (hox.lt _ h2).2; omega)
end Go.Proofs.YtnckabohlakbgaaGreat
