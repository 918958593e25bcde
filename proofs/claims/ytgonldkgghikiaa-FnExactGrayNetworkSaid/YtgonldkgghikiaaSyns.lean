/- Red0, Red1, Red2, Red3, Red4, Syn0, Syn1, Syn2 in one text. -/
import Derived.Test.YtgonldkgghikiaaLin3
import Derived.Test.YtgonldkgghikiaaDat
import Derived.Test.YtgonldkgghikiaaPar2
import Derived.Test.YtgonldkgghikiaaTyGate
import Derived.Test.YtgonldkgghikiaaCut1
import Derived.Test.YtgonldkgghikiaaOwnG
import Derived.Test.YtgonldkgghikiaaTwo2
import Derived.Test.YtgonldkgghikiaaLin4
import Derived.Test.YtgonldkgghikiaaCirc1
import Derived.Test.YtgonldkgghikiaaWords
import Derived.Test.YtgonldkgghikiaaBrk
import Derived.BigRegion
import Derived.Deep.DeepMust
import Derived.Deep.RegionLaw
namespace Go.Proofs.Ytgonldkgghikiaa
set_option linter.unusedSimpArgs false
set_option linter.unusedVariables false
set_option linter.unnecessarySimpa false
set_option maxRecDepth 200000
open Go.ChangeShapes Go.WideShapes Go.ChangeAt Go.RowKit

structure RS where (L : List Nat) (gs : List E3)
def RS.add (s : RS) (a b : Nat) : RS := ⟨cxN s.L a b, s.gs ++ [⟨9, (a : Int), (b : Int)⟩]⟩
def bitAt (L : List Nat) (i k : Nat) : Bool := (L.getD i 0).testBit k
/-- The first inner loop, d rounds before its end at n = i + d. -/
def red1 (k : Nat) : Nat → Nat → RS → RS
  | 0, _, s => s
  | d + 1, i, s => if bitAt s.L k k = true then s else red1 k d (i + 1) (if bitAt s.L i k = true then s.add i k else s)
/-- The second inner loop. -/
def red2 (k : Nat) : Nat → Nat → RS → RS
  | 0, _, s => s
  | d + 1, i, s => red2 k d (i + 1) (if i ≠ k ∧ bitAt s.L i k = true then s.add k i else s)
def redK (n k : Nat) (s : RS) : RS := red2 k n 0 (red1 k (n - (k + 1)) (k + 1) s)
/-- The outer loop, d rounds before its end. -/
def red0 (n : Nat) : Nat → Nat → RS → RS
  | 0, _, s => s
  | d + 1, k, s => red0 n d (k + 1) (redK n k s)
def redG (L : List Nat) : List E3 := (red0 L.length L.length 0 ⟨L, []⟩).gs
theorem RS.add_len (s : RS) (a b : Nat) : (s.add a b).L.length = s.L.length := by simp [RS.add, cxN_len]
theorem red1_stop {k d i : Nat} {s : RS} (h : bitAt s.L k k = true) : red1 k d i s = s := by
  cases d with
  | zero => rfl
  | succ d => simp [red1, h]
/-- What holds of all states: rows stay small, their number stays, gates are valid controlled NOTs, and few. -/
structure RSok (n : Nat) (m : Nat) (s : RS) : Prop where
  len : s.L.length = n
  small : Small s.L
  gates : ∀ g ∈ s.gs, g.a = 9 ∧ 0 ≤ g.b ∧ g.b < n ∧ 0 ≤ g.c ∧ g.c < n ∧ g.b ≠ g.c
  few : s.gs.length ≤ m
theorem RSok.mono {n m m' : Nat} {s : RS} (h : RSok n m s) (hm : m ≤ m') : RSok n m' s := ⟨h.len, h.small, h.gates, Nat.le_trans h.few hm⟩
theorem RSok.add {n m : Nat} {s : RS} {a b : Nat} (h : RSok n m s) (ha : a < n) (hb : b < n) (hab : a ≠ b) : RSok n (m + 1) (s.add a b) := by
  refine ⟨by rw [RS.add_len]; exact h.len, h.small.cx a b, fun g hg => ?_, by simp [RS.add]; exact h.few⟩
  simp [RS.add] at hg
  rcases hg with hg | rfl
  · exact h.gates g hg
  · refine ⟨rfl, by simp, by simpa using ha, by simp, by simpa using hb, fun e => hab (by dsimp only at e; omega)⟩
theorem RSok.red1 {n k : Nat} (hk : k < n) : ∀ {d i m : Nat} {s : RS}, i + d = n → k < i → RSok n m s → RSok n (m + d) (red1 k d i s)
  | 0, _, m, s, _, _, h => h
  | d + 1, i, m, s, hd, hi, h => by
    unfold Go.Proofs.Ytgonldkgghikiaa.red1
    split
    · exact h.mono (by omega)
    · split
      · exact (RSok.red1 hk (by omega) (by omega) (h.add (by omega) hk (by omega))).mono (by omega)
      · exact (RSok.red1 hk (by omega) (by omega) h).mono (by omega)
theorem RSok.red2 {n k : Nat} (hk : k < n) : ∀ {d i m : Nat} {s : RS}, i + d = n → RSok n m s → RSok n (m + d) (red2 k d i s)
  | 0, _, m, s, _, h => h
  | d + 1, i, m, s, hd, h => by
    unfold Go.Proofs.Ytgonldkgghikiaa.red2
    split
    · next hc => exact (RSok.red2 hk (by omega) (h.add hk (by omega) (fun e => hc.1 e.symm))).mono (by omega)
    · exact (RSok.red2 hk (by omega) h).mono (by omega)
theorem RSok.redK {n k m : Nat} {s : RS} (hk : k < n) (h : RSok n m s) : RSok n (m + 2 * n) (redK n k s) :=
  (RSok.red2 hk (by omega) (RSok.red1 hk (by omega) (by omega) h)).mono (by omega)
theorem RSok.red0 {n : Nat} : ∀ {d k m : Nat} {s : RS}, k + d = n → RSok n m s → RSok n (m + d * (2 * n)) (red0 n d k s)
  | 0, _, m, s, _, h => h.mono (by omega)
  | d + 1, k, m, s, hd, h => (RSok.red0 (by omega) (RSok.redK (by omega) h)).mono (by rw [show (d + 1) * (2 * n) = d * (2 * n) + 2 * n from Nat.succ_mul d (2 * n)]; omega)
theorem redG_ok {L : List Nat} (h : Small L) : RSok L.length (L.length * (2 * L.length)) (red0 L.length L.length 0 ⟨L, []⟩) :=
  (RSok.red0 (by omega) (⟨rfl, h, by simp, by simp⟩ : RSok L.length 0 ⟨L, []⟩)).mono (by omega)
/-- Rows with gates applied one behind the other. -/
def cxs (L : List Nat) (gs : List E3) : List Nat := gs.foldl (fun L g => cxN L g.b.toNat g.c.toNat) L
theorem cxs_len (L : List Nat) (gs : List E3) : (cxs L gs).length = L.length := by
  induction gs generalizing L with
  | nil => rfl
  | cons g gs ih => simp [cxs] at ih ⊢; rw [ih, cxN_len]
theorem Small.cxs {L : List Nat} (h : Small L) (gs : List E3) : Small (cxs L gs) := by
  induction gs generalizing L with
  | nil => exact h
  | cons g gs ih => exact ih (h.cx _ _)
theorem cxs_take {L : List Nat} {gs : List E3} {k : Nat} (h : k < gs.length) : cxs L (gs.take (k + 1)) = cxN (cxs L (gs.take k)) gs[k].b.toNat gs[k].c.toNat := by
  rw [List.take_succ_eq_append_getElem h, cxs, List.foldl_append]; rfl
end Go.Proofs.Ytgonldkgghikiaa
namespace Go.Proofs.Ytgonldkgghikiaa
set_option linter.unusedSimpArgs false
set_option linter.unusedVariables false
set_option linter.unnecessarySimpa false
set_option maxRecDepth 200000
open Go.ChangeShapes Go.WideShapes Go.ChangeAt Go.RowKit

theorem bit_test0 (y k : Nat) (h : y < 9223372036854775808) : (bits .and .i64 ((y : Int) / 2 ^ k) 1 == 0) = !y.testBit k := by
  have h1 := bit_test y k h
  have e : ((y : Int) / 2 ^ k) = ((y / 2 ^ k : Nat) : Int) := by simp
  have hle : y / 2 ^ k ≤ y := Nat.div_le_self _ _
  rw [← h1, e]
  generalize y / 2 ^ k = q at hle
  rw [bits_and1 _ (by omega) (by omega)]
  have e3 : ((q : Int) % 2) = ((q % 2 : Nat) : Int) := by simp
  have h2 : q % 2 = 0 ∨ q % 2 = 1 := by omega
  rw [e3]
  rcases h2 with h2 | h2 <;> rw [h2] <;> simp
/-- The reference's state: the rows' box and the gates. -/
structure RSt (B bx n : Nat) (W0 w : World) (vO : Value) (g cap : Nat) (s : RS) : Prop where
  c0 : w.cell? ⟨bx, 0, none⟩ = some (.slice (some ⟨g, 0, none⟩) n cap)
  f0 : w.frozen? ⟨bx, 0, none⟩ = false
  own : OwnI w B (.slice (some ⟨g, 0, none⟩) n cap) (ints s.L)
  out : w.ownsRow (bx + 1) 62 3 vO s.gs.length (s.gs.flatMap E3.cs)
  ap : ∀ g', vO.ownBlock = some g' → g' ≠ g
  ne : g ≠ bx
  bel : Below B W0 w
  Bb : B ≤ bx
theorem RSt.lt {B bx n : Nat} {W0 w : World} {vO : Value} {g cap : Nat} {s : RS} (h : RSt B bx n W0 w vO g cap s) : bx < w.heap.size := World.block_lt_of_cell? _ _ h.c0
theorem RSt.row {B bx n : Nat} {W0 w : World} {vO : Value} {g cap : Nat} {s : RS} (h : RSt B bx n W0 w vO g cap s) (j : Nat) (hj : j < s.L.length) : w.cell? ⟨g, j, none⟩ = some (.int .i64 ((s.L.getD j 0 : Nat) : Int)) := by
  have := World.ownsRow.cells (show w.ownsRow B 3 1 (.slice (some ⟨g, 0, none⟩) n cap) (ints s.L).length ((ints s.L).map (Value.int .i64)) from h.own) (g := g) rfl j (.int .i64 ((s.L.getD j 0 : Nat) : Int)) (by simp [ints, List.getD, hj])
  rw [Addr.add_lit, Nat.zero_add] at this
  exact this
theorem RSt.step {B bx n : Nat} {W0 w x1 w4 : World} {vO v' : Value} {g cap gN capN a b : Nat} {s : RS} (h : RSt B bx n W0 w vO g cap s) (hx1 : Below w.heap.size w x1)
    (ho' : OwnI x1 w.heap.size (.slice (some ⟨gN, 0, none⟩) n capN) (ints (cxN s.L a b)))
    (hown : w4.ownsRow (bx + 1) 62 3 v' (s.gs.length + 1) (s.gs.flatMap E3.cs ++ E3.cs ⟨9, (a : Int), (b : Int)⟩))
    (hg : ((x1.setCell ⟨bx, 0, none⟩ (.slice (some ⟨gN, 0, none⟩) n capN)).alloc (.cells #[.int .i64 9, .int .i64 (a : Int), .int .i64 (b : Int)] 62)).grownBy w4 vO.ownBlock)
    (hat : v'.ownBlock = vO.ownBlock ∨ v'.ownBlock = some ((x1.setCell ⟨bx, 0, none⟩ (.slice (some ⟨gN, 0, none⟩) n capN)).alloc (.cells #[.int .i64 9, .int .i64 (a : Int), .int .i64 (b : Int)] 62)).heap.size) :
    RSt B bx n W0 w4 v' gN capN (s.add a b) := by
  have hlt := h.lt
  have hs := hx1.size
  have hgN := ho'.lt gN rfl
  have hO := h.out.lt
  have nb : vO.ownBlock ≠ some bx := fun e => by have := (hO bx e).1; omega
  have z1 := hg.size
  have c1 : (x1.setCell ⟨bx, 0, none⟩ (.slice (some ⟨gN, 0, none⟩) n capN)).cell? ⟨bx, 0, none⟩ = some (.slice (some ⟨gN, 0, none⟩) n capN) := World.cell?_setCell_same _ _ _ (below_cell hx1 rfl h.c0)
  have f1 : (x1.setCell ⟨bx, 0, none⟩ (.slice (some ⟨gN, 0, none⟩) n capN)).frozen? ⟨bx, 0, none⟩ = false := by rw [World.frozen?_setCell]; exact below_frz hx1 rfl hlt h.f0
  refine ⟨cell_grown hg (cell_alloc_keep _ c1) nb, frz_grown hg (by simp; omega) (frozen_alloc_keep _ c1 f1) nb, ?_, by simpa [RS.add] using hown, ?_, by omega, ?_, h.Bb⟩
  · have o1 : OwnI (x1.setCell ⟨bx, 0, none⟩ (.slice (some ⟨gN, 0, none⟩) n capN)) B (.slice (some ⟨gN, 0, none⟩) n capN) (ints (cxN s.L a b)) :=
      own_set_ne (own_le ho' (by have := h.Bb; omega)) (fun g hg => by injection hg with hg; subst hg; dsimp only; omega) _
    exact own_other hg (o1.alloc _) (fun k h1 h2 => by have h1 : gN = k := by simpa [Value.ownBlock] using h1
                                                       have := (hO k h2).2; omega)
  · intro g' hg'
    rcases hat with e | e
    · rw [e] at hg'; have := (hO g' hg').2; omega
    · rw [e] at hg'; injection hg' with hg'; simp at hg'; omega
  · have b1 : Below B W0 x1 := Below.trans h.bel (hx1.mono (by have := h.Bb; omega))
    have b2 : Below B W0 (x1.setCell ⟨bx, 0, none⟩ (.slice (some ⟨gN, 0, none⟩) n capN)) := Below.setCell b1 h.Bb _
    have b3 := Below.alloc b2 (by have := h.Bb; simp; omega) (.cells #[.int .i64 9, .int .i64 (a : Int), .int .i64 (b : Int)] 62)
    exact b3.grown hg (by have := h.Bb; simp; omega) (fun k hk => by have := (hO k hk).1; have := h.Bb; omega)
theorem redF_1 {L : List Nat} {n k : Nat} {s : RS} (hk : k < n) (h : (red0 n (n - k) k s).gs = redG L) : (red0 n (n - (k + 1)) (k + 1) (red2 k n 0 (red1 k (n - (k + 1)) (k + 1) s))).gs = redG L := by
  rw [← h, show n - k = (n - (k + 1)) + 1 from by omega]; rfl
theorem redF_2 {L : List Nat} {n k j : Nat} {s : RS} (hj : j < n) (hb : bitAt s.L k k = false) (h : (red0 n (n - (k + 1)) (k + 1) (red2 k n 0 (red1 k (n - j) j s))).gs = redG L) : (red0 n (n - (k + 1)) (k + 1) (red2 k n 0 (red1 k (n - (j + 1)) (j + 1) (if bitAt s.L j k = true then s.add j k else s)))).gs = redG L := by
  rw [← h, show n - j = (n - (j + 1)) + 1 from by omega, red1, hb]; simp
theorem redF_3 {L : List Nat} {n k j : Nat} {s : RS} (hj : n ≤ j ∨ bitAt s.L k k = true) (h : (red0 n (n - (k + 1)) (k + 1) (red2 k n 0 (red1 k (n - j) j s))).gs = redG L) : (red0 n (n - (k + 1)) (k + 1) (red2 k (n - 0) 0 s)).gs = redG L := by
  rw [← h, Nat.sub_zero]
  rcases hj with hj | hj
  · rw [show n - j = 0 from by omega]; rfl
  · rw [red1_stop hj]
theorem redF_4 {L : List Nat} {n k j : Nat} {s : RS} (hj : j < n) (h : (red0 n (n - (k + 1)) (k + 1) (red2 k (n - j) j s)).gs = redG L) : (red0 n (n - (k + 1)) (k + 1) (red2 k (n - (j + 1)) (j + 1) (if j ≠ k ∧ bitAt s.L j k = true then s.add k j else s))).gs = redG L := by
  rw [← h, show n - j = (n - (j + 1)) + 1 from by omega, red2]
theorem redF_5 {L : List Nat} {n k j : Nat} {s : RS} (hj : n ≤ j) (h : (red0 n (n - (k + 1)) (k + 1) (red2 k (n - j) j s)).gs = redG L) : (red0 n (n - (k + 1)) (k + 1) s).gs = redG L := by
  rw [← h, show n - j = 0 from by omega, red2]
end Go.Proofs.Ytgonldkgghikiaa
namespace Go.Proofs.Ytgonldkgghikiaa
set_option linter.unusedSimpArgs false
set_option linter.unusedVariables false
set_option linter.unnecessarySimpa false
set_option maxRecDepth 200000
open Go.ChangeShapes Go.WideShapes Go.ChangeAt Go.RowKit

/-- The program's state: the rows, changed in place, behind box b3; the gates behind box b4. -/
structure RIt (B b3 b4 n g cap : Nat) (W0 w : World) (vO : Value) (s : RS) : Prop where
  c3 : w.cell? ⟨b3, 0, none⟩ = some (.slice (some ⟨g, 0, none⟩) n cap)
  c4 : w.cell? ⟨b4, 0, none⟩ = some vO
  f4 : w.frozen? ⟨b4, 0, none⟩ = false
  rows : OwnN w B g n cap s.L
  out : w.ownsRow B 62 3 vO s.gs.length (s.gs.flatMap E3.cs)
  ap : ∀ g', vO.ownBlock = some g' → g' ≠ g ∧ g' ≠ b3 ∧ g' ≠ b4
  n3 : g ≠ b3
  n4 : g ≠ b4
  n34 : b3 ≠ b4
  B4 : B ≤ b4
  bel : Below B W0 w
theorem RIt.mid {B b3 b4 n g cap : Nat} {W0 w : World} {vO : Value} {s : RS} (h : RIt B b3 b4 n g cap W0 w vO s) (b x : Nat) :
    RIt B b3 b4 n g cap W0 ((w.setCell ⟨g, b, none⟩ (.int .i64 (x : Int))).drew) vO ⟨s.L.set b x, s.gs⟩ := by
  have hR := h.rows.lt
  refine ⟨cell_set_far (Ne.symm h.n3) h.c3, cell_set_far (Ne.symm h.n4) h.c4, by show (w.setCell _ _).frozen? _ = false; rw [World.frozen?_setCell]; exact h.f4, ?_, ?_, h.ap, h.n3, h.n4, h.n34, h.B4, Below.drew (Below.setCell h.bel hR.1 _)⟩
  · exact (h.rows.set b x).below (show Below (w.setCell ⟨g, b, none⟩ (.int .i64 (x : Int))).heap.size _ (w.setCell ⟨g, b, none⟩ (.int .i64 (x : Int))).drew from (by repeat (first | exact Below.refl _ _ | assumption | refine Below.drew ?_ | refine below_drewN ?_ _ | refine Below.alloc ?_ (by first | omega | (simp <;> omega)) _ | refine Below.setCell ?_ (by first | omega | (simp <;> omega)) _ | refine Below.trans ?_ (Below.mono (by assumption) (by first | omega | (simp <;> omega)))))) rfl
  · exact own_below (own_set_ne (p := ⟨g, b, none⟩) h.out (fun g' hg' => (h.ap g' hg').1) _) (show Below (w.setCell ⟨g, b, none⟩ (.int .i64 (x : Int))).heap.size _ (w.setCell ⟨g, b, none⟩ (.int .i64 (x : Int))).drew from (by repeat (first | exact Below.refl _ _ | assumption | refine Below.drew ?_ | refine below_drewN ?_ _ | refine Below.alloc ?_ (by first | omega | (simp <;> omega)) _ | refine Below.setCell ?_ (by first | omega | (simp <;> omega)) _ | refine Below.trans ?_ (Below.mono (by assumption) (by first | omega | (simp <;> omega)))))) rfl
theorem RIt.app {B b3 b4 n g cap a b : Nat} {W0 w w4 : World} {vO v' : Value} {s : RS} (h : RIt B b3 b4 n g cap W0 w vO s)
    (hown : w4.ownsRow B 62 3 v' (s.gs.length + 1) (s.gs.flatMap E3.cs ++ E3.cs ⟨9, (a : Int), (b : Int)⟩))
    (hg : (w.alloc (.cells #[.int .i64 9, .int .i64 (a : Int), .int .i64 (b : Int)] 62)).grownBy w4 vO.ownBlock)
    (hat : v'.ownBlock = vO.ownBlock ∨ v'.ownBlock = some (w.alloc (.cells #[.int .i64 9, .int .i64 (a : Int), .int .i64 (b : Int)] 62)).heap.size) :
    w4.cell? ⟨b4, 0, none⟩ = some vO ∧ w4.frozen? ⟨b4, 0, none⟩ = false ∧ RIt B b3 b4 n g cap W0 (w4.setCell ⟨b4, 0, none⟩ v') v' ⟨s.L, s.gs ++ [⟨9, (a : Int), (b : Int)⟩]⟩ := by
  have hR := h.rows.lt
  have hO := h.out.lt
  have L3 : b3 < w.heap.size := World.block_lt_of_cell? _ _ h.c3
  have L4 : b4 < w.heap.size := World.block_lt_of_cell? _ _ h.c4
  have nb3 : vO.ownBlock ≠ some b3 := fun e => (h.ap _ e).2.1 rfl
  have nb4 : vO.ownBlock ≠ some b4 := fun e => (h.ap _ e).2.2 rfl
  have d4 := cell_grown hg (cell_alloc_keep _ h.c4) nb4
  have e4 := frz_grown hg (by simp; omega) (frozen_alloc_keep _ h.c4 h.f4) nb4
  have d3 := cell_grown hg (cell_alloc_keep _ h.c3) nb3
  have hv : ∀ g', v'.ownBlock = some g' → g' ≠ g ∧ g' ≠ b3 ∧ g' ≠ b4 := by
    intro g' hg'
    rcases hat with e | e
    · rw [e] at hg'; exact h.ap g' hg'
    · rw [e] at hg'; injection hg' with hg'; simp at hg'
      exact ⟨by omega, by omega, by omega⟩
  refine ⟨d4, e4, ?_, World.cell?_setCell_same _ _ _ d4, by rw [World.frozen?_setCell]; exact e4, ?_, ?_, hv, h.n3, h.n4, h.n34, h.B4, ?_⟩
  · exact cell_set_far h.n34 d3
  · exact own_set_ne (own_other hg (World.ownsRow.alloc h.rows _) (fun k h1 h2 => by injection h1 with h1; subst h1; exact (h.ap _ h2).1 rfl)) (fun k hk => by injection hk with hk; subst hk; exact h.n4) _
  · have e9 : (s.gs ++ [(⟨9, (a : Int), (b : Int)⟩ : E3)]).length = s.gs.length + 1 := by simp
    dsimp only
    rw [e9, List.flatMap_append]
    exact own_set_ne (by simpa using hown) (fun k hk => (hv k hk).2.2) _
  · have b3' := Below.alloc h.bel (by omega) (.cells #[.int .i64 9, .int .i64 (a : Int), .int .i64 (b : Int)] 62)
    exact Below.setCell (b3'.grown hg (by simp; omega) (fun k hk => (hO k hk).1)) h.B4 _
end Go.Proofs.Ytgonldkgghikiaa
namespace Go.Proofs.Ytgonldkgghikiaa
set_option linter.unusedSimpArgs false
set_option linter.unusedVariables false
set_option linter.unnecessarySimpa false
set_option maxRecDepth 200000
open Go.ChangeShapes Go.WideShapes Go.ChangeAt Go.RowKit

theorem Mid.setc {w w' : World} {lo hi : Nat} (h : Mid lo hi w w') {b o : Nat} (hb : lo ≤ b ∧ b < hi) (u : Value) : Mid lo hi w (w'.setCell ⟨b, o, none⟩ u) :=
  have q := Below.setCell (p := ⟨b, o, none⟩) (Below.refl 0 w') (Nat.zero_le _) u
  ⟨q.os.trans h.os, q.tape.trans h.tape, q.output.trans h.output, Nat.le_trans h.size q.size, fun k hk hkk => by rw [Below.heap_setCell w' ⟨b, o, none⟩ u k (by dsimp only; omega)]; exact h.block k hk hkk⟩
theorem Mid.drew {w w' : World} {lo hi : Nat} (h : Mid lo hi w w') : Mid lo hi w w'.drew := h.trans (.of_below (show Below w'.heap.size w' w'.drew from (by repeat (first | exact Below.refl _ _ | assumption | refine Below.drew ?_ | refine below_drewN ?_ _ | refine Below.alloc ?_ (by first | omega | (simp <;> omega)) _ | refine Below.setCell ?_ (by first | omega | (simp <;> omega)) _ | refine Below.trans ?_ (Below.mono (by assumption) (by first | omega | (simp <;> omega)))))) rfl)
theorem Mid.call {w w' w'' : World} {lo hi : Nat} (h : Mid lo hi w w') (hb : Below w'.heap.size w' w'') : Mid lo hi w w'' := h.trans (.of_below hb rfl)
/-- What InvertLinear answers. -/
noncomputable def invLG (zs : List Int) : Option (List Int) := if LinOk zs then some (ints (cxs (idN zs.length) (redG (zs.map Int.toNat)))) else none
theorem invLG_len (zs : List Int) : ((invLG zs).getD []).length ≤ 1000000 := by
  unfold invLG; split
  · next h =>
    obtain ⟨⟨_, h5⟩, _⟩ := h
    simp [ints_len, cxs_len, idN_len]; omega
  · simp
theorem red_gate {L : List Nat} (h : Small L) {k : Nat} (hk : k < (redG L).length) : ∃ a b : Nat, (redG L).getD k ⟨0, 0, 0⟩ = ⟨9, (a : Int), (b : Int)⟩ ∧ a < L.length ∧ b < L.length ∧ a ≠ b := by
  have e : (redG L).getD k ⟨0, 0, 0⟩ = (redG L)[k] := by simp [List.getD, hk]
  have hg := (redG_ok h).gates (redG L)[k] (List.getElem_mem hk)
  rw [e]
  generalize (redG L)[k] = g at hg ⊢
  obtain ⟨x, y, z⟩ := g
  dsimp only at hg
  obtain ⟨rfl, h1, h2, h3, h4, h5⟩ := hg
  obtain ⟨a, rfl⟩ := Int.eq_ofNat_of_zero_le h1
  obtain ⟨b, rfl⟩ := Int.eq_ofNat_of_zero_le h3
  exact ⟨a, b, rfl, by omega, by omega, fun e => h5 (by rw [e])⟩
theorem red_few {L : List Nat} (h : Small L) (h5 : L.length ≤ 5) : (redG L).length ≤ 50 := by
  have h1 : (redG L).length ≤ L.length * (2 * L.length) := (redG_ok h).few
  have h2 : L.length * (2 * L.length) ≤ 5 * (2 * 5) := Nat.mul_le_mul h5 (by omega)
  omega
theorem cxs_next {L gs : List E3} {M : List Nat} {k a b : Nat} (h : k < gs.length) (hg : gs.getD k ⟨0, 0, 0⟩ = ⟨9, (a : Int), (b : Int)⟩) : cxs M (gs.take (k + 1)) = cxN (cxs M (gs.take k)) a b := by
  rw [cxs_take h]
  have e : gs[k] = ⟨9, (a : Int), (b : Int)⟩ := by rw [← hg]; simp [List.getD, h]
  rw [e]; simp
end Go.Proofs.Ytgonldkgghikiaa
namespace Go.Proofs.Ytgonldkgghikiaa
set_option linter.unusedSimpArgs false
set_option linter.unusedVariables false
set_option linter.unnecessarySimpa false
set_option maxRecDepth 200000
open Go.ChangeShapes Go.WideShapes Go.ChangeAt Go.RowKit

theorem Mid.ownN {w w' : World} {lo hi base g n cap : Nat} {M : List Nat} (h : Mid lo hi w w') (ho : OwnN w base g n cap M) (hb : g < lo ∨ hi ≤ g) : OwnN w' base g n cap M :=
  Mid.own h ho (fun k hk => by injection hk with hk; subst hk; exact hb)
end Go.Proofs.Ytgonldkgghikiaa
namespace Go.Proofs.Ytgonldkgghikiaa
set_option linter.unusedSimpArgs false
set_option linter.unusedVariables false
set_option linter.unnecessarySimpa false
set_option maxRecDepth 200000
open Go.ChangeShapes Go.WideShapes Go.ChangeAt Go.RowKit

/-- A list whose first and last k elements have been exchanged. -/
def revTo (xs : List E3) (k : Nat) : List E3 := (List.range xs.length).map fun i => if i < k ∨ xs.length ≤ i + k then xs.getD (xs.length - 1 - i) ⟨0, 0, 0⟩ else xs.getD i ⟨0, 0, 0⟩
theorem revTo_len (xs : List E3) (k : Nat) : (revTo xs k).length = xs.length := by simp [revTo]
theorem revTo_get (xs : List E3) (k i : Nat) (hi : i < xs.length) : (revTo xs k).getD i ⟨0, 0, 0⟩ = if i < k ∨ xs.length ≤ i + k then xs.getD (xs.length - 1 - i) ⟨0, 0, 0⟩ else xs.getD i ⟨0, 0, 0⟩ := by
  unfold revTo; simp [List.getD, hi]
theorem ext_getD {xs ys : List E3} (hl : xs.length = ys.length) (h : ∀ i, i < xs.length → xs.getD i ⟨0, 0, 0⟩ = ys.getD i ⟨0, 0, 0⟩) : xs = ys := by
  apply List.ext_getElem hl
  intro i h1 h2
  have := h i h1
  simpa [List.getD, h1, h2] using this
theorem revTo_0 (xs : List E3) : revTo xs 0 = xs :=
  ext_getD (revTo_len _ _) fun i hi => by rw [revTo_len] at hi; rw [revTo_get _ _ _ hi, if_neg (by omega)]
theorem getD_set (xs : List E3) (i j : Nat) (e : E3) (hi : i < xs.length) : (xs.set i e).getD j ⟨0, 0, 0⟩ = if j = i then e else xs.getD j ⟨0, 0, 0⟩ := by
  simp only [List.getD, List.getElem?_set]
  by_cases h : i = j
  · subst h; simp [hi]
  · simp [h, Ne.symm h]
theorem revTo_step (xs : List E3) {k q : Nat} (hk : k < q) (hq : q + k + 1 = xs.length) : ((revTo xs k).set k (xs.getD q ⟨0, 0, 0⟩)).set q (xs.getD k ⟨0, 0, 0⟩) = revTo xs (k + 1) := by
  refine ext_getD (by simp [revTo_len]) fun i hi => ?_
  simp only [List.length_set, revTo_len] at hi
  rw [getD_set _ _ _ _ (by simp [revTo_len]; omega), getD_set _ _ _ _ (by rw [revTo_len]; omega), revTo_get _ _ _ hi, revTo_get _ _ _ hi]
  by_cases h1 : i = q
  · subst h1; rw [if_pos rfl, if_pos (by omega), show xs.length - 1 - i = k from by omega]
  · rw [if_neg h1]
    by_cases h2 : i = k
    · subst h2; rw [if_pos rfl, if_pos (by omega), show xs.length - 1 - i = q from by omega]
    · rw [if_neg h2]
      by_cases h3 : i < k ∨ xs.length ≤ i + k
      · rw [if_pos h3, if_pos (by omega)]
      · rw [if_neg h3, if_neg (by omega)]
theorem revTo_end (xs : List E3) {k q : Nat} (hk : q ≤ k) (hq : q + k + 1 = xs.length) : revTo xs k = xs.reverse := by
  refine ext_getD (by simp [revTo_len]) fun i hi => ?_
  rw [revTo_len] at hi
  rw [revTo_get _ _ _ hi]
  have e : xs.reverse.getD i ⟨0, 0, 0⟩ = xs.getD (xs.length - 1 - i) ⟨0, 0, 0⟩ := by
    simp [List.getD, List.getElem?_reverse hi]
  rw [e]
  by_cases h3 : i < k ∨ xs.length ≤ i + k
  · rw [if_pos h3]
  · rw [if_neg h3, show xs.length - 1 - i = i from by omega]
/-- What a function that answers a circuit and 'ok' leaves. -/
def CircPost (w : World) (r : Option Circ) (e : Ending) (w' : World) : Prop :=
  ∃ u, e = .returned (.tuple #[.agg #[.int .i64 (r.getD Circ.zero).n, u], .bool r.isSome]) ∧ OwnE w' w.heap.size 62 u E3.cs 3 (r.getD Circ.zero).gs ∧ Below w.heap.size w w'
theorem CircPost.none {w w' : World} {r : Option Circ} (hr : r = none) (hb : Below w.heap.size w w') : CircPost w r (.returned (.tuple #[.agg #[.int .i64 0, .slice none 0 0], .bool false])) w' := by
  subst hr; exact ⟨_, rfl, OwnE.nil _ _ _, hb⟩
theorem CircPost.some {w w' : World} {r : Option Circ} {n : Int} {gs : List E3} {u : Value} (hr : r = some ⟨n, gs⟩) (ho : OwnE w' w.heap.size 62 u E3.cs 3 gs) (hb : Below w.heap.size w w') : CircPost w r (.returned (.tuple #[.agg #[.int .i64 n, u], .bool true])) w' := by
  subst hr; exact ⟨_, rfl, ho, hb⟩
def circIf (n : Int) (gs : List E3) : Option Circ := if circB ⟨n, gs⟩ = true then some ⟨n, gs⟩ else none
theorem circIf_len (n : Int) (gs : List E3) : ((circIf n gs).getD Circ.zero).gs.length ≤ 1000000 := by
  unfold circIf; split
  · next h =>
    have h2 : CircOk ⟨n, gs⟩ := of_decide_eq_true h
    have : gs.length ≤ 400 := h2.2.1
    simp; omega
  · simp [Circ.zero]
theorem RdE.reads {w : World} {A : Option Addr} {n c sz : Nat} {α : Type} {f : α → List Value} {xs : List α} (h : RdE w (.slice A n c) f sz xs) : Reads w w.heap.size sz A n (xs.flatMap f) := by
  rcases h.2 with ⟨⟨a, cp, e⟩, hn⟩ | ⟨b, off, cap, e, hb, h1, h2, h3⟩
  · injection e with e1 e2 e3
    subst e2
    have : xs = [] := List.eq_nil_of_length_eq_zero hn
    subst this
    exact Reads.none_
  · injection e with e1 e2 e3
    subst e1 e2
    refine ⟨h.1, fun _ => ⟨_, rfl, hb, fun j u hu => ?_⟩⟩
    rw [Addr.add_lit]; exact h3 j u hu
set_option maxHeartbeats 4000000 in
theorem impl_circuitIf_any (n : Int) (v : Value) (gs : List E3) (w : World) (h : RdE w v E3.cs 3 gs) (hl : gs.length ≤ 1048576) :
    Calls Try.prog 23 #[.int .i64 n, v] w (CircPost w (circIf n gs)) := by
  obtain ⟨i0, hi, hz0, hz1, hz2⟩ := info_parts info_Gate
  have H := Lib.hid h
  obtain ⟨A, c, rfl, _⟩ := h.form
  clear h
  cases hb : circB ⟨n, gs⟩
  all_goals
    have HB := Lib.hid hb
    have HG : Hid (circIf n gs = if circB ⟨n, gs⟩ = true then some ⟨n, gs⟩ else none) := rfl
    rw [hb] at HG
    clear hb
    go_enter Try.func23, Try.ntmps23
    have RR := Lib.hid ((RdE.reads (Rd.below H.out (show Below w.heap.size w ((w.alloc (.cells #[.int .i64 0, .slice none 0 0] 25)).alloc (.cells #[] 62)) from (by repeat (first | exact Below.refl _ _ | assumption | refine Below.drew ?_ | refine below_drewN ?_ _ | refine Below.alloc ?_ (by first | omega | (simp <;> omega)) _ | refine Below.setCell ?_ (by first | omega | (simp <;> omega)) _ | refine Below.trans ?_ (Below.mono (by assumption) (by first | omega | (simp <;> omega)))))) rfl)))
    have OO := Lib.hid (own_lit0 (f := E3.cs) (sz := 3) (w.alloc (.cells #[.int .i64 0, .slice none 0 0] 25)) (w.heap.size + 1) 62 (w.heap.size + 1) (by simp) (by omega))
    go_wp2_with (at_builtin; go_must (refine wpList_append_any _ rfl _ _ 23 rfl (w.heap.size + 1) 62 i0 (.agg #[.int .i64 0, .int .i64 0, .int .i64 0]) 3 24 Try.underlying23 hi hz0 hz1 hz2 rfl (by decide) _ 0 [] rfl OO.out _ _ gs.length _ (gs.flatMap E3.cs) rfl RR.out (flat_one E3.one gs) (by unfold maxLen; omega) (by omega) (by first | (simp; done) | (simp; omega)) ?_; intro v3 w4 hown3 hg3 hat3; (simp only [Nat.zero_add, List.nil_append] at hown3); obtain ⟨a3, c3, rfl⟩ := own_form hown3))
    replace hg3 : World.grownBy _ w4 (Value.slice (some ⟨w.heap.size + 1, 0, none⟩) 0 0).ownBlock := hg3
    have r0 : w4.cell? ⟨w.heap.size, 0, none⟩ = some (.int .i64 0) := cell_grown hg3 (by repeat (first | (refine Eq.trans (World.cell?_alloc_at _ _ _ _ ?hh) ?_; (case hh => (simp; done)); rfl) | refine cell_alloc_keep _ ?_)) (fun h => by simp [Value.ownBlock] at h)
    have r1 : w4.cell? ⟨w.heap.size, 1, none⟩ = some (.slice none 0 0) := cell_grown hg3 (by repeat (first | (refine Eq.trans (World.cell?_alloc_at _ _ _ _ ?hh) ?_; (case hh => (simp; done)); rfl) | refine cell_alloc_keep _ ?_)) (fun h => by simp [Value.ownBlock] at h)
    have f0 : w4.frozen? ⟨w.heap.size, 0, none⟩ = false := frz_grown hg3 (by first | (simp; done) | (simp; omega)) (by repeat (first | (refine World.frozen?_alloc_at _ _ _ _ ?hh; case hh => (simp; done)) | (refine frozen_alloc_lt _ ?hh ?_; case hh => first | omega | (simp <;> omega)))) (fun h => by simp [Value.ownBlock] at h)
    have f1 : w4.frozen? ⟨w.heap.size, 1, none⟩ = false := frz_grown hg3 (by first | (simp; done) | (simp; omega)) (by repeat (first | (refine World.frozen?_alloc_at _ _ _ _ ?hh; case hh => (simp; done)) | (refine frozen_alloc_lt _ ?hh ?_; case hh => first | omega | (simp <;> omega)))) (fun h => by simp [Value.ownBlock] at h)
    have b4 := Lib.hid (show Below w.heap.size w w4 from (show Below w.heap.size w ((w.alloc (.cells #[.int .i64 0, .slice none 0 0] 25)).alloc (.cells #[] 62)) from (by repeat (first | exact Below.refl _ _ | assumption | refine Below.drew ?_ | refine below_drewN ?_ _ | refine Below.alloc ?_ (by first | omega | (simp <;> omega)) _ | refine Below.setCell ?_ (by first | omega | (simp <;> omega)) _ | refine Below.trans ?_ (Below.mono (by assumption) (by first | omega | (simp <;> omega)))))).grown hg3 (by simp; omega) (fun k hk => by simp [Value.ownBlock] at hk; omega))
    have z4 := hg3.size; (simp at z4)
    have HO := Lib.hid (show OwnE w4 (w.heap.size + 1) 62 (.slice a3 gs.length c3) E3.cs 3 gs from hown3)
    clear hown3 hg3 hat3 RR OO
    (try go_wp2_with fail)
    refine (impl_IsValidCircuit_any _ ⟨n, gs⟩ _ (OwnE.below HO.out (show Below w4.heap.size w4 _ from (by repeat (first | exact Below.refl _ _ | assumption | refine Below.drew ?_ | refine below_drewN ?_ _ | refine Below.alloc ?_ (by first | omega | (simp <;> omega)) _ | refine Below.setCell ?_ (by first | omega | (simp <;> omega)) _ | refine Below.trans ?_ (Below.mono (by assumption) (by first | omega | (simp <;> omega)))))) rfl).rd hl).mono ?_; rintro e w5 ⟨rfl, hb5⟩; rw [HB.out]
    have z5 := hb5.size; (simp at z5)
    have HO5 := Lib.hid (OwnE.below (OwnE.below HO.out (show Below w4.heap.size w4 (w4.alloc (.cells #[.int .i64 n, .slice a3 gs.length c3] 25)) from (by repeat (first | exact Below.refl _ _ | assumption | refine Below.drew ?_ | refine below_drewN ?_ _ | refine Below.alloc ?_ (by first | omega | (simp <;> omega)) _ | refine Below.setCell ?_ (by first | omega | (simp <;> omega)) _ | refine Below.trans ?_ (Below.mono (by assumption) (by first | omega | (simp <;> omega)))))) rfl) hb5 rfl)
    have k0 : w5.cell? ⟨w4.heap.size, 0, none⟩ = some (.int .i64 n) := below_cell hb5 rfl (by repeat (first | (refine Eq.trans (World.cell?_alloc_at _ _ _ _ ?hh) ?_; (case hh => (simp; done)); rfl) | refine cell_alloc_keep _ ?_))
    have k1 : w5.cell? ⟨w4.heap.size, 1, none⟩ = some (.slice a3 gs.length c3) := below_cell hb5 rfl (by repeat (first | (refine Eq.trans (World.cell?_alloc_at _ _ _ _ ?hh) ?_; (case hh => (simp; done)); rfl) | refine cell_alloc_keep _ ?_))
    replace r0 := below_cell hb5 rfl (cell_alloc_keep (.cells #[.int .i64 n, .slice a3 gs.length c3] 25) r0)
    replace r1 := below_cell hb5 rfl (cell_alloc_keep (.cells #[.int .i64 n, .slice a3 gs.length c3] 25) r1)
    replace f0 := below_frz hb5 rfl (by simp; omega) (frozen_alloc_lt (.cells #[.int .i64 n, .slice a3 gs.length c3] 25) (by omega) f0)
    replace f1 := below_frz hb5 rfl (by simp; omega) (frozen_alloc_lt (.cells #[.int .i64 n, .slice a3 gs.length c3] 25) (by omega) f1)
    have b5 := Lib.hid (show Below w.heap.size w w5 from Below.trans (Below.alloc b4.out (by omega) (.cells #[.int .i64 n, .slice a3 gs.length c3] 25)) (hb5.mono (by simp; omega)))
    clear hb5 HO
    have bq := b5.out
    go_wp2_with fail
    first
      | (have hZ := box_set2 (nb := w.heap.size) (.int .i64 0) (.slice none 0 0) r0 r1
         exact bodyPost_ret (v := .tuple #[.agg #[.int .i64 0, .slice none 0 0], .bool false]) (by simp [results, Try.results23, go_sem, hZ]) rfl (CircPost.none HG.out (by repeat (first | exact Below.refl _ _ | assumption | refine Below.drew ?_ | refine below_drewN ?_ _ | refine Below.alloc ?_ (by first | omega | (simp <;> omega)) _ | refine Below.setCell ?_ (by first | omega | (simp <;> omega)) _ | refine Below.trans ?_ (Below.mono (by assumption) (by first | omega | (simp <;> omega)))))))
      | (have hZ := box_set2 (nb := w.heap.size) (.int .i64 n) (.slice a3 gs.length c3) r0 r1
         exact bodyPost_ret (v := .tuple #[.agg #[.int .i64 n, .slice a3 gs.length c3], .bool true]) (by simp [results, Try.results23, go_sem, hZ]) rfl (CircPost.some HG.out (OwnE.le (OwnE.set (OwnE.set HO5.out (by simp) _) (by simp) _) (by omega)) (by repeat (first | exact Below.refl _ _ | assumption | refine Below.drew ?_ | refine below_drewN ?_ _ | refine Below.alloc ?_ (by first | omega | (simp <;> omega)) _ | refine Below.setCell ?_ (by first | omega | (simp <;> omega)) _ | refine Below.trans ?_ (Below.mono (by assumption) (by first | omega | (simp <;> omega)))))))
end Go.Proofs.Ytgonldkgghikiaa
namespace Go.Proofs.Ytgonldkgghikiaa
set_option linter.unusedSimpArgs false
set_option linter.unusedVariables false
set_option linter.unnecessarySimpa false
set_option maxRecDepth 200000
open Go.ChangeShapes Go.WideShapes Go.ChangeAt Go.RowKit

theorem grown_lo2 {w w' : World} {v u : Value} {base sz n b o : Nat} {e : TypeId} {xs : List Value} (hown : w.ownsRow base e sz v n xs) (hg : w.grownBy w' v.ownBlock) (hlt : b < base) (hc : w.cell? ⟨b, o, none⟩ = some u) : w'.cell? ⟨b, o, none⟩ = some u :=
  (grown_old hown hg hlt (World.block_lt_of_cell? w ⟨b, o, none⟩ hc)).1.trans hc
theorem rev_next {gs : List E3} {j q : Nat} (h : q + j + 1 = gs.length) : (gs.reverse.take (j + 1)).flatMap E3.cs = (gs.reverse.take j).flatMap E3.cs ++ (gs.getD q ⟨0, 0, 0⟩).cs := by
  have hj : j < gs.reverse.length := by simp; omega
  rw [List.take_succ_eq_append_getElem hj, List.flatMap_append]
  have e : gs.reverse[j] = gs.getD q ⟨0, 0, 0⟩ := by
    rw [List.getElem_reverse]
    simp [List.getD, show gs.length - 1 - j = q from by omega, show q < gs.length by omega]
  rw [e]; simp
/-- What SynthesizeLinear answers. -/
noncomputable def synLG (zs : List Int) : Option Circ := if LinOk zs then some ⟨(zs.length : Int), (redG (zs.map Int.toNat)).reverse⟩ else none
theorem synLG_len (zs : List Int) : ((synLG zs).getD Circ.zero).gs.length ≤ 1000000 := by
  unfold synLG; split
  · next h =>
    have h5 := h.small.1.2
    have := red_few h.nat.2 (by rw [List.length_map]; exact h5)
    simp; omega
  · simp [Circ.zero]
end Go.Proofs.Ytgonldkgghikiaa
namespace Go.Proofs.Ytgonldkgghikiaa
set_option linter.unusedSimpArgs false
set_option linter.unusedVariables false
set_option linter.unnecessarySimpa false
set_option maxRecDepth 200000
open Go.ChangeShapes Go.WideShapes Go.ChangeAt Go.RowKit

theorem syn_ok {L : List Nat} (h : Small L) (n1 : 1 ≤ L.length) (n5 : L.length ≤ 5) : circB ⟨(L.length : Int), (redG L).reverse⟩ = true := by
  refine decide_eq_true ⟨⟨by dsimp only; omega, by dsimp only; omega⟩, ?_, fun g hg => ?_⟩
  · have := red_few h n5; dsimp only; rw [List.length_reverse]; omega
  · have hg2 : g ∈ redG L := by simpa using hg
    obtain ⟨h1, h2, h3, h4, h5, h6⟩ := (redG_ok h).gates g hg2
    unfold GateOk
    dsimp only
    omega
end Go.Proofs.Ytgonldkgghikiaa
