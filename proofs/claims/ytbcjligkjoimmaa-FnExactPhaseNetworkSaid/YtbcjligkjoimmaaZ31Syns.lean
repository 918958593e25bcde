/- Red0, Red1, Red2, Red3, Red4, Syn0, Syn1, Syn2 in one text. -/
import Derived.Test.YtbcjligkjoimmaaZ20M
import Derived.Test.YtbcjligkjoimmaaZ07Dat
import Derived.Test.YtbcjligkjoimmaaZ28Par2
import Derived.Test.YtbcjligkjoimmaaZ06TyGate
import Derived.Test.YtbcjligkjoimmaaZ24M
import Derived.Test.YtbcjligkjoimmaaZ21Two2
import Derived.Test.YtbcjligkjoimmaaZ23M
import Derived.Test.YtbcjligkjoimmaaZ13Circ1
import Derived.Test.YtbcjligkjoimmaaZ09Words
import Derived.Test.YtbcjligkjoimmaaZ29Brk
import Derived.BigRegion
import Derived.Deep.DeepMust
import Derived.Deep.RegionLaw
namespace Go.Proofs.Ytbcjligkjoimmaa
set_option linter.unusedSimpArgs false
set_option linter.unusedVariables false
set_option linter.unnecessarySimpa false
set_option maxRecDepth 200000
open Go.ChangeShapes Go.WideShapes Go.ChangeAt Go.RowKit

structure RS where (L : List Nat) (gs : List E3)
def RS.add (s : RS) (a b : Nat) : RS := ⟨cxN s.L a b, s.gs ++ [⟨9, (a : Int), (b : Int)⟩]⟩
def bitAt (L : List Nat) (i k : Nat) : Bool := (L.getD i 0).testBit k
/-- The first inner loop, d rounds before its end at n = i + d. -/
def red1 (k : Nat) : Nat → Nat → RS → RS
  | 0, _, s => s
  | d + 1, i, s => if bitAt s.L k k = true then s else red1 k d (i + 1) (if bitAt s.L i k = true then s.add i k else s)
/-- The second inner loop. -/
def red2 (k : Nat) : Nat → Nat → RS → RS
  | 0, _, s => s
  | d + 1, i, s => red2 k d (i + 1) (if i ≠ k ∧ bitAt s.L i k = true then s.add k i else s)
def redK (n k : Nat) (s : RS) : RS := red2 k n 0 (red1 k (n - (k + 1)) (k + 1) s)
/-- The outer loop, d rounds before its end. -/
def red0 (n : Nat) : Nat → Nat → RS → RS
  | 0, _, s => s
  | d + 1, k, s => red0 n d (k + 1) (redK n k s)
def redG (L : List Nat) : List E3 := (red0 L.length L.length 0 ⟨L, []⟩).gs
theorem RS.add_len (s : RS) (a b : Nat) : (s.add a b).L.length = s.L.length := by simp [RS.add, cxN_len]
theorem red1_stop {k d i : Nat} {s : RS} (h : bitAt s.L k k = true) : red1 k d i s = s := by
  cases d with
  | zero => rfl
  | succ d => simp [red1, h]
/-- What holds of all states: rows stay small, their number stays, gates are valid controlled NOTs, and few. -/
structure RSok (n : Nat) (m : Nat) (s : RS) : Prop where
  len : s.L.length = n
  small : Small s.L
  gates : ∀ g ∈ s.gs, g.a = 9 ∧ 0 ≤ g.b ∧ g.b < n ∧ 0 ≤ g.c ∧ g.c < n ∧ g.b ≠ g.c
  few : s.gs.length ≤ m
theorem RSok.mono {n m m' : Nat} {s : RS} (h : RSok n m s) (hm : m ≤ m') : RSok n m' s := ⟨h.len, h.small, h.gates, Nat.le_trans h.few hm⟩
theorem RSok.add {n m : Nat} {s : RS} {a b : Nat} (h : RSok n m s) (ha : a < n) (hb : b < n) (hab : a ≠ b) : RSok n (m + 1) (s.add a b) := by
  refine ⟨by rw [RS.add_len]; exact h.len, h.small.cx a b, fun g hg => ?_, by simp [RS.add]; exact h.few⟩
  simp [RS.add] at hg
  rcases hg with hg | rfl
  · exact h.gates g hg
  · refine ⟨rfl, by simp, by simpa using ha, by simp, by simpa using hb, fun e => hab (by dsimp only at e; omega)⟩
theorem RSok.red1 {n k : Nat} (hk : k < n) : ∀ {d i m : Nat} {s : RS}, i + d = n → k < i → RSok n m s → RSok n (m + d) (red1 k d i s)
  | 0, _, m, s, _, _, h => h
  | d + 1, i, m, s, hd, hi, h => by
    unfold Go.Proofs.Ytbcjligkjoimmaa.red1
    split
    · exact h.mono (by omega)
    · split
      · exact (RSok.red1 hk (by omega) (by omega) (h.add (by omega) hk (by omega))).mono (by omega)
      · exact (RSok.red1 hk (by omega) (by omega) h).mono (by omega)
theorem RSok.red2 {n k : Nat} (hk : k < n) : ∀ {d i m : Nat} {s : RS}, i + d = n → RSok n m s → RSok n (m + d) (red2 k d i s)
  | 0, _, m, s, _, h => h
  | d + 1, i, m, s, hd, h => by
    unfold Go.Proofs.Ytbcjligkjoimmaa.red2
    split
    · next hc => exact (RSok.red2 hk (by omega) (h.add hk (by omega) (fun e => hc.1 e.symm))).mono (by omega)
    · exact (RSok.red2 hk (by omega) h).mono (by omega)
theorem RSok.redK {n k m : Nat} {s : RS} (hk : k < n) (h : RSok n m s) : RSok n (m + 2 * n) (redK n k s) :=
  (RSok.red2 hk (by omega) (RSok.red1 hk (by omega) (by omega) h)).mono (by omega)
theorem RSok.red0 {n : Nat} : ∀ {d k m : Nat} {s : RS}, k + d = n → RSok n m s → RSok n (m + d * (2 * n)) (red0 n d k s)
  | 0, _, m, s, _, h => h.mono (by omega)
  | d + 1, k, m, s, hd, h => (RSok.red0 (by omega) (RSok.redK (by omega) h)).mono (by rw [show (d + 1) * (2 * n) = d * (2 * n) + 2 * n from Nat.succ_mul d (2 * n)]; omega)
theorem redG_ok {L : List Nat} (h : Small L) : RSok L.length (L.length * (2 * L.length)) (red0 L.length L.length 0 ⟨L, []⟩) :=
  (RSok.red0 (by omega) (⟨rfl, h, by simp, by simp⟩ : RSok L.length 0 ⟨L, []⟩)).mono (by omega)
/-- Rows with gates applied one behind the other. -/
def cxs (L : List Nat) (gs : List E3) : List Nat := gs.foldl (fun L g => cxN L g.b.toNat g.c.toNat) L
theorem cxs_len (L : List Nat) (gs : List E3) : (cxs L gs).length = L.length := by
  induction gs generalizing L with
  | nil => rfl
  | cons g gs ih => simp [cxs] at ih ⊢; rw [ih, cxN_len]
theorem Small.cxs {L : List Nat} (h : Small L) (gs : List E3) : Small (cxs L gs) := by
  induction gs generalizing L with
  | nil => exact h
  | cons g gs ih => exact ih (h.cx _ _)
theorem cxs_take {L : List Nat} {gs : List E3} {k : Nat} (h : k < gs.length) : cxs L (gs.take (k + 1)) = cxN (cxs L (gs.take k)) gs[k].b.toNat gs[k].c.toNat := by
  rw [List.take_succ_eq_append_getElem h, cxs, List.foldl_append]; rfl
end Go.Proofs.Ytbcjligkjoimmaa
namespace Go.Proofs.Ytbcjligkjoimmaa
set_option linter.unusedSimpArgs false
set_option linter.unusedVariables false
set_option linter.unnecessarySimpa false
set_option maxRecDepth 200000
open Go.ChangeShapes Go.WideShapes Go.ChangeAt Go.RowKit

theorem bit_test0 (y k : Nat) (h : y < 9223372036854775808) : (bits .and .i64 ((y : Int) / 2 ^ k) 1 == 0) = !y.testBit k := by
  have h1 := bit_test y k h
  have e : ((y : Int) / 2 ^ k) = ((y / 2 ^ k : Nat) : Int) := by simp
  have hle : y / 2 ^ k ≤ y := Nat.div_le_self _ _
  rw [← h1, e]
  generalize y / 2 ^ k = q at hle
  rw [bits_and1 _ (by omega) (by omega)]
  have e3 : ((q : Int) % 2) = ((q % 2 : Nat) : Int) := by simp
  have h2 : q % 2 = 0 ∨ q % 2 = 1 := by omega
  rw [e3]
  rcases h2 with h2 | h2 <;> rw [h2] <;> simp
/-- The reference's state: the rows' box and the gates. -/
structure RSt (B bx n : Nat) (W0 w : World) (vO : Value) (g cap : Nat) (s : RS) : Prop where
  c0 : w.cell? ⟨bx, 0, none⟩ = some (.slice (some ⟨g, 0, none⟩) n cap)
  f0 : w.frozen? ⟨bx, 0, none⟩ = false
  own : OwnI w B (.slice (some ⟨g, 0, none⟩) n cap) (ints s.L)
  out : w.ownsRow (bx + 1) 58 3 vO s.gs.length (s.gs.flatMap E3.cs)
  ap : ∀ g', vO.ownBlock = some g' → g' ≠ g
  ne : g ≠ bx
  bel : Below B W0 w
  Bb : B ≤ bx
theorem RSt.lt {B bx n : Nat} {W0 w : World} {vO : Value} {g cap : Nat} {s : RS} (h : RSt B bx n W0 w vO g cap s) : bx < w.heap.size := World.block_lt_of_cell? _ _ h.c0
theorem RSt.row {B bx n : Nat} {W0 w : World} {vO : Value} {g cap : Nat} {s : RS} (h : RSt B bx n W0 w vO g cap s) (j : Nat) (hj : j < s.L.length) : w.cell? ⟨g, j, none⟩ = some (.int .i64 ((s.L.getD j 0 : Nat) : Int)) := by
  have := World.ownsRow.cells (show w.ownsRow B 3 1 (.slice (some ⟨g, 0, none⟩) n cap) (ints s.L).length ((ints s.L).map (Value.int .i64)) from h.own) (g := g) rfl j (.int .i64 ((s.L.getD j 0 : Nat) : Int)) (by simp [ints, List.getD, hj])
  rw [Addr.add_lit, Nat.zero_add] at this
  exact this
theorem RSt.step {B bx n : Nat} {W0 w x1 w4 : World} {vO v' : Value} {g cap gN capN a b : Nat} {s : RS} (h : RSt B bx n W0 w vO g cap s) (hx1 : Below w.heap.size w x1)
    (ho' : OwnI x1 w.heap.size (.slice (some ⟨gN, 0, none⟩) n capN) (ints (cxN s.L a b)))
    (hown : w4.ownsRow (bx + 1) 58 3 v' (s.gs.length + 1) (s.gs.flatMap E3.cs ++ E3.cs ⟨9, (a : Int), (b : Int)⟩))
    (hg : ((x1.setCell ⟨bx, 0, none⟩ (.slice (some ⟨gN, 0, none⟩) n capN)).alloc (.cells #[.int .i64 9, .int .i64 (a : Int), .int .i64 (b : Int)] 58)).grownBy w4 vO.ownBlock)
    (hat : v'.ownBlock = vO.ownBlock ∨ v'.ownBlock = some ((x1.setCell ⟨bx, 0, none⟩ (.slice (some ⟨gN, 0, none⟩) n capN)).alloc (.cells #[.int .i64 9, .int .i64 (a : Int), .int .i64 (b : Int)] 58)).heap.size) :
    RSt B bx n W0 w4 v' gN capN (s.add a b) := by
  have hlt := h.lt
  have hs := hx1.size
  have hgN := ho'.lt gN rfl
  have hO := h.out.lt
  have nb : vO.ownBlock ≠ some bx := fun e => by have := (hO bx e).1; omega
  have z1 := hg.size
  have c1 : (x1.setCell ⟨bx, 0, none⟩ (.slice (some ⟨gN, 0, none⟩) n capN)).cell? ⟨bx, 0, none⟩ = some (.slice (some ⟨gN, 0, none⟩) n capN) := World.cell?_setCell_same _ _ _ (below_cell hx1 rfl h.c0)
  have f1 : (x1.setCell ⟨bx, 0, none⟩ (.slice (some ⟨gN, 0, none⟩) n capN)).frozen? ⟨bx, 0, none⟩ = false := by rw [World.frozen?_setCell]; exact below_frz hx1 rfl hlt h.f0
  refine ⟨cell_grown hg (cell_alloc_keep _ c1) nb, frz_grown hg (by simp; omega) (frozen_alloc_keep _ c1 f1) nb, ?_, by simpa [RS.add] using hown, ?_, by omega, ?_, h.Bb⟩
  · have o1 : OwnI (x1.setCell ⟨bx, 0, none⟩ (.slice (some ⟨gN, 0, none⟩) n capN)) B (.slice (some ⟨gN, 0, none⟩) n capN) (ints (cxN s.L a b)) :=
      own_set_ne (own_le ho' (by have := h.Bb; omega)) (fun g hg => by injection hg with hg; subst hg; dsimp only; omega) _
    exact own_other hg (o1.alloc _) (fun k h1 h2 => by have h1 : gN = k := by simpa [Value.ownBlock] using h1
                                                       have := (hO k h2).2; omega)
  · intro g' hg'
    rcases hat with e | e
    · rw [e] at hg'; have := (hO g' hg').2; omega
    · rw [e] at hg'; injection hg' with hg'; simp at hg'; omega
  · have b1 : Below B W0 x1 := Below.trans h.bel (hx1.mono (by have := h.Bb; omega))
    have b2 : Below B W0 (x1.setCell ⟨bx, 0, none⟩ (.slice (some ⟨gN, 0, none⟩) n capN)) := Below.setCell b1 h.Bb _
    have b3 := Below.alloc b2 (by have := h.Bb; simp; omega) (.cells #[.int .i64 9, .int .i64 (a : Int), .int .i64 (b : Int)] 58)
    exact b3.grown hg (by have := h.Bb; simp; omega) (fun k hk => by have := (hO k hk).1; have := h.Bb; omega)
theorem redF_1 {L : List Nat} {n k : Nat} {s : RS} (hk : k < n) (h : (red0 n (n - k) k s).gs = redG L) : (red0 n (n - (k + 1)) (k + 1) (red2 k n 0 (red1 k (n - (k + 1)) (k + 1) s))).gs = redG L := by
  rw [← h, show n - k = (n - (k + 1)) + 1 from by omega]; rfl
theorem redF_2 {L : List Nat} {n k j : Nat} {s : RS} (hj : j < n) (hb : bitAt s.L k k = false) (h : (red0 n (n - (k + 1)) (k + 1) (red2 k n 0 (red1 k (n - j) j s))).gs = redG L) : (red0 n (n - (k + 1)) (k + 1) (red2 k n 0 (red1 k (n - (j + 1)) (j + 1) (if bitAt s.L j k = true then s.add j k else s)))).gs = redG L := by
  rw [← h, show n - j = (n - (j + 1)) + 1 from by omega, red1, hb]; simp
theorem redF_3 {L : List Nat} {n k j : Nat} {s : RS} (hj : n ≤ j ∨ bitAt s.L k k = true) (h : (red0 n (n - (k + 1)) (k + 1) (red2 k n 0 (red1 k (n - j) j s))).gs = redG L) : (red0 n (n - (k + 1)) (k + 1) (red2 k (n - 0) 0 s)).gs = redG L := by
  rw [← h, Nat.sub_zero]
  rcases hj with hj | hj
  · rw [show n - j = 0 from by omega]; rfl
  · rw [red1_stop hj]
theorem redF_4 {L : List Nat} {n k j : Nat} {s : RS} (hj : j < n) (h : (red0 n (n - (k + 1)) (k + 1) (red2 k (n - j) j s)).gs = redG L) : (red0 n (n - (k + 1)) (k + 1) (red2 k (n - (j + 1)) (j + 1) (if j ≠ k ∧ bitAt s.L j k = true then s.add k j else s))).gs = redG L := by
  rw [← h, show n - j = (n - (j + 1)) + 1 from by omega, red2]
theorem redF_5 {L : List Nat} {n k j : Nat} {s : RS} (hj : n ≤ j) (h : (red0 n (n - (k + 1)) (k + 1) (red2 k (n - j) j s)).gs = redG L) : (red0 n (n - (k + 1)) (k + 1) s).gs = redG L := by
  rw [← h, show n - j = 0 from by omega, red2]
set_option maxHeartbeats 16000000 in
theorem spec_l12Reduce_any (v : Value) (L : List Nat) (n : Nat) (w : World) (h : RdI w v (ints L)) (hs : Small L) (hn : L.length = n) (h1 : 1 ≤ n) (h5 : n ≤ 5) :
    Calls Try.prog 52 #[.agg #[v]] w fun e w' => ∃ u, e = .returned u ∧ OwnE w' w.heap.size 58 u E3.cs 3 (redG L) ∧ Below w.heap.size w w' := by
  obtain ⟨i0, hi, hz0, hz1, hz2⟩ := info_parts info_Gate
  have H := Lib.hid h
  obtain ⟨A, c, rfl, _⟩ := h.form
  have HOK := Lib.hid (redG_ok hs)
  have HS := Lib.hid hs; have HN := Lib.hid hn
  clear h hs hn
  go_enter Try.func52, Try.ntmps52
  go_wp2_with fail
  refine (spec_l1Own_any _ (ints L) _ (Rd.below H.out (show Below w.heap.size w _ from (by repeat (first | exact Below.refl _ _ | assumption | refine Below.drew ?_ | refine below_drewN ?_ _ | refine Below.alloc ?_ (by first | omega | (simp <;> omega)) _ | refine Below.setCell ?_ (by first | omega | (simp <;> omega)) _ | refine Below.trans ?_ (Below.mono (by assumption) (by first | omega | (simp <;> omega)))))) rfl) (by rw [ints_len, HN.out]; omega)).mono ?_; rintro e w1 ⟨v1, rfl, ho1, hb1⟩
  obtain ⟨g1, cap1, hv1, hg1a, hg1b⟩ := own_ints ho1 (by rw [HN.out]; omega)
  rw [HN.out] at hv1
  subst hv1
  have z1 := hb1.size; (simp at z1); (simp at hg1a)
  have bw1 := Lib.hid (show Below w.heap.size w w1 from (by repeat (first | exact Below.refl _ _ | assumption | refine Below.drew ?_ | refine below_drewN ?_ _ | refine Below.alloc ?_ (by first | omega | (simp <;> omega)) _ | refine Below.setCell ?_ (by first | omega | (simp <;> omega)) _ | refine Below.trans ?_ (Below.mono (by assumption) (by first | omega | (simp <;> omega))))))
  have O1 := Lib.hid (OwnI.le ho1 (base' := w.heap.size) (by simp))
  clear hb1 ho1
  go_wp2_with fail
  have S0 : Hid (RSt w.heap.size w1.heap.size n w (w1.alloc (.cells #[.slice (some ⟨g1, 0, none⟩) n cap1] 35)) (.slice none 0 0) g1 cap1 ⟨L, []⟩) :=
    (show RSt _ _ _ _ _ _ _ _ _ from ⟨(by repeat (first | (refine Eq.trans (World.cell?_alloc_at _ _ _ _ ?hh) ?_; (case hh => (simp; done)); rfl) | refine cell_alloc_keep _ ?_)), (by repeat (first | (refine World.frozen?_alloc_at _ _ _ _ ?hh; case hh => (simp; done)) | (refine frozen_alloc_lt _ ?hh ?_; case hh => first | omega | (simp <;> omega)))), OwnI.below O1.out (show Below w1.heap.size w1 _ from (by repeat (first | exact Below.refl _ _ | assumption | refine Below.drew ?_ | refine below_drewN ?_ _ | refine Below.alloc ?_ (by first | omega | (simp <;> omega)) _ | refine Below.setCell ?_ (by first | omega | (simp <;> omega)) _ | refine Below.trans ?_ (Below.mono (by assumption) (by first | omega | (simp <;> omega)))))) rfl, World.ownsRow_nil _ _ _ _, fun g' hg' => (by cases hg'), by omega, Below.alloc bw1.out (by omega) _, by omega⟩)
  have R0 : Hid (RSok n (10 * 0) ⟨L, []⟩) := (show RSok _ _ _ from ⟨HN.out, HS.out, by simp, by simp⟩)
  have F0 : Hid ((red0 n (n - 0) 0 ⟨L, []⟩).gs = redG L) := (show _ = _ from by unfold redG; rw [HN.out]; rfl)
  go_loopw [5, 6] (fun o i wr => ∃ (k g cap : Nat) (s : RS) (vO : Value), k ≤ n ∧ i = .int .i64 k ∧ o = vO ∧ Hid (RSt w.heap.size w1.heap.size n w wr vO g cap s) ∧ Hid (RSok n (10 * k) s) ∧ Hid ((red0 n (n - k) k s).gs = redG L)) (fun _ i _ => n - (intOf i).toNat)
  case atStart => exact ⟨0, g1, cap1, ⟨L, []⟩, _, Nat.zero_le _, rfl, rfl, S0, R0, F0⟩
  case round =>
    obtain ⟨k, g, cap, s, vO, hk, rfl, rfl, hS, hR, hF⟩ := hrel
    clear S0 R0 F0 O1 hg1a hg1b
    obtain ⟨wo, rfl⟩ : ∃ wo : World, wo = wr := ⟨_, rfl⟩
    by_cases hlt : k < n
    · have i1 : (k : Int) < (n : Int) := by omega
      have i2 : (0 : Int) ≤ (k : Int) := by omega
      have F1 := Lib.hid (redF_1 hlt hF.out)
      clear hF
      go_wp2_with fail
      go_loopw [5, 7] (fun o i wr => ∃ (j g cap : Nat) (s : RS) (vO : Value), k + 1 ≤ j ∧ j ≤ n ∧ i = .int .i64 j ∧ o = vO ∧ Hid (RSt w.heap.size w1.heap.size n w wr vO g cap s) ∧ Hid (RSok n (10 * k + j) s) ∧ Hid ((red0 n (n - (k + 1)) (k + 1) (red2 k n 0 (red1 k (n - j) j s))).gs = redG L)) (fun _ i _ => n - (intOf i).toNat)
      case atStart => exact ⟨k + 1, g, cap, s, _, Nat.le_refl _, by omega, by go_num, rfl, hS.out, (show RSok _ _ _ from hR.out.mono (by omega)), F1.out⟩
      case round =>
        clear F1 hS hR
        obtain ⟨j, g, cap, s, vO, hj0, hj, rfl, rfl, hS, hR, hF⟩ := hrel
        have hlen := hR.out.len
        have hlb := hS.out.lt
        have hc0 := hS.out.c0; have hf0 := hS.out.f0
        have ck := hS.out.row k (by omega)
        have hxk := hR.out.small.get k
        have tk := bit_test0 (s.L.getD k 0) k (by omega)
        have tB : Hid (bitAt s.L k k = (s.L.getD k 0).testBit k) := rfl
        obtain ⟨y, hy⟩ : ∃ y, y = s.L.getD k 0 := ⟨_, rfl⟩
        rw [← hy] at ck hxk tk tB
        clear hy
        by_cases hgo : j < n ∧ y.testBit k = false
        · obtain ⟨hjn, hyk⟩ := hgo
          have j1 : (j : Int) < (n : Int) := by omega
          have j2 : (0 : Int) ≤ (j : Int) := by omega
          rw [hyk] at tk
          have F2 := Lib.hid (redF_2 hjn (tB.out.trans hyk) hF.out)
          have cj := hS.out.row j (by omega)
          have hxj := hR.out.small.get j
          have tj := bit_test (s.L.getD j 0) k (by omega)
          have tBj : Hid (bitAt s.L j k = (s.L.getD j 0).testBit k) := rfl
          obtain ⟨x, hx⟩ : ∃ x, x = s.L.getD j 0 := ⟨_, rfl⟩
          rw [← hx] at cj hxj tj tBj
          clear hx hyk hF tB
          cases hb : x.testBit k with
          | false =>
            rw [hb] at tj
            have F3 := Lib.hid (show (red0 n (n - (k + 1)) (k + 1) (red2 k n 0 (red1 k (n - (j + 1)) (j + 1) s))).gs = redG L from by have h9 := F2.out; rw [tBj.out, hb] at h9; exact h9)
            clear hb
            go_wp2_with fail
            go_roundw
            case rel => exact ⟨j + 1, g, cap, s, _, by omega, by omega, by go_num, rfl, hS.out, (show RSok _ _ _ from hR.out.mono (by omega)), F3.out⟩
            case measure => simp [intOf]; omega
          | true =>
            rw [hb] at tj
            have F3 := Lib.hid (show (red0 n (n - (k + 1)) (k + 1) (red2 k n 0 (red1 k (n - (j + 1)) (j + 1) (s.add j k)))).gs = redG L from by have h9 := F2.out; rw [tBj.out, hb] at h9; exact h9)
            have R3 := Lib.hid (RSok.add (a := j) (b := k) hR.out hjn hlt (by omega))
            have hfew := hR.out.few
            clear hb
            go_wp2_with fail
            refine (spec_l12CX_any _ s.L j k _ hS.out.own.rd hR.out.small (by omega) (by omega) (by omega)).mono ?_; rintro e x1 ⟨v', rfl, ho', hx1⟩
            obtain ⟨gN, capN, hvN, hgN1, hgN2⟩ := own_ints ho' (by rw [cxN_len]; omega)
            rw [cxN_len, hlen] at hvN
            subst hvN
            have zx := hx1.size
            have d0 := below_cell hx1 rfl hc0
            have df := below_frz hx1 rfl hlb hf0
            have HO := Lib.hid ho'; have HX := Lib.hid hx1
            clear ho' hx1 hc0 hf0 ck cj
            have OW := Lib.hid (ownsRow_setCell_below (own_below hS.out.out HX.out rfl) (show (⟨w1.heap.size, 0, none⟩ : Addr).block < w1.heap.size + 1 from by simp) (.slice (some ⟨gN, 0, none⟩) n capN))
            go_wp2_with (at_builtin; go_must (refine wpList_append_any _ rfl _ _ 29 rfl (w1.heap.size + 1) 58 i0 (.agg #[.int .i64 0, .int .i64 0, .int .i64 0]) 3 24 Try.underlying29 hi hz0 hz1 hz2 rfl (by decide) _ s.gs.length _ rfl (OW.out.alloc _) (x1.heap.size + 1) _ 1 1 (E3.cs ⟨9, (j : Int), (k : Int)⟩) rfl (by have := reads_news (x1.setCell ⟨w1.heap.size, 0, none⟩ (.slice (some ⟨gN, 0, none⟩) n capN)) (E3.cs ⟨9, (j : Int), (k : Int)⟩) 58 3 1 rfl; simpa [E3.cs] using this) (E3.one _) (by unfold maxLen; omega) (by omega) (by simp; omega) ?_; intro v3 w4 hown3 hg3 hat3))
            have S3 := Lib.hid (RSt.step hS.out HX.out HO.out hown3 hg3 hat3)
            clear hown3 hg3 hat3
            go_wp2_with fail
            go_roundw
            case rel => exact ⟨j + 1, gN, capN, s.add j k, v3, by omega, by omega, by go_num, rfl, S3.out, (show RSok _ _ _ from R3.out.mono (by omega)), F3.out⟩
            case measure => simp [intOf]; omega
        · have hor : n ≤ j ∨ (j < n ∧ y.testBit k = true) := by
            by_cases h9 : j < n
            · exact .inr ⟨h9, by simpa using (show ¬ y.testBit k = false from fun h8 => hgo ⟨h9, h8⟩)⟩
            · exact .inl (by omega)
          have F3 := Lib.hid (redF_3 (hor.imp id (fun h => tB.out.trans h.2)) hF.out)
          clear hgo hF tB
          have R3 := Lib.hid (RSok.mono (m' := 10 * k + 5) hR.out (by omega))
          clear hR
          obtain ⟨wi, rfl⟩ : ∃ wi : World, wi = wr := ⟨_, rfl⟩
          rcases hor with hor | ⟨hjn, hyk⟩
          all_goals
            (first | (have j1 : ¬ (j : Int) < (n : Int) := (by omega)) | ((have j1 : (j : Int) < (n : Int) := (by omega)); (rw [hyk] at tk); (clear hyk)))
            go_wp2_with fail
            clear hc0 hf0 ck tk
            go_loopw [5, 8] (fun o i wr => ∃ (j g cap : Nat) (s : RS) (vO : Value), j ≤ n ∧ i = .int .i64 j ∧ o = vO ∧ Hid (RSt w.heap.size w1.heap.size n w wr vO g cap s) ∧ Hid (RSok n (10 * k + 5 + j) s) ∧ Hid ((red0 n (n - (k + 1)) (k + 1) (red2 k (n - j) j s)).gs = redG L)) (fun _ i _ => n - (intOf i).toNat)
            case atStart => exact ⟨0, g, cap, s, _, Nat.zero_le _, rfl, rfl, hS.out, R3.out, F3.out⟩
            case round =>
              clear F3 R3 hS hlb hlen hxk
              obtain ⟨q, g, cap, s, vO, hq, rfl, rfl, hS, hR, hF⟩ := hrel
              have hlen := hR.out.len
              have hlb := hS.out.lt
              have hc0 := hS.out.c0; have hf0 := hS.out.f0
              by_cases hqn : q < n
              · have q1 : (q : Int) < (n : Int) := by omega
                have q2 : (0 : Int) ≤ (q : Int) := by omega
                have F2 := Lib.hid (redF_4 hqn hF.out)
                clear hF
                by_cases hqk : q = k
                · have F4 := Lib.hid (show (red0 n (n - (k + 1)) (k + 1) (red2 k (n - (q + 1)) (q + 1) s)).gs = redG L from by have h9 := F2.out; rw [if_neg (fun h => h.1 hqk)] at h9; exact h9)
                  have q3 : ((q : Int) != (k : Int)) = false := by simp; omega
                  clear hqk
                  go_wp2_with fail
                  go_roundw
                  case rel => exact ⟨q + 1, g, cap, s, _, by omega, by go_num, rfl, hS.out, (show RSok _ _ _ from hR.out.mono (by omega)), F4.out⟩
                  case measure => simp [intOf]; omega
                · have q3 : ((q : Int) != (k : Int)) = true := by simp; omega
                  have cj := hS.out.row q (by omega)
                  have hxj := hR.out.small.get q
                  have tj := bit_test (s.L.getD q 0) k (by omega)
                  have tBj : Hid (bitAt s.L q k = (s.L.getD q 0).testBit k) := rfl
                  obtain ⟨x, hx⟩ : ∃ x, x = s.L.getD q 0 := ⟨_, rfl⟩
                  rw [← hx] at cj hxj tj tBj
                  clear hx
                  cases hb : x.testBit k with
                  | false =>
                    rw [hb] at tj
                    have F4 := Lib.hid (show (red0 n (n - (k + 1)) (k + 1) (red2 k (n - (q + 1)) (q + 1) s)).gs = redG L from by have h9 := F2.out; rw [if_neg (fun h => by rw [tBj.out, hb] at h; cases h.2)] at h9; exact h9)
                    clear hb hqk
                    go_wp2_with fail
                    go_roundw
                    case rel => exact ⟨q + 1, g, cap, s, _, by omega, by go_num, rfl, hS.out, (show RSok _ _ _ from hR.out.mono (by omega)), F4.out⟩
                    case measure => simp [intOf]; omega
                  | true =>
                    rw [hb] at tj
                    have F4 := Lib.hid (show (red0 n (n - (k + 1)) (k + 1) (red2 k (n - (q + 1)) (q + 1) (s.add k q))).gs = redG L from by have h9 := F2.out; rw [if_pos ⟨hqk, by rw [tBj.out, hb]⟩] at h9; exact h9)
                    have R4 := Lib.hid (RSok.add (a := k) (b := q) hR.out hlt hqn (by omega))
                    have hfew := hR.out.few
                    clear hb hqk
                    go_wp2_with fail
                    refine (spec_l12CX_any _ s.L k q _ hS.out.own.rd hR.out.small (by omega) (by omega) (by omega)).mono ?_; rintro e x1 ⟨v', rfl, ho', hx1⟩
                    obtain ⟨gN, capN, hvN, hgN1, hgN2⟩ := own_ints ho' (by rw [cxN_len]; omega)
                    rw [cxN_len, hlen] at hvN
                    subst hvN
                    have zx := hx1.size
                    have d0 := below_cell hx1 rfl hc0
                    have df := below_frz hx1 rfl hlb hf0
                    have HO := Lib.hid ho'; have HX := Lib.hid hx1
                    clear ho' hx1 hc0 hf0 cj
                    have OW := Lib.hid (ownsRow_setCell_below (own_below hS.out.out HX.out rfl) (show (⟨w1.heap.size, 0, none⟩ : Addr).block < w1.heap.size + 1 from by simp) (.slice (some ⟨gN, 0, none⟩) n capN))
                    go_wp2_with (at_builtin; go_must (refine wpList_append_any _ rfl _ _ 29 rfl (w1.heap.size + 1) 58 i0 (.agg #[.int .i64 0, .int .i64 0, .int .i64 0]) 3 24 Try.underlying29 hi hz0 hz1 hz2 rfl (by decide) _ s.gs.length _ rfl (OW.out.alloc _) (x1.heap.size + 1) _ 1 1 (E3.cs ⟨9, (k : Int), (q : Int)⟩) rfl (by have := reads_news (x1.setCell ⟨w1.heap.size, 0, none⟩ (.slice (some ⟨gN, 0, none⟩) n capN)) (E3.cs ⟨9, (k : Int), (q : Int)⟩) 58 3 1 rfl; simpa [E3.cs] using this) (E3.one _) (by unfold maxLen; omega) (by omega) (by simp; omega) ?_; intro v3 w4 hown3 hg3 hat3))
                    have S4 := Lib.hid (RSt.step hS.out HX.out HO.out hown3 hg3 hat3)
                    clear hown3 hg3 hat3
                    go_wp2_with fail
                    go_roundw
                    case rel => exact ⟨q + 1, gN, capN, s.add k q, v3, by omega, by go_num, rfl, S4.out, (show RSok _ _ _ from R4.out.mono (by omega)), F4.out⟩
                    case measure => simp [intOf]; omega
              · have F4 := Lib.hid (redF_5 (by omega) hF.out)
                have q1 : ¬ (q : Int) < (n : Int) := by omega
                clear hF hc0 hf0
                go_wp2_with fail
                go_roundw
                case rel => exact ⟨k + 1, g, cap, s, _, by omega, by go_num, rfl, hS.out, (show RSok _ _ _ from hR.out.mono (by omega)), F4.out⟩
                case measure => simp [intOf]; omega
    · have e : k = n := by omega
      have HG := Lib.hid (show s.gs = redG L from by have h9 := hF.out; rw [show n - k = 0 from by omega] at h9; exact h9)
      have i1 : ¬ (k : Int) < (n : Int) := by omega
      clear e hF
      go_wp2_with fail
      go_ret
      exact ⟨_, rfl, (show OwnE _ _ _ _ _ _ _ from by rw [← HG.out]; exact OwnE.le (show OwnE _ _ _ _ _ _ _ from hS.out.out) (by omega)), hS.out.bel⟩
end Go.Proofs.Ytbcjligkjoimmaa
namespace Go.Proofs.Ytbcjligkjoimmaa
set_option linter.unusedSimpArgs false
set_option linter.unusedVariables false
set_option linter.unnecessarySimpa false
set_option maxRecDepth 200000
open Go.ChangeShapes Go.WideShapes Go.ChangeAt Go.RowKit

/-- The program's state: the rows, changed in place, behind box b3; the gates behind box b4. -/
structure RIt (B b3 b4 n g cap : Nat) (W0 w : World) (vO : Value) (s : RS) : Prop where
  c3 : w.cell? ⟨b3, 0, none⟩ = some (.slice (some ⟨g, 0, none⟩) n cap)
  c4 : w.cell? ⟨b4, 0, none⟩ = some vO
  f4 : w.frozen? ⟨b4, 0, none⟩ = false
  rows : OwnN w B g n cap s.L
  out : w.ownsRow B 58 3 vO s.gs.length (s.gs.flatMap E3.cs)
  ap : ∀ g', vO.ownBlock = some g' → g' ≠ g ∧ g' ≠ b3 ∧ g' ≠ b4
  n3 : g ≠ b3
  n4 : g ≠ b4
  n34 : b3 ≠ b4
  B4 : B ≤ b4
  bel : Below B W0 w
theorem RIt.mid {B b3 b4 n g cap : Nat} {W0 w : World} {vO : Value} {s : RS} (h : RIt B b3 b4 n g cap W0 w vO s) (b x : Nat) :
    RIt B b3 b4 n g cap W0 ((w.setCell ⟨g, b, none⟩ (.int .i64 (x : Int))).drew) vO ⟨s.L.set b x, s.gs⟩ := by
  have hR := h.rows.lt
  refine ⟨cell_set_far (Ne.symm h.n3) h.c3, cell_set_far (Ne.symm h.n4) h.c4, by show (w.setCell _ _).frozen? _ = false; rw [World.frozen?_setCell]; exact h.f4, ?_, ?_, h.ap, h.n3, h.n4, h.n34, h.B4, Below.drew (Below.setCell h.bel hR.1 _)⟩
  · exact (h.rows.set b x).below (show Below (w.setCell ⟨g, b, none⟩ (.int .i64 (x : Int))).heap.size _ (w.setCell ⟨g, b, none⟩ (.int .i64 (x : Int))).drew from (by repeat (first | exact Below.refl _ _ | assumption | refine Below.drew ?_ | refine below_drewN ?_ _ | refine Below.alloc ?_ (by first | omega | (simp <;> omega)) _ | refine Below.setCell ?_ (by first | omega | (simp <;> omega)) _ | refine Below.trans ?_ (Below.mono (by assumption) (by first | omega | (simp <;> omega)))))) rfl
  · exact own_below (own_set_ne (p := ⟨g, b, none⟩) h.out (fun g' hg' => (h.ap g' hg').1) _) (show Below (w.setCell ⟨g, b, none⟩ (.int .i64 (x : Int))).heap.size _ (w.setCell ⟨g, b, none⟩ (.int .i64 (x : Int))).drew from (by repeat (first | exact Below.refl _ _ | assumption | refine Below.drew ?_ | refine below_drewN ?_ _ | refine Below.alloc ?_ (by first | omega | (simp <;> omega)) _ | refine Below.setCell ?_ (by first | omega | (simp <;> omega)) _ | refine Below.trans ?_ (Below.mono (by assumption) (by first | omega | (simp <;> omega)))))) rfl
theorem RIt.app {B b3 b4 n g cap a b : Nat} {W0 w w4 : World} {vO v' : Value} {s : RS} (h : RIt B b3 b4 n g cap W0 w vO s)
    (hown : w4.ownsRow B 58 3 v' (s.gs.length + 1) (s.gs.flatMap E3.cs ++ E3.cs ⟨9, (a : Int), (b : Int)⟩))
    (hg : (w.alloc (.cells #[.int .i64 9, .int .i64 (a : Int), .int .i64 (b : Int)] 58)).grownBy w4 vO.ownBlock)
    (hat : v'.ownBlock = vO.ownBlock ∨ v'.ownBlock = some (w.alloc (.cells #[.int .i64 9, .int .i64 (a : Int), .int .i64 (b : Int)] 58)).heap.size) :
    w4.cell? ⟨b4, 0, none⟩ = some vO ∧ w4.frozen? ⟨b4, 0, none⟩ = false ∧ RIt B b3 b4 n g cap W0 (w4.setCell ⟨b4, 0, none⟩ v') v' ⟨s.L, s.gs ++ [⟨9, (a : Int), (b : Int)⟩]⟩ := by
  have hR := h.rows.lt
  have hO := h.out.lt
  have L3 : b3 < w.heap.size := World.block_lt_of_cell? _ _ h.c3
  have L4 : b4 < w.heap.size := World.block_lt_of_cell? _ _ h.c4
  have nb3 : vO.ownBlock ≠ some b3 := fun e => (h.ap _ e).2.1 rfl
  have nb4 : vO.ownBlock ≠ some b4 := fun e => (h.ap _ e).2.2 rfl
  have d4 := cell_grown hg (cell_alloc_keep _ h.c4) nb4
  have e4 := frz_grown hg (by simp; omega) (frozen_alloc_keep _ h.c4 h.f4) nb4
  have d3 := cell_grown hg (cell_alloc_keep _ h.c3) nb3
  have hv : ∀ g', v'.ownBlock = some g' → g' ≠ g ∧ g' ≠ b3 ∧ g' ≠ b4 := by
    intro g' hg'
    rcases hat with e | e
    · rw [e] at hg'; exact h.ap g' hg'
    · rw [e] at hg'; injection hg' with hg'; simp at hg'
      exact ⟨by omega, by omega, by omega⟩
  refine ⟨d4, e4, ?_, World.cell?_setCell_same _ _ _ d4, by rw [World.frozen?_setCell]; exact e4, ?_, ?_, hv, h.n3, h.n4, h.n34, h.B4, ?_⟩
  · exact cell_set_far h.n34 d3
  · exact own_set_ne (own_other hg (World.ownsRow.alloc h.rows _) (fun k h1 h2 => by injection h1 with h1; subst h1; exact (h.ap _ h2).1 rfl)) (fun k hk => by injection hk with hk; subst hk; exact h.n4) _
  · have e9 : (s.gs ++ [(⟨9, (a : Int), (b : Int)⟩ : E3)]).length = s.gs.length + 1 := by simp
    dsimp only
    rw [e9, List.flatMap_append]
    exact own_set_ne (by simpa using hown) (fun k hk => (hv k hk).2.2) _
  · have b3' := Below.alloc h.bel (by omega) (.cells #[.int .i64 9, .int .i64 (a : Int), .int .i64 (b : Int)] 58)
    exact Below.setCell (b3'.grown hg (by simp; omega) (fun k hk => (hO k hk).1)) h.B4 _
set_option maxHeartbeats 4000000 in
theorem eliminated1_any {B b3 b4 n g cap M : Nat} {W0 : World} {vO : Value} {s : RS} (a b : Nat) (w : World) (h : RIt B b3 b4 n g cap W0 w vO s) (hok : RSok n M s) (hM : M ≤ 1000) (h5 : n ≤ 5) (ha : a < n) (hb : b < n) :
    Calls Try.prog 94 #[.int .i64 (a : Int), .int .i64 (b : Int), .pointer (some ⟨b3, 0, none⟩), .pointer (some ⟨b4, 0, none⟩)] w fun e w' => e = .returned (.tuple #[]) ∧ ∃ vO', RIt B b3 b4 n g cap W0 w' vO' (s.add a b) := by
  obtain ⟨i0, hi, hz0, hz1, hz2⟩ := info_parts info_Gate
  have H := Lib.hid h
  obtain ⟨aO, cO, rfl⟩ := own_form h.out
  have c3 := h.c3
  have hlen := hok.len
  have hfew := hok.few
  obtain ⟨x, hx⟩ : ∃ x, x = s.L.getD a 0 := ⟨_, rfl⟩
  obtain ⟨y, hy⟩ : ∃ y, y = s.L.getD b 0 := ⟨_, rfl⟩
  have hxa := hok.small.get a
  have hxb := hok.small.get b
  have ca := own_int_cell h.rows a (by omega)
  have cb := own_int_cell h.rows b (by omega)
  have fb := h.rows.frz b
  rw [← hx] at ca hxa; rw [← hy] at cb hxb
  have hxo := bits_xor y x (by omega) (by omega)
  have hr : Hid (cxN s.L a b = s.L.set b (y ^^^ x)) := by show _ = _; rw [hx, hy]; rfl
  have j1 : (a : Int) < (n : Int) := by omega
  have j2 : (b : Int) < (n : Int) := by omega
  have j3 : (0 : Int) ≤ (a : Int) := by omega
  have j4 : (0 : Int) ≤ (b : Int) := by omega
  have HM := Lib.hid (h.mid b (y ^^^ x))
  clear hx hy h hok hlen
  go_enter Try.func94, Try.ntmps94
  go_wp2_with fail
  go_region
  clear c3 ca cb fb hxo
  generalize (w.setCell ⟨g, b, none⟩ (.int .i64 ((y ^^^ x : Nat) : Int))).drew = X at *
  have x4 := HM.out.c4
  have xf := HM.out.f4
  go_wp2_with (at_builtin; go_must (refine wpList_append_any _ rfl _ _ 29 rfl B 58 i0 (.agg #[.int .i64 0, .int .i64 0, .int .i64 0]) 3 24 Try.underlying29 hi hz0 hz1 hz2 rfl (by decide) _ s.gs.length _ rfl (HM.out.out.alloc _) (X.heap.size + 1) _ 1 1 (E3.cs ⟨9, (a : Int), (b : Int)⟩) rfl (by have := reads_news X (E3.cs ⟨9, (a : Int), (b : Int)⟩) 58 3 1 rfl; simpa [E3.cs] using this) (E3.one _) (by unfold maxLen; omega) (by omega) (by have h9 := HM.out.B4; have h8 : b4 < X.heap.size := World.block_lt_of_cell? _ _ x4; simp; omega) ?_; intro v3 w4 hown3 hg3 hat3; obtain ⟨a3, c3', rfl⟩ := own_form hown3; obtain ⟨d4, e4, hST⟩ := RIt.app HM.out hown3 hg3 hat3; have HST := Lib.hid hST; clear hST hown3 hg3 hat3 x4 xf))
  go_end0
  exact ⟨rfl, _, by have h9 := HST.out; unfold RS.add; rw [hr.out]; exact h9⟩
set_option maxHeartbeats 16000000 in
theorem impl_eliminated_any (v : Value) (L : List Nat) (n : Nat) (w : World) (h : RdI w v (ints L)) (hs : Small L) (hn : L.length = n) (h1 : 1 ≤ n) (h5 : n ≤ 5) :
    Calls Try.prog 70 #[.agg #[v]] w fun e w' => ∃ u, e = .returned u ∧ OwnE w' w.heap.size 58 u E3.cs 3 (redG L) ∧ Below w.heap.size w w' := by
  have H := Lib.hid h
  obtain ⟨A, c, rfl, _⟩ := h.form
  have HS := Lib.hid hs; have HN := Lib.hid hn
  clear h hs hn
  have hmf : ∀ (fn : Fn) (first cap : Array Value) (w : World), (Instr.makeFunc fn first cap).run Try.prog w = .ok (.func fn first cap) w := fun _ _ _ _ => rfl
  go_enter Try.func70, Try.ntmps70
  go_wp2_with fail
  refine (slices_Clone_any _ (ints L) _ (Rd.below H.out (show Below w.heap.size w _ from (by repeat (first | exact Below.refl _ _ | assumption | refine Below.drew ?_ | refine below_drewN ?_ _ | refine Below.alloc ?_ (by first | omega | (simp <;> omega)) _ | refine Below.setCell ?_ (by first | omega | (simp <;> omega)) _ | refine Below.trans ?_ (Below.mono (by assumption) (by first | omega | (simp <;> omega)))))) rfl) (by rw [ints_len, HN.out]; omega)).mono ?_; rintro e w1 ⟨v1, rfl, ho1, hb1⟩
  obtain ⟨g, cap, hv1, hg1a, hg1b⟩ := own_ints ho1 (by rw [HN.out]; omega)
  rw [HN.out] at hv1
  subst hv1
  have O1 := Lib.hid (OwnI.le ho1 (base' := w.heap.size) (by simp))
  have z1 := hb1.size; (simp at z1); (simp at hg1a)
  have bw1 := Lib.hid (show Below w.heap.size w w1 from (by repeat (first | exact Below.refl _ _ | assumption | refine Below.drew ?_ | refine below_drewN ?_ _ | refine Below.alloc ?_ (by first | omega | (simp <;> omega)) _ | refine Below.setCell ?_ (by first | omega | (simp <;> omega)) _ | refine Below.trans ?_ (Below.mono (by assumption) (by first | omega | (simp <;> omega))))))
  clear hb1 ho1
  go_wp2_with fail
  have S0 : Hid (RIt w.heap.size (w1.heap.size + 1) (w1.heap.size + 1 + 1) n g cap w (((w1.alloc (.cells #[] 58)).alloc (.cells #[.slice (some ⟨g, 0, none⟩) n cap] 23)).alloc (.cells #[.slice (some ⟨w1.heap.size, 0, none⟩) 0 0] 29)) (.slice (some ⟨w1.heap.size, 0, none⟩) 0 0) ⟨L, []⟩) := by
    have b1 : Below w1.heap.size w1 (((w1.alloc (.cells #[] 58)).alloc (.cells #[.slice (some ⟨g, 0, none⟩) n cap] 23)).alloc (.cells #[.slice (some ⟨w1.heap.size, 0, none⟩) 0 0] 29)) := (by repeat (first | exact Below.refl _ _ | assumption | refine Below.drew ?_ | refine below_drewN ?_ _ | refine Below.alloc ?_ (by first | omega | (simp <;> omega)) _ | refine Below.setCell ?_ (by first | omega | (simp <;> omega)) _ | refine Below.trans ?_ (Below.mono (by assumption) (by first | omega | (simp <;> omega)))))
    have o1 := own_lit0 (f := E3.cs) (sz := 3) w1 w.heap.size 58 w1.heap.size rfl (by omega)
    have b2 : Below (w1.alloc (.cells #[] 58)).heap.size (w1.alloc (.cells #[] 58)) (((w1.alloc (.cells #[] 58)).alloc (.cells #[.slice (some ⟨g, 0, none⟩) n cap] 23)).alloc (.cells #[.slice (some ⟨w1.heap.size, 0, none⟩) 0 0] 29)) := (by repeat (first | exact Below.refl _ _ | assumption | refine Below.drew ?_ | refine below_drewN ?_ _ | refine Below.alloc ?_ (by first | omega | (simp <;> omega)) _ | refine Below.setCell ?_ (by first | omega | (simp <;> omega)) _ | refine Below.trans ?_ (Below.mono (by assumption) (by first | omega | (simp <;> omega)))))
    have ap0 : ∀ g', (Value.slice (some ⟨w1.heap.size, 0, none⟩) 0 0).ownBlock = some g' → g' ≠ g ∧ g' ≠ w1.heap.size + 1 ∧ g' ≠ w1.heap.size + 1 + 1 := by
      intro g' hg'
      have h8 : w1.heap.size = g' := by simpa [Value.ownBlock] using hg'
      omega
    exact (show RIt _ _ _ _ _ _ _ _ _ _ from ⟨(by repeat (first | (refine Eq.trans (World.cell?_alloc_at _ _ _ _ ?hh) ?_; (case hh => (simp; done)); rfl) | refine cell_alloc_keep _ ?_)), (by repeat (first | (refine Eq.trans (World.cell?_alloc_at _ _ _ _ ?hh) ?_; (case hh => (simp; done)); rfl) | refine cell_alloc_keep _ ?_)), (by repeat (first | (refine World.frozen?_alloc_at _ _ _ _ ?hh; case hh => (simp; done)) | (refine frozen_alloc_lt _ ?hh ?_; case hh => first | omega | (simp <;> omega)))), (by have h9 := OwnN.of (M := L) (by rw [HN.out]; exact OwnI.below O1.out b1 rfl); rw [HN.out] at h9; exact h9), own_below (show (w1.alloc (.cells #[] 58)).ownsRow w.heap.size 58 3 (.slice (some ⟨w1.heap.size, 0, none⟩) 0 0) 0 [] from o1) b2 rfl, ap0, by omega, by omega, by omega, by omega, Below.trans bw1.out (b1.mono (by omega))⟩)
  have R0 : Hid (RSok n (10 * 0) ⟨L, []⟩) := (show RSok _ _ _ from ⟨HN.out, HS.out, by simp, by simp⟩)
  have F0 : Hid ((red0 n (n - 0) 0 ⟨L, []⟩).gs = redG L) := (show _ = _ from by unfold redG; rw [HN.out]; rfl)
  go_loopw [16] (fun i wr => ∃ (k : Nat) (s : RS) (vO : Value), k ≤ n ∧ i = .int .i64 k ∧ Hid (RIt w.heap.size (w1.heap.size + 1) (w1.heap.size + 1 + 1) n g cap w wr vO s) ∧ Hid (RSok n (10 * k) s) ∧ Hid ((red0 n (n - k) k s).gs = redG L)) (fun i _ => n - (intOf i).toNat)
  case atStart => exact ⟨0, ⟨L, []⟩, _, Nat.zero_le _, rfl, S0, R0, F0⟩
  case round =>
    obtain ⟨k, s, vO, hk, rfl, hS, hR, hF⟩ := hrel
    clear S0 R0 F0 O1
    obtain ⟨wo, rfl⟩ : ∃ wo : World, wo = wr := ⟨_, rfl⟩
    by_cases hlt : k < n
    · have i1 : (k : Int) < (n : Int) := by omega
      have i2 : (0 : Int) ≤ (k : Int) := by omega
      have F1 := Lib.hid (redF_1 hlt hF.out)
      clear hF
      go_wp2_with fail
      go_loopw [7] (fun i wr => ∃ (j : Nat) (s : RS) (vO : Value), k + 1 ≤ j ∧ j ≤ n ∧ i = .int .i64 j ∧ Hid (RIt w.heap.size (w1.heap.size + 1) (w1.heap.size + 1 + 1) n g cap w wr vO s) ∧ Hid (RSok n (10 * k + j) s) ∧ Hid ((red0 n (n - (k + 1)) (k + 1) (red2 k n 0 (red1 k (n - j) j s))).gs = redG L)) (fun i _ => n - (intOf i).toNat)
      case atStart => exact ⟨k + 1, s, vO, Nat.le_refl _, by omega, by go_num, hS.out, (show RSok _ _ _ from hR.out.mono (by omega)), F1.out⟩
      case round =>
        clear F1 hS hR
        obtain ⟨j, s, vO, hj0, hj, rfl, hS, hR, hF⟩ := hrel
        have hlen := hR.out.len
        have c3 := hS.out.c3
        have ck := own_int_cell hS.out.rows k (by omega)
        have hxk := hR.out.small.get k
        have tk := bit_test0 (s.L.getD k 0) k (by omega)
        have tB : Hid (bitAt s.L k k = (s.L.getD k 0).testBit k) := rfl
        obtain ⟨y, hy⟩ : ∃ y, y = s.L.getD k 0 := ⟨_, rfl⟩
        rw [← hy] at ck hxk tk tB
        clear hy
        by_cases hgo : j < n ∧ y.testBit k = false
        · obtain ⟨hjn, hyk⟩ := hgo
          have j1 : (j : Int) < (n : Int) := by omega
          have j2 : (0 : Int) ≤ (j : Int) := by omega
          rw [hyk] at tk
          have F2 := Lib.hid (redF_2 hjn (tB.out.trans hyk) hF.out)
          have cj := own_int_cell hS.out.rows j (by omega)
          have hxj := hR.out.small.get j
          have tj := bit_test (s.L.getD j 0) k (by omega)
          have tBj : Hid (bitAt s.L j k = (s.L.getD j 0).testBit k) := rfl
          obtain ⟨x, hx⟩ : ∃ x, x = s.L.getD j 0 := ⟨_, rfl⟩
          rw [← hx] at cj hxj tj tBj
          clear hx hyk hF tB
          cases hb : x.testBit k with
          | false =>
            rw [hb] at tj
            have F3 := Lib.hid (show (red0 n (n - (k + 1)) (k + 1) (red2 k n 0 (red1 k (n - (j + 1)) (j + 1) s))).gs = redG L from by have h9 := F2.out; rw [tBj.out, hb] at h9; exact h9)
            clear hb
            go_wp2_with fail
            go_roundw
            case rel => exact ⟨j + 1, s, vO, by omega, by omega, by go_num, hS.out, (show RSok _ _ _ from hR.out.mono (by omega)), F3.out⟩
            case measure => simp [intOf]; omega
          | true =>
            rw [hb] at tj
            have F3 := Lib.hid (show (red0 n (n - (k + 1)) (k + 1) (red2 k n 0 (red1 k (n - (j + 1)) (j + 1) (s.add j k)))).gs = redG L from by have h9 := F2.out; rw [tBj.out, hb] at h9; exact h9)
            have R3 := Lib.hid (RSok.add (a := j) (b := k) hR.out hjn hlt (by omega))
            clear hb
            go_wp2_with fail
            refine (eliminated1_any j k _ hS.out hR.out (by omega) h5 hjn hlt).mono ?_; rintro e x1 ⟨rfl, vO', hS'⟩
            have S3 := Lib.hid hS'; clear hS' c3 ck cj
            go_wp2_with fail
            go_roundw
            case rel => exact ⟨j + 1, s.add j k, vO', by omega, by omega, by go_num, S3.out, (show RSok _ _ _ from R3.out.mono (by omega)), F3.out⟩
            case measure => simp [intOf]; omega
        · have hor : n ≤ j ∨ (j < n ∧ y.testBit k = true) := by
            by_cases h9 : j < n
            · exact .inr ⟨h9, by simpa using (show ¬ y.testBit k = false from fun h8 => hgo ⟨h9, h8⟩)⟩
            · exact .inl (by omega)
          have F3 := Lib.hid (redF_3 (hor.imp id (fun h => tB.out.trans h.2)) hF.out)
          clear hgo hF tB
          have R3 := Lib.hid (RSok.mono (m' := 10 * k + 5) hR.out (by omega))
          clear hR
          obtain ⟨wi, rfl⟩ : ∃ wi : World, wi = wr := ⟨_, rfl⟩
          rcases hor with hor | ⟨hjn, hyk⟩
          all_goals
            (first | (have j1 : ¬ (j : Int) < (n : Int) := (by omega)) | ((have j1 : (j : Int) < (n : Int) := (by omega)); (rw [hyk] at tk); (clear hyk)))
            go_wp2_with fail
            clear c3 ck tk
            go_loopw [51] (fun i wr => ∃ (j : Nat) (s : RS) (vO : Value), j ≤ n ∧ i = .int .i64 j ∧ Hid (RIt w.heap.size (w1.heap.size + 1) (w1.heap.size + 1 + 1) n g cap w wr vO s) ∧ Hid (RSok n (10 * k + 5 + j) s) ∧ Hid ((red0 n (n - (k + 1)) (k + 1) (red2 k (n - j) j s)).gs = redG L)) (fun i _ => n - (intOf i).toNat)
            case atStart => exact ⟨0, s, vO, Nat.zero_le _, rfl, hS.out, R3.out, F3.out⟩
            case round =>
              clear F3 R3 hS hlen hxk
              obtain ⟨q, s, vO, hq, rfl, hS, hR, hF⟩ := hrel
              have hlen := hR.out.len
              have c3 := hS.out.c3
              by_cases hqn : q < n
              · have q1 : (q : Int) < (n : Int) := by omega
                have q2 : (0 : Int) ≤ (q : Int) := by omega
                have F2 := Lib.hid (redF_4 hqn hF.out)
                clear hF
                by_cases hqk : q = k
                · have F4 := Lib.hid (show (red0 n (n - (k + 1)) (k + 1) (red2 k (n - (q + 1)) (q + 1) s)).gs = redG L from by have h9 := F2.out; rw [if_neg (fun h => h.1 hqk)] at h9; exact h9)
                  have q3 : ((q : Int) != (k : Int)) = false := by simp; omega
                  clear hqk
                  go_wp2_with fail
                  go_roundw
                  case rel => exact ⟨q + 1, s, vO, by omega, by go_num, hS.out, (show RSok _ _ _ from hR.out.mono (by omega)), F4.out⟩
                  case measure => simp [intOf]; omega
                · have q3 : ((q : Int) != (k : Int)) = true := by simp; omega
                  have cj := own_int_cell hS.out.rows q (by omega)
                  have hxj := hR.out.small.get q
                  have tj := bit_test (s.L.getD q 0) k (by omega)
                  have tBj : Hid (bitAt s.L q k = (s.L.getD q 0).testBit k) := rfl
                  obtain ⟨x, hx⟩ : ∃ x, x = s.L.getD q 0 := ⟨_, rfl⟩
                  rw [← hx] at cj hxj tj tBj
                  clear hx
                  cases hb : x.testBit k with
                  | false =>
                    rw [hb] at tj
                    have F4 := Lib.hid (show (red0 n (n - (k + 1)) (k + 1) (red2 k (n - (q + 1)) (q + 1) s)).gs = redG L from by have h9 := F2.out; rw [if_neg (fun h => by rw [tBj.out, hb] at h; cases h.2)] at h9; exact h9)
                    clear hb hqk
                    go_wp2_with fail
                    go_roundw
                    case rel => exact ⟨q + 1, s, vO, by omega, by go_num, hS.out, (show RSok _ _ _ from hR.out.mono (by omega)), F4.out⟩
                    case measure => simp [intOf]; omega
                  | true =>
                    rw [hb] at tj
                    have F4 := Lib.hid (show (red0 n (n - (k + 1)) (k + 1) (red2 k (n - (q + 1)) (q + 1) (s.add k q))).gs = redG L from by have h9 := F2.out; rw [if_pos ⟨hqk, by rw [tBj.out, hb]⟩] at h9; exact h9)
                    have R4 := Lib.hid (RSok.add (a := k) (b := q) hR.out hlt hqn (by omega))
                    clear hb hqk
                    go_wp2_with fail
                    refine (eliminated1_any k q _ hS.out hR.out (by omega) h5 hlt hqn).mono ?_; rintro e x1 ⟨rfl, vO', hS'⟩
                    have S4 := Lib.hid hS'; clear hS' c3 cj
                    go_wp2_with fail
                    go_roundw
                    case rel => exact ⟨q + 1, s.add k q, vO', by omega, by go_num, S4.out, (show RSok _ _ _ from R4.out.mono (by omega)), F4.out⟩
                    case measure => simp [intOf]; omega
              · have F4 := Lib.hid (redF_5 (by omega) hF.out)
                have q1 : ¬ (q : Int) < (n : Int) := by omega
                clear hF
                go_wp2_with fail
                go_roundw
                case rel => exact ⟨k + 1, s, vO, by omega, by go_num, hS.out, (show RSok _ _ _ from hR.out.mono (by omega)), F4.out⟩
                case measure => simp [intOf]; omega
    · have HG := Lib.hid (show s.gs = redG L from by have h9 := hF.out; rw [show n - k = 0 from by omega] at h9; exact h9)
      have i1 : ¬ (k : Int) < (n : Int) := by omega
      have c4 := hS.out.c4
      clear hF
      go_wp2_with fail
      go_ret
      exact ⟨_, rfl, (show OwnE _ _ _ _ _ _ _ from by rw [← HG.out]; exact (show OwnE _ _ _ _ _ _ _ from hS.out.out)), hS.out.bel⟩
end Go.Proofs.Ytbcjligkjoimmaa
namespace Go.Proofs.Ytbcjligkjoimmaa
set_option linter.unusedSimpArgs false
set_option linter.unusedVariables false
set_option linter.unnecessarySimpa false
set_option maxRecDepth 200000
open Go.ChangeShapes Go.WideShapes Go.ChangeAt Go.RowKit

theorem Mid.setc {w w' : World} {lo hi : Nat} (h : Mid lo hi w w') {b o : Nat} (hb : lo ≤ b ∧ b < hi) (u : Value) : Mid lo hi w (w'.setCell ⟨b, o, none⟩ u) :=
  have q := Below.setCell (p := ⟨b, o, none⟩) (Below.refl 0 w') (Nat.zero_le _) u
  ⟨q.os.trans h.os, q.tape.trans h.tape, q.output.trans h.output, Nat.le_trans h.size q.size, fun k hk hkk => by rw [Below.heap_setCell w' ⟨b, o, none⟩ u k (by dsimp only; omega)]; exact h.block k hk hkk⟩
theorem Mid.drew {w w' : World} {lo hi : Nat} (h : Mid lo hi w w') : Mid lo hi w w'.drew := h.trans (.of_below (show Below w'.heap.size w' w'.drew from (by repeat (first | exact Below.refl _ _ | assumption | refine Below.drew ?_ | refine below_drewN ?_ _ | refine Below.alloc ?_ (by first | omega | (simp <;> omega)) _ | refine Below.setCell ?_ (by first | omega | (simp <;> omega)) _ | refine Below.trans ?_ (Below.mono (by assumption) (by first | omega | (simp <;> omega)))))) rfl)
theorem Mid.call {w w' w'' : World} {lo hi : Nat} (h : Mid lo hi w w') (hb : Below w'.heap.size w' w'') : Mid lo hi w w'' := h.trans (.of_below hb rfl)
/-- What InvertLinear answers. -/
noncomputable def invLG (zs : List Int) : Option (List Int) := if LinOk zs then some (ints (cxs (idN zs.length) (redG (zs.map Int.toNat)))) else none
theorem invLG_len (zs : List Int) : ((invLG zs).getD []).length ≤ 1000000 := by
  unfold invLG; split
  · next h =>
    obtain ⟨⟨_, h5⟩, _⟩ := h
    simp [ints_len, cxs_len, idN_len]; omega
  · simp
theorem red_gate {L : List Nat} (h : Small L) {k : Nat} (hk : k < (redG L).length) : ∃ a b : Nat, (redG L).getD k ⟨0, 0, 0⟩ = ⟨9, (a : Int), (b : Int)⟩ ∧ a < L.length ∧ b < L.length ∧ a ≠ b := by
  have e : (redG L).getD k ⟨0, 0, 0⟩ = (redG L)[k] := by simp [List.getD, hk]
  have hg := (redG_ok h).gates (redG L)[k] (List.getElem_mem hk)
  rw [e]
  generalize (redG L)[k] = g at hg ⊢
  obtain ⟨x, y, z⟩ := g
  dsimp only at hg
  obtain ⟨rfl, h1, h2, h3, h4, h5⟩ := hg
  obtain ⟨a, rfl⟩ := Int.eq_ofNat_of_zero_le h1
  obtain ⟨b, rfl⟩ := Int.eq_ofNat_of_zero_le h3
  exact ⟨a, b, rfl, by omega, by omega, fun e => h5 (by rw [e])⟩
theorem red_few {L : List Nat} (h : Small L) (h5 : L.length ≤ 5) : (redG L).length ≤ 50 := by
  have h1 : (redG L).length ≤ L.length * (2 * L.length) := (redG_ok h).few
  have h2 : L.length * (2 * L.length) ≤ 5 * (2 * 5) := Nat.mul_le_mul h5 (by omega)
  omega
theorem cxs_next {L gs : List E3} {M : List Nat} {k a b : Nat} (h : k < gs.length) (hg : gs.getD k ⟨0, 0, 0⟩ = ⟨9, (a : Int), (b : Int)⟩) : cxs M (gs.take (k + 1)) = cxN (cxs M (gs.take k)) a b := by
  rw [cxs_take h]
  have e : gs[k] = ⟨9, (a : Int), (b : Int)⟩ := by rw [← hg]; simp [List.getD, h]
  rw [e]; simp
set_option maxHeartbeats 8000000 in
theorem spec_InvertLinear_any (v : Value) (zs : List Int) (w : World) (h : RdI w v zs) (hn : zs.length ≤ 1048576) :
    Calls Try.prog 18 #[.agg #[v]] w (LinPost w (invLG zs)) := by
  have H := Lib.hid h
  obtain ⟨A, c, rfl, _⟩ := h.form
  clear h
  by_cases hk : LinOk zs
  · have HB := Lib.hid (linB_true hk)
    have HG := Lib.hid (show invLG zs = some (ints (cxs (idN zs.length) (redG (zs.map Int.toNat)))) from if_pos hk)
    obtain ⟨n1, n5⟩ := hk.small.1
    obtain ⟨hz, hs⟩ := hk.nat
    clear hk
    generalize zs.map Int.toNat = L at *
    subst hz
    rw [ints_len] at *
    have HS := Lib.hid hs; clear hs
    have HF := red_few HS.out n5
    go_enter Try.func18, Try.ntmps18
    go_wp2_with fail
    refine (spec_l12Valid_any _ (ints L) _ (Rd.below H.out (show Below w.heap.size w _ from (by repeat (first | exact Below.refl _ _ | assumption | refine Below.drew ?_ | refine below_drewN ?_ _ | refine Below.alloc ?_ (by first | omega | (simp <;> omega)) _ | refine Below.setCell ?_ (by first | omega | (simp <;> omega)) _ | refine Below.trans ?_ (Below.mono (by assumption) (by first | omega | (simp <;> omega)))))) rfl) (by rw [ints_len]; omega)).mono ?_; rintro e w1 ⟨rfl, hb1⟩; rw [HB.out]
    have t0 := below_cell hb1 rfl (show ((w.alloc (.cells #[.slice A L.length c] 35)).alloc (.cells #[.slice none 0 0] 35)).cell? ⟨w.heap.size, 0, none⟩ = some (.slice A L.length c) from (by repeat (first | (refine Eq.trans (World.cell?_alloc_at _ _ _ _ ?hh) ?_; (case hh => (simp; done)); rfl) | refine cell_alloc_keep _ ?_)))
    have r0 := below_cell hb1 rfl (show ((w.alloc (.cells #[.slice A L.length c] 35)).alloc (.cells #[.slice none 0 0] 35)).cell? ⟨w.heap.size + 1, 0, none⟩ = some (.slice none 0 0) from (by repeat (first | (refine Eq.trans (World.cell?_alloc_at _ _ _ _ ?hh) ?_; (case hh => (simp; done)); rfl) | refine cell_alloc_keep _ ?_)))
    have f0 := below_frz hb1 rfl (by simp) (show ((w.alloc (.cells #[.slice A L.length c] 35)).alloc (.cells #[.slice none 0 0] 35)).frozen? ⟨w.heap.size + 1, 0, none⟩ = false from (by repeat (first | (refine World.frozen?_alloc_at _ _ _ _ ?hh; case hh => (simp; done)) | (refine frozen_alloc_lt _ ?hh ?_; case hh => first | omega | (simp <;> omega)))))
    have z1 := hb1.size; (simp at z1)
    have bw1 := Lib.hid (show Below w.heap.size w w1 from (by repeat (first | exact Below.refl _ _ | assumption | refine Below.drew ?_ | refine below_drewN ?_ _ | refine Below.alloc ?_ (by first | omega | (simp <;> omega)) _ | refine Below.setCell ?_ (by first | omega | (simp <;> omega)) _ | refine Below.trans ?_ (Below.mono (by assumption) (by first | omega | (simp <;> omega)))))); clear hb1
    go_wp2_with fail
    refine (spec_l12Identity_any (L.length : Int) _ (by omega) (by omega)).mono ?_; rintro e w2 ⟨v1, rfl, ho1, hb2⟩
    rw [Int.toNat_natCast, idN_ints] at ho1
    obtain ⟨g1, cap1, rfl, hg1a, hg1b⟩ := own_ints ho1 (by rw [idN_len]; omega)
    rw [idN_len] at *
    have z2 := hb2.size
    replace t0 := below_cell hb2 rfl t0; replace r0 := below_cell hb2 rfl r0; replace f0 := below_frz hb2 rfl (by omega) f0
    have bw2 := Lib.hid (show Below w.heap.size w w2 from Below.trans bw1.out (hb2.mono (by omega)))
    have O1 := Lib.hid (OwnI.le ho1 (base' := w.heap.size + 2) (by omega))
    clear hb2 ho1
    replace t0 := cell_alloc_keep (.cells #[.slice (some ⟨g1, 0, none⟩) L.length cap1] 35) t0
    replace r0 := cell_alloc_keep (.cells #[.slice (some ⟨g1, 0, none⟩) L.length cap1] 35) r0
    replace f0 := frozen_alloc_lt (.cells #[.slice (some ⟨g1, 0, none⟩) L.length cap1] 35) (by omega) f0
    go_wp2_with fail
    have RL := Lib.hid (Rd.below H.out (show Below w.heap.size w (w2.alloc (.cells #[.slice (some ⟨g1, 0, none⟩) L.length cap1] 35)) from Below.alloc bw2.out (by omega) _) rfl)
    refine (spec_l12Reduce_any _ L L.length _ RL.out HS.out rfl n1 n5).mono ?_; rintro e w3 ⟨u3, rfl, ho3, hb3⟩
    obtain ⟨aG, cG, hu3, Hc⟩ := gate_at ho3.rd
    subst hu3
    have z3 := hb3.size; (simp at z3)
    have LG := Lib.hid (show ∀ b off, aG = some ⟨b, off, none⟩ → w2.heap.size < b from fun b off h => by have := (ho3.lt b (by rw [h]; rfl)).1; simp at this; omega)
    have c0 : w3.cell? ⟨w2.heap.size, 0, none⟩ = some (.slice (some ⟨g1, 0, none⟩) L.length cap1) := below_cell hb3 rfl (by repeat (first | (refine Eq.trans (World.cell?_alloc_at _ _ _ _ ?hh) ?_; (case hh => (simp; done)); rfl) | refine cell_alloc_keep _ ?_))
    have cf : w3.frozen? ⟨w2.heap.size, 0, none⟩ = false := below_frz hb3 rfl (by simp) (by repeat (first | (refine World.frozen?_alloc_at _ _ _ _ ?hh; case hh => (simp; done)) | (refine frozen_alloc_lt _ ?hh ?_; case hh => first | omega | (simp <;> omega))))
    have O3 := Lib.hid (OwnI.below (OwnI.below O1.out (show Below w2.heap.size w2 (w2.alloc (.cells #[.slice (some ⟨g1, 0, none⟩) L.length cap1] 35)) from (by repeat (first | exact Below.refl _ _ | assumption | refine Below.drew ?_ | refine below_drewN ?_ _ | refine Below.alloc ?_ (by first | omega | (simp <;> omega)) _ | refine Below.setCell ?_ (by first | omega | (simp <;> omega)) _ | refine Below.trans ?_ (Below.mono (by assumption) (by first | omega | (simp <;> omega)))))) rfl) hb3 rfl)
    replace r0 := below_cell hb3 rfl r0; replace f0 := below_frz hb3 rfl (by simp; omega) f0
    have R0 := Lib.hid r0; have F0 := Lib.hid f0
    have bw3 := Lib.hid (show Below w.heap.size w w3 from Below.trans (Below.alloc bw2.out (by omega) _) (hb3.mono (by simp; omega)))
    have hne0 : g1 ≠ w2.heap.size := by omega
    clear hb3 ho3 O1 RL t0 r0 f0
    go_wp2_with fail
    go_loopw [18] (fun i wr => ∃ (k g cap : Nat), k ≤ (redG L).length ∧ i = .int .i64 k ∧ wr.cell? ⟨w2.heap.size, 0, none⟩ = some (.slice (some ⟨g, 0, none⟩) L.length cap) ∧ wr.frozen? ⟨w2.heap.size, 0, none⟩ = false ∧ Hid (OwnI wr (w.heap.size + 2) (.slice (some ⟨g, 0, none⟩) L.length cap) (ints (cxs (idN L.length) ((redG L).take k)))) ∧ g ≠ w2.heap.size ∧ Hid (Mid w2.heap.size (w2.heap.size + 1) w3 wr)) (fun i _ => (redG L).length - (intOf i).toNat)
    case atStart => exact ⟨0, g1, cap1, Nat.zero_le _, rfl, c0, cf, O3, hne0, (show Mid _ _ _ _ from Mid.of_below (Below.refl w3.heap.size w3) rfl)⟩
    case round =>
      clear c0 cf O3 hne0
      obtain ⟨k, g, cap, hk, rfl, c0, cf, hO, hne, hmid⟩ := hrel
      have L0 := World.block_lt_of_cell? _ _ c0
      have zr := hmid.out.size
      by_cases hlt : k < (redG L).length
      · obtain ⟨b0, off, hA, hb0, q0, q1, q2⟩ := Hc.out k hlt
        have hb9 := LG.out b0 off hA
        subst hA
        replace q0 := hmid.out.cell (by omega) q0; replace q1 := hmid.out.cell (by omega) q1; replace q2 := hmid.out.cell (by omega) q2
        obtain ⟨a, b, hg, ha, hb, hab⟩ := red_gate HS.out hlt
        have HN := Lib.hid (cxs_next (L := []) (M := idN L.length) hlt hg)
        rw [hg] at q0 q1 q2
        have hSM := Lib.hid (Small.cxs (idN_small n5) ((redG L).take k))
        have hlR : (cxs (idN L.length) ((redG L).take k)).length = L.length := by rw [cxs_len, idN_len]
        obtain ⟨R, hR⟩ : ∃ R, R = cxs (idN L.length) ((redG L).take k) := ⟨_, rfl⟩
        rw [← hR] at hO hSM hlR HN
        have i1 : (k : Int) < ((redG L).length : Int) := by omega
        have gOwn := Lib.hid (hO.out.lt g rfl)
        clear hg hR hab
        go_wp2_with fail
        have hRw := Lib.hid (OwnI.below hO.out (show Below wr.heap.size wr (wr.alloc (.cells #[.int .i64 9, .int .i64 (a : Int), .int .i64 (b : Int)] 58)) from (by repeat (first | exact Below.refl _ _ | assumption | refine Below.drew ?_ | refine below_drewN ?_ _ | refine Below.alloc ?_ (by first | omega | (simp <;> omega)) _ | refine Below.setCell ?_ (by first | omega | (simp <;> omega)) _ | refine Below.trans ?_ (Below.mono (by assumption) (by first | omega | (simp <;> omega)))))) rfl)
        refine (spec_l12CX_any _ R a b _ hRw.out.rd hSM.out (by omega) (by omega) (by omega)).mono ?_; rintro e x1 ⟨v', rfl, ho', hx1⟩
        obtain ⟨gN, capN, hvN, hgN1, hgN2⟩ := own_ints ho' (by rw [cxN_len]; omega)
        rw [cxN_len, hlR] at hvN; subst hvN
        have zx := hx1.size; (try simp at zx); (try simp at hgN1)
        have d0 := below_cell hx1 rfl (cell_alloc_keep (.cells #[.int .i64 9, .int .i64 (a : Int), .int .i64 (b : Int)] 58) c0)
        have df := below_frz hx1 rfl (by simp; omega) (frozen_alloc_keep (.cells #[.int .i64 9, .int .i64 (a : Int), .int .i64 (b : Int)] 58) c0 cf)
        have N1 := Lib.hid (OwnI.le ho' (base' := w.heap.size + 2) (by simp; have := gOwn.out.1; omega))
        have mx := Lib.hid (show Mid w2.heap.size (w2.heap.size + 1) w3 x1 from (hmid.out.call (show Below wr.heap.size wr (wr.alloc (.cells #[.int .i64 9, .int .i64 (a : Int), .int .i64 (b : Int)] 58)) from (by repeat (first | exact Below.refl _ _ | assumption | refine Below.drew ?_ | refine below_drewN ?_ _ | refine Below.alloc ?_ (by first | omega | (simp <;> omega)) _ | refine Below.setCell ?_ (by first | omega | (simp <;> omega)) _ | refine Below.trans ?_ (Below.mono (by assumption) (by first | omega | (simp <;> omega))))))).call hx1)
        clear hx1 ho' hRw hO c0 cf
        go_wp2_with fail
        go_roundw
        case rel => exact ⟨k + 1, gN, capN, by omega, by go_num, World.cell?_setCell_same _ _ _ d0, by rw [World.frozen?_setCell]; exact df, (show OwnI _ _ _ _ from by rw [HN.out]; exact own_set_ne N1.out (fun g hg => by simp [Value.ownBlock] at hg; (try dsimp only); omega) _), by omega, (show Mid _ _ _ _ from mx.out.setc ⟨by omega, by omega⟩ _)⟩
        case measure => simp [intOf]; omega
      · have e9 : k = (redG L).length := by omega
        have HG2 := Lib.hid (show invLG (ints L) = some (ints (cxs (idN L.length) ((redG L).take k))) from by rw [HG.out, e9, List.take_length])
        have r1 := hmid.out.cell (show w.heap.size + 1 < w2.heap.size ∨ w2.heap.size + 1 ≤ w.heap.size + 1 by omega) R0.out
        have rf : wr.frozen? ⟨w.heap.size + 1, 0, none⟩ = false := by
          have h9 := hmid.out.block (w.heap.size + 1) (by omega) (by omega)
          rw [World.frozen?_of_block (w := w3) (w' := wr) (a := ⟨w.heap.size + 1, 0, none⟩) h9]; exact F0.out
        have bq : Below w.heap.size w wr := Below.trans bw3.out (hmid.out.below (by omega) (by omega))
        have hx2 : w.heap.size + 1 ≠ w2.heap.size := by omega
        have i1 : ¬ (k : Int) < ((redG L).length : Int) := by omega
        have GL := hO.out.lt g rfl
        clear e9
        go_wp2_with fail
        have hZ := World.cell?_setCell_same _ _ (.slice (some ⟨g, 0, none⟩) L.length cap) r1
        exact bodyPost_ret (v := .tuple #[.agg #[.slice (some ⟨g, 0, none⟩) L.length cap], .bool true]) (by simp [results, Try.results18, go_sem, hZ]) rfl (LinPost.some HG2.out (OwnI.le (OwnI.set hO.out (by simp) _) (by omega)) (by repeat (first | exact Below.refl _ _ | assumption | refine Below.drew ?_ | refine below_drewN ?_ _ | refine Below.alloc ?_ (by first | omega | (simp <;> omega)) _ | refine Below.setCell ?_ (by first | omega | (simp <;> omega)) _ | refine Below.trans ?_ (Below.mono (by assumption) (by first | omega | (simp <;> omega))))))
  · have HB := Lib.hid (linB_false hk)
    have HG := Lib.hid (show invLG zs = none from if_neg hk)
    clear hk
    go_enter Try.func18, Try.ntmps18
    go_wp2_with fail
    refine (spec_l12Valid_any _ zs _ (Rd.below H.out (show Below w.heap.size w _ from (by repeat (first | exact Below.refl _ _ | assumption | refine Below.drew ?_ | refine below_drewN ?_ _ | refine Below.alloc ?_ (by first | omega | (simp <;> omega)) _ | refine Below.setCell ?_ (by first | omega | (simp <;> omega)) _ | refine Below.trans ?_ (Below.mono (by assumption) (by first | omega | (simp <;> omega)))))) rfl) hn).mono ?_; rintro e w1 ⟨rfl, hb1⟩; rw [HB.out]
    have r0 := below_cell hb1 rfl (show ((w.alloc (.cells #[.slice A zs.length c] 35)).alloc (.cells #[.slice none 0 0] 35)).cell? ⟨w.heap.size + 1, 0, none⟩ = some (.slice none 0 0) from (by repeat (first | (refine Eq.trans (World.cell?_alloc_at _ _ _ _ ?hh) ?_; (case hh => (simp; done)); rfl) | refine cell_alloc_keep _ ?_)))
    obtain ⟨hc_hb1, hf_hb1⟩ := bcell hb1; have hz_hb1 := hb1.size; (try simp at hz_hb1); have hs0_hb1 : w.heap.size < w1.heap.size := (by omega); have hs1_hb1 : w.heap.size + 1 < w1.heap.size := (by omega)
    go_wp2_with fail
    have hZ := World.cell?_setCell_same _ _ (.slice none 0 0) r0
    exact bodyPost_ret (v := .tuple #[.agg #[.slice none 0 0], .bool false]) (by simp [results, Try.results18, go_sem, hZ]) rfl (LinPost.none HG.out (by repeat (first | exact Below.refl _ _ | assumption | refine Below.drew ?_ | refine below_drewN ?_ _ | refine Below.alloc ?_ (by first | omega | (simp <;> omega)) _ | refine Below.setCell ?_ (by first | omega | (simp <;> omega)) _ | refine Below.trans ?_ (Below.mono (by assumption) (by first | omega | (simp <;> omega))))))
end Go.Proofs.Ytbcjligkjoimmaa
namespace Go.Proofs.Ytbcjligkjoimmaa
set_option linter.unusedSimpArgs false
set_option linter.unusedVariables false
set_option linter.unnecessarySimpa false
set_option maxRecDepth 200000
open Go.ChangeShapes Go.WideShapes Go.ChangeAt Go.RowKit

theorem Mid.ownN {w w' : World} {lo hi base g n cap : Nat} {M : List Nat} (h : Mid lo hi w w') (ho : OwnN w base g n cap M) (hb : g < lo ∨ hi ≤ g) : OwnN w' base g n cap M :=
  Mid.own h ho (fun k hk => by injection hk with hk; subst hk; exact hb)
set_option maxHeartbeats 8000000 in
theorem impl_inverted_any (v : Value) (L : List Nat) (w : World) (h : RdI w v (ints L)) (hs : Small L) (n1 : 1 ≤ L.length) (n5 : L.length ≤ 5) :
    Calls Try.prog 29 #[.agg #[v]] w fun e w' => ∃ u, e = .returned (.agg #[u]) ∧ OwnI w' w.heap.size u (ints (cxs (idN L.length) (redG L))) ∧ Below w.heap.size w w' := by
  have H := Lib.hid h
  obtain ⟨A, c, rfl, _⟩ := h.form
  clear h
  rw [ints_len] at *
  have HS := Lib.hid hs; clear hs
  have HF := red_few HS.out n5
  go_enter Try.func29, Try.ntmps29
  go_wp2_with fail
  refine (impl_identityLinear_any (L.length : Int) _ (by omega) (by omega)).mono ?_; rintro e w2 ⟨v1, rfl, ho1, hb2⟩
  rw [Int.toNat_natCast, idN_ints] at ho1
  obtain ⟨g1, cap1, rfl, hg1a, hg1b⟩ := own_ints ho1 (by rw [idN_len]; omega)
  rw [idN_len] at *
  have t0 := below_cell hb2 rfl (show ((w.alloc (.cells #[.slice A L.length c] 35)).alloc (.cells #[.slice none 0 0] 35)).cell? ⟨w.heap.size, 0, none⟩ = some (.slice A L.length c) from (by repeat (first | (refine Eq.trans (World.cell?_alloc_at _ _ _ _ ?hh) ?_; (case hh => (simp; done)); rfl) | refine cell_alloc_keep _ ?_)))
  have r0 := below_cell hb2 rfl (show ((w.alloc (.cells #[.slice A L.length c] 35)).alloc (.cells #[.slice none 0 0] 35)).cell? ⟨w.heap.size + 1, 0, none⟩ = some (.slice none 0 0) from (by repeat (first | (refine Eq.trans (World.cell?_alloc_at _ _ _ _ ?hh) ?_; (case hh => (simp; done)); rfl) | refine cell_alloc_keep _ ?_)))
  have f0 := below_frz hb2 rfl (by simp) (show ((w.alloc (.cells #[.slice A L.length c] 35)).alloc (.cells #[.slice none 0 0] 35)).frozen? ⟨w.heap.size + 1, 0, none⟩ = false from (by repeat (first | (refine World.frozen?_alloc_at _ _ _ _ ?hh; case hh => (simp; done)) | (refine frozen_alloc_lt _ ?hh ?_; case hh => first | omega | (simp <;> omega)))))
  have z2 := hb2.size; (simp at z2); (simp at hg1a)
  have bw2 := Lib.hid (show Below w.heap.size w w2 from (by repeat (first | exact Below.refl _ _ | assumption | refine Below.drew ?_ | refine below_drewN ?_ _ | refine Below.alloc ?_ (by first | omega | (simp <;> omega)) _ | refine Below.setCell ?_ (by first | omega | (simp <;> omega)) _ | refine Below.trans ?_ (Below.mono (by assumption) (by first | omega | (simp <;> omega))))))
  have O1 := Lib.hid (OwnI.le ho1 (base' := w.heap.size) (by simp; omega))
  clear hb2 ho1
  replace t0 := cell_alloc_keep (.cells #[.slice (some ⟨g1, 0, none⟩) L.length cap1] 35) t0
  replace r0 := cell_alloc_keep (.cells #[.slice (some ⟨g1, 0, none⟩) L.length cap1] 35) r0
  replace f0 := frozen_alloc_lt (.cells #[.slice (some ⟨g1, 0, none⟩) L.length cap1] 35) (by omega) f0
  go_wp2_with fail
  have RL := Lib.hid (Rd.below H.out (show Below w.heap.size w (w2.alloc (.cells #[.slice (some ⟨g1, 0, none⟩) L.length cap1] 35)) from Below.alloc bw2.out (by omega) _) rfl)
  refine (impl_eliminated_any _ L L.length _ RL.out HS.out rfl n1 n5).mono ?_; rintro e w3 ⟨u3, rfl, ho3, hb3⟩
  obtain ⟨aG, cG, hu3, Hc⟩ := gate_at ho3.rd
  subst hu3
  have z3 := hb3.size; (simp at z3)
  have LG := Lib.hid (show ∀ b off, aG = some ⟨b, off, none⟩ → w2.heap.size < b from fun b off h => by have := (ho3.lt b (by rw [h]; rfl)).1; simp at this; omega)
  have c0 : w3.cell? ⟨w2.heap.size, 0, none⟩ = some (.slice (some ⟨g1, 0, none⟩) L.length cap1) := below_cell hb3 rfl (by repeat (first | (refine Eq.trans (World.cell?_alloc_at _ _ _ _ ?hh) ?_; (case hh => (simp; done)); rfl) | refine cell_alloc_keep _ ?_))
  have O3 := Lib.hid (show OwnN w3 w.heap.size g1 L.length cap1 (idN L.length) from by have h9 := OwnN.of (M := idN L.length) (by rw [idN_len]; exact OwnI.below (OwnI.below O1.out (show Below w2.heap.size w2 (w2.alloc (.cells #[.slice (some ⟨g1, 0, none⟩) L.length cap1] 35)) from (by repeat (first | exact Below.refl _ _ | assumption | refine Below.drew ?_ | refine below_drewN ?_ _ | refine Below.alloc ?_ (by first | omega | (simp <;> omega)) _ | refine Below.setCell ?_ (by first | omega | (simp <;> omega)) _ | refine Below.trans ?_ (Below.mono (by assumption) (by first | omega | (simp <;> omega)))))) rfl) hb3 rfl); rw [idN_len] at h9; exact h9)
  replace r0 := below_cell hb3 rfl r0; replace f0 := below_frz hb3 rfl (by simp; omega) f0
  have C0 := Lib.hid c0; have R0 := Lib.hid r0; have F0 := Lib.hid f0
  have bw3 := Lib.hid (show Below w.heap.size w w3 from Below.trans (Below.alloc bw2.out (by omega) _) (hb3.mono (by simp; omega)))
  have hne0 : g1 < w2.heap.size := by omega
  have hg2 : w.heap.size + 2 ≤ g1 := by omega
  clear hb3 ho3 O1 RL t0 r0 f0 c0
  go_wp2_with fail
  go_loopw [13] (fun i wr => ∃ (k : Nat), k ≤ (redG L).length ∧ i = .int .i64 k ∧ Hid (OwnN wr w.heap.size g1 L.length cap1 (cxs (idN L.length) ((redG L).take k))) ∧ Hid (Mid g1 (g1 + 1) w3 wr)) (fun i _ => (redG L).length - (intOf i).toNat)
  case atStart => exact ⟨0, Nat.zero_le _, rfl, O3, (show Mid _ _ _ _ from Mid.of_below (Below.refl w3.heap.size w3) rfl)⟩
  case round =>
    clear O3
    obtain ⟨k, hk, rfl, hO, hmid⟩ := hrel
    have zr := hmid.out.size
    have c0 := hmid.out.cell (show w2.heap.size < g1 ∨ g1 + 1 ≤ w2.heap.size by omega) C0.out
    have gO := hO.out.lt
    by_cases hlt : k < (redG L).length
    · obtain ⟨b0, off, hA, hb0, q0, q1, q2⟩ := Hc.out k hlt
      have hb9 := LG.out b0 off hA
      subst hA
      replace q0 := hmid.out.cell (by omega) q0; replace q1 := hmid.out.cell (by omega) q1; replace q2 := hmid.out.cell (by omega) q2
      obtain ⟨a, b, hg, ha, hb, hab⟩ := red_gate HS.out hlt
      have HN := Lib.hid (cxs_next (L := []) (M := idN L.length) hlt hg)
      rw [hg] at q0 q1 q2
      have hSM := Lib.hid (Small.cxs (idN_small n5) ((redG L).take k))
      have hlR : (cxs (idN L.length) ((redG L).take k)).length = L.length := by rw [cxs_len, idN_len]
      obtain ⟨R, hR⟩ : ∃ R, R = cxs (idN L.length) ((redG L).take k) := ⟨_, rfl⟩
      rw [← hR] at hO hSM hlR HN
      have i1 : (k : Int) < ((redG L).length : Int) := by omega
      clear hg hR
      have RW := Lib.hid (hO.out.below (show Below wr.heap.size wr (wr.alloc (.cells #[.int .i64 9, .int .i64 (a : Int), .int .i64 (b : Int)] 58)) from (by repeat (first | exact Below.refl _ _ | assumption | refine Below.drew ?_ | refine below_drewN ?_ _ | refine Below.alloc ?_ (by first | omega | (simp <;> omega)) _ | refine Below.setCell ?_ (by first | omega | (simp <;> omega)) _ | refine Below.trans ?_ (Below.mono (by assumption) (by first | omega | (simp <;> omega)))))) rfl)
      obtain ⟨x, hx⟩ : ∃ x, x = R.getD a 0 := ⟨_, rfl⟩
      obtain ⟨y, hy⟩ : ∃ y, y = R.getD b 0 := ⟨_, rfl⟩
      have hxa := hSM.out.get a
      have hxb := hSM.out.get b
      have ca := own_int_cell RW.out a (by omega)
      have cb := own_int_cell RW.out b (by omega)
      have fb := RW.out.frz b
      rw [← hx] at ca hxa; rw [← hy] at cb hxb
      have hxo := bits_xor y x (by omega) (by omega)
      have hr : Hid (cxN R a b = R.set b (y ^^^ x)) := by show _ = _; rw [hx, hy]; rfl
      have j1 : (a : Int) < (L.length : Int) := by omega
      have j2 : (b : Int) < (L.length : Int) := by omega
      have j3 : (0 : Int) ≤ (a : Int) := by omega
      have j4 : (0 : Int) ≤ (b : Int) := by omega
      have hne : g1 ≠ wr.heap.size := by omega
      have hne2 : wr.heap.size ≠ g1 := by omega
      have e1 : (wr.alloc (.cells #[.int .i64 9, .int .i64 (a : Int), .int .i64 (b : Int)] 58)).cell? ⟨wr.heap.size, 1, none⟩ = some (.int .i64 (a : Int)) := (by repeat (first | (refine Eq.trans (World.cell?_alloc_at _ _ _ _ ?hh) ?_; (case hh => (simp; done)); rfl) | refine cell_alloc_keep _ ?_))
      have e2 : (wr.alloc (.cells #[.int .i64 9, .int .i64 (a : Int), .int .i64 (b : Int)] 58)).cell? ⟨wr.heap.size, 2, none⟩ = some (.int .i64 (b : Int)) := (by repeat (first | (refine Eq.trans (World.cell?_alloc_at _ _ _ _ ?hh) ?_; (case hh => (simp; done)); rfl) | refine cell_alloc_keep _ ?_))
      replace c0 := cell_alloc_keep (.cells #[.int .i64 9, .int .i64 (a : Int), .int .i64 (b : Int)] 58) c0
      have mW := Lib.hid (show Mid g1 (g1 + 1) w3 (wr.alloc (.cells #[.int .i64 9, .int .i64 (a : Int), .int .i64 (b : Int)] 58)) from hmid.out.call (show Below wr.heap.size wr (wr.alloc (.cells #[.int .i64 9, .int .i64 (a : Int), .int .i64 (b : Int)] 58)) from (by repeat (first | exact Below.refl _ _ | assumption | refine Below.drew ?_ | refine below_drewN ?_ _ | refine Below.alloc ?_ (by first | omega | (simp <;> omega)) _ | refine Below.setCell ?_ (by first | omega | (simp <;> omega)) _ | refine Below.trans ?_ (Below.mono (by assumption) (by first | omega | (simp <;> omega)))))))
      clear hx hy hab hO hmid
      go_wp2_with fail
      generalize hW : wr.alloc (.cells #[.int .i64 9, .int .i64 (a : Int), .int .i64 (b : Int)] 58) = W at *
      have HW := Lib.hid hW; clear hW
      go_region
      have RN := Lib.hid (show OwnN ((W.setCell ⟨g1, b, none⟩ (.int .i64 ((y ^^^ x : Nat) : Int))).drew) w.heap.size g1 L.length cap1 (cxN R a b) from by rw [hr.out]; exact (OwnN.set RW.out b (y ^^^ x)).below (show Below (W.setCell ⟨g1, b, none⟩ (.int .i64 ((y ^^^ x : Nat) : Int))).heap.size (W.setCell ⟨g1, b, none⟩ (.int .i64 ((y ^^^ x : Nat) : Int))) (W.setCell ⟨g1, b, none⟩ (.int .i64 ((y ^^^ x : Nat) : Int))).drew from (by repeat (first | exact Below.refl _ _ | assumption | refine Below.drew ?_ | refine below_drewN ?_ _ | refine Below.alloc ?_ (by first | omega | (simp <;> omega)) _ | refine Below.setCell ?_ (by first | omega | (simp <;> omega)) _ | refine Below.trans ?_ (Below.mono (by assumption) (by first | omega | (simp <;> omega)))))) rfl)
      have MN := Lib.hid (show Mid g1 (g1 + 1) w3 ((W.setCell ⟨g1, b, none⟩ (.int .i64 ((y ^^^ x : Nat) : Int))).drew) from (mW.out.setc ⟨by omega, by omega⟩ _).drew)
      clear c0 ca cb fb e1 e2 RW mW
      go_wp2_with fail
      go_roundw
      case rel => exact ⟨k + 1, by omega, by go_num, (show OwnN _ _ _ _ _ _ from by rw [HN.out]; exact RN.out), MN.out⟩
      case measure => simp [intOf]; omega
    · have e9 : k = (redG L).length := by omega
      have HE := Lib.hid (show (redG L).take k = redG L from by rw [e9, List.take_length])
      have r1 := hmid.out.cell (show w.heap.size + 1 < g1 ∨ g1 + 1 ≤ w.heap.size + 1 by omega) R0.out
      have rf : wr.frozen? ⟨w.heap.size + 1, 0, none⟩ = false := by
        have h9 := hmid.out.block (w.heap.size + 1) (by omega) (by omega)
        rw [World.frozen?_of_block (w := w3) (w' := wr) (a := ⟨w.heap.size + 1, 0, none⟩) h9]; exact F0.out
      have bq : Below w.heap.size w wr := Below.trans bw3.out (hmid.out.below (by omega) (by omega))
      have i1 : ¬ (k : Int) < ((redG L).length : Int) := by omega
      have HOI := Lib.hid (show OwnI wr w.heap.size (.slice (some ⟨g1, 0, none⟩) L.length cap1) (ints (cxs (idN L.length) (redG L))) from by have h9 := hO.out.own; rw [HE.out] at h9; exact h9)
      clear e9 hO
      go_wp2_with fail
      have hZ := World.cell?_setCell_same _ _ (.slice (some ⟨g1, 0, none⟩) L.length cap1) r1
      exact bodyPost_ret (v := .agg #[.slice (some ⟨g1, 0, none⟩) L.length cap1]) (by simp [results, Try.results29, go_sem, hZ]) rfl ⟨_, rfl, own_set_ne HOI.out (fun g hg => by injection hg with hg; subst hg; dsimp only; omega) _, (by repeat (first | exact Below.refl _ _ | assumption | refine Below.drew ?_ | refine below_drewN ?_ _ | refine Below.alloc ?_ (by first | omega | (simp <;> omega)) _ | refine Below.setCell ?_ (by first | omega | (simp <;> omega)) _ | refine Below.trans ?_ (Below.mono (by assumption) (by first | omega | (simp <;> omega)))))⟩
end Go.Proofs.Ytbcjligkjoimmaa
namespace Go.Proofs.Ytbcjligkjoimmaa
set_option linter.unusedSimpArgs false
set_option linter.unusedVariables false
set_option linter.unnecessarySimpa false
set_option maxRecDepth 200000
open Go.ChangeShapes Go.WideShapes Go.ChangeAt Go.RowKit

/-- A list whose first and last k elements have been exchanged. -/
def revTo (xs : List E3) (k : Nat) : List E3 := (List.range xs.length).map fun i => if i < k ∨ xs.length ≤ i + k then xs.getD (xs.length - 1 - i) ⟨0, 0, 0⟩ else xs.getD i ⟨0, 0, 0⟩
theorem revTo_len (xs : List E3) (k : Nat) : (revTo xs k).length = xs.length := by simp [revTo]
theorem revTo_get (xs : List E3) (k i : Nat) (hi : i < xs.length) : (revTo xs k).getD i ⟨0, 0, 0⟩ = if i < k ∨ xs.length ≤ i + k then xs.getD (xs.length - 1 - i) ⟨0, 0, 0⟩ else xs.getD i ⟨0, 0, 0⟩ := by
  unfold revTo; simp [List.getD, hi]
theorem ext_getD {xs ys : List E3} (hl : xs.length = ys.length) (h : ∀ i, i < xs.length → xs.getD i ⟨0, 0, 0⟩ = ys.getD i ⟨0, 0, 0⟩) : xs = ys := by
  apply List.ext_getElem hl
  intro i h1 h2
  have := h i h1
  simpa [List.getD, h1, h2] using this
theorem revTo_0 (xs : List E3) : revTo xs 0 = xs :=
  ext_getD (revTo_len _ _) fun i hi => by rw [revTo_len] at hi; rw [revTo_get _ _ _ hi, if_neg (by omega)]
theorem getD_set (xs : List E3) (i j : Nat) (e : E3) (hi : i < xs.length) : (xs.set i e).getD j ⟨0, 0, 0⟩ = if j = i then e else xs.getD j ⟨0, 0, 0⟩ := by
  simp only [List.getD, List.getElem?_set]
  by_cases h : i = j
  · subst h; simp [hi]
  · simp [h, Ne.symm h]
theorem revTo_step (xs : List E3) {k q : Nat} (hk : k < q) (hq : q + k + 1 = xs.length) : ((revTo xs k).set k (xs.getD q ⟨0, 0, 0⟩)).set q (xs.getD k ⟨0, 0, 0⟩) = revTo xs (k + 1) := by
  refine ext_getD (by simp [revTo_len]) fun i hi => ?_
  simp only [List.length_set, revTo_len] at hi
  rw [getD_set _ _ _ _ (by simp [revTo_len]; omega), getD_set _ _ _ _ (by rw [revTo_len]; omega), revTo_get _ _ _ hi, revTo_get _ _ _ hi]
  by_cases h1 : i = q
  · subst h1; rw [if_pos rfl, if_pos (by omega), show xs.length - 1 - i = k from by omega]
  · rw [if_neg h1]
    by_cases h2 : i = k
    · subst h2; rw [if_pos rfl, if_pos (by omega), show xs.length - 1 - i = q from by omega]
    · rw [if_neg h2]
      by_cases h3 : i < k ∨ xs.length ≤ i + k
      · rw [if_pos h3, if_pos (by omega)]
      · rw [if_neg h3, if_neg (by omega)]
theorem revTo_end (xs : List E3) {k q : Nat} (hk : q ≤ k) (hq : q + k + 1 = xs.length) : revTo xs k = xs.reverse := by
  refine ext_getD (by simp [revTo_len]) fun i hi => ?_
  rw [revTo_len] at hi
  rw [revTo_get _ _ _ hi]
  have e : xs.reverse.getD i ⟨0, 0, 0⟩ = xs.getD (xs.length - 1 - i) ⟨0, 0, 0⟩ := by
    simp [List.getD, List.getElem?_reverse hi]
  rw [e]
  by_cases h3 : i < k ∨ xs.length ≤ i + k
  · rw [if_pos h3]
  · rw [if_neg h3, show xs.length - 1 - i = i from by omega]
theorem slices_Reverse_nil (v : Value) (hv : ∃ A c, v = .slice A 0 c) (w : World) :
    Calls Try.prog 78 #[v] w fun e w' => e = .returned (.tuple #[]) ∧ w = w' := by
  obtain ⟨A, c, rfl⟩ := hv
  go_enter Try.func78, Try.ntmps78
  go_wp2_with fail
  refine wp_loop_rounds 1 ?_
  rw [rounds_succ]
  go_wp2_with fail
  go_end0
  exact ⟨rfl, rfl⟩
set_option maxHeartbeats 4000000 in
theorem slices_Reverse_Gate (base g n cap : Nat) (xs : List E3) (w : World) (h : OwnG w base 58 g n cap xs) (h0 : 0 < n) (hn : n ≤ 1048576) :
    Calls Try.prog 78 #[.slice (some ⟨g, 0, none⟩) n cap] w fun e w' => e = .returned (.tuple #[]) ∧ OwnG w' base 58 g n cap xs.reverse ∧ w.grownBy w' (some g) := by
  have hl := h.len
  have HL := Lib.hid hl
  have hgs := h.lt.2
  have H := Lib.hid h
  clear h hl
  go_enter Try.func78, Try.ntmps78
  go_wp2_with fail
  go_loopw [2, 3] (fun i j wr => ∃ k q : Nat, q + k + 1 = n ∧ i = .int .i64 k ∧ j = .int .i64 q ∧ Hid (OwnG wr base 58 g n cap (revTo xs k)) ∧ Hid (w.grownBy wr (some g))) (fun i _ _ => n - (intOf i).toNat)
  case atStart => exact ⟨0, n - 1, by omega, rfl, ret_num (by omega), (show OwnG _ _ _ _ _ _ _ from by rw [revTo_0]; exact H.out), World.grownBy.refl _ _⟩
  case round =>
    obtain ⟨k, q, hq, rfl, rfl, hO, hg⟩ := hrel
    by_cases hlt : k < q
    · have hst := revTo_step xs hlt (by have := HL.out; omega)
      have e1 := revTo_get xs k k (by have := HL.out; omega)
      have e2 := revTo_get xs k q (by have := HL.out; omega)
      rw [if_neg (by have := HL.out; omega)] at e1 e2
      obtain ⟨a0, a1, a2⟩ := hO.out.cell k (by omega)
      obtain ⟨b0, b1, b2⟩ := hO.out.cell q (by omega)
      have fa0 := hO.out.frz (k * 3); have fa1 := hO.out.frz (k * 3 + 1); have fa2 := hO.out.frz (k * 3 + 2)
      have fb0 := hO.out.frz (q * 3); have fb1 := hO.out.frz (q * 3 + 1); have fb2 := hO.out.frz (q * 3 + 2)
      rw [e1] at a0 a1 a2; rw [e2] at b0 b1 b2
      obtain ⟨x, hx⟩ : ∃ x, x = xs.getD k ⟨0, 0, 0⟩ := ⟨_, rfl⟩
      obtain ⟨y, hy⟩ : ∃ y, y = xs.getD q ⟨0, 0, 0⟩ := ⟨_, rfl⟩
      rw [← hx] at a0 a1 a2 hst; rw [← hy] at b0 b1 b2 hst
      have HST := Lib.hid hst
      clear hst e1 e2 hx hy
      have i1 : (k : Int) < (q : Int) := by omega
      have i2 : (q : Int) < (n : Int) := by omega
      have i3 : (k : Int) < (n : Int) := by omega
      have i4 : (0 : Int) ≤ (k : Int) := by omega
      have i5 : (0 : Int) ≤ (q : Int) := by omega
      have K1 := Lib.hid (OwnG.set (OwnG.set hO.out k (by omega) y) q (by omega) x)
      rw [HST.out] at K1
      have G1 := Lib.hid (grown_set3 (grown_set3 hg.out hgs (k * 3) (k * 3 + 1) (k * 3 + 2) (.int .i64 y.a) (.int .i64 y.b) (.int .i64 y.c)) hgs (q * 3) (q * 3 + 1) (q * 3 + 2) (.int .i64 x.a) (.int .i64 x.b) (.int .i64 x.c))
      go_wp2_with fail
      go_region
      go_wp2_with fail
      go_roundw
      case rel => exact ⟨k + 1, q - 1, by omega, by go_num, ret_num (by omega), (show OwnG _ _ _ _ _ _ _ from OwnG.below K1.out (Below.drew (Below.refl _ _)) rfl), (show World.grownBy _ _ _ from grown_drew G1.out)⟩
      case measure => simp [intOf]; omega
    · have HE := Lib.hid (revTo_end xs (k := k) (q := q) (by omega) (by have := HL.out; omega))
      have i1 : ¬ (k : Int) < (q : Int) := by omega
      go_wp2_with fail
      go_end0
      exact ⟨rfl, by rw [← HE.out]; exact hO.out, hg.out⟩
/-- What a function that answers a circuit and 'ok' leaves. -/
def CircPost (w : World) (r : Option Circ) (e : Ending) (w' : World) : Prop :=
  ∃ u, e = .returned (.tuple #[.agg #[.int .i64 (r.getD Circ.zero).n, u], .bool r.isSome]) ∧ OwnE w' w.heap.size 58 u E3.cs 3 (r.getD Circ.zero).gs ∧ Below w.heap.size w w'
theorem CircPost.none {w w' : World} {r : Option Circ} (hr : r = none) (hb : Below w.heap.size w w') : CircPost w r (.returned (.tuple #[.agg #[.int .i64 0, .slice none 0 0], .bool false])) w' := by
  subst hr; exact ⟨_, rfl, OwnE.nil _ _ _, hb⟩
theorem CircPost.some {w w' : World} {r : Option Circ} {n : Int} {gs : List E3} {u : Value} (hr : r = some ⟨n, gs⟩) (ho : OwnE w' w.heap.size 58 u E3.cs 3 gs) (hb : Below w.heap.size w w') : CircPost w r (.returned (.tuple #[.agg #[.int .i64 n, u], .bool true])) w' := by
  subst hr; exact ⟨_, rfl, ho, hb⟩
def circIf (n : Int) (gs : List E3) : Option Circ := if circB ⟨n, gs⟩ = true then some ⟨n, gs⟩ else none
theorem circIf_len (n : Int) (gs : List E3) : ((circIf n gs).getD Circ.zero).gs.length ≤ 1000000 := by
  unfold circIf; split
  · next h =>
    have h2 : CircOk ⟨n, gs⟩ := of_decide_eq_true h
    have : gs.length ≤ 400 := h2.2.1
    simp; omega
  · simp [Circ.zero]
theorem RdE.reads {w : World} {A : Option Addr} {n c sz : Nat} {α : Type} {f : α → List Value} {xs : List α} (h : RdE w (.slice A n c) f sz xs) : Reads w w.heap.size sz A n (xs.flatMap f) := by
  rcases h.2 with ⟨⟨a, cp, e⟩, hn⟩ | ⟨b, off, cap, e, hb, h1, h2, h3⟩
  · injection e with e1 e2 e3
    subst e2
    have : xs = [] := List.eq_nil_of_length_eq_zero hn
    subst this
    exact Reads.none_
  · injection e with e1 e2 e3
    subst e1 e2
    refine ⟨h.1, fun _ => ⟨_, rfl, hb, fun j u hu => ?_⟩⟩
    rw [Addr.add_lit]; exact h3 j u hu
set_option maxHeartbeats 4000000 in
theorem impl_circuitIf_any (n : Int) (v : Value) (gs : List E3) (w : World) (h : RdE w v E3.cs 3 gs) (hl : gs.length ≤ 1048576) :
    Calls Try.prog 33 #[.int .i64 n, v] w (CircPost w (circIf n gs)) := by
  obtain ⟨i0, hi, hz0, hz1, hz2⟩ := info_parts info_Gate
  have H := Lib.hid h
  obtain ⟨A, c, rfl, _⟩ := h.form
  clear h
  cases hb : circB ⟨n, gs⟩
  all_goals
    have HB := Lib.hid hb
    have HG : Hid (circIf n gs = if circB ⟨n, gs⟩ = true then some ⟨n, gs⟩ else none) := rfl
    rw [hb] at HG
    clear hb
    go_enter Try.func33, Try.ntmps33
    have RR := Lib.hid ((RdE.reads (Rd.below H.out (show Below w.heap.size w ((w.alloc (.cells #[.int .i64 0, .slice none 0 0] 31)).alloc (.cells #[] 58)) from (by repeat (first | exact Below.refl _ _ | assumption | refine Below.drew ?_ | refine below_drewN ?_ _ | refine Below.alloc ?_ (by first | omega | (simp <;> omega)) _ | refine Below.setCell ?_ (by first | omega | (simp <;> omega)) _ | refine Below.trans ?_ (Below.mono (by assumption) (by first | omega | (simp <;> omega)))))) rfl)))
    have OO := Lib.hid (own_lit0 (f := E3.cs) (sz := 3) (w.alloc (.cells #[.int .i64 0, .slice none 0 0] 31)) (w.heap.size + 1) 58 (w.heap.size + 1) (by simp) (by omega))
    go_wp2_with (at_builtin; go_must (refine wpList_append_any _ rfl _ _ 29 rfl (w.heap.size + 1) 58 i0 (.agg #[.int .i64 0, .int .i64 0, .int .i64 0]) 3 24 Try.underlying29 hi hz0 hz1 hz2 rfl (by decide) _ 0 [] rfl OO.out _ _ gs.length _ (gs.flatMap E3.cs) rfl RR.out (flat_one E3.one gs) (by unfold maxLen; omega) (by omega) (by first | (simp; done) | (simp; omega)) ?_; intro v3 w4 hown3 hg3 hat3; (simp only [Nat.zero_add, List.nil_append] at hown3); obtain ⟨a3, c3, rfl⟩ := own_form hown3))
    replace hg3 : World.grownBy _ w4 (Value.slice (some ⟨w.heap.size + 1, 0, none⟩) 0 0).ownBlock := hg3
    have r0 : w4.cell? ⟨w.heap.size, 0, none⟩ = some (.int .i64 0) := cell_grown hg3 (by repeat (first | (refine Eq.trans (World.cell?_alloc_at _ _ _ _ ?hh) ?_; (case hh => (simp; done)); rfl) | refine cell_alloc_keep _ ?_)) (fun h => by simp [Value.ownBlock] at h)
    have r1 : w4.cell? ⟨w.heap.size, 1, none⟩ = some (.slice none 0 0) := cell_grown hg3 (by repeat (first | (refine Eq.trans (World.cell?_alloc_at _ _ _ _ ?hh) ?_; (case hh => (simp; done)); rfl) | refine cell_alloc_keep _ ?_)) (fun h => by simp [Value.ownBlock] at h)
    have f0 : w4.frozen? ⟨w.heap.size, 0, none⟩ = false := frz_grown hg3 (by first | (simp; done) | (simp; omega)) (by repeat (first | (refine World.frozen?_alloc_at _ _ _ _ ?hh; case hh => (simp; done)) | (refine frozen_alloc_lt _ ?hh ?_; case hh => first | omega | (simp <;> omega)))) (fun h => by simp [Value.ownBlock] at h)
    have f1 : w4.frozen? ⟨w.heap.size, 1, none⟩ = false := frz_grown hg3 (by first | (simp; done) | (simp; omega)) (by repeat (first | (refine World.frozen?_alloc_at _ _ _ _ ?hh; case hh => (simp; done)) | (refine frozen_alloc_lt _ ?hh ?_; case hh => first | omega | (simp <;> omega)))) (fun h => by simp [Value.ownBlock] at h)
    have b4 := Lib.hid (show Below w.heap.size w w4 from (show Below w.heap.size w ((w.alloc (.cells #[.int .i64 0, .slice none 0 0] 31)).alloc (.cells #[] 58)) from (by repeat (first | exact Below.refl _ _ | assumption | refine Below.drew ?_ | refine below_drewN ?_ _ | refine Below.alloc ?_ (by first | omega | (simp <;> omega)) _ | refine Below.setCell ?_ (by first | omega | (simp <;> omega)) _ | refine Below.trans ?_ (Below.mono (by assumption) (by first | omega | (simp <;> omega)))))).grown hg3 (by simp; omega) (fun k hk => by simp [Value.ownBlock] at hk; omega))
    have z4 := hg3.size; (simp at z4)
    have HO := Lib.hid (show OwnE w4 (w.heap.size + 1) 58 (.slice a3 gs.length c3) E3.cs 3 gs from hown3)
    clear hown3 hg3 hat3 RR OO
    (try go_wp2_with fail)
    refine (impl_IsValidCircuit_any _ ⟨n, gs⟩ _ (OwnE.below HO.out (show Below w4.heap.size w4 _ from (by repeat (first | exact Below.refl _ _ | assumption | refine Below.drew ?_ | refine below_drewN ?_ _ | refine Below.alloc ?_ (by first | omega | (simp <;> omega)) _ | refine Below.setCell ?_ (by first | omega | (simp <;> omega)) _ | refine Below.trans ?_ (Below.mono (by assumption) (by first | omega | (simp <;> omega)))))) rfl).rd hl).mono ?_; rintro e w5 ⟨rfl, hb5⟩; rw [HB.out]
    have z5 := hb5.size; (simp at z5)
    have HO5 := Lib.hid (OwnE.below (OwnE.below HO.out (show Below w4.heap.size w4 (w4.alloc (.cells #[.int .i64 n, .slice a3 gs.length c3] 31)) from (by repeat (first | exact Below.refl _ _ | assumption | refine Below.drew ?_ | refine below_drewN ?_ _ | refine Below.alloc ?_ (by first | omega | (simp <;> omega)) _ | refine Below.setCell ?_ (by first | omega | (simp <;> omega)) _ | refine Below.trans ?_ (Below.mono (by assumption) (by first | omega | (simp <;> omega)))))) rfl) hb5 rfl)
    have k0 : w5.cell? ⟨w4.heap.size, 0, none⟩ = some (.int .i64 n) := below_cell hb5 rfl (by repeat (first | (refine Eq.trans (World.cell?_alloc_at _ _ _ _ ?hh) ?_; (case hh => (simp; done)); rfl) | refine cell_alloc_keep _ ?_))
    have k1 : w5.cell? ⟨w4.heap.size, 1, none⟩ = some (.slice a3 gs.length c3) := below_cell hb5 rfl (by repeat (first | (refine Eq.trans (World.cell?_alloc_at _ _ _ _ ?hh) ?_; (case hh => (simp; done)); rfl) | refine cell_alloc_keep _ ?_))
    replace r0 := below_cell hb5 rfl (cell_alloc_keep (.cells #[.int .i64 n, .slice a3 gs.length c3] 31) r0)
    replace r1 := below_cell hb5 rfl (cell_alloc_keep (.cells #[.int .i64 n, .slice a3 gs.length c3] 31) r1)
    replace f0 := below_frz hb5 rfl (by simp; omega) (frozen_alloc_lt (.cells #[.int .i64 n, .slice a3 gs.length c3] 31) (by omega) f0)
    replace f1 := below_frz hb5 rfl (by simp; omega) (frozen_alloc_lt (.cells #[.int .i64 n, .slice a3 gs.length c3] 31) (by omega) f1)
    have b5 := Lib.hid (show Below w.heap.size w w5 from Below.trans (Below.alloc b4.out (by omega) (.cells #[.int .i64 n, .slice a3 gs.length c3] 31)) (hb5.mono (by simp; omega)))
    clear hb5 HO
    have bq := b5.out
    go_wp2_with fail
    first
      | (have hZ := box_set2 (nb := w.heap.size) (.int .i64 0) (.slice none 0 0) r0 r1
         exact bodyPost_ret (v := .tuple #[.agg #[.int .i64 0, .slice none 0 0], .bool false]) (by simp [results, Try.results33, go_sem, hZ]) rfl (CircPost.none HG.out (by repeat (first | exact Below.refl _ _ | assumption | refine Below.drew ?_ | refine below_drewN ?_ _ | refine Below.alloc ?_ (by first | omega | (simp <;> omega)) _ | refine Below.setCell ?_ (by first | omega | (simp <;> omega)) _ | refine Below.trans ?_ (Below.mono (by assumption) (by first | omega | (simp <;> omega)))))))
      | (have hZ := box_set2 (nb := w.heap.size) (.int .i64 n) (.slice a3 gs.length c3) r0 r1
         exact bodyPost_ret (v := .tuple #[.agg #[.int .i64 n, .slice a3 gs.length c3], .bool true]) (by simp [results, Try.results33, go_sem, hZ]) rfl (CircPost.some HG.out (OwnE.le (OwnE.set (OwnE.set HO5.out (by simp) _) (by simp) _) (by omega)) (by repeat (first | exact Below.refl _ _ | assumption | refine Below.drew ?_ | refine below_drewN ?_ _ | refine Below.alloc ?_ (by first | omega | (simp <;> omega)) _ | refine Below.setCell ?_ (by first | omega | (simp <;> omega)) _ | refine Below.trans ?_ (Below.mono (by assumption) (by first | omega | (simp <;> omega)))))))
end Go.Proofs.Ytbcjligkjoimmaa
namespace Go.Proofs.Ytbcjligkjoimmaa
set_option linter.unusedSimpArgs false
set_option linter.unusedVariables false
set_option linter.unnecessarySimpa false
set_option maxRecDepth 200000
open Go.ChangeShapes Go.WideShapes Go.ChangeAt Go.RowKit

theorem grown_lo2 {w w' : World} {v u : Value} {base sz n b o : Nat} {e : TypeId} {xs : List Value} (hown : w.ownsRow base e sz v n xs) (hg : w.grownBy w' v.ownBlock) (hlt : b < base) (hc : w.cell? ⟨b, o, none⟩ = some u) : w'.cell? ⟨b, o, none⟩ = some u :=
  (grown_old hown hg hlt (World.block_lt_of_cell? w ⟨b, o, none⟩ hc)).1.trans hc
theorem rev_next {gs : List E3} {j q : Nat} (h : q + j + 1 = gs.length) : (gs.reverse.take (j + 1)).flatMap E3.cs = (gs.reverse.take j).flatMap E3.cs ++ (gs.getD q ⟨0, 0, 0⟩).cs := by
  have hj : j < gs.reverse.length := by simp; omega
  rw [List.take_succ_eq_append_getElem hj, List.flatMap_append]
  have e : gs.reverse[j] = gs.getD q ⟨0, 0, 0⟩ := by
    rw [List.getElem_reverse]
    simp [List.getD, show gs.length - 1 - j = q from by omega, show q < gs.length by omega]
  rw [e]; simp
set_option maxHeartbeats 16000000 in
theorem spec_l12Synthesize_any (v : Value) (L : List Nat) (w : World) (h : RdI w v (ints L)) (hs : Small L) (n1 : 1 ≤ L.length) (n5 : L.length ≤ 5) :
    Calls Try.prog 19 #[.agg #[v]] w fun e w' => ∃ u, e = .returned (.agg #[.int .i64 (L.length : Int), u]) ∧ OwnE w' w.heap.size 58 u E3.cs 3 (redG L).reverse ∧ Below w.heap.size w w' := by
  obtain ⟨i0, hi, hz0, hz1, hz2⟩ := info_parts info_Gate
  have H := Lib.hid h
  obtain ⟨A, c, rfl, _⟩ := h.form
  clear h
  rw [ints_len] at *
  have HS := Lib.hid hs; clear hs
  have HF := red_few HS.out n5
  obtain ⟨gs, hgs⟩ : ∃ gs, gs = redG L := ⟨_, rfl⟩
  rw [← hgs] at HF ⊢
  have HGS := Lib.hid hgs; clear hgs
  go_enter Try.func19, Try.ntmps19
  go_wp2_with fail
  refine (spec_l12Reduce_any _ L L.length _ (Rd.below H.out (show Below w.heap.size w _ from (by repeat (first | exact Below.refl _ _ | assumption | refine Below.drew ?_ | refine below_drewN ?_ _ | refine Below.alloc ?_ (by first | omega | (simp <;> omega)) _ | refine Below.setCell ?_ (by first | omega | (simp <;> omega)) _ | refine Below.trans ?_ (Below.mono (by assumption) (by first | omega | (simp <;> omega)))))) rfl) HS.out rfl n1 n5).mono ?_; rintro e w3 ⟨u3, rfl, ho3, hb3⟩
  rw [← HGS.out] at ho3
  obtain ⟨aG, cG, hu3, Hc⟩ := gate_at ho3.rd
  subst hu3
  have t0 := below_cell hb3 rfl (show ((w.alloc (.cells #[.slice A L.length c] 35)).alloc (.cells #[.int .i64 0, .slice none 0 0] 31)).cell? ⟨w.heap.size, 0, none⟩ = some (.slice A L.length c) from (by repeat (first | (refine Eq.trans (World.cell?_alloc_at _ _ _ _ ?hh) ?_; (case hh => (simp; done)); rfl) | refine cell_alloc_keep _ ?_)))
  have r0 := below_cell hb3 rfl (show ((w.alloc (.cells #[.slice A L.length c] 35)).alloc (.cells #[.int .i64 0, .slice none 0 0] 31)).cell? ⟨w.heap.size + 1, 0, none⟩ = some (.int .i64 0) from (by repeat (first | (refine Eq.trans (World.cell?_alloc_at _ _ _ _ ?hh) ?_; (case hh => (simp; done)); rfl) | refine cell_alloc_keep _ ?_)))
  have r1 := below_cell hb3 rfl (show ((w.alloc (.cells #[.slice A L.length c] 35)).alloc (.cells #[.int .i64 0, .slice none 0 0] 31)).cell? ⟨w.heap.size + 1, 1, none⟩ = some (.slice none 0 0) from (by repeat (first | (refine Eq.trans (World.cell?_alloc_at _ _ _ _ ?hh) ?_; (case hh => (simp; done)); rfl) | refine cell_alloc_keep _ ?_)))
  have f0 := below_frz hb3 rfl (by simp) (show ((w.alloc (.cells #[.slice A L.length c] 35)).alloc (.cells #[.int .i64 0, .slice none 0 0] 31)).frozen? ⟨w.heap.size + 1, 0, none⟩ = false from (by repeat (first | (refine World.frozen?_alloc_at _ _ _ _ ?hh; case hh => (simp; done)) | (refine frozen_alloc_lt _ ?hh ?_; case hh => first | omega | (simp <;> omega)))))
  have f1 := below_frz hb3 rfl (by simp) (show ((w.alloc (.cells #[.slice A L.length c] 35)).alloc (.cells #[.int .i64 0, .slice none 0 0] 31)).frozen? ⟨w.heap.size + 1, 1, none⟩ = false from (by repeat (first | (refine World.frozen?_alloc_at _ _ _ _ ?hh; case hh => (simp; done)) | (refine frozen_alloc_lt _ ?hh ?_; case hh => first | omega | (simp <;> omega)))))
  have z3 := hb3.size; (simp at z3)
  have bw3 := Lib.hid (show Below w.heap.size w w3 from (by repeat (first | exact Below.refl _ _ | assumption | refine Below.drew ?_ | refine below_drewN ?_ _ | refine Below.alloc ?_ (by first | omega | (simp <;> omega)) _ | refine Below.setCell ?_ (by first | omega | (simp <;> omega)) _ | refine Below.trans ?_ (Below.mono (by assumption) (by first | omega | (simp <;> omega))))))
  have R0 := Lib.hid r0; have R1 := Lib.hid r1; have F0 := Lib.hid f0; have F1 := Lib.hid f1
  clear hb3 ho3
  go_wp2_with fail
  clear t0 r0 r1 f0 f1
  clear HS HGS
  go_loopw [5] (fun i wr => ∃ (j : Nat) (q' : Int) (vx : Value), j ≤ gs.length ∧ i = .int .i64 q' ∧ (q' + (j : Int) + 1 ≤ (gs.length : Int) ∧ (gs.length : Int) ≤ q' + (j : Int) + 1) ∧ wr.cell? ⟨w3.heap.size, 0, none⟩ = some (.int .i64 (L.length : Int)) ∧ wr.cell? ⟨w3.heap.size, 1, none⟩ = some vx ∧ wr.frozen? ⟨w3.heap.size, 1, none⟩ = false ∧ Hid (wr.ownsRow (w3.heap.size + 1) 58 3 vx j ((gs.reverse.take j).flatMap E3.cs)) ∧ Hid (Below w3.heap.size w3 wr)) (fun i _ => (intOf i + 1).toNat)
  case atStart => exact ⟨0, (gs.length : Int) - 1, .slice none 0 0, Nat.zero_le _, rfl, by omega, (by repeat (first | (refine Eq.trans (World.cell?_alloc_at _ _ _ _ ?hh) ?_; (case hh => (simp; done)); rfl) | refine cell_alloc_keep _ ?_)), (by repeat (first | (refine Eq.trans (World.cell?_alloc_at _ _ _ _ ?hh) ?_; (case hh => (simp; done)); rfl) | refine cell_alloc_keep _ ?_)), (by repeat (first | (refine World.frozen?_alloc_at _ _ _ _ ?hh; case hh => (simp; done)) | (refine frozen_alloc_lt _ ?hh ?_; case hh => first | omega | (simp <;> omega)))), World.ownsRow_nil _ _ _ _, (show Below _ _ _ from (by repeat (first | exact Below.refl _ _ | assumption | refine Below.drew ?_ | refine below_drewN ?_ _ | refine Below.alloc ?_ (by first | omega | (simp <;> omega)) _ | refine Below.setCell ?_ (by first | omega | (simp <;> omega)) _ | refine Below.trans ?_ (Below.mono (by assumption) (by first | omega | (simp <;> omega))))))⟩
  case round =>
    obtain ⟨j, q', vx, hj, rfl, hq', c0, c1, ff, ho, hbel⟩ := hrel
    have L0 := World.block_lt_of_cell? _ _ c0
    by_cases hlt : j < gs.length
    · obtain ⟨q, rfl⟩ : ∃ q : Nat, q' = (q : Int) := ⟨q'.toNat, by omega⟩
      have hq : q + j + 1 = gs.length := by omega
      clear hq'
      have i0' : (0 : Int) ≤ (q : Int) := by omega
      have i1 : (q : Int) < (gs.length : Int) := by omega
      obtain ⟨b0, off, rfl, hb0, q0, q1, q2⟩ := Hc.out q (by omega)
      replace q0 := (hbel.out.cell hb0).trans q0; replace q1 := (hbel.out.cell hb0).trans q1; replace q2 := (hbel.out.cell hb0).trans q2
      have NX := Lib.hid (rev_next hq)
      have hb9 : b0 < w3.heap.size := hb0
      obtain ⟨y, hy⟩ : ∃ y, y = gs.getD q ⟨0, 0, 0⟩ := ⟨_, rfl⟩
      rw [← hy] at q0 q1 q2 NX
      clear hy
      go_wp2_with fail
      refine AnyB.begin (S := (fun w' => w'.cell? ⟨w3.heap.size, 1, none⟩ = some vx ∧ w'.cell? ⟨b0, off + q * 3, none⟩ = some (.int .i64 y.a) ∧ w'.cell? ⟨b0, off + q * 3 + 1, none⟩ = some (.int .i64 y.b) ∧ w'.cell? ⟨b0, off + q * 3 + 2, none⟩ = some (.int .i64 y.c))) [9] (by kernel_rfl) ?_ (fun hHeld0 => ?_)
      · ((try dsimp only); (first | exact ⟨c1, q0, q1, q2⟩ | exact ⟨cell_alloc_keep _ c1, cell_alloc_keep _ q0, cell_alloc_keep _ q1, cell_alloc_keep _ q2⟩))
      refine AnyB.takeQ (i := 0) (oi := _) (v := ?_) (by simp only [List.getElem?_toArray, List.getElem?_cons_zero, List.getElem?_cons_succ]; rfl) (by kernel_rfl) (by kernel_rfl) (by kernel_rfl) (by intro _ _ _ h; exact h) (Or.inl ⟨by rfl, ?_⟩) ?_
      rotate_left
      · (intro w hSw; (try dsimp only at hSw); go_simp; (try (with_reducible rfl)))
      try simp only [Act.put, List.setIfInBounds_toArray, List.set_cons_zero, List.set_cons_succ]
      refine AnyB.take (i := 1) (oi := _) (v := ?_) (by simp only [List.getElem?_toArray, List.getElem?_cons_zero, List.getElem?_cons_succ]; rfl) (by kernel_rfl) (by kernel_rfl) (by kernel_rfl) (by kernel_rfl) (by kernel_rfl) (by intro _ _ _ h; exact h) (Or.inl ⟨by rfl, ?_⟩) (by assumption) ?_
      rotate_left
      · (intro w hSw; (try dsimp only at hSw); go_simp; (try (with_reducible rfl)))
      try simp only [Act.put, List.setIfInBounds_toArray, List.set_cons_zero, List.set_cons_succ]
      refine AnyB.takeQ (i := 2) (oi := _) (v := ?_) (by simp only [List.getElem?_toArray, List.getElem?_cons_zero, List.getElem?_cons_succ]; rfl) (by kernel_rfl) (by kernel_rfl) (by kernel_rfl) (by intro _ _ _ h; exact h) (Or.inl ⟨by rfl, ?_⟩) ?_
      rotate_left
      · (intro w hSw; (try dsimp only at hSw); go_simp; (try (with_reducible rfl)))
      try simp only [Act.put, List.setIfInBounds_toArray, List.set_cons_zero, List.set_cons_succ]
      refine AnyB.takeQ (i := 3) (oi := _) (v := ?_) (by simp only [List.getElem?_toArray, List.getElem?_cons_zero, List.getElem?_cons_succ]; rfl) (by kernel_rfl) (by kernel_rfl) (by kernel_rfl) (by intro _ _ _ h; exact h) (Or.inl ⟨by rfl, ?_⟩) ?_
      rotate_left
      · (intro w hSw; (try dsimp only at hSw); go_simp; (try (with_reducible rfl)))
      try simp only [Act.put, List.setIfInBounds_toArray, List.set_cons_zero, List.set_cons_succ]
      refine AnyB.takeQ (i := 4) (oi := _) (v := ?_) (by simp only [List.getElem?_toArray, List.getElem?_cons_zero, List.getElem?_cons_succ]; rfl) (by kernel_rfl) (by kernel_rfl) (by kernel_rfl) (by intro _ _ _ h; exact h) (Or.inl ⟨by rfl, ?_⟩) ?_
      rotate_left
      · (intro w hSw; (try dsimp only at hSw); go_simp; (try (with_reducible rfl)))
      try simp only [Act.put, List.setIfInBounds_toArray, List.set_cons_zero, List.set_cons_succ]
      refine AnyB.take (i := 5) (oi := _) (v := ?_) (by simp only [List.getElem?_toArray, List.getElem?_cons_zero, List.getElem?_cons_succ]; rfl) (by kernel_rfl) (by kernel_rfl) (by kernel_rfl) (by kernel_rfl) (by kernel_rfl) (by intro _ _ _ h; exact h) (Or.inl ⟨by rfl, ?_⟩) (by assumption) ?_
      rotate_left
      · (intro w hSw; (try dsimp only at hSw); go_simp; (try (with_reducible rfl)))
      try simp only [Act.put, List.setIfInBounds_toArray, List.set_cons_zero, List.set_cons_succ]
      refine AnyB.each (rs := [6]) (by kernel_rfl) (by simp) ?_
      refine EachB.cons rfl (fun K hK hB => ?_) ?_
      · skip
        go_simp
        refine hK.out _ _ ?_ (fun hHeld1 => ?_)
        · ((try dsimp only); (first | exact ⟨c1, q0, q1, q2⟩ | exact ⟨cell_alloc_keep _ c1, cell_alloc_keep _ q0, cell_alloc_keep _ q1, cell_alloc_keep _ q2⟩))
        clear hB hK K hHeld0
        refine AnyB.each (rs := [7]) (by kernel_rfl) (by simp) ?_
        refine EachB.cons rfl (fun K hK hB => ?_) ?_
        · skip
          (refine step_append_lies _ (by rfl) (.tmp 20) (.tmp 25) 29 (by rfl) (w3.heap.size + 1) 58 i0 (.agg #[.int .i64 0, .int .i64 0, .int .i64 0]) 3 24 Try.underlying29 hi hz0 hz1 hz2 rfl (by omega) vx j _ (by rfl) ((own_below ho.out (show Below wr.heap.size wr wr.drew from (by repeat (first | exact Below.refl _ _ | assumption | refine Below.drew ?_ | refine below_drewN ?_ _ | refine Below.alloc ?_ (by first | omega | (simp <;> omega)) _ | refine Below.setCell ?_ (by first | omega | (simp <;> omega)) _ | refine Below.trans ?_ (Below.mono (by assumption) (by first | omega | (simp <;> omega)))))) rfl).alloc _) _ 1 1 [.int .i64 y.a, .int .i64 y.b, .int .i64 y.c] (by rfl) (by rfl) (news_cells wr.drew [.int .i64 y.a, .int .i64 y.b, .int .i64 y.c] 58) (E3.one y) (by omega) (by unfold maxLen; omega) (by omega) (by simp; omega) _ rfl ?_; intro g1 cp1 w9 hown1 hgr1 hat1 hlt1; have zz1 := hgr1.size; (simp at zz1); have hoa := (own_below ho.out (show Below wr.heap.size wr wr.drew from (by repeat (first | exact Below.refl _ _ | assumption | refine Below.drew ?_ | refine below_drewN ?_ _ | refine Below.alloc ?_ (by first | omega | (simp <;> omega)) _ | refine Below.setCell ?_ (by first | omega | (simp <;> omega)) _ | refine Below.trans ?_ (Below.mono (by assumption) (by first | omega | (simp <;> omega)))))) rfl).alloc (.cells #[.int .i64 y.a, .int .i64 y.b, .int .i64 y.c] 58); replace c0 := grown_lo2 hoa hgr1 (by omega) (cell_alloc_keep _ (cell_drew c0)); replace c1 := grown_lo2 hoa hgr1 (by omega) (cell_alloc_keep _ (cell_drew c1)); replace q0 := grown_lo2 hoa hgr1 (by omega) (cell_alloc_keep _ (cell_drew q0)); replace q1 := grown_lo2 hoa hgr1 (by omega) (cell_alloc_keep _ (cell_drew q1)); replace q2 := grown_lo2 hoa hgr1 (by omega) (cell_alloc_keep _ (cell_drew q2)); replace ff := frz_grown hgr1 (by simp; omega) (frozen_alloc_lt _ (by simpa using L0) (frz_drew ff)) (fun h => by have := (ho.out.lt _ h).1; omega); replace hbel := Lib.hid (show Below w3.heap.size w3 w9 from ((Below.drew hbel.out).alloc (by simp; omega) _).grown hgr1 (by simp; omega) (fun b hb => by have := (ho.out.lt b hb).1; omega)); replace ho := Lib.hid hown1; clear hown1 hgr1 hat1 hoa)
          refine hK.out _ _ ?_ (fun hHeld2 => ?_)
          · ((try dsimp only); (first | exact ⟨c1, q0, q1, q2⟩ | exact ⟨cell_alloc_keep _ c1, cell_alloc_keep _ q0, cell_alloc_keep _ q1, cell_alloc_keep _ q2⟩))
          clear hB hK K hHeld1
          refine AnyB.takeQ (i := 8) (oi := _) (v := ?_) (by simp only [List.getElem?_toArray, List.getElem?_cons_zero, List.getElem?_cons_succ]; rfl) (by kernel_rfl) (by kernel_rfl) (by kernel_rfl) (by intro _ _ _ h; exact h) (Or.inl ⟨by rfl, ?_⟩) ?_
          rotate_left
          · (intro w hSw; (try dsimp only at hSw); go_simp; (try (with_reducible rfl)))
          try simp only [Act.put, List.setIfInBounds_toArray, List.set_cons_zero, List.set_cons_succ]
          refine AnyB.each (rs := [9]) (by kernel_rfl) (by simp) ?_
          refine EachB.cons rfl (fun K hK hB => ?_) ?_
          · skip
            go_simp
            refine hB.out _ _ rfl ?_
            clear hB hK K
            refine AnyB.none (by kernel_rfl) ?_ _
            go_wp2_with fail
            go_roundw
            case rel => exact ⟨j + 1, (q : Int) - 1, (.slice (some ⟨g1, 0, none⟩) (j + 1) cp1), by omega, rfl, by omega, cell_set_other c0, World.cell?_setCell_same _ _ _ c1, by rw [World.frozen?_setCell]; exact ff, (show World.ownsRow _ _ _ _ _ _ _ from by rw [NX.out]; exact ownsRow_setCell_below ho.out (by simp) _), (show Below _ _ _ from Below.setCell hbel.out (by simp) _)⟩
            case measure => simp [intOf] <;> omega
          exact EachB.nil
        exact EachB.nil
      exact EachB.nil
    · obtain rfl : q' = -1 := by omega
      have HE := Lib.hid (show gs.reverse.take j = gs.reverse from List.take_of_length_le (by simp; omega))
      have i1 : ¬ (0 : Int) ≤ -1 := by omega
      have bw := Lib.hid (show Below w.heap.size w wr from Below.trans bw3.out (hbel.out.mono (by omega)))
      have r0 := below_cell hbel.out rfl R0.out
      have r1 := below_cell hbel.out rfl R1.out
      have rf0 := below_frz hbel.out rfl (by omega) F0.out
      have rf1 := below_frz hbel.out rfl (by omega) F1.out
      obtain ⟨a9, c9, rfl⟩ := own_form ho.out
      have hZ := box_set2 (nb := w.heap.size + 1) (.int .i64 (L.length : Int)) (.slice a9 j c9) r0 r1
      have bq := bw.out
      have hjl : Hid (j = gs.length) := (show _ = _ from by omega)
      go_wp2_with fail
      refine bodyPost_ret (v := .agg #[.int .i64 (L.length : Int), .slice a9 j c9]) (by simp [results, Try.results19, go_sem, hZ]) rfl ⟨_, rfl, ?_, (by repeat (first | exact Below.refl _ _ | assumption | refine Below.drew ?_ | refine below_drewN ?_ _ | refine Below.alloc ?_ (by first | omega | (simp <;> omega)) _ | refine Below.setCell ?_ (by first | omega | (simp <;> omega)) _ | refine Below.trans ?_ (Below.mono (by assumption) (by first | omega | (simp <;> omega)))))⟩
      have h9 : OwnE wr (w3.heap.size + 1) 58 (.slice a9 j c9) E3.cs 3 gs.reverse := by
        have h8 := ho.out
        rw [HE.out] at h8
        unfold OwnE
        rw [List.length_reverse, ← hjl.out]; exact h8
      exact OwnE.le (OwnE.set (OwnE.set h9 (by dsimp only; omega) _) (by dsimp only; omega) _) (by omega)
/-- What SynthesizeLinear answers. -/
noncomputable def synLG (zs : List Int) : Option Circ := if LinOk zs then some ⟨(zs.length : Int), (redG (zs.map Int.toNat)).reverse⟩ else none
theorem synLG_len (zs : List Int) : ((synLG zs).getD Circ.zero).gs.length ≤ 1000000 := by
  unfold synLG; split
  · next h =>
    have h5 := h.small.1.2
    have := red_few h.nat.2 (by rw [List.length_map]; exact h5)
    simp; omega
  · simp [Circ.zero]
end Go.Proofs.Ytbcjligkjoimmaa
namespace Go.Proofs.Ytbcjligkjoimmaa
set_option linter.unusedSimpArgs false
set_option linter.unusedVariables false
set_option linter.unnecessarySimpa false
set_option maxRecDepth 200000
open Go.ChangeShapes Go.WideShapes Go.ChangeAt Go.RowKit

set_option maxHeartbeats 4000000 in
theorem impl_synthesized_any (v : Value) (L : List Nat) (w : World) (h : RdI w v (ints L)) (hs : Small L) (n1 : 1 ≤ L.length) (n5 : L.length ≤ 5) :
    Calls Try.prog 32 #[.agg #[v]] w fun e w' => ∃ u, e = .returned u ∧ OwnE w' w.heap.size 58 u E3.cs 3 (redG L).reverse ∧ Below w.heap.size w w' := by
  have H := Lib.hid h
  obtain ⟨A, c, rfl, _⟩ := h.form
  clear h
  rw [ints_len] at *
  have HS := Lib.hid hs; clear hs
  have HF := red_few HS.out n5
  by_cases h0 : (redG L).length = 0
  · have HN := Lib.hid (List.eq_nil_of_length_eq_zero h0)
    clear h0
    go_enter Try.func32, Try.ntmps32
    go_wp2_with fail
    refine (impl_eliminated_any _ L L.length _ (Rd.below H.out (show Below w.heap.size w _ from (by repeat (first | exact Below.refl _ _ | assumption | refine Below.drew ?_ | refine below_drewN ?_ _ | refine Below.alloc ?_ (by first | omega | (simp <;> omega)) _ | refine Below.setCell ?_ (by first | omega | (simp <;> omega)) _ | refine Below.trans ?_ (Below.mono (by assumption) (by first | omega | (simp <;> omega)))))) rfl) HS.out rfl n1 n5).mono ?_; rintro e w1 ⟨u, rfl, ho, hb1⟩
    rw [HN.out] at ho
    obtain ⟨aU, cU, rfl⟩ := ho.forms
    have HO := Lib.hid (OwnE.le ho (base' := w.heap.size) (by simp)); clear ho
    obtain ⟨hc_hb1, hf_hb1⟩ := bcell hb1; have hz_hb1 := hb1.size; (try simp at hz_hb1); have hs0_hb1 : w.heap.size < w1.heap.size := (by omega)
    go_wp2_with fail
    refine (slices_Reverse_nil _ ⟨aU, cU, rfl⟩ _).mono ?_; rintro e w' ⟨rfl, rfl⟩
    go_wp2_with fail
    go_ret
    exact ⟨_, rfl, by rw [HN.out]; exact HO.out, (by repeat (first | exact Below.refl _ _ | assumption | refine Below.drew ?_ | refine below_drewN ?_ _ | refine Below.alloc ?_ (by first | omega | (simp <;> omega)) _ | refine Below.setCell ?_ (by first | omega | (simp <;> omega)) _ | refine Below.trans ?_ (Below.mono (by assumption) (by first | omega | (simp <;> omega)))))⟩
  · go_enter Try.func32, Try.ntmps32
    go_wp2_with fail
    refine (impl_eliminated_any _ L L.length _ (Rd.below H.out (show Below w.heap.size w _ from (by repeat (first | exact Below.refl _ _ | assumption | refine Below.drew ?_ | refine below_drewN ?_ _ | refine Below.alloc ?_ (by first | omega | (simp <;> omega)) _ | refine Below.setCell ?_ (by first | omega | (simp <;> omega)) _ | refine Below.trans ?_ (Below.mono (by assumption) (by first | omega | (simp <;> omega)))))) rfl) HS.out rfl n1 n5).mono ?_; rintro e w1 ⟨u, rfl, ho, hb1⟩
    obtain ⟨g, cap, rfl⟩ := Go.Joins.ownsRow_form ho (by omega)
    have HO := Lib.hid (OwnG.of (OwnE.le ho (base' := w.heap.size) (by simp)) rfl)
    have hg := (ho.lt g rfl).1
    (simp at hg)
    clear ho
    have bw1 := Lib.hid (show Below w.heap.size w w1 from (by repeat (first | exact Below.refl _ _ | assumption | refine Below.drew ?_ | refine below_drewN ?_ _ | refine Below.alloc ?_ (by first | omega | (simp <;> omega)) _ | refine Below.setCell ?_ (by first | omega | (simp <;> omega)) _ | refine Below.trans ?_ (Below.mono (by assumption) (by first | omega | (simp <;> omega))))))
    have z1 := hb1.size; (simp at z1)
    clear hb1
    go_wp2_with fail
    refine (slices_Reverse_Gate w.heap.size g _ cap (redG L) _ HO.out (by omega) (by omega)).mono ?_; rintro e w2 ⟨rfl, hO2, hg2⟩
    have HO2 := Lib.hid hO2.own; clear hO2
    have bw2 := Lib.hid (show Below w.heap.size w w2 from bw1.out.grown hg2 (by omega) (fun k hk => by injection hk with hk; omega))
    clear hg2
    go_wp2_with fail
    go_ret
    exact ⟨_, rfl, HO2.out, bw2.out⟩
theorem syn_ok {L : List Nat} (h : Small L) (n1 : 1 ≤ L.length) (n5 : L.length ≤ 5) : circB ⟨(L.length : Int), (redG L).reverse⟩ = true := by
  refine decide_eq_true ⟨⟨by dsimp only; omega, by dsimp only; omega⟩, ?_, fun g hg => ?_⟩
  · have := red_few h n5; dsimp only; rw [List.length_reverse]; omega
  · have hg2 : g ∈ redG L := by simpa using hg
    obtain ⟨h1, h2, h3, h4, h5, h6⟩ := (redG_ok h).gates g hg2
    unfold GateOk
    dsimp only
    omega
end Go.Proofs.Ytbcjligkjoimmaa
