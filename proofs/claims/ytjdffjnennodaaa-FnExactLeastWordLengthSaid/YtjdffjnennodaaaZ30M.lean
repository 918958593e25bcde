/- slices.Equal over Pauli. -/
import Derived.Test.YtjdffjnennodaaaZ16M
import Derived.Test.YtjdffjnennodaaaZ07M
import Derived.BigQuiet
import Derived.Deep.QuietTactic
import Derived.Test.YtjdffjnennodaaaZ03Slice1
import Derived.Test.YtjdffjnennodaaaZ15Words
import Derived.Test.YtjdffjnennodaaaZ28M
namespace Go.Proofs.Ytjdffjnennodaaa
set_option linter.unusedSimpArgs false
set_option linter.unusedVariables false
set_option linter.unnecessarySimpa false
set_option maxRecDepth 200000
open Go.ChangeShapes Go.WideShapes Go.ChangeAt Go.RowKit

theorem eqcase_Pauli (x y : E3) : ((x.a == y.a) = false) ∨ ((x.a == y.a) = true ∧ (x.b == y.b) = false) ∨ ((x.a == y.a) = true ∧ (x.b == y.b) = true ∧ (x.c == y.c) = false) ∨ ((x.a == y.a) = true ∧ (x.b == y.b) = true ∧ (x.c == y.c) = true) := by
  cases h0 : (x.a == y.a) <;>
  cases h1 : (x.b == y.b) <;>
  cases h2 : (x.c == y.c) <;> simp
set_option maxHeartbeats 4000000 in
theorem slices_Equal_Pauli (va vb : Value) (xs ys : List E3) (w : World) (ha : RdE w va E3.cs 3 xs) (hb : RdE w vb E3.cs 3 ys) :
    Calls Try.prog 61 #[va, vb] w fun e w' => e = .returned (.bool (decide (xs = ys))) ∧ Below w.heap.size w w' := by
  by_cases hl : xs.length = ys.length
  · rcases ha.cases0 E3.len with ⟨he, A, c, rfl⟩ | ⟨hpos, b, off, cap, rfl, hb1, hcap, hcm, hcs⟩
    · have h2 : ys = [] := List.eq_nil_of_length_eq_zero (by rw [← hl, he]; rfl)
      obtain ⟨A2, c2, rfl, _⟩ := hb.form
      subst he h2
      clear ha hb hl
      go_enter Try.func61, Try.ntmps61
      go_wp2_with fail
      refine wp_loop_rounds 1 ?_
      rw [rounds_succ]
      go_wp2_with fail
      go_ret
      exact ⟨rfl, (by repeat (first | exact Below.refl _ _ | assumption | refine Below.drew ?_ | refine below_drewN ?_ _ | refine Below.alloc ?_ (by first | omega | (simp <;> omega)) _ | refine Below.setCell ?_ (by first | omega | (simp <;> omega)) _ | refine Below.trans ?_ (Below.mono (by assumption) (by first | omega | (simp <;> omega)))))⟩
    · rcases hb.cases0 E3.len with ⟨he, _⟩ | ⟨_, b2, off2, cap2, rfl, hb2, hcap2, hcm2, hds⟩
      · rw [he] at hl; simp at hl; subst hl; simp at hpos
      have hc := Lib.hid hcs; have hd := Lib.hid hds
      clear ha hb hcs hds
      have n1 : ((xs.length : Int) != (ys.length : Int)) = false := by simp; omega
      go_enter Try.func61, Try.ntmps61
      go_wp2_with fail
      go_loopw [13] (fun i wr => ∃ k : Nat, k ≤ xs.length ∧ i = .int .i64 k ∧ Hid (xs.take k = ys.take k) ∧ Hid (Below w.heap.size w wr)) (fun i _ => xs.length - (intOf i).toNat)
      case atStart => exact ⟨0, Nat.zero_le _, rfl, (show _ = _ from rfl), (show Below _ _ _ from Below.refl _ _)⟩
      case round =>
        obtain ⟨k, hk, rfl, heq, hbel⟩ := hrel
        by_cases hlt : k < xs.length
        · have hlt2 : k < ys.length := by omega
          obtain ⟨x, hx⟩ : ∃ x, xs[k] = x := ⟨_, rfl⟩
          obtain ⟨y, hy⟩ : ∃ y, ys[k] = y := ⟨_, rfl⟩
          have q0 : wr.cell? ⟨b, off + k * 3, none⟩ = some (.int .i64 x.a) := (hbel.out.cell hb1).trans (by rw [← hx]; exact hc.out k hlt 0 _ (by omega) rfl)
          have q1 : wr.cell? ⟨b, off + k * 3 + 1, none⟩ = some (.int .i64 x.b) := (hbel.out.cell hb1).trans (by rw [← hx]; exact hc.out k hlt 1 _ (by omega) rfl)
          have q2 : wr.cell? ⟨b, off + k * 3 + 2, none⟩ = some (.int .i64 x.c) := (hbel.out.cell hb1).trans (by rw [← hx]; exact hc.out k hlt 2 _ (by omega) rfl)
          have r0 : wr.cell? ⟨b2, off2 + k * 3, none⟩ = some (.int .i64 y.a) := (hbel.out.cell hb2).trans (by rw [← hy]; exact hd.out k hlt2 0 _ (by omega) rfl)
          have r1 : wr.cell? ⟨b2, off2 + k * 3 + 1, none⟩ = some (.int .i64 y.b) := (hbel.out.cell hb2).trans (by rw [← hy]; exact hd.out k hlt2 1 _ (by omega) rfl)
          have r2 : wr.cell? ⟨b2, off2 + k * 3 + 2, none⟩ = some (.int .i64 y.c) := (hbel.out.cell hb2).trans (by rw [← hy]; exact hd.out k hlt2 2 _ (by omega) rfl)
          have i1 : (k : Int) < (xs.length : Int) := by omega
          have i2 : (k : Int) < (ys.length : Int) := by omega
          have i3 : (0 : Int) ≤ (k : Int) := by omega
          have HX := Lib.hid hx; have HY := Lib.hid hy
          clear hx hy
          rcases eqcase_Pauli x y with d0 | ⟨d0, d1⟩ | ⟨d0, d1, d2⟩ | ⟨d0, d1, d2⟩
          · go_wp2_with fail
            go_quiet (fail)
            go_wp2_with fail
            go_ret
            exact ⟨ret_bool (eqE_fail hlt hlt2 (by rw [HX.out, HY.out]; intro e; subst e; simp at d0)), Below.trans hbel.out (show Below w.heap.size wr _ from (by repeat (first | exact Below.refl _ _ | assumption | refine Below.drew ?_ | refine below_drewN ?_ _ | refine Below.alloc ?_ (by first | omega | (simp <;> omega)) _ | refine Below.setCell ?_ (by first | omega | (simp <;> omega)) _ | refine Below.trans ?_ (Below.mono (by assumption) (by first | omega | (simp <;> omega))))))⟩
          · go_wp2_with fail
            go_quiet (fail)
            go_wp2_with fail
            go_ret
            exact ⟨ret_bool (eqE_fail hlt hlt2 (by rw [HX.out, HY.out]; intro e; subst e; simp at d1)), Below.trans hbel.out (show Below w.heap.size wr _ from (by repeat (first | exact Below.refl _ _ | assumption | refine Below.drew ?_ | refine below_drewN ?_ _ | refine Below.alloc ?_ (by first | omega | (simp <;> omega)) _ | refine Below.setCell ?_ (by first | omega | (simp <;> omega)) _ | refine Below.trans ?_ (Below.mono (by assumption) (by first | omega | (simp <;> omega))))))⟩
          · go_wp2_with fail
            go_quiet (fail)
            go_wp2_with fail
            go_ret
            exact ⟨ret_bool (eqE_fail hlt hlt2 (by rw [HX.out, HY.out]; intro e; subst e; simp at d2)), Below.trans hbel.out (show Below w.heap.size wr _ from (by repeat (first | exact Below.refl _ _ | assumption | refine Below.drew ?_ | refine below_drewN ?_ _ | refine Below.alloc ?_ (by first | omega | (simp <;> omega)) _ | refine Below.setCell ?_ (by first | omega | (simp <;> omega)) _ | refine Below.trans ?_ (Below.mono (by assumption) (by first | omega | (simp <;> omega))))))⟩
          · go_wp2_with fail
            go_quiet (fail)
            go_wp2_with fail
            go_roundw
            case rel => exact ⟨k + 1, by omega, by go_num, eqE_step heq hlt hlt2 (by rw [HX.out, HY.out]; cases x; cases y; simp only [E3.mk.injEq]; exact ⟨LawfulBEq.eq_of_beq d0, LawfulBEq.eq_of_beq d1, LawfulBEq.eq_of_beq d2⟩), (show Below _ _ _ from Below.trans hbel.out (show Below w.heap.size wr _ from (by repeat (first | exact Below.refl _ _ | assumption | refine Below.drew ?_ | refine below_drewN ?_ _ | refine Below.alloc ?_ (by first | omega | (simp <;> omega)) _ | refine Below.setCell ?_ (by first | omega | (simp <;> omega)) _ | refine Below.trans ?_ (Below.mono (by assumption) (by first | omega | (simp <;> omega)))))))⟩
            case measure => simp [intOf]; omega
        · go_wp2_with fail
          go_ret
          exact ⟨ret_bool (eqE_end heq (by omega) (by omega)), hbel.out⟩
  · obtain ⟨A, c, rfl, _⟩ := ha.form
    obtain ⟨A2, c2, rfl, _⟩ := hb.form
    have HR := Lib.hid (show decide (xs = ys) = false from decide_eq_false fun h => hl (by rw [h]))
    have n1 : ((xs.length : Int) != (ys.length : Int)) = true := by simp; omega
    clear ha hb hl
    go_enter Try.func61, Try.ntmps61
    go_wp2_with fail
    go_ret
    exact ⟨ret_bool (by rw [HR.out]), (by repeat (first | exact Below.refl _ _ | assumption | refine Below.drew ?_ | refine below_drewN ?_ _ | refine Below.alloc ?_ (by first | omega | (simp <;> omega)) _ | refine Below.setCell ?_ (by first | omega | (simp <;> omega)) _ | refine Below.trans ?_ (Below.mono (by assumption) (by first | omega | (simp <;> omega)))))⟩
end Go.Proofs.Ytjdffjnennodaaa
namespace Go.Proofs.Ytjdffjnennodaaa
set_option linter.unusedSimpArgs false
set_option linter.unusedVariables false
set_option linter.unnecessarySimpa false
set_option maxRecDepth 200000
open Go.ChangeShapes Go.WideShapes Go.ChangeAt Go.RowKit

/-- A slice of three-cell structs of n elements in block g. -/
def OwnG (w : World) (base : Nat) (t : TypeId) (g n cap : Nat) (xs : List E3) : Prop := w.ownsRow base t 3 (.slice (some ⟨g, 0, none⟩) n cap) n (xs.flatMap E3.cs)
theorem OwnG.len {w : World} {base g n cap : Nat} {t : TypeId} {xs : List E3} (h : OwnG w base t g n cap xs) : xs.length = n := by
  have := h.1; rw [flat_len E3.len] at this; omega
theorem OwnG.of {w : World} {base g n cap : Nat} {t : TypeId} {xs : List E3} (h : OwnE w base t (.slice (some ⟨g, 0, none⟩) n cap) E3.cs 3 xs) (hl : xs.length = n) : OwnG w base t g n cap xs := by
  unfold OwnE at h; rw [hl] at h; exact h
theorem OwnG.own {w : World} {base g n cap : Nat} {t : TypeId} {xs : List E3} (h : OwnG w base t g n cap xs) : OwnE w base t (.slice (some ⟨g, 0, none⟩) n cap) E3.cs 3 xs := by
  have hl := h.len; unfold OwnE; rw [hl]; exact h
theorem OwnG.cell {w : World} {base g n cap : Nat} {t : TypeId} {xs : List E3} (h : OwnG w base t g n cap xs) (i : Nat) (hi : i < n) :
    w.cell? ⟨g, i * 3, none⟩ = some (.int .i64 (xs.getD i ⟨0, 0, 0⟩).a) ∧ w.cell? ⟨g, i * 3 + 1, none⟩ = some (.int .i64 (xs.getD i ⟨0, 0, 0⟩).b) ∧ w.cell? ⟨g, i * 3 + 2, none⟩ = some (.int .i64 (xs.getD i ⟨0, 0, 0⟩).c) := by
  have hl := h.len
  have e : xs.getD i ⟨0, 0, 0⟩ = xs[i] := by simp [List.getD, show i < xs.length by omega]
  have key : ∀ j u, j < 3 → (E3.cs xs[i])[j]? = some u → w.cell? ⟨g, i * 3 + j, none⟩ = some u := by
    intro j u hj hu
    have := World.ownsRow.cells h (g := g) rfl (i * 3 + j) u (by rw [flat_get E3.len xs i j (by omega) hj]; exact hu)
    rw [Addr.add_lit, Nat.zero_add] at this
    exact this
  rw [e]
  exact ⟨key 0 _ (by omega) rfl, key 1 _ (by omega) rfl, key 2 _ (by omega) rfl⟩
theorem OwnG.frz {w : World} {base g n cap : Nat} {t : TypeId} {xs : List E3} (h : OwnG w base t g n cap xs) (j : Nat) : w.frozen? ⟨g, j, none⟩ = false := World.ownsRow.frozenAt h j
theorem OwnG.lt {w : World} {base g n cap : Nat} {t : TypeId} {xs : List E3} (h : OwnG w base t g n cap xs) : base ≤ g ∧ g < w.heap.size := World.ownsRow.lt h g rfl
theorem OwnG.below {w w' : World} {base g n cap B : Nat} {t : TypeId} {xs : List E3} (h : OwnG w base t g n cap xs) (hb : Below B w w') (hB : B = w.heap.size) : OwnG w' base t g n cap xs := own_below h hb hB
theorem set_flat (e : E3) : ∀ (xs : List E3) (i : Nat), i < xs.length → (((xs.flatMap E3.cs).set (i * 3) (.int .i64 e.a)).set (i * 3 + 1) (.int .i64 e.b)).set (i * 3 + 2) (.int .i64 e.c) = (xs.set i e).flatMap E3.cs
  | [], _, h => by simp at h
  | x :: xs, 0, _ => by simp [E3.cs]
  | x :: xs, i + 1, h => by
    have ih := set_flat e xs i (by simpa using h)
    simp only [List.flatMap_cons, List.set_cons_succ]
    rw [← ih]
    have h3 : (E3.cs x).length = 3 := rfl
    rw [List.set_append_right _ _ (by rw [h3]; omega), List.set_append_right _ _ (by rw [h3]; omega), List.set_append_right _ _ (by rw [h3]; omega), h3]
    rw [show (i + 1) * 3 - 3 = i * 3 from by omega, show (i + 1) * 3 + 1 - 3 = i * 3 + 1 from by omega, show (i + 1) * 3 + 2 - 3 = i * 3 + 2 from by omega]
theorem OwnG.set {w : World} {base g n cap : Nat} {t : TypeId} {xs : List E3} (h : OwnG w base t g n cap xs) (i : Nat) (hi : i < n) (e : E3) :
    OwnG (((w.setCell ⟨g, i * 3, none⟩ (.int .i64 e.a)).setCell ⟨g, i * 3 + 1, none⟩ (.int .i64 e.b)).setCell ⟨g, i * 3 + 2, none⟩ (.int .i64 e.c)) base t g n cap (xs.set i e) := by
  have hl := h.len
  have h1 := (World.ownsRow.stored h (i * 3) (.int .i64 e.a)).1
  have h2 := (World.ownsRow.stored h1 (i * 3 + 1) (.int .i64 e.b)).1
  have h3 := (World.ownsRow.stored h2 (i * 3 + 2) (.int .i64 e.c)).1
  rw [set_flat e xs i (by omega)] at h3
  exact h3
/-- What a call has just laid into a block of its own reads. -/
theorem reads_news (w : World) (us : List Value) (t : TypeId) (sz m : Nat) (h : us.length = m * sz) : Reads (w.alloc (.cells us.toArray t)) (w.heap.size + 1) sz (some ⟨w.heap.size, 0, none⟩) m us :=
  ⟨h, fun _ => ⟨_, rfl, by simp, news_cells w us t⟩⟩
theorem below_set3 (w : World) (g a b c : Nat) (u v x : Value) : Below 0 w (((w.setCell ⟨g, a, none⟩ u).setCell ⟨g, b, none⟩ v).setCell ⟨g, c, none⟩ x) :=
  Below.setCell (p := ⟨g, c, none⟩) (Below.setCell (p := ⟨g, b, none⟩) (Below.setCell (p := ⟨g, a, none⟩) (Below.refl 0 w) (Nat.zero_le _) u) (Nat.zero_le _) v) (Nat.zero_le _) x
theorem grown_set3 {w0 w : World} {g : Nat} (h : w0.grownBy w (some g)) (hg : g < w0.heap.size) (a b c : Nat) (u v x : Value) : w0.grownBy (((w.setCell ⟨g, a, none⟩ u).setCell ⟨g, b, none⟩ v).setCell ⟨g, c, none⟩ x) (some g) :=
  have q := below_set3 w g a b c u v x
  ⟨q.os.trans h.os, q.tape.trans h.tape, q.output.trans h.output, Nat.le_trans h.size q.size, fun k hk hne => by
    have hkg : k ≠ g := fun e => hne (by rw [e])
    rw [Below.heap_setCell _ _ _ k hkg, Below.heap_setCell _ _ _ k hkg, Below.heap_setCell _ _ _ k hkg]; exact h.block k hk hne⟩
theorem grown_drew {w0 w : World} {r : Option Nat} (h : w0.grownBy w r) : w0.grownBy w.drew r := ⟨h.os, h.tape, h.output, h.size, h.block⟩
theorem grown_call {w0 w w' : World} {r : Option Nat} (h : w0.grownBy w r) (hb : Below w.heap.size w w') : w0.grownBy w' r :=
  ⟨hb.os.trans h.os, hb.tape.trans h.tape, hb.output.trans h.output, Nat.le_trans h.size hb.size, fun k hk hne => (hb.block k (Nat.lt_of_lt_of_le hk h.size)).trans (h.block k hk hne)⟩
theorem rd_set_ne {w : World} {g o n sz c n0 : Nat} {xs : List Value} {p : Addr} (h : Rd w (.slice (some ⟨g, o, none⟩) n c) n0 sz xs) (hne : g ≠ p.block) (u : Value) : Rd (w.setCell p u) (.slice (some ⟨g, o, none⟩) n c) n0 sz xs := by
  refine ⟨h.1, ?_⟩
  rcases h.2 with h0 | ⟨b, off, cap, hv, hb, h3, h4, h5⟩
  · exact .inl h0
  · refine .inr ⟨b, off, cap, hv, by simpa using hb, h3, h4, fun j v hj => ?_⟩
    injection hv with hv1 hv2 hv3
    injection hv1 with hv1
    injection hv1 with e1 e2 e3
    exact (World.cell?_setCell_other _ _ _ _ (fun e => hne (by rw [e, e1]))).trans (h5 j v hj)
theorem own_E3 {w : World} {base : Nat} {t : TypeId} {v : Value} {xs : List E3} {m : Nat} (h : OwnE w base t v E3.cs 3 xs) (hl : xs.length = m) (hm : 0 < m) : ∃ g cap, v = .slice (some ⟨g, 0, none⟩) m cap ∧ base ≤ g ∧ g < w.heap.size := by
  obtain ⟨g, cap, rfl⟩ := Go.Joins.ownsRow_form h (by omega)
  have := h.lt g rfl
  exact ⟨g, cap, by rw [hl], this.1, this.2⟩
end Go.Proofs.Ytjdffjnennodaaa
namespace Go.Proofs.Ytjdffjnennodaaa
set_option linter.unusedSimpArgs false
set_option linter.unusedVariables false
set_option linter.unnecessarySimpa false
set_option maxRecDepth 200000
open Go.ChangeShapes Go.WideShapes Go.ChangeAt Go.RowKit

theorem same_no1 {xs ys zs us : List E3} {m k : Nat} (hx : xs.length = m) (hy : ys.length = m) (hk : k < m) (he : ¬ xs.getD k ⟨0, 0, 0⟩ = ys.getD k ⟨0, 0, 0⟩) : false = decide (xs = ys ∧ zs = us) := by
  symm; rw [decide_eq_false_iff_not]; rintro ⟨rfl, _⟩; exact he rfl
theorem same_no2 {xs ys zs us : List E3} {m k : Nat} (hx : zs.length = m) (hy : us.length = m) (hk : k < m) (he : ¬ zs.getD k ⟨0, 0, 0⟩ = us.getD k ⟨0, 0, 0⟩) : false = decide (xs = ys ∧ zs = us) := by
  symm; rw [decide_eq_false_iff_not]; rintro ⟨_, rfl⟩; exact he rfl
def SameTo (xs ys : List E3) (k : Nat) : Prop := ∀ j, j < k → xs.getD j ⟨0, 0, 0⟩ = ys.getD j ⟨0, 0, 0⟩
theorem SameTo.next {xs ys : List E3} {k : Nat} (h : SameTo xs ys k) (h2 : xs.getD k ⟨0, 0, 0⟩ = ys.getD k ⟨0, 0, 0⟩) : SameTo xs ys (k + 1) := by
  intro j hj
  by_cases e : j = k
  · subst e; exact h2
  · exact h j (by omega)
theorem SameTo.all {xs ys : List E3} {m : Nat} (h : SameTo xs ys m) (hx : xs.length = m) (hy : ys.length = m) : xs = ys := by
  apply List.ext_getElem (by omega)
  intro i h1 h2
  have := h i (by omega)
  simpa [List.getD, h1, h2] using this
theorem E3.eq_of {x y : E3} (h : (x.a == y.a) = true) (h1 : (x.b == y.b) = true) (h2 : (x.c == y.c) = true) : x = y := by
  cases x; cases y; simp only [E3.mk.injEq]; exact ⟨LawfulBEq.eq_of_beq h, LawfulBEq.eq_of_beq h1, LawfulBEq.eq_of_beq h2⟩
theorem e3_at {w : World} {v : Value} {L : List E3} {m : Nat} (h : RdE w v E3.cs 3 L) (hm : L.length = m) : ∃ A c, v = .slice A m c ∧ Hid (∀ k, k < m → ∃ b off, A = some ⟨b, off, none⟩ ∧ b < w.heap.size ∧ w.cell? ⟨b, off + k * 3, none⟩ = some (.int .i64 (L.getD k ⟨0, 0, 0⟩).a) ∧ w.cell? ⟨b, off + k * 3 + 1, none⟩ = some (.int .i64 (L.getD k ⟨0, 0, 0⟩).b) ∧ w.cell? ⟨b, off + k * 3 + 2, none⟩ = some (.int .i64 (L.getD k ⟨0, 0, 0⟩).c)) := by
  subst hm
  rcases h.cases0 E3.len with ⟨he, A, c, rfl⟩ | ⟨hpos, b, off, cap, rfl, hb1, hcap, hcm, hcs⟩
  · exact ⟨A, c, by rw [he]; rfl, fun k hk => absurd hk (by rw [he]; simp)⟩
  · refine ⟨_, _, rfl, fun k hk => ⟨b, off, rfl, hb1, ?_⟩⟩
    have e : L.getD k ⟨0, 0, 0⟩ = L[k] := by simp [List.getD, hk]
    rw [e]
    exact ⟨hcs k hk 0 _ (by omega) rfl, hcs k hk 1 _ (by omega) rfl, hcs k hk 2 _ (by omega) rfl⟩
set_option maxHeartbeats 4000000 in
theorem impl_equalTableaux_any (n : Int) (xs zs ys us : List E3) (v0 v1 u0 u1 : Value) (w : World) (h0 : RdE w v0 E3.cs 3 xs) (h1 : RdE w v1 E3.cs 3 zs) (k0 : RdE w u0 E3.cs 3 ys) (k1 : RdE w u1 E3.cs 3 us) :
    Calls Try.prog 44 #[.agg #[.int .i64 n, v0, v1], .agg #[.int .i64 n, u0, u1]] w fun e w' => e = .returned (.bool (decide (xs = ys ∧ zs = us))) ∧ Below w.heap.size w w' := by
  have H0 := Lib.hid h0; have H1 := Lib.hid h1; have K0 := Lib.hid k0; have K1 := Lib.hid k1
  obtain ⟨A, cA, rfl, _⟩ := h0.form
  obtain ⟨B, cB, rfl, _⟩ := h1.form
  obtain ⟨C, cC, rfl, _⟩ := k0.form
  obtain ⟨D, cD, rfl, _⟩ := k1.form
  clear h0 h1 k0 k1
  by_cases hx : xs = ys
  · have HX := Lib.hid (show decide (xs = ys) = true from decide_eq_true hx)
    have HR := Lib.hid (show decide (zs = us) = decide (xs = ys ∧ zs = us) from by simp [hx])
    clear hx
    go_enter Try.func44, Try.ntmps44
    go_wp2_with fail
    refine (slices_Equal_Pauli _ _ xs ys _ (Rd.below H0.out (show Below w.heap.size w _ from (by repeat (first | exact Below.refl _ _ | assumption | refine Below.drew ?_ | refine below_drewN ?_ _ | refine Below.alloc ?_ (by first | omega | (simp <;> omega)) _ | refine Below.setCell ?_ (by first | omega | (simp <;> omega)) _ | refine Below.trans ?_ (Below.mono (by assumption) (by first | omega | (simp <;> omega)))))) rfl) (Rd.below K0.out (show Below w.heap.size w _ from (by repeat (first | exact Below.refl _ _ | assumption | refine Below.drew ?_ | refine below_drewN ?_ _ | refine Below.alloc ?_ (by first | omega | (simp <;> omega)) _ | refine Below.setCell ?_ (by first | omega | (simp <;> omega)) _ | refine Below.trans ?_ (Below.mono (by assumption) (by first | omega | (simp <;> omega)))))) rfl)).mono ?_; rintro e w1 ⟨rfl, hb1⟩; rw [HX.out]
    obtain ⟨hc_hb1, hf_hb1⟩ := bcell hb1; have hz_hb1 := hb1.size; (try simp at hz_hb1); have hs0_hb1 : w.heap.size < w1.heap.size := (by omega); have hs1_hb1 : w.heap.size + 1 < w1.heap.size := (by omega)
    go_wp2_with fail
    refine (slices_Equal_Pauli _ _ zs us _ (Rd.below H1.out (show Below w.heap.size w _ from (by repeat (first | exact Below.refl _ _ | assumption | refine Below.drew ?_ | refine below_drewN ?_ _ | refine Below.alloc ?_ (by first | omega | (simp <;> omega)) _ | refine Below.setCell ?_ (by first | omega | (simp <;> omega)) _ | refine Below.trans ?_ (Below.mono (by assumption) (by first | omega | (simp <;> omega)))))) rfl) (Rd.below K1.out (show Below w.heap.size w _ from (by repeat (first | exact Below.refl _ _ | assumption | refine Below.drew ?_ | refine below_drewN ?_ _ | refine Below.alloc ?_ (by first | omega | (simp <;> omega)) _ | refine Below.setCell ?_ (by first | omega | (simp <;> omega)) _ | refine Below.trans ?_ (Below.mono (by assumption) (by first | omega | (simp <;> omega)))))) rfl)).mono ?_; rintro e w2 ⟨rfl, hb2⟩
    obtain ⟨hc_hb2, hf_hb2⟩ := bcell hb2; have hz_hb2 := hb2.size; (try simp at hz_hb2); have hs0_hb2 : w.heap.size < w2.heap.size := (by omega); have hs1_hb2 : w.heap.size + 1 < w2.heap.size := (by omega)
    go_wp2_with fail
    go_ret
    exact ⟨ret_bool HR.out, (by repeat (first | exact Below.refl _ _ | assumption | refine Below.drew ?_ | refine below_drewN ?_ _ | refine Below.alloc ?_ (by first | omega | (simp <;> omega)) _ | refine Below.setCell ?_ (by first | omega | (simp <;> omega)) _ | refine Below.trans ?_ (Below.mono (by assumption) (by first | omega | (simp <;> omega)))))⟩
  · have HX := Lib.hid (show decide (xs = ys) = false from decide_eq_false hx)
    have HR := Lib.hid (show false = decide (xs = ys ∧ zs = us) from by simp [hx])
    clear hx
    go_enter Try.func44, Try.ntmps44
    go_wp2_with fail
    refine (slices_Equal_Pauli _ _ xs ys _ (Rd.below H0.out (show Below w.heap.size w _ from (by repeat (first | exact Below.refl _ _ | assumption | refine Below.drew ?_ | refine below_drewN ?_ _ | refine Below.alloc ?_ (by first | omega | (simp <;> omega)) _ | refine Below.setCell ?_ (by first | omega | (simp <;> omega)) _ | refine Below.trans ?_ (Below.mono (by assumption) (by first | omega | (simp <;> omega)))))) rfl) (Rd.below K0.out (show Below w.heap.size w _ from (by repeat (first | exact Below.refl _ _ | assumption | refine Below.drew ?_ | refine below_drewN ?_ _ | refine Below.alloc ?_ (by first | omega | (simp <;> omega)) _ | refine Below.setCell ?_ (by first | omega | (simp <;> omega)) _ | refine Below.trans ?_ (Below.mono (by assumption) (by first | omega | (simp <;> omega)))))) rfl)).mono ?_; rintro e w1 ⟨rfl, hb1⟩; rw [HX.out]
    obtain ⟨hc_hb1, hf_hb1⟩ := bcell hb1; have hz_hb1 := hb1.size; (try simp at hz_hb1); have hs0_hb1 : w.heap.size < w1.heap.size := (by omega); have hs1_hb1 : w.heap.size + 1 < w1.heap.size := (by omega)
    go_wp2_with fail
    go_ret
    exact ⟨ret_bool HR.out, (by repeat (first | exact Below.refl _ _ | assumption | refine Below.drew ?_ | refine below_drewN ?_ _ | refine Below.alloc ?_ (by first | omega | (simp <;> omega)) _ | refine Below.setCell ?_ (by first | omega | (simp <;> omega)) _ | refine Below.trans ?_ (Below.mono (by assumption) (by first | omega | (simp <;> omega)))))⟩
end Go.Proofs.Ytjdffjnennodaaa
