/- slices.Delete at one place of a row of terms that the call owns; slices.Clone over terms. -/
import Derived.Test.YtgonldkgghikiaaTyTerm
import Derived.Test.YtgonldkgghikiaaWords
import Derived.Test.YtgonldkgghikiaaOwnG
import Derived.Shelf.RegionOpenPlain
import Derived.WalkSpells
import Derived.Deep.LoopGhost
import Derived.Shelf.Abstract
import Derived.Lib.SliceRun
import Derived.Deep.RegionLaw
namespace Go.Proofs.Ytgonldkgghikiaa
set_option linter.unusedSimpArgs false
set_option linter.unusedVariables false
set_option linter.unnecessarySimpa false
set_option maxRecDepth 200000
open Go.ChangeShapes Go.WideShapes Go.ChangeAt Go.RowKit

def setM (xs : List Value) : Nat → List Value → List Value
  | _, [] => xs
  | o, v :: r => setM (xs.set o v) (o + 1) r
theorem setM_eq : ∀ (vs xs : List Value) (o : Nat), o + vs.length ≤ xs.length → setM xs o vs = xs.take o ++ vs ++ xs.drop (o + vs.length)
  | [], xs, o, _ => by simp [setM]
  | v :: r, xs, o, h => by
    simp only [List.length_cons] at h
    unfold setM
    rw [setM_eq r (xs.set o v) (o + 1) (by rw [List.length_set]; omega)]
    have ho : o < xs.length := by omega
    have e1 : (xs.set o v).take (o + 1) = xs.take o ++ [v] := by
      rw [List.take_succ_eq_append_getElem (by rw [List.length_set]; exact ho), List.take_set_of_le (Nat.le_refl _)]
      simp
    rw [e1, List.drop_set_of_lt (by omega)]
    simp [Nat.add_assoc, Nat.add_comm 1]
theorem own_setCells {base g n cap sz : Nat} {t : TypeId} : ∀ (vs : List Value) (o : Nat) {w : World} {xs : List Value}, w.ownsRow base t sz (.slice (some ⟨g, 0, none⟩) n cap) n xs →
    (w.setCells g o vs).ownsRow base t sz (.slice (some ⟨g, 0, none⟩) n cap) n (setM xs o vs) ∧ w.grownBy (w.setCells g o vs) (some g)
  | [], o, w, xs, h => ⟨h, ⟨rfl, rfl, rfl, Nat.le_refl _, fun _ _ _ => rfl⟩⟩
  | v :: r, o, w, xs, h => by
    obtain ⟨h1, g1⟩ := World.ownsRow.stored h o v
    obtain ⟨h2, g2⟩ := own_setCells r (o + 1) h1
    exact ⟨h2, ⟨g2.os.trans g1.os, g2.tape.trans g1.tape, g2.output.trans g1.output, Nat.le_trans g1.size g2.size, fun k hk hn => (g2.block k (Nat.lt_of_lt_of_le hk g1.size) hn).trans (g1.block k hk hn)⟩⟩
/-- A row that is cut shorter. -/
theorem own_cut {w : World} {base g n m cap sz : Nat} {t : TypeId} {xs : List Value} (h : w.ownsRow base t sz (.slice (some ⟨g, 0, none⟩) n cap) n xs) (hm : m ≤ n) : w.ownsRow base t sz (.slice (some ⟨g, 0, none⟩) m cap) m (xs.take (m * sz)) := by
  obtain ⟨h0, h1⟩ := h
  have hle : m * sz ≤ n * sz := Nat.mul_le_mul_right _ hm
  refine ⟨by rw [List.length_take]; omega, ?_⟩
  rcases h1 with ⟨e, _⟩ | ⟨g', cap', cur, e, hb, hg, h2, h3, h4, h5⟩
  · cases e
  · injection e with e1 e2 e3; subst e3; injection e1 with e1; injection e1 with e1; subst e1
    refine .inr ⟨g, cap, cur, rfl, hb, hg, by omega, h3, h4, ?_⟩
    rw [← h5, List.take_take, Nat.min_eq_left hle]
theorem own_caps {w : World} {base g n cap sz : Nat} {t : TypeId} {xs : List Value} (h : w.ownsRow base t sz (.slice (some ⟨g, 0, none⟩) n cap) n xs) : n ≤ cap ∧ cap ≤ 9223372036854775807 := by
  rcases h.2 with ⟨e, _⟩ | ⟨g', cap', cur, e, _, _, h1, h2, _⟩
  · cases e
  · injection e with _ _ e3; subst e3; exact ⟨h1, by simpa [maxLen] using h2⟩
theorem own_cellAt {w : World} {base g n cap sz : Nat} {t : TypeId} {xs : List Value} (h : w.ownsRow base t sz (.slice (some ⟨g, 0, none⟩) n cap) n xs) {j : Nat} {u : Value} (hj : xs[j]? = some u) : w.cell? ⟨g, j, none⟩ = some u := by
  have := World.ownsRow.cells h (g := g) rfl j u hj
  rw [Addr.add_lit, Nat.zero_add] at this
  exact this
/-- clear of one element of two cells. -/
theorem run_clear2 {P : Program} (w : World) (t e ty : TypeId) (a b : Value) (ht : P.underlying t = some (.slice e)) (hv : ∀ w, (zeroValue e).run P w = .ok (.agg #[a, b]) w) (ha : a.oneCell' = true) (hb : b.oneCell' = true) (g o c : Nat)
    (h0 : (w.cell? ⟨g, o, none⟩).isSome = true) (h1 : (w.cell? ⟨g, o + 1, none⟩).isSome = true) (f0 : w.frozen? ⟨g, o, none⟩ = false) (f1 : w.frozen? ⟨g, o + 1, none⟩ = false) :
    (Builtin.clear_ #[t] ty #[.slice (some ⟨g, o, none⟩) 1 c]).run P w = .ok (.tuple #[]) (w.setCells g o [a, b]) := by
  have hzc : (Builtin.zeroCells (Value.agg #[a, b]).cells 1).toList = [a, b] := by
    simp [Builtin.zeroCells]
    apply List.ext_getElem
    · simp [Value.cells]
    · intro i h1 h2
      simp [Value.cells] at h1 ⊢
      match i, h1 with
      | 0, _ => rfl
      | 1, _ => rfl
  have hst := run_storeCells_cells (P := P) g o [a, b] 0 w (fun j hj => by
      rw [Nat.add_zero]
      match j, hj with
      | 0, _ => exact h0
      | 1, _ => exact h1) (fun j hj => by
      rw [Nat.add_zero]
      match j, hj with
      | 0, _ => exact f0
      | 1, _ => exact f1) (by intro v hv'; simp at hv'; rcases hv' with rfl | rfl <;> assumption)
  rw [Nat.add_zero] at hst
  simp [Builtin.clear_, run_underlying ht, hv, hzc, hst]
theorem flat_take {α : Type} {f : α → List Value} {sz : Nat} (hf : ∀ x, (f x).length = sz) : ∀ (xs : List α) (k : Nat), (xs.flatMap f).take (k * sz) = (xs.take k).flatMap f
  | [], k => by simp
  | x :: xs, 0 => by simp
  | x :: xs, k + 1 => by
    rw [List.flatMap_cons, List.take_succ_cons, List.flatMap_cons, ← flat_take hf xs k, Nat.add_mul, Nat.one_mul, Nat.add_comm, List.take_append, hf, List.take_of_length_le (by rw [hf]; omega), Nat.add_sub_cancel_left]
theorem flat_drop {α : Type} {f : α → List Value} {sz : Nat} (hf : ∀ x, (f x).length = sz) : ∀ (xs : List α) (k : Nat), (xs.flatMap f).drop (k * sz) = (xs.drop k).flatMap f
  | [], k => by simp
  | x :: xs, 0 => by simp
  | x :: xs, k + 1 => by
    rw [List.flatMap_cons, List.drop_succ_cons, ← flat_drop hf xs k, Nat.add_mul, Nat.one_mul, Nat.add_comm, List.drop_append, hf, List.drop_of_length_le (by rw [hf]; omega), Nat.add_sub_cancel_left, List.nil_append]
end Go.Proofs.Ytgonldkgghikiaa
