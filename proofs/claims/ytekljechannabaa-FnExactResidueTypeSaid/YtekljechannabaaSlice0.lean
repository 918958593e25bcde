/- Slices that are read, and slices that a call has made itself: general lemmas over any program. -/
import Derived.Test.YtekljechannabaaBase
import Derived.OwnWalk
import Derived.Laws.MakeOwn
import Derived.Deep.Light
import Derived.BigQuiet
import Derived.Deep.QuietTactic
namespace Go.Proofs.Ytekljechannabaa
set_option linter.unusedSimpArgs false
set_option linter.unusedVariables false
open Go.ChangeShapes Go.WideShapes Go.ChangeAt Go.RowKit

/-- A slice value of n elements of sz cells each, which reads as the cells xs. -/
def Rd (w : World) (v : Value) (n sz : Nat) (xs : List Value) : Prop :=
  xs.length = n * sz ∧ ((v = .slice none 0 0 ∧ n = 0) ∨ ∃ b off cap, v = .slice (some ⟨b, off, none⟩) n cap ∧ b < w.heap.size ∧ n ≤ cap ∧ cap ≤ 9223372036854775807 ∧ ∀ j u, xs[j]? = some u → w.cell? ⟨b, off + j, none⟩ = some u)
/-- The same for whole numbers. -/
def RdI (w : World) (v : Value) (zs : List Int) : Prop := Rd w v zs.length 1 (zs.map (Value.int .i64))

section
variable {w w' : World} {v : Value} {n sz : Nat} {xs : List Value} {base : Nat} {e : TypeId}
theorem Rd.below {B : Nat} (h : Rd w v n sz xs) (hb : Below B w w') (hB : B = w.heap.size) : Rd w' v n sz xs := by
  subst hB
  refine ⟨h.1, ?_⟩
  rcases h.2 with h0 | ⟨b, off, cap, h1, h2, h3, h4, h5⟩
  · exact .inl h0
  · exact .inr ⟨b, off, cap, h1, Nat.lt_of_lt_of_le h2 hb.size, h3, h4, fun j u hj => by rw [hb.cell (p := ⟨b, off + j, none⟩) h2]; exact h5 j u hj⟩
theorem Rd.of_own (h : w.ownsRow base e sz v n xs) : Rd w v n sz xs := by
  refine ⟨h.1, ?_⟩
  rcases h.2 with h0 | ⟨g, cap, cur, rfl, hbg, hg, hnc, hcm, hcs, htake⟩
  · exact .inl h0
  · refine .inr ⟨g, 0, cap, rfl, (Array.getElem?_eq_some_iff.1 hg).1, hnc, by simpa [maxLen] using hcm, fun j u hj => ?_⟩
    have := World.ownsRow.cells h (g := g) rfl j u hj
    rw [Nat.zero_add]
    have hadd : (⟨g, 0, none⟩ : Addr).add j = ⟨g, j, none⟩ := by unfold Addr.add; split <;> simp_all
    rw [← hadd]; exact this
theorem own_below {B : Nat} (h : w.ownsRow base e sz v n xs) (hb : Below B w w') (hB : B = w.heap.size) : w'.ownsRow base e sz v n xs := by
  subst hB
  refine ⟨h.1, ?_⟩
  rcases h.2 with h0 | ⟨g, cap, cur, rfl, hbg, hg, r⟩
  · exact .inl h0
  · exact .inr ⟨g, cap, cur, rfl, hbg, by rw [hb.block g (Array.getElem?_eq_some_iff.1 hg).1]; exact hg, r⟩
theorem own_le {base' : Nat} (h : w.ownsRow base e sz v n xs) (hb : base' ≤ base) : w.ownsRow base' e sz v n xs :=
  ⟨h.1, h.2.elim Or.inl (fun ⟨g, cap, cur, hv, hg, r⟩ => Or.inr ⟨g, cap, cur, hv, Nat.le_trans hb hg, r⟩)⟩
/-- Only the blocks of one slice may have changed. -/
theorem below_of_grown {row : Option Nat} {B : Nat} (hg : w.grownBy w' row) (hB : B ≤ w.heap.size) (hr : ∀ k, row = some k → B ≤ k) : Below B w w' :=
  (Below.refl B w).grown hg hB hr
end

theorem take_next (zs : List Int) (k : Nat) (h : k < zs.length) : zs.take (k + 1) = zs.take k ++ [zs.getD k 0] := by
  rw [List.take_succ_eq_append_getElem h]
  simp [List.getD, h]

theorem RdI.cases {w : World} {v : Value} {zs : List Int} (h : RdI w v zs) : (v = .slice none 0 0 ∧ zs = []) ∨
    ∃ b off cap, v = .slice (some ⟨b, off, none⟩) zs.length cap ∧ b < w.heap.size ∧ zs.length ≤ cap ∧ cap ≤ 9223372036854775807 ∧ ∀ j, j < zs.length → w.cell? ⟨b, off + j, none⟩ = some (.int .i64 (zs.getD j 0)) := by
  rcases h.2 with ⟨h0, h1⟩ | ⟨b, off, cap, h1, h2, h3, h4, h5⟩
  · exact .inl ⟨h0, List.eq_nil_of_length_eq_zero h1⟩
  · refine .inr ⟨b, off, cap, h1, h2, h3, h4, fun j hj => h5 j _ ?_⟩
    simp [List.getD, hj]
theorem RdI.form {w : World} {v : Value} {zs : List Int} (h : RdI w v zs) : ∃ a cap, v = .slice a zs.length cap ∧ zs.length ≤ 9223372036854775807 := by
  rcases h.cases with ⟨rfl, rfl⟩ | ⟨b, off, cap, rfl, _, h1, h2, _⟩
  · exact ⟨none, 0, rfl, by simp⟩
  · exact ⟨_, _, rfl, by omega⟩
theorem RdI.cases0 {w : World} {v : Value} {zs : List Int} (h : RdI w v zs) : (zs = [] ∧ ∃ a cap, v = .slice a 0 cap) ∨
    (0 < zs.length ∧ ∃ b off cap, v = .slice (some ⟨b, off, none⟩) zs.length cap ∧ b < w.heap.size ∧ zs.length ≤ cap ∧ cap ≤ 9223372036854775807 ∧ ∀ j, j < zs.length → w.cell? ⟨b, off + j, none⟩ = some (.int .i64 (zs.getD j 0))) := by
  rcases h.cases with ⟨rfl, rfl⟩ | ⟨b, off, cap, rfl, h1, h2, h3, h4⟩
  · exact .inl ⟨rfl, none, 0, rfl⟩
  · rcases Nat.eq_zero_or_pos zs.length with h0 | h0
    · exact .inl ⟨List.eq_nil_of_length_eq_zero h0, _, _, by rw [h0]⟩
    · exact .inr ⟨h0, b, off, cap, rfl, h1, h2, h3, h4⟩
end Go.Proofs.Ytekljechannabaa
