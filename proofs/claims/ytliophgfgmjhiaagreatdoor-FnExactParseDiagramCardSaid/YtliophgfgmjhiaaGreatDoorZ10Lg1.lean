/- The text of a log: the reference. -/
import Derived.Test.YtliophgfgmjhiaaGreatDoorZ09Lg0
import Derived.BigRegion
import Derived.BigQuiet
namespace Go.Proofs.YtliophgfgmjhiaaGreatDoor
set_option linter.unusedSimpArgs false
set_option linter.unusedVariables false
set_option linter.unnecessarySimpa false
set_option maxRecDepth 200000
open Go.ChangeShapes Go.WideShapes Go.ChangeAt Go.RowKit

theorem rw_at {w : World} {v : Value} {gs : List E3} (h : RdE w v E3.cs 3 gs) : ∃ A c, v = .slice A gs.length c ∧ Hid (∀ k, k < gs.length → ∃ b off, A = some ⟨b, off, none⟩ ∧ b < w.heap.size ∧ w.cell? ⟨b, off + k * 3, none⟩ = some (.int .i64 (gs.getD k ⟨0, 0, 0⟩).a) ∧ w.cell? ⟨b, off + k * 3 + 1, none⟩ = some (.int .i64 (gs.getD k ⟨0, 0, 0⟩).b) ∧ w.cell? ⟨b, off + k * 3 + 2, none⟩ = some (.int .i64 (gs.getD k ⟨0, 0, 0⟩).c)) := by
  rcases h.cases0 E3.len with ⟨he, A, c, rfl⟩ | ⟨_, b, off, cap, rfl, hb, hl, hm, hc⟩
  · subst he
    exact ⟨A, c, rfl, show ∀ _, _ from fun k hk => by simp at hk⟩
  · refine ⟨_, cap, rfl, show ∀ _, _ from fun k hk => ⟨b, off, rfl, hb, ?_⟩⟩
    have e : gs.getD k ⟨0, 0, 0⟩ = gs[k] := by simp [List.getD, hk]
    rw [e]
    exact ⟨hc k hk 0 _ (by decide) rfl, hc k hk 1 _ (by decide) rfl, hc k hk 2 _ (by decide) rfl⟩
theorem lit_two (w : World) (b c : Int) (B : Nat) (hB : w.heap.size = B) : RdI (w.alloc (.cells #[.int .i64 b, .int .i64 c] 3)) (.slice (some ⟨B, 0, none⟩) 2 2) [b, c] := by
  subst hB
  refine ⟨by simp, .inr ⟨w.heap.size, 0, 2, rfl, by simp, by simp, by decide, fun j u hj => ?_⟩⟩
  have := news_cells w [.int .i64 b, .int .i64 c] 3 j u hj
  rwa [Addr.add_lit] at this
theorem allIn_two (b c : Int) : allIn [b, c] 0 39 = (decide (0 ≤ b ∧ b ≤ 39) && decide (0 ≤ c ∧ c ≤ 39)) := by simp [allIn]
theorem ok_two {a b c : Int} (ha : a = 1 ∨ a = 4) : okStep ⟨a, b, c⟩ = allIn [b, c] 0 39 := by
  rw [allIn_two]; unfold okStep twoR
  rcases ha with rfl | rfl <;> simp
theorem ok_one {a b c : Int} (h1 : ¬ a = 1) (h4 : ¬ a = 4) (ha : 1 ≤ a ∧ a ≤ 5) : okStep ⟨a, b, c⟩ = (allIn [b, c] 0 39 && decide (c = 0)) := by
  rw [allIn_two]; unfold okStep twoR
  simp [h1, h4, ha]
theorem ok_none {a b c : Int} (ha : ¬ (1 ≤ a ∧ a ≤ 5)) : okStep ⟨a, b, c⟩ = false := by
  unfold okStep
  rw [decide_eq_false ha]; rfl
end Go.Proofs.YtliophgfgmjhiaaGreatDoor
