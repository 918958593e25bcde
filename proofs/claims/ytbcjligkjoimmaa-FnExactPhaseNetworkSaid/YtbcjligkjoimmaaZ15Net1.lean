/- Circuits of controlled NOTs: the tests of the program and of the reference. -/
import Derived.Test.YtbcjligkjoimmaaZ13Circ1
import Derived.Deep.RegionHeld3
namespace Go.Proofs.Ytbcjligkjoimmaa
set_option linter.unusedSimpArgs false
set_option linter.unusedVariables false
set_option linter.unnecessarySimpa false
set_option maxRecDepth 200000
open Go.ChangeShapes Go.WideShapes Go.ChangeAt Go.RowKit

theorem gate_at {w : World} {v : Value} {gs : List E3} (h : RdE w v E3.cs 3 gs) : ∃ A c, v = .slice A gs.length c ∧ Hid (∀ k, k < gs.length → ∃ b off, A = some ⟨b, off, none⟩ ∧ b < w.heap.size ∧ w.cell? ⟨b, off + k * 3, none⟩ = some (.int .i64 (gs.getD k ⟨0, 0, 0⟩).a) ∧ w.cell? ⟨b, off + k * 3 + 1, none⟩ = some (.int .i64 (gs.getD k ⟨0, 0, 0⟩).b) ∧ w.cell? ⟨b, off + k * 3 + 2, none⟩ = some (.int .i64 (gs.getD k ⟨0, 0, 0⟩).c)) := by
  rcases h.cases0 E3.len with ⟨he, A, c, rfl⟩ | ⟨_, b, off, cap, rfl, hb, hl, hm, hc⟩
  · subst he
    exact ⟨A, c, rfl, show ∀ _, _ from fun k hk => by simp at hk⟩
  · refine ⟨_, cap, rfl, show ∀ _, _ from fun k hk => ⟨b, off, rfl, hb, ?_⟩⟩
    have e : gs.getD k ⟨0, 0, 0⟩ = gs[k] := by simp [List.getD, hk]
    rw [e]
    exact ⟨hc k hk 0 _ (by omega) rfl, hc k hk 1 _ (by omega) rfl, hc k hk 2 _ (by omega) rfl⟩
def cntTo (gs : List E3) (k : Nat) : Nat := ((gs.take k).filter fun g => decide (g.a = 9)).length
theorem cnt_succ {gs : List E3} {k : Nat} (h : k < gs.length) : cntTo gs (k + 1) = cntTo gs k + if (gs.getD k ⟨0, 0, 0⟩).a = 9 then 1 else 0 := by
  unfold cntTo
  rw [List.take_succ_eq_append_getElem h, List.filter_append, List.length_append]
  have e : gs.getD k ⟨0, 0, 0⟩ = gs[k] := by simp [List.getD, h]
  rw [e]
  by_cases hg : gs[k].a = 9 <;> simp [hg]
theorem cnt_le (gs : List E3) (k : Nat) : cntTo gs k ≤ k := by
  unfold cntTo
  exact Nat.le_trans (List.length_filter_le _ _) (List.length_take_le _ _)
def allCX (gs : List E3) : Bool := gs.all fun g => decide (g.a = 9)
theorem cnt_all (gs : List E3) : decide (cntTo gs gs.length = gs.length) = allCX gs := by
  unfold cntTo allCX
  rw [List.take_length, Bool.eq_iff_iff, decide_eq_true_eq, List.length_filter_eq_length_iff, List.all_eq_true]
def netB (d : Circ) : Bool := circB d && allCX d.gs
theorem any_all (gs : List E3) : (!(gs.any fun g => !decide (g.a = 9))) = allCX gs := by
  unfold allCX
  rw [List.not_any_eq_all_not]
  congr 1
  funext g
  by_cases h : g.a = 9 <;> simp [h]
theorem netB_0 {d : Circ} (h : circB d = false) : false = netB d := by unfold netB; rw [h]; rfl
theorem netB_1 {d : Circ} (h : circB d = true) : allCX d.gs = netB d := by unfold netB; rw [h]; rfl
end Go.Proofs.Ytbcjligkjoimmaa
