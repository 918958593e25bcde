/- A valid phase polynomial: the tests in the program and in the reference. -/
import Derived.Test.YtgonldkgghikiaaPp0
import Derived.Test.YtgonldkgghikiaaTyTerm
import Derived.BigQuiet
import Derived.Deep.QuietTactic
namespace Go.Proofs.Ytgonldkgghikiaa
set_option linter.unusedSimpArgs false
set_option linter.unusedVariables false
set_option linter.unnecessarySimpa false
set_option maxRecDepth 200000
open Go.ChangeShapes Go.WideShapes Go.ChangeAt Go.RowKit

theorem quietB {f : FuncId} {args : Array Value} {w : World} {n : Nat} {a b : Bool} (h : Calls Try.prog f args (w.drewN n) fun e w' => e = .returned (.bool a) ∧ w.drewN n = w') (he : a = b) : Calls Try.prog f args (w.drewN n) fun e w'' => e = .returned (.bool b) ∧ ∃ m, w'' = w.drewN m := by
  subst he; exact h.mono fun _ _ ⟨he, hm⟩ => ⟨he, n, hm.symm⟩
/-- The cells of the terms that one round reads. -/
theorem term_cells {w : World} {v : Value} {ts : List E2} (h : RdE w v E2.cs 2 ts) (h0 : 0 < ts.length) : ∃ b off cap, v = .slice (some ⟨b, off, none⟩) ts.length cap ∧ b < w.heap.size ∧ ts.length ≤ cap ∧ ∀ k, k < ts.length → w.cell? ⟨b, off + k * 2, none⟩ = some (.int .i64 (ts.getD k ⟨0, 0⟩).a) ∧ w.cell? ⟨b, off + k * 2 + 1, none⟩ = some (.int .i64 (ts.getD k ⟨0, 0⟩).b) := by
  rcases h.cases0 E2.len with ⟨he, _⟩ | ⟨_, b, off, cap, rfl, hb, hl, hm, hc⟩
  · subst he; simp at h0
  · refine ⟨b, off, cap, rfl, hb, hl, fun k hk => ?_⟩
    have e : ts.getD k ⟨0, 0⟩ = ts[k] := by simp [List.getD, hk]
    rw [e]
    exact ⟨hc k hk 0 _ (by omega) rfl, hc k hk 1 _ (by omega) rfl⟩
theorem termB_1 {n : Int} {ts : List E2} {k : Nat} (h : ¬ (1 ≤ (ts.getD k ⟨0, 0⟩).a ∧ (ts.getD k ⟨0, 0⟩).a ≤ 2 ^ n.toNat - 1)) : termB n ts k = false := by unfold termB; rw [decide_eq_false h]; rfl
theorem termB_2 {n : Int} {ts : List E2} {k : Nat} (h : ¬ (1 ≤ (ts.getD k ⟨0, 0⟩).b ∧ (ts.getD k ⟨0, 0⟩).b ≤ 7)) : termB n ts k = false := by unfold termB; rw [decide_eq_false h, Bool.and_false]; rfl
theorem termB_3 {n : Int} {ts : List E2} {k : Nat} (h : ¬ (k = 0 ∨ (ts.getD (k - 1) ⟨0, 0⟩).a < (ts.getD k ⟨0, 0⟩).a)) : termB n ts k = false := by
  unfold termB
  rw [show (decide (k = 0) || decide ((ts.getD (k - 1) ⟨0, 0⟩).a < (ts.getD k ⟨0, 0⟩).a)) = false from by simpa using h, Bool.and_false]
theorem termB_ok {n : Int} {ts : List E2} {k : Nat} (h1 : 1 ≤ (ts.getD k ⟨0, 0⟩).a ∧ (ts.getD k ⟨0, 0⟩).a ≤ 2 ^ n.toNat - 1) (h2 : 1 ≤ (ts.getD k ⟨0, 0⟩).b ∧ (ts.getD k ⟨0, 0⟩).b ≤ 7) (h3 : k = 0 ∨ (ts.getD (k - 1) ⟨0, 0⟩).a < (ts.getD k ⟨0, 0⟩).a) : termB n ts k = true := by
  unfold termB
  rw [decide_eq_true h1, decide_eq_true h2, show (decide (k = 0) || decide ((ts.getD (k - 1) ⟨0, 0⟩).a < (ts.getD k ⟨0, 0⟩).a)) = true from by simpa using h3]
  rfl
end Go.Proofs.Ytgonldkgghikiaa
