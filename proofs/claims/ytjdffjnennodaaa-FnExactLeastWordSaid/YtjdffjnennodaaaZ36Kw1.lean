/- The keys of tableaux in the program's map. -/
import Derived.Test.YtjdffjnennodaaaZ35Kw0
import Derived.Maps.OwnOps
import Derived.Maps.OwnSet
import Derived.DeepKeys5
namespace Go.Proofs.Ytjdffjnennodaaa
set_option linter.unusedSimpArgs false
set_option linter.unusedVariables false
set_option linter.unnecessarySimpa false
set_option maxRecDepth 200000
open Go.ChangeShapes Go.WideShapes Go.ChangeAt Go.RowKit Go.Maps

theorem key_law : Keyed Try.prog 76 := Keyed.of_law (deep_law_gate laidOut (by decide +kernel) (by decide +kernel) (by kernel_rfl) (by kernel_rfl))
/-- The least bound that every number of an operator keeps. -/
theorem int_wf (a : Nat) (h : a ≤ 31) : (Lit.int .i64 (a : Int)).wf = true := by
  have : ∀ a : Fin 32, (Lit.int .i64 ((a.val : Nat) : Int)).wf = true := by decide +kernel
  exact this ⟨a, by omega⟩
theorem lits_int (d : Nat) {x : Int} (h : (Lit.int .i64 x).wf = true) : Try.prog.keyLits (d + 1) 3 [.int .i64 x] = some [.int .i64 x] := by
  unfold Program.keyLits
  rw [Try.underlying3]
  simp [h]
theorem lits_pauli (d : Nat) {x y z : Int} (hx : (Lit.int .i64 x).wf = true) (hy : (Lit.int .i64 y).wf = true) (hz : (Lit.int .i64 z).wf = true) : Try.prog.keyLits (d + 2) 62 [.int .i64 x, .int .i64 y, .int .i64 z] = some [.int .i64 x, .int .i64 y, .int .i64 z] := by
  have k2 : Try.prog.cellsOf 62 = 3 := by kernel_rfl
  have k3 : Try.prog.cellsOf 3 = 1 := by kernel_rfl
  unfold Program.keyLits
  rw [Try.underlying62]
  have e1 := lits_int d hx
  have e2 := lits_int d hy
  have e3 := lits_int d hz
  simp [k2, k3, e1, e2, e3]
theorem key_some (a b c d : PN) (ha : PNok a) (hb : PNok b) (hc : PNok c) (hd : PNok d) : ∃ l, keyOf Try.prog 76 (kv a b c d) = some l := by
  have w : ∀ {p : PN}, PNok p → (Lit.int .i64 (p.p : Int)).wf = true ∧ (Lit.int .i64 (p.x : Int)).wf = true ∧ (Lit.int .i64 (p.z : Int)).wf = true := fun h => ⟨int_wf _ (by have := h.p; omega), int_wf _ h.x, int_wf _ h.z⟩
  have h2 : 2 ≤ Try.prog.types.size := by decide +kernel
  obtain ⟨n, hn⟩ : ∃ n, Try.prog.types.size + 1 = n + 3 := ⟨Try.prog.types.size - 2, by omega⟩
  have ea := lits_pauli n (w ha).1 (w ha).2.1 (w ha).2.2
  have eb := lits_pauli n (w hb).1 (w hb).2.1 (w hb).2.2
  have ec := lits_pauli n (w hc).1 (w hc).2.1 (w hc).2.2
  have ed := lits_pauli n (w hd).1 (w hd).2.1 (w hd).2.2
  have k1 : Try.prog.keyType 76 = true := by kernel_rfl
  have k2 : Try.prog.cellsOf 62 = 3 := by kernel_rfl
  have k4 : Try.prog.cellsOf 76 = 12 := by kernel_rfl
  have k5 : (kv a b c d).formed Try.prog 76 = true := by
    simp [Value.formed, Try.underlying76, k4]
  unfold keyOf
  rw [Try.underlying76, hn]
  simp only [k1, k5, Bool.and_self, if_true]
  have e : Try.prog.keyLits (n + 3) 76 (kv a b c d).cells.toList = some ([.int .i64 (a.p : Int), .int .i64 (a.x : Int), .int .i64 (a.z : Int)] ++ [.int .i64 (b.p : Int), .int .i64 (b.x : Int), .int .i64 (b.z : Int)] ++ [.int .i64 (c.p : Int), .int .i64 (c.x : Int), .int .i64 (c.z : Int)] ++ [.int .i64 (d.p : Int), .int .i64 (d.x : Int), .int .i64 (d.z : Int)]) := by
    unfold Program.keyLits
    rw [Try.underlying76]
    simp [k2, k4, Value.cells, List.range, List.range.loop, ea, eb, ec, ed]
  rw [e]
  exact ⟨_, rfl⟩
end Go.Proofs.Ytjdffjnennodaaa
