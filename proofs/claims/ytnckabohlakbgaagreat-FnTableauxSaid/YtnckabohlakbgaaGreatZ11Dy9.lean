/- The program's cells of a gate on one qubit. -/
import Derived.Test.YtnckabohlakbgaaGreatZ10M
import Derived.BigRegion
import Derived.BigQuiet
import Derived.Maps.OwnOps
namespace Go.Proofs.YtnckabohlakbgaaGreat
set_option linter.unusedSimpArgs false
set_option linter.unusedVariables false
set_option linter.unnecessarySimpa false
set_option maxRecDepth 200000
open Go.ChangeShapes Go.WideShapes Go.ChangeAt Go.RowKit Go.Maps

/-- An entry of a map's literal. -/
theorem wpList_insert_own {H : Type} {P : Program} (w : World) {ops : Array Oper} {rest : List Oper} {o : Oper} {a : Act} {Q : Exit → Act → World → Prop}
    (hg : o.guard = none) (m x v : Operand) (t : TypeId) (hop : o.op = Op.insert t m x v)
    (k e : TypeId) (K : Keyed P k) (ht : P.underlying t = some (.map k e)) (R : Value → Option (DataW H × List MemPlace)) (b n : Nat) (D : DataW H)
    (hm : a.eval m = .map (some b)) (hown : w.ownsMap P k R b n D) (hn : n < maxLen) (key val : Value) (kl : Lit) (hx : a.eval x = key) (hv : a.eval v = val) (hkey : keyOf P k key = some kl)
    (d : DataW H) (ps : List MemPlace) (hval : R val = some (d, ps))
    (hK : ∀ w', w'.ownsMap P k R b (n + 1) (D.put kl d) → w.grownBy w' (some b) → wpList P ops Q rest (a.put o.dst undef) w') :
    wpList P ops Q (o :: rest) a w := by
  refine wpList_plain hg fun K' hK' => ?_
  obtain ⟨w', hrun, r1, r2⟩ := hown.update K ht hn hkey hval
  unfold Oper.wp
  simp [execOp, hop, hm, hx, hv, hrun, Result.andThen]
  exact hK' _ _ (hK w' r1 r2)
theorem int_law : Keyed Tryz.prog 3 := int_keyed Tryz.underlying3
theorem zero_int (w : World) : (zeroValue 3).run Tryz.prog w = .ok (.int .i64 0) w := by kernel_rfl
/-- A state with a map of the call's own beside the boxes. -/
structure Em {H : Type} (w0 w : World) (L : List (Nat × List Value)) (k e : TypeId) (B n : Nat) (D : DataW H) : Prop where
  bx : Sb w0.heap.size w0 w L
  own : w.ownsMap Tryz.prog k (plainElem Tryz.prog e) B n D
  ge : w0.heap.size ≤ B
  ne : ∀ p ∈ L, p.1 ≠ B
theorem Em.step {H : Type} {w0 w w' : World} {L : List (Nat × List Value)} {k e : TypeId} {B n n2 : Nat} {D D2 : DataW H} (h : Em w0 w L k e B n D) (ho : w'.ownsMap Tryz.prog k (plainElem Tryz.prog e) B n2 D2) (hg : w.grownBy w' (some B)) : Em w0 w' L k e B n2 D2 :=
  ⟨h.bx.kept hg (fun b hb => by injection hb with hb; subst hb; exact ⟨h.ge, h.ne⟩), ho, h.ge, h.ne⟩
theorem Em.call {H : Type} {w0 w w' : World} {L : List (Nat × List Value)} {k e : TypeId} {B n : Nat} {D : DataW H} (h : Em w0 w L k e B n D) (hb : Below w.heap.size w w') : Em w0 w' L k e B n D :=
  ⟨h.bx.call hb, h.own.kept (row := none) ⟨hb.os, hb.tape, hb.output, hb.size, fun i hi _ => hb.block i hi⟩ (by simp), h.ge, h.ne⟩
theorem Em.entry (w : World) : Em (H := Unit) w (((w.alloc (.cells #[.int .i64 0, .int .i64 0, .int .i64 0, .int .i64 0, .int .i64 0] 86)).alloc (.cells #[.int .i64 1, .int .i64 0, .int .i64 0, .int .i64 0, .int .i64 1] 86)).alloc (.map #[] 0))
    [(w.heap.size + 1, [.int .i64 1, .int .i64 0, .int .i64 0, .int .i64 0, .int .i64 1]), (w.heap.size, [.int .i64 0, .int .i64 0, .int .i64 0, .int .i64 0, .int .i64 0])] 3 3 (w.heap.size + 1 + 1) 0 (.map []) := by
  refine ⟨(((Sb.nil w).push [.int .i64 0, .int .i64 0, .int .i64 0, .int .i64 0, .int .i64 0] 86 rfl).push [.int .i64 1, .int .i64 0, .int .i64 0, .int .i64 0, .int .i64 1] 86 (g := w.heap.size + 1) (by simp)).alloc (.map #[] 0), ?_, by omega, ?_⟩
  · have h := World.ownsMap_made (H := Unit) ((w.alloc (.cells #[.int .i64 0, .int .i64 0, .int .i64 0, .int .i64 0, .int .i64 0] 86)).alloc (.cells #[.int .i64 1, .int .i64 0, .int .i64 0, .int .i64 0, .int .i64 1] 86)) Tryz.prog 3 (plainElem Tryz.prog 3)
    simpa using h
  · intro p hp
    simp only [List.mem_cons, List.not_mem_nil, or_false] at hp
    rcases hp with rfl | rfl <;> (dsimp only; omega)
def turnD : DataW Unit := (((((DataW.map []).put (.int .i64 4) (.lit (.int .i64 4))).put (.int .i64 5) (.lit (.int .i64 2))).put (.int .i64 6) (.lit (.int .i64 6))).put (.int .i64 7) (.lit (.int .i64 1))).put (.int .i64 8) (.lit (.int .i64 7))
theorem look4 {c : Int} (h : turnD.atKey (.int .i64 4) (.lit (.int .i64 0)) = .lit (.int .i64 c)) : c = 4 := by
  rw [show turnD.atKey (.int .i64 4) (.lit (.int .i64 0)) = .lit (.int .i64 4) from by kernel_rfl] at h; injection h with h; injection h with _ h; exact h.symm
theorem look5 {c : Int} (h : turnD.atKey (.int .i64 5) (.lit (.int .i64 0)) = .lit (.int .i64 c)) : c = 2 := by
  rw [show turnD.atKey (.int .i64 5) (.lit (.int .i64 0)) = .lit (.int .i64 2) from by kernel_rfl] at h; injection h with h; injection h with _ h; exact h.symm
theorem look6 {c : Int} (h : turnD.atKey (.int .i64 6) (.lit (.int .i64 0)) = .lit (.int .i64 c)) : c = 6 := by
  rw [show turnD.atKey (.int .i64 6) (.lit (.int .i64 0)) = .lit (.int .i64 6) from by kernel_rfl] at h; injection h with h; injection h with _ h; exact h.symm
/-- The cell of a gate on one qubit (1 H, 2 X, 3 Y, 4 Z, 5 S, 6 S adjoint). -/
def entD (k i j : Nat) : Dy :=
  if k = 1 then (if i = 1 ∧ j = 1 then ⟨⟨-1, 0, 0, 0⟩, 1⟩ else ⟨⟨1, 0, 0, 0⟩, 1⟩)
  else if k = 2 then (if i = j then whl 0 else whl 1)
  else if k = 3 then (if i = j then whl 0 else phs (2 + 4 * j))
  else if i ≠ j then whl 0 else if i = 0 then whl 1 else if k = 4 then phs 4 else if k = 5 then phs 2 else phs 6
set_option maxHeartbeats 64000000 in
theorem impl_entry_ok (k i j : Nat) (w : World) (h1 : 1 ≤ k) (h6 : k ≤ 6) (hi : i ≤ 1) (hj : j ≤ 1) :
    Calls Tryz.prog 90 #[.int .i64 (k : Int), .int .i64 (i : Int), .int .i64 (j : Int)] w fun r w' => r = .returned (entD k i j).v ∧ Below w.heap.size w w' := by
  have E := Lib.hid (Em.entry w)
  have hmm := @run_makeMap Tryz.prog
  rcases (show k = 1 ∨ k = 2 ∨ k = 3 ∨ k = 4 ∨ k = 5 ∨ k = 6 by omega) with rfl | rfl | rfl | rfl | rfl | rfl <;> rcases (show i = 0 ∨ i = 1 by omega) with rfl | rfl <;> rcases (show j = 0 ∨ j = 1 by omega) with rfl | rfl
  · go_enter Tryz.func90, Tryz.ntmps90
    go_wp2_with (first | (refine wpList_insert_own _ rfl _ _ _ 132 rfl 3 3 int_law Tryz.underlying132 (plainElem Tryz.prog 3) (w.heap.size + 1 + 1) _ _ rfl E.out.own (by unfold maxLen; omega) _ _ _ rfl rfl (keyOf_int_mk Tryz.underlying3 (by decide)) _ [] (plainElem_int Tryz.underlying3 (by decide)) ?_; intro w1 hown1 hg1; replace E := Lib.hid (E.out.step hown1 hg1); clear hown1 hg1; obtain ⟨⟨c0, c1, c2, c3, c4⟩, f0, f1, f2, f3, f4⟩ := (E.out.bx.at 1 rfl).c5; obtain ⟨⟨d0, d1, d2, d3, d4⟩, g0, g1, g2, g3, g4⟩ := (E.out.bx.at 0 rfl).c5))
    have S9 := Lib.hid (((((E.out.bx.set1 0 (.int .i64 1)).set1 1 (.int .i64 0)).set1 2 (.int .i64 0)).set1 3 (.int .i64 0)).set1 4 (.int .i64 1))
    clear c0 c1 c2 c3 c4 f0 f1 f2 f3 f4 d0 d1 d2 d3 d4 g0 g1 g2 g3 g4
    generalize ((((w1.setCell ⟨w.heap.size, 0, none⟩ (.int .i64 1)).setCell ⟨w.heap.size, 1, none⟩ (.int .i64 0)).setCell ⟨w.heap.size, 2, none⟩ (.int .i64 0)).setCell ⟨w.heap.size, 3, none⟩ (.int .i64 0)).setCell ⟨w.heap.size, 4, none⟩ (.int .i64 1) = w9 at *
    obtain ⟨⟨c0, c1, c2, c3, c4⟩, _⟩ := (S9.out.at 1 rfl).c5
    refine bodyPost_ret (v := .agg #[.int .i64 1, .int .i64 0, .int .i64 0, .int .i64 0, .int .i64 1]) (by simp [results, Tryz.results90, go_sem, c0, c1, c2, c3, c4]) rfl ⟨rfl, S9.out.bel⟩
  · go_enter Tryz.func90, Tryz.ntmps90
    go_wp2_with (first | (refine wpList_insert_own _ rfl _ _ _ 132 rfl 3 3 int_law Tryz.underlying132 (plainElem Tryz.prog 3) (w.heap.size + 1 + 1) _ _ rfl E.out.own (by unfold maxLen; omega) _ _ _ rfl rfl (keyOf_int_mk Tryz.underlying3 (by decide)) _ [] (plainElem_int Tryz.underlying3 (by decide)) ?_; intro w1 hown1 hg1; replace E := Lib.hid (E.out.step hown1 hg1); clear hown1 hg1; obtain ⟨⟨c0, c1, c2, c3, c4⟩, f0, f1, f2, f3, f4⟩ := (E.out.bx.at 1 rfl).c5; obtain ⟨⟨d0, d1, d2, d3, d4⟩, g0, g1, g2, g3, g4⟩ := (E.out.bx.at 0 rfl).c5))
    have S9 := Lib.hid (((((E.out.bx.set1 0 (.int .i64 1)).set1 1 (.int .i64 0)).set1 2 (.int .i64 0)).set1 3 (.int .i64 0)).set1 4 (.int .i64 1))
    clear c0 c1 c2 c3 c4 f0 f1 f2 f3 f4 d0 d1 d2 d3 d4 g0 g1 g2 g3 g4
    generalize ((((w1.setCell ⟨w.heap.size, 0, none⟩ (.int .i64 1)).setCell ⟨w.heap.size, 1, none⟩ (.int .i64 0)).setCell ⟨w.heap.size, 2, none⟩ (.int .i64 0)).setCell ⟨w.heap.size, 3, none⟩ (.int .i64 0)).setCell ⟨w.heap.size, 4, none⟩ (.int .i64 1) = w9 at *
    obtain ⟨⟨c0, c1, c2, c3, c4⟩, _⟩ := (S9.out.at 1 rfl).c5
    refine bodyPost_ret (v := .agg #[.int .i64 1, .int .i64 0, .int .i64 0, .int .i64 0, .int .i64 1]) (by simp [results, Tryz.results90, go_sem, c0, c1, c2, c3, c4]) rfl ⟨rfl, S9.out.bel⟩
  · go_enter Tryz.func90, Tryz.ntmps90
    go_wp2_with (first | (refine wpList_insert_own _ rfl _ _ _ 132 rfl 3 3 int_law Tryz.underlying132 (plainElem Tryz.prog 3) (w.heap.size + 1 + 1) _ _ rfl E.out.own (by unfold maxLen; omega) _ _ _ rfl rfl (keyOf_int_mk Tryz.underlying3 (by decide)) _ [] (plainElem_int Tryz.underlying3 (by decide)) ?_; intro w1 hown1 hg1; replace E := Lib.hid (E.out.step hown1 hg1); clear hown1 hg1; obtain ⟨⟨c0, c1, c2, c3, c4⟩, f0, f1, f2, f3, f4⟩ := (E.out.bx.at 1 rfl).c5; obtain ⟨⟨d0, d1, d2, d3, d4⟩, g0, g1, g2, g3, g4⟩ := (E.out.bx.at 0 rfl).c5))
    have S9 := Lib.hid (((((E.out.bx.set1 0 (.int .i64 1)).set1 1 (.int .i64 0)).set1 2 (.int .i64 0)).set1 3 (.int .i64 0)).set1 4 (.int .i64 1))
    clear c0 c1 c2 c3 c4 f0 f1 f2 f3 f4 d0 d1 d2 d3 d4 g0 g1 g2 g3 g4
    generalize ((((w1.setCell ⟨w.heap.size, 0, none⟩ (.int .i64 1)).setCell ⟨w.heap.size, 1, none⟩ (.int .i64 0)).setCell ⟨w.heap.size, 2, none⟩ (.int .i64 0)).setCell ⟨w.heap.size, 3, none⟩ (.int .i64 0)).setCell ⟨w.heap.size, 4, none⟩ (.int .i64 1) = w9 at *
    obtain ⟨⟨c0, c1, c2, c3, c4⟩, _⟩ := (S9.out.at 1 rfl).c5
    refine bodyPost_ret (v := .agg #[.int .i64 1, .int .i64 0, .int .i64 0, .int .i64 0, .int .i64 1]) (by simp [results, Tryz.results90, go_sem, c0, c1, c2, c3, c4]) rfl ⟨rfl, S9.out.bel⟩
  · go_enter Tryz.func90, Tryz.ntmps90
    go_wp2_with (first | (refine wpList_insert_own _ rfl _ _ _ 132 rfl 3 3 int_law Tryz.underlying132 (plainElem Tryz.prog 3) (w.heap.size + 1 + 1) _ _ rfl E.out.own (by unfold maxLen; omega) _ _ _ rfl rfl (keyOf_int_mk Tryz.underlying3 (by decide)) _ [] (plainElem_int Tryz.underlying3 (by decide)) ?_; intro w1 hown1 hg1; replace E := Lib.hid (E.out.step hown1 hg1); clear hown1 hg1; obtain ⟨⟨c0, c1, c2, c3, c4⟩, f0, f1, f2, f3, f4⟩ := (E.out.bx.at 1 rfl).c5; obtain ⟨⟨d0, d1, d2, d3, d4⟩, g0, g1, g2, g3, g4⟩ := (E.out.bx.at 0 rfl).c5))
    have S9 := Lib.hid ((((((E.out.bx.set0 0 (.int .i64 (-1))).set1 0 (.int .i64 (-1))).set1 1 (.int .i64 0)).set1 2 (.int .i64 0)).set1 3 (.int .i64 0)).set1 4 (.int .i64 1))
    clear c0 c1 c2 c3 c4 f0 f1 f2 f3 f4 d0 d1 d2 d3 d4 g0 g1 g2 g3 g4
    generalize (((((w1.setCell ⟨w.heap.size + 1, 0, none⟩ (.int .i64 (-1))).setCell ⟨w.heap.size, 0, none⟩ (.int .i64 (-1))).setCell ⟨w.heap.size, 1, none⟩ (.int .i64 0)).setCell ⟨w.heap.size, 2, none⟩ (.int .i64 0)).setCell ⟨w.heap.size, 3, none⟩ (.int .i64 0)).setCell ⟨w.heap.size, 4, none⟩ (.int .i64 1) = w9 at *
    obtain ⟨⟨c0, c1, c2, c3, c4⟩, _⟩ := (S9.out.at 1 rfl).c5
    refine bodyPost_ret (v := .agg #[.int .i64 (-1), .int .i64 0, .int .i64 0, .int .i64 0, .int .i64 1]) (by simp [results, Tryz.results90, go_sem, c0, c1, c2, c3, c4]) rfl ⟨rfl, S9.out.bel⟩
  · go_enter Tryz.func90, Tryz.ntmps90
    go_wp2_with (first | (refine wpList_insert_own _ rfl _ _ _ 132 rfl 3 3 int_law Tryz.underlying132 (plainElem Tryz.prog 3) (w.heap.size + 1 + 1) _ _ rfl E.out.own (by unfold maxLen; omega) _ _ _ rfl rfl (keyOf_int_mk Tryz.underlying3 (by decide)) _ [] (plainElem_int Tryz.underlying3 (by decide)) ?_; intro w1 hown1 hg1; replace E := Lib.hid (E.out.step hown1 hg1); clear hown1 hg1; obtain ⟨⟨c0, c1, c2, c3, c4⟩, f0, f1, f2, f3, f4⟩ := (E.out.bx.at 1 rfl).c5; obtain ⟨⟨d0, d1, d2, d3, d4⟩, g0, g1, g2, g3, g4⟩ := (E.out.bx.at 0 rfl).c5))
    have S9 := Lib.hid (((((E.out.bx.set1 0 (.int .i64 0)).set1 1 (.int .i64 0)).set1 2 (.int .i64 0)).set1 3 (.int .i64 0)).set1 4 (.int .i64 0))
    clear c0 c1 c2 c3 c4 f0 f1 f2 f3 f4 d0 d1 d2 d3 d4 g0 g1 g2 g3 g4
    generalize ((((w1.setCell ⟨w.heap.size, 0, none⟩ (.int .i64 0)).setCell ⟨w.heap.size, 1, none⟩ (.int .i64 0)).setCell ⟨w.heap.size, 2, none⟩ (.int .i64 0)).setCell ⟨w.heap.size, 3, none⟩ (.int .i64 0)).setCell ⟨w.heap.size, 4, none⟩ (.int .i64 0) = w9 at *
    obtain ⟨⟨c0, c1, c2, c3, c4⟩, _⟩ := (S9.out.at 1 rfl).c5
    refine bodyPost_ret (v := .agg #[.int .i64 0, .int .i64 0, .int .i64 0, .int .i64 0, .int .i64 0]) (by simp [results, Tryz.results90, go_sem, c0, c1, c2, c3, c4]) rfl ⟨rfl, S9.out.bel⟩
  · go_enter Tryz.func90, Tryz.ntmps90
    go_wp2_with (first | (refine wpList_insert_own _ rfl _ _ _ 132 rfl 3 3 int_law Tryz.underlying132 (plainElem Tryz.prog 3) (w.heap.size + 1 + 1) _ _ rfl E.out.own (by unfold maxLen; omega) _ _ _ rfl rfl (keyOf_int_mk Tryz.underlying3 (by decide)) _ [] (plainElem_int Tryz.underlying3 (by decide)) ?_; intro w1 hown1 hg1; replace E := Lib.hid (E.out.step hown1 hg1); clear hown1 hg1; obtain ⟨⟨c0, c1, c2, c3, c4⟩, f0, f1, f2, f3, f4⟩ := (E.out.bx.at 1 rfl).c5; obtain ⟨⟨d0, d1, d2, d3, d4⟩, g0, g1, g2, g3, g4⟩ := (E.out.bx.at 0 rfl).c5))
    clear c0 c1 c2 c3 c4 d0 d1 d2 d3 d4 f0 f1 f2 f3 f4 g0 g1 g2 g3 g4
    refine (impl_whole_ok 1 _).mono ?_; rintro e2 w2 ⟨rfl, hb2⟩
    rw [show (whl 1).v = (.agg #[.int .i64 1, .int .i64 0, .int .i64 0, .int .i64 0, .int .i64 0] : Value) from rfl]
    replace E := Lib.hid (E.out.call hb2)
    clear hb2
    obtain ⟨⟨c0, c1, c2, c3, c4⟩, f0, f1, f2, f3, f4⟩ := (E.out.bx.at 1 rfl).c5
    have S9 := Lib.hid (((((E.out.bx.set1 0 (.int .i64 1)).set1 1 (.int .i64 0)).set1 2 (.int .i64 0)).set1 3 (.int .i64 0)).set1 4 (.int .i64 0))
    go_wp2_with fail
    clear c0 c1 c2 c3 c4 f0 f1 f2 f3 f4
    generalize ((((w2.setCell ⟨w.heap.size, 0, none⟩ (.int .i64 1)).setCell ⟨w.heap.size, 1, none⟩ (.int .i64 0)).setCell ⟨w.heap.size, 2, none⟩ (.int .i64 0)).setCell ⟨w.heap.size, 3, none⟩ (.int .i64 0)).setCell ⟨w.heap.size, 4, none⟩ (.int .i64 0) = w9 at *
    obtain ⟨⟨c0, c1, c2, c3, c4⟩, _⟩ := (S9.out.at 1 rfl).c5
    refine bodyPost_ret (v := .agg #[.int .i64 1, .int .i64 0, .int .i64 0, .int .i64 0, .int .i64 0]) (by simp [results, Tryz.results90, go_sem, c0, c1, c2, c3, c4]) rfl ⟨rfl, S9.out.bel⟩
  · go_enter Tryz.func90, Tryz.ntmps90
    go_wp2_with (first | (refine wpList_insert_own _ rfl _ _ _ 132 rfl 3 3 int_law Tryz.underlying132 (plainElem Tryz.prog 3) (w.heap.size + 1 + 1) _ _ rfl E.out.own (by unfold maxLen; omega) _ _ _ rfl rfl (keyOf_int_mk Tryz.underlying3 (by decide)) _ [] (plainElem_int Tryz.underlying3 (by decide)) ?_; intro w1 hown1 hg1; replace E := Lib.hid (E.out.step hown1 hg1); clear hown1 hg1; obtain ⟨⟨c0, c1, c2, c3, c4⟩, f0, f1, f2, f3, f4⟩ := (E.out.bx.at 1 rfl).c5; obtain ⟨⟨d0, d1, d2, d3, d4⟩, g0, g1, g2, g3, g4⟩ := (E.out.bx.at 0 rfl).c5))
    clear c0 c1 c2 c3 c4 d0 d1 d2 d3 d4 f0 f1 f2 f3 f4 g0 g1 g2 g3 g4
    refine (impl_whole_ok 1 _).mono ?_; rintro e2 w2 ⟨rfl, hb2⟩
    rw [show (whl 1).v = (.agg #[.int .i64 1, .int .i64 0, .int .i64 0, .int .i64 0, .int .i64 0] : Value) from rfl]
    replace E := Lib.hid (E.out.call hb2)
    clear hb2
    obtain ⟨⟨c0, c1, c2, c3, c4⟩, f0, f1, f2, f3, f4⟩ := (E.out.bx.at 1 rfl).c5
    have S9 := Lib.hid (((((E.out.bx.set1 0 (.int .i64 1)).set1 1 (.int .i64 0)).set1 2 (.int .i64 0)).set1 3 (.int .i64 0)).set1 4 (.int .i64 0))
    go_wp2_with fail
    clear c0 c1 c2 c3 c4 f0 f1 f2 f3 f4
    generalize ((((w2.setCell ⟨w.heap.size, 0, none⟩ (.int .i64 1)).setCell ⟨w.heap.size, 1, none⟩ (.int .i64 0)).setCell ⟨w.heap.size, 2, none⟩ (.int .i64 0)).setCell ⟨w.heap.size, 3, none⟩ (.int .i64 0)).setCell ⟨w.heap.size, 4, none⟩ (.int .i64 0) = w9 at *
    obtain ⟨⟨c0, c1, c2, c3, c4⟩, _⟩ := (S9.out.at 1 rfl).c5
    refine bodyPost_ret (v := .agg #[.int .i64 1, .int .i64 0, .int .i64 0, .int .i64 0, .int .i64 0]) (by simp [results, Tryz.results90, go_sem, c0, c1, c2, c3, c4]) rfl ⟨rfl, S9.out.bel⟩
  · go_enter Tryz.func90, Tryz.ntmps90
    go_wp2_with (first | (refine wpList_insert_own _ rfl _ _ _ 132 rfl 3 3 int_law Tryz.underlying132 (plainElem Tryz.prog 3) (w.heap.size + 1 + 1) _ _ rfl E.out.own (by unfold maxLen; omega) _ _ _ rfl rfl (keyOf_int_mk Tryz.underlying3 (by decide)) _ [] (plainElem_int Tryz.underlying3 (by decide)) ?_; intro w1 hown1 hg1; replace E := Lib.hid (E.out.step hown1 hg1); clear hown1 hg1; obtain ⟨⟨c0, c1, c2, c3, c4⟩, f0, f1, f2, f3, f4⟩ := (E.out.bx.at 1 rfl).c5; obtain ⟨⟨d0, d1, d2, d3, d4⟩, g0, g1, g2, g3, g4⟩ := (E.out.bx.at 0 rfl).c5))
    have S9 := Lib.hid (((((E.out.bx.set1 0 (.int .i64 0)).set1 1 (.int .i64 0)).set1 2 (.int .i64 0)).set1 3 (.int .i64 0)).set1 4 (.int .i64 0))
    clear c0 c1 c2 c3 c4 f0 f1 f2 f3 f4 d0 d1 d2 d3 d4 g0 g1 g2 g3 g4
    generalize ((((w1.setCell ⟨w.heap.size, 0, none⟩ (.int .i64 0)).setCell ⟨w.heap.size, 1, none⟩ (.int .i64 0)).setCell ⟨w.heap.size, 2, none⟩ (.int .i64 0)).setCell ⟨w.heap.size, 3, none⟩ (.int .i64 0)).setCell ⟨w.heap.size, 4, none⟩ (.int .i64 0) = w9 at *
    obtain ⟨⟨c0, c1, c2, c3, c4⟩, _⟩ := (S9.out.at 1 rfl).c5
    refine bodyPost_ret (v := .agg #[.int .i64 0, .int .i64 0, .int .i64 0, .int .i64 0, .int .i64 0]) (by simp [results, Tryz.results90, go_sem, c0, c1, c2, c3, c4]) rfl ⟨rfl, S9.out.bel⟩
  · go_enter Tryz.func90, Tryz.ntmps90
    go_wp2_with (first | (refine wpList_insert_own _ rfl _ _ _ 132 rfl 3 3 int_law Tryz.underlying132 (plainElem Tryz.prog 3) (w.heap.size + 1 + 1) _ _ rfl E.out.own (by unfold maxLen; omega) _ _ _ rfl rfl (keyOf_int_mk Tryz.underlying3 (by decide)) _ [] (plainElem_int Tryz.underlying3 (by decide)) ?_; intro w1 hown1 hg1; replace E := Lib.hid (E.out.step hown1 hg1); clear hown1 hg1; obtain ⟨⟨c0, c1, c2, c3, c4⟩, f0, f1, f2, f3, f4⟩ := (E.out.bx.at 1 rfl).c5; obtain ⟨⟨d0, d1, d2, d3, d4⟩, g0, g1, g2, g3, g4⟩ := (E.out.bx.at 0 rfl).c5))
    have S9 := Lib.hid (((((E.out.bx.set1 0 (.int .i64 0)).set1 1 (.int .i64 0)).set1 2 (.int .i64 0)).set1 3 (.int .i64 0)).set1 4 (.int .i64 0))
    clear c0 c1 c2 c3 c4 f0 f1 f2 f3 f4 d0 d1 d2 d3 d4 g0 g1 g2 g3 g4
    generalize ((((w1.setCell ⟨w.heap.size, 0, none⟩ (.int .i64 0)).setCell ⟨w.heap.size, 1, none⟩ (.int .i64 0)).setCell ⟨w.heap.size, 2, none⟩ (.int .i64 0)).setCell ⟨w.heap.size, 3, none⟩ (.int .i64 0)).setCell ⟨w.heap.size, 4, none⟩ (.int .i64 0) = w9 at *
    obtain ⟨⟨c0, c1, c2, c3, c4⟩, _⟩ := (S9.out.at 1 rfl).c5
    refine bodyPost_ret (v := .agg #[.int .i64 0, .int .i64 0, .int .i64 0, .int .i64 0, .int .i64 0]) (by simp [results, Tryz.results90, go_sem, c0, c1, c2, c3, c4]) rfl ⟨rfl, S9.out.bel⟩
  · go_enter Tryz.func90, Tryz.ntmps90
    go_wp2_with (first | (refine wpList_insert_own _ rfl _ _ _ 132 rfl 3 3 int_law Tryz.underlying132 (plainElem Tryz.prog 3) (w.heap.size + 1 + 1) _ _ rfl E.out.own (by unfold maxLen; omega) _ _ _ rfl rfl (keyOf_int_mk Tryz.underlying3 (by decide)) _ [] (plainElem_int Tryz.underlying3 (by decide)) ?_; intro w1 hown1 hg1; replace E := Lib.hid (E.out.step hown1 hg1); clear hown1 hg1; obtain ⟨⟨c0, c1, c2, c3, c4⟩, f0, f1, f2, f3, f4⟩ := (E.out.bx.at 1 rfl).c5; obtain ⟨⟨d0, d1, d2, d3, d4⟩, g0, g1, g2, g3, g4⟩ := (E.out.bx.at 0 rfl).c5))
    clear c0 c1 c2 c3 c4 d0 d1 d2 d3 d4 f0 f1 f2 f3 f4 g0 g1 g2 g3 g4
    refine (impl_phase_ok 6 _ (by decide)).mono ?_; rintro e2 w2 ⟨rfl, hb2⟩
    rw [show (phs 6).v = (.agg #[.int .i64 0, .int .i64 0, .int .i64 (-1), .int .i64 0, .int .i64 0] : Value) from rfl]
    replace E := Lib.hid (E.out.call hb2)
    clear hb2
    obtain ⟨⟨c0, c1, c2, c3, c4⟩, f0, f1, f2, f3, f4⟩ := (E.out.bx.at 1 rfl).c5
    have S9 := Lib.hid (((((E.out.bx.set1 0 (.int .i64 0)).set1 1 (.int .i64 0)).set1 2 (.int .i64 (-1))).set1 3 (.int .i64 0)).set1 4 (.int .i64 0))
    go_wp2_with fail
    clear c0 c1 c2 c3 c4 f0 f1 f2 f3 f4
    generalize ((((w2.setCell ⟨w.heap.size, 0, none⟩ (.int .i64 0)).setCell ⟨w.heap.size, 1, none⟩ (.int .i64 0)).setCell ⟨w.heap.size, 2, none⟩ (.int .i64 (-1))).setCell ⟨w.heap.size, 3, none⟩ (.int .i64 0)).setCell ⟨w.heap.size, 4, none⟩ (.int .i64 0) = w9 at *
    obtain ⟨⟨c0, c1, c2, c3, c4⟩, _⟩ := (S9.out.at 1 rfl).c5
    refine bodyPost_ret (v := .agg #[.int .i64 0, .int .i64 0, .int .i64 (-1), .int .i64 0, .int .i64 0]) (by simp [results, Tryz.results90, go_sem, c0, c1, c2, c3, c4]) rfl ⟨rfl, S9.out.bel⟩
  · go_enter Tryz.func90, Tryz.ntmps90
    go_wp2_with (first | (refine wpList_insert_own _ rfl _ _ _ 132 rfl 3 3 int_law Tryz.underlying132 (plainElem Tryz.prog 3) (w.heap.size + 1 + 1) _ _ rfl E.out.own (by unfold maxLen; omega) _ _ _ rfl rfl (keyOf_int_mk Tryz.underlying3 (by decide)) _ [] (plainElem_int Tryz.underlying3 (by decide)) ?_; intro w1 hown1 hg1; replace E := Lib.hid (E.out.step hown1 hg1); clear hown1 hg1; obtain ⟨⟨c0, c1, c2, c3, c4⟩, f0, f1, f2, f3, f4⟩ := (E.out.bx.at 1 rfl).c5; obtain ⟨⟨d0, d1, d2, d3, d4⟩, g0, g1, g2, g3, g4⟩ := (E.out.bx.at 0 rfl).c5))
    clear c0 c1 c2 c3 c4 d0 d1 d2 d3 d4 f0 f1 f2 f3 f4 g0 g1 g2 g3 g4
    refine (impl_phase_ok 2 _ (by decide)).mono ?_; rintro e2 w2 ⟨rfl, hb2⟩
    rw [show (phs 2).v = (.agg #[.int .i64 0, .int .i64 0, .int .i64 1, .int .i64 0, .int .i64 0] : Value) from rfl]
    replace E := Lib.hid (E.out.call hb2)
    clear hb2
    obtain ⟨⟨c0, c1, c2, c3, c4⟩, f0, f1, f2, f3, f4⟩ := (E.out.bx.at 1 rfl).c5
    have S9 := Lib.hid (((((E.out.bx.set1 0 (.int .i64 0)).set1 1 (.int .i64 0)).set1 2 (.int .i64 1)).set1 3 (.int .i64 0)).set1 4 (.int .i64 0))
    go_wp2_with fail
    clear c0 c1 c2 c3 c4 f0 f1 f2 f3 f4
    generalize ((((w2.setCell ⟨w.heap.size, 0, none⟩ (.int .i64 0)).setCell ⟨w.heap.size, 1, none⟩ (.int .i64 0)).setCell ⟨w.heap.size, 2, none⟩ (.int .i64 1)).setCell ⟨w.heap.size, 3, none⟩ (.int .i64 0)).setCell ⟨w.heap.size, 4, none⟩ (.int .i64 0) = w9 at *
    obtain ⟨⟨c0, c1, c2, c3, c4⟩, _⟩ := (S9.out.at 1 rfl).c5
    refine bodyPost_ret (v := .agg #[.int .i64 0, .int .i64 0, .int .i64 1, .int .i64 0, .int .i64 0]) (by simp [results, Tryz.results90, go_sem, c0, c1, c2, c3, c4]) rfl ⟨rfl, S9.out.bel⟩
  · go_enter Tryz.func90, Tryz.ntmps90
    go_wp2_with (first | (refine wpList_insert_own _ rfl _ _ _ 132 rfl 3 3 int_law Tryz.underlying132 (plainElem Tryz.prog 3) (w.heap.size + 1 + 1) _ _ rfl E.out.own (by unfold maxLen; omega) _ _ _ rfl rfl (keyOf_int_mk Tryz.underlying3 (by decide)) _ [] (plainElem_int Tryz.underlying3 (by decide)) ?_; intro w1 hown1 hg1; replace E := Lib.hid (E.out.step hown1 hg1); clear hown1 hg1; obtain ⟨⟨c0, c1, c2, c3, c4⟩, f0, f1, f2, f3, f4⟩ := (E.out.bx.at 1 rfl).c5; obtain ⟨⟨d0, d1, d2, d3, d4⟩, g0, g1, g2, g3, g4⟩ := (E.out.bx.at 0 rfl).c5))
    have S9 := Lib.hid (((((E.out.bx.set1 0 (.int .i64 0)).set1 1 (.int .i64 0)).set1 2 (.int .i64 0)).set1 3 (.int .i64 0)).set1 4 (.int .i64 0))
    clear c0 c1 c2 c3 c4 f0 f1 f2 f3 f4 d0 d1 d2 d3 d4 g0 g1 g2 g3 g4
    generalize ((((w1.setCell ⟨w.heap.size, 0, none⟩ (.int .i64 0)).setCell ⟨w.heap.size, 1, none⟩ (.int .i64 0)).setCell ⟨w.heap.size, 2, none⟩ (.int .i64 0)).setCell ⟨w.heap.size, 3, none⟩ (.int .i64 0)).setCell ⟨w.heap.size, 4, none⟩ (.int .i64 0) = w9 at *
    obtain ⟨⟨c0, c1, c2, c3, c4⟩, _⟩ := (S9.out.at 1 rfl).c5
    refine bodyPost_ret (v := .agg #[.int .i64 0, .int .i64 0, .int .i64 0, .int .i64 0, .int .i64 0]) (by simp [results, Tryz.results90, go_sem, c0, c1, c2, c3, c4]) rfl ⟨rfl, S9.out.bel⟩
  · go_enter Tryz.func90, Tryz.ntmps90
    go_wp2_with (first | (refine wpList_insert_own _ rfl _ _ _ 132 rfl 3 3 int_law Tryz.underlying132 (plainElem Tryz.prog 3) (w.heap.size + 1 + 1) _ _ rfl E.out.own (by unfold maxLen; omega) _ _ _ rfl rfl (keyOf_int_mk Tryz.underlying3 (by decide)) _ [] (plainElem_int Tryz.underlying3 (by decide)) ?_; intro w1 hown1 hg1; replace E := Lib.hid (E.out.step hown1 hg1); clear hown1 hg1; obtain ⟨⟨c0, c1, c2, c3, c4⟩, f0, f1, f2, f3, f4⟩ := (E.out.bx.at 1 rfl).c5; obtain ⟨⟨d0, d1, d2, d3, d4⟩, g0, g1, g2, g3, g4⟩ := (E.out.bx.at 0 rfl).c5))
    clear c0 c1 c2 c3 c4 d0 d1 d2 d3 d4 f0 f1 f2 f3 f4 g0 g1 g2 g3 g4
    refine (impl_whole_ok 1 _).mono ?_; rintro e2 w2 ⟨rfl, hb2⟩
    rw [show (whl 1).v = (.agg #[.int .i64 1, .int .i64 0, .int .i64 0, .int .i64 0, .int .i64 0] : Value) from rfl]
    replace E := Lib.hid (E.out.call hb2)
    clear hb2
    obtain ⟨⟨c0, c1, c2, c3, c4⟩, f0, f1, f2, f3, f4⟩ := (E.out.bx.at 1 rfl).c5
    have S9 := Lib.hid (((((E.out.bx.set1 0 (.int .i64 1)).set1 1 (.int .i64 0)).set1 2 (.int .i64 0)).set1 3 (.int .i64 0)).set1 4 (.int .i64 0))
    go_wp2_with fail
    clear c0 c1 c2 c3 c4 f0 f1 f2 f3 f4
    generalize ((((w2.setCell ⟨w.heap.size, 0, none⟩ (.int .i64 1)).setCell ⟨w.heap.size, 1, none⟩ (.int .i64 0)).setCell ⟨w.heap.size, 2, none⟩ (.int .i64 0)).setCell ⟨w.heap.size, 3, none⟩ (.int .i64 0)).setCell ⟨w.heap.size, 4, none⟩ (.int .i64 0) = w9 at *
    obtain ⟨⟨c0, c1, c2, c3, c4⟩, _⟩ := (S9.out.at 1 rfl).c5
    refine bodyPost_ret (v := .agg #[.int .i64 1, .int .i64 0, .int .i64 0, .int .i64 0, .int .i64 0]) (by simp [results, Tryz.results90, go_sem, c0, c1, c2, c3, c4]) rfl ⟨rfl, S9.out.bel⟩
  · go_enter Tryz.func90, Tryz.ntmps90
    go_wp2_with (first | (refine wpList_insert_own _ rfl _ _ _ 132 rfl 3 3 int_law Tryz.underlying132 (plainElem Tryz.prog 3) (w.heap.size + 1 + 1) _ _ rfl E.out.own (by unfold maxLen; omega) _ _ _ rfl rfl (keyOf_int_mk Tryz.underlying3 (by decide)) _ [] (plainElem_int Tryz.underlying3 (by decide)) ?_; intro w1 hown1 hg1; replace E := Lib.hid (E.out.step hown1 hg1); clear hown1 hg1; obtain ⟨⟨c0, c1, c2, c3, c4⟩, f0, f1, f2, f3, f4⟩ := (E.out.bx.at 1 rfl).c5; obtain ⟨⟨d0, d1, d2, d3, d4⟩, g0, g1, g2, g3, g4⟩ := (E.out.bx.at 0 rfl).c5))
    have S9 := Lib.hid (((((E.out.bx.set1 0 (.int .i64 0)).set1 1 (.int .i64 0)).set1 2 (.int .i64 0)).set1 3 (.int .i64 0)).set1 4 (.int .i64 0))
    clear c0 c1 c2 c3 c4 f0 f1 f2 f3 f4 d0 d1 d2 d3 d4 g0 g1 g2 g3 g4
    generalize ((((w1.setCell ⟨w.heap.size, 0, none⟩ (.int .i64 0)).setCell ⟨w.heap.size, 1, none⟩ (.int .i64 0)).setCell ⟨w.heap.size, 2, none⟩ (.int .i64 0)).setCell ⟨w.heap.size, 3, none⟩ (.int .i64 0)).setCell ⟨w.heap.size, 4, none⟩ (.int .i64 0) = w9 at *
    obtain ⟨⟨c0, c1, c2, c3, c4⟩, _⟩ := (S9.out.at 1 rfl).c5
    refine bodyPost_ret (v := .agg #[.int .i64 0, .int .i64 0, .int .i64 0, .int .i64 0, .int .i64 0]) (by simp [results, Tryz.results90, go_sem, c0, c1, c2, c3, c4]) rfl ⟨rfl, S9.out.bel⟩
  · go_enter Tryz.func90, Tryz.ntmps90
    go_wp2_with (first | (refine wpList_insert_own _ rfl _ _ _ 132 rfl 3 3 int_law Tryz.underlying132 (plainElem Tryz.prog 3) (w.heap.size + 1 + 1) _ _ rfl E.out.own (by unfold maxLen; omega) _ _ _ rfl rfl (keyOf_int_mk Tryz.underlying3 (by decide)) _ [] (plainElem_int Tryz.underlying3 (by decide)) ?_; intro w1 hown1 hg1; replace E := Lib.hid (E.out.step hown1 hg1); clear hown1 hg1; obtain ⟨⟨c0, c1, c2, c3, c4⟩, f0, f1, f2, f3, f4⟩ := (E.out.bx.at 1 rfl).c5; obtain ⟨⟨d0, d1, d2, d3, d4⟩, g0, g1, g2, g3, g4⟩ := (E.out.bx.at 0 rfl).c5))
    have S9 := Lib.hid (((((E.out.bx.set1 0 (.int .i64 0)).set1 1 (.int .i64 0)).set1 2 (.int .i64 0)).set1 3 (.int .i64 0)).set1 4 (.int .i64 0))
    clear c0 c1 c2 c3 c4 f0 f1 f2 f3 f4 d0 d1 d2 d3 d4 g0 g1 g2 g3 g4
    generalize ((((w1.setCell ⟨w.heap.size, 0, none⟩ (.int .i64 0)).setCell ⟨w.heap.size, 1, none⟩ (.int .i64 0)).setCell ⟨w.heap.size, 2, none⟩ (.int .i64 0)).setCell ⟨w.heap.size, 3, none⟩ (.int .i64 0)).setCell ⟨w.heap.size, 4, none⟩ (.int .i64 0) = w9 at *
    obtain ⟨⟨c0, c1, c2, c3, c4⟩, _⟩ := (S9.out.at 1 rfl).c5
    refine bodyPost_ret (v := .agg #[.int .i64 0, .int .i64 0, .int .i64 0, .int .i64 0, .int .i64 0]) (by simp [results, Tryz.results90, go_sem, c0, c1, c2, c3, c4]) rfl ⟨rfl, S9.out.bel⟩
  · go_enter Tryz.func90, Tryz.ntmps90
    go_wp2_with (first | (refine wpList_insert_own _ rfl _ _ _ 132 rfl 3 3 int_law Tryz.underlying132 (plainElem Tryz.prog 3) (w.heap.size + 1 + 1) _ _ rfl E.out.own (by unfold maxLen; omega) _ _ _ rfl rfl (keyOf_int_mk Tryz.underlying3 (by decide)) _ [] (plainElem_int Tryz.underlying3 (by decide)) ?_; intro w1 hown1 hg1; replace E := Lib.hid (E.out.step hown1 hg1); clear hown1 hg1; obtain ⟨⟨c0, c1, c2, c3, c4⟩, f0, f1, f2, f3, f4⟩ := (E.out.bx.at 1 rfl).c5; obtain ⟨⟨d0, d1, d2, d3, d4⟩, g0, g1, g2, g3, g4⟩ := (E.out.bx.at 0 rfl).c5) | (at_lookup; refine wpList_lookup_own_int _ rfl _ _ 132 rfl 3 3 .i64 int_law Tryz.underlying132 Tryz.underlying3 (zero_int _) (w.heap.size + 1 + 1) _ _ rfl E.out.own _ _ rfl (keyOf_int_mk Tryz.underlying3 (by decide)) ?_; intro c hat hwc; obtain rfl := look4 hat; clear hat hwc))
    clear c0 c1 c2 c3 c4 d0 d1 d2 d3 d4 f0 f1 f2 f3 f4 g0 g1 g2 g3 g4
    refine (impl_phase_ok 4 _ (by decide)).mono ?_; rintro e2 w2 ⟨rfl, hb2⟩
    rw [show (phs 4).v = (.agg #[.int .i64 (-1), .int .i64 0, .int .i64 0, .int .i64 0, .int .i64 0] : Value) from rfl]
    replace E := Lib.hid (E.out.call hb2)
    clear hb2
    obtain ⟨⟨c0, c1, c2, c3, c4⟩, f0, f1, f2, f3, f4⟩ := (E.out.bx.at 1 rfl).c5
    have S9 := Lib.hid (((((E.out.bx.set1 0 (.int .i64 (-1))).set1 1 (.int .i64 0)).set1 2 (.int .i64 0)).set1 3 (.int .i64 0)).set1 4 (.int .i64 0))
    go_wp2_with fail
    clear c0 c1 c2 c3 c4 f0 f1 f2 f3 f4
    generalize ((((w2.setCell ⟨w.heap.size, 0, none⟩ (.int .i64 (-1))).setCell ⟨w.heap.size, 1, none⟩ (.int .i64 0)).setCell ⟨w.heap.size, 2, none⟩ (.int .i64 0)).setCell ⟨w.heap.size, 3, none⟩ (.int .i64 0)).setCell ⟨w.heap.size, 4, none⟩ (.int .i64 0) = w9 at *
    obtain ⟨⟨c0, c1, c2, c3, c4⟩, _⟩ := (S9.out.at 1 rfl).c5
    refine bodyPost_ret (v := .agg #[.int .i64 (-1), .int .i64 0, .int .i64 0, .int .i64 0, .int .i64 0]) (by simp [results, Tryz.results90, go_sem, c0, c1, c2, c3, c4]) rfl ⟨rfl, S9.out.bel⟩
  · go_enter Tryz.func90, Tryz.ntmps90
    go_wp2_with (first | (refine wpList_insert_own _ rfl _ _ _ 132 rfl 3 3 int_law Tryz.underlying132 (plainElem Tryz.prog 3) (w.heap.size + 1 + 1) _ _ rfl E.out.own (by unfold maxLen; omega) _ _ _ rfl rfl (keyOf_int_mk Tryz.underlying3 (by decide)) _ [] (plainElem_int Tryz.underlying3 (by decide)) ?_; intro w1 hown1 hg1; replace E := Lib.hid (E.out.step hown1 hg1); clear hown1 hg1; obtain ⟨⟨c0, c1, c2, c3, c4⟩, f0, f1, f2, f3, f4⟩ := (E.out.bx.at 1 rfl).c5; obtain ⟨⟨d0, d1, d2, d3, d4⟩, g0, g1, g2, g3, g4⟩ := (E.out.bx.at 0 rfl).c5))
    clear c0 c1 c2 c3 c4 d0 d1 d2 d3 d4 f0 f1 f2 f3 f4 g0 g1 g2 g3 g4
    refine (impl_whole_ok 1 _).mono ?_; rintro e2 w2 ⟨rfl, hb2⟩
    rw [show (whl 1).v = (.agg #[.int .i64 1, .int .i64 0, .int .i64 0, .int .i64 0, .int .i64 0] : Value) from rfl]
    replace E := Lib.hid (E.out.call hb2)
    clear hb2
    obtain ⟨⟨c0, c1, c2, c3, c4⟩, f0, f1, f2, f3, f4⟩ := (E.out.bx.at 1 rfl).c5
    have S9 := Lib.hid (((((E.out.bx.set1 0 (.int .i64 1)).set1 1 (.int .i64 0)).set1 2 (.int .i64 0)).set1 3 (.int .i64 0)).set1 4 (.int .i64 0))
    go_wp2_with fail
    clear c0 c1 c2 c3 c4 f0 f1 f2 f3 f4
    generalize ((((w2.setCell ⟨w.heap.size, 0, none⟩ (.int .i64 1)).setCell ⟨w.heap.size, 1, none⟩ (.int .i64 0)).setCell ⟨w.heap.size, 2, none⟩ (.int .i64 0)).setCell ⟨w.heap.size, 3, none⟩ (.int .i64 0)).setCell ⟨w.heap.size, 4, none⟩ (.int .i64 0) = w9 at *
    obtain ⟨⟨c0, c1, c2, c3, c4⟩, _⟩ := (S9.out.at 1 rfl).c5
    refine bodyPost_ret (v := .agg #[.int .i64 1, .int .i64 0, .int .i64 0, .int .i64 0, .int .i64 0]) (by simp [results, Tryz.results90, go_sem, c0, c1, c2, c3, c4]) rfl ⟨rfl, S9.out.bel⟩
  · go_enter Tryz.func90, Tryz.ntmps90
    go_wp2_with (first | (refine wpList_insert_own _ rfl _ _ _ 132 rfl 3 3 int_law Tryz.underlying132 (plainElem Tryz.prog 3) (w.heap.size + 1 + 1) _ _ rfl E.out.own (by unfold maxLen; omega) _ _ _ rfl rfl (keyOf_int_mk Tryz.underlying3 (by decide)) _ [] (plainElem_int Tryz.underlying3 (by decide)) ?_; intro w1 hown1 hg1; replace E := Lib.hid (E.out.step hown1 hg1); clear hown1 hg1; obtain ⟨⟨c0, c1, c2, c3, c4⟩, f0, f1, f2, f3, f4⟩ := (E.out.bx.at 1 rfl).c5; obtain ⟨⟨d0, d1, d2, d3, d4⟩, g0, g1, g2, g3, g4⟩ := (E.out.bx.at 0 rfl).c5))
    have S9 := Lib.hid (((((E.out.bx.set1 0 (.int .i64 0)).set1 1 (.int .i64 0)).set1 2 (.int .i64 0)).set1 3 (.int .i64 0)).set1 4 (.int .i64 0))
    clear c0 c1 c2 c3 c4 f0 f1 f2 f3 f4 d0 d1 d2 d3 d4 g0 g1 g2 g3 g4
    generalize ((((w1.setCell ⟨w.heap.size, 0, none⟩ (.int .i64 0)).setCell ⟨w.heap.size, 1, none⟩ (.int .i64 0)).setCell ⟨w.heap.size, 2, none⟩ (.int .i64 0)).setCell ⟨w.heap.size, 3, none⟩ (.int .i64 0)).setCell ⟨w.heap.size, 4, none⟩ (.int .i64 0) = w9 at *
    obtain ⟨⟨c0, c1, c2, c3, c4⟩, _⟩ := (S9.out.at 1 rfl).c5
    refine bodyPost_ret (v := .agg #[.int .i64 0, .int .i64 0, .int .i64 0, .int .i64 0, .int .i64 0]) (by simp [results, Tryz.results90, go_sem, c0, c1, c2, c3, c4]) rfl ⟨rfl, S9.out.bel⟩
  · go_enter Tryz.func90, Tryz.ntmps90
    go_wp2_with (first | (refine wpList_insert_own _ rfl _ _ _ 132 rfl 3 3 int_law Tryz.underlying132 (plainElem Tryz.prog 3) (w.heap.size + 1 + 1) _ _ rfl E.out.own (by unfold maxLen; omega) _ _ _ rfl rfl (keyOf_int_mk Tryz.underlying3 (by decide)) _ [] (plainElem_int Tryz.underlying3 (by decide)) ?_; intro w1 hown1 hg1; replace E := Lib.hid (E.out.step hown1 hg1); clear hown1 hg1; obtain ⟨⟨c0, c1, c2, c3, c4⟩, f0, f1, f2, f3, f4⟩ := (E.out.bx.at 1 rfl).c5; obtain ⟨⟨d0, d1, d2, d3, d4⟩, g0, g1, g2, g3, g4⟩ := (E.out.bx.at 0 rfl).c5))
    have S9 := Lib.hid (((((E.out.bx.set1 0 (.int .i64 0)).set1 1 (.int .i64 0)).set1 2 (.int .i64 0)).set1 3 (.int .i64 0)).set1 4 (.int .i64 0))
    clear c0 c1 c2 c3 c4 f0 f1 f2 f3 f4 d0 d1 d2 d3 d4 g0 g1 g2 g3 g4
    generalize ((((w1.setCell ⟨w.heap.size, 0, none⟩ (.int .i64 0)).setCell ⟨w.heap.size, 1, none⟩ (.int .i64 0)).setCell ⟨w.heap.size, 2, none⟩ (.int .i64 0)).setCell ⟨w.heap.size, 3, none⟩ (.int .i64 0)).setCell ⟨w.heap.size, 4, none⟩ (.int .i64 0) = w9 at *
    obtain ⟨⟨c0, c1, c2, c3, c4⟩, _⟩ := (S9.out.at 1 rfl).c5
    refine bodyPost_ret (v := .agg #[.int .i64 0, .int .i64 0, .int .i64 0, .int .i64 0, .int .i64 0]) (by simp [results, Tryz.results90, go_sem, c0, c1, c2, c3, c4]) rfl ⟨rfl, S9.out.bel⟩
  · go_enter Tryz.func90, Tryz.ntmps90
    go_wp2_with (first | (refine wpList_insert_own _ rfl _ _ _ 132 rfl 3 3 int_law Tryz.underlying132 (plainElem Tryz.prog 3) (w.heap.size + 1 + 1) _ _ rfl E.out.own (by unfold maxLen; omega) _ _ _ rfl rfl (keyOf_int_mk Tryz.underlying3 (by decide)) _ [] (plainElem_int Tryz.underlying3 (by decide)) ?_; intro w1 hown1 hg1; replace E := Lib.hid (E.out.step hown1 hg1); clear hown1 hg1; obtain ⟨⟨c0, c1, c2, c3, c4⟩, f0, f1, f2, f3, f4⟩ := (E.out.bx.at 1 rfl).c5; obtain ⟨⟨d0, d1, d2, d3, d4⟩, g0, g1, g2, g3, g4⟩ := (E.out.bx.at 0 rfl).c5) | (at_lookup; refine wpList_lookup_own_int _ rfl _ _ 132 rfl 3 3 .i64 int_law Tryz.underlying132 Tryz.underlying3 (zero_int _) (w.heap.size + 1 + 1) _ _ rfl E.out.own _ _ rfl (keyOf_int_mk Tryz.underlying3 (by decide)) ?_; intro c hat hwc; obtain rfl := look5 hat; clear hat hwc))
    clear c0 c1 c2 c3 c4 d0 d1 d2 d3 d4 f0 f1 f2 f3 f4 g0 g1 g2 g3 g4
    refine (impl_phase_ok 2 _ (by decide)).mono ?_; rintro e2 w2 ⟨rfl, hb2⟩
    rw [show (phs 2).v = (.agg #[.int .i64 0, .int .i64 0, .int .i64 1, .int .i64 0, .int .i64 0] : Value) from rfl]
    replace E := Lib.hid (E.out.call hb2)
    clear hb2
    obtain ⟨⟨c0, c1, c2, c3, c4⟩, f0, f1, f2, f3, f4⟩ := (E.out.bx.at 1 rfl).c5
    have S9 := Lib.hid (((((E.out.bx.set1 0 (.int .i64 0)).set1 1 (.int .i64 0)).set1 2 (.int .i64 1)).set1 3 (.int .i64 0)).set1 4 (.int .i64 0))
    go_wp2_with fail
    clear c0 c1 c2 c3 c4 f0 f1 f2 f3 f4
    generalize ((((w2.setCell ⟨w.heap.size, 0, none⟩ (.int .i64 0)).setCell ⟨w.heap.size, 1, none⟩ (.int .i64 0)).setCell ⟨w.heap.size, 2, none⟩ (.int .i64 1)).setCell ⟨w.heap.size, 3, none⟩ (.int .i64 0)).setCell ⟨w.heap.size, 4, none⟩ (.int .i64 0) = w9 at *
    obtain ⟨⟨c0, c1, c2, c3, c4⟩, _⟩ := (S9.out.at 1 rfl).c5
    refine bodyPost_ret (v := .agg #[.int .i64 0, .int .i64 0, .int .i64 1, .int .i64 0, .int .i64 0]) (by simp [results, Tryz.results90, go_sem, c0, c1, c2, c3, c4]) rfl ⟨rfl, S9.out.bel⟩
  · go_enter Tryz.func90, Tryz.ntmps90
    go_wp2_with (first | (refine wpList_insert_own _ rfl _ _ _ 132 rfl 3 3 int_law Tryz.underlying132 (plainElem Tryz.prog 3) (w.heap.size + 1 + 1) _ _ rfl E.out.own (by unfold maxLen; omega) _ _ _ rfl rfl (keyOf_int_mk Tryz.underlying3 (by decide)) _ [] (plainElem_int Tryz.underlying3 (by decide)) ?_; intro w1 hown1 hg1; replace E := Lib.hid (E.out.step hown1 hg1); clear hown1 hg1; obtain ⟨⟨c0, c1, c2, c3, c4⟩, f0, f1, f2, f3, f4⟩ := (E.out.bx.at 1 rfl).c5; obtain ⟨⟨d0, d1, d2, d3, d4⟩, g0, g1, g2, g3, g4⟩ := (E.out.bx.at 0 rfl).c5))
    clear c0 c1 c2 c3 c4 d0 d1 d2 d3 d4 f0 f1 f2 f3 f4 g0 g1 g2 g3 g4
    refine (impl_whole_ok 1 _).mono ?_; rintro e2 w2 ⟨rfl, hb2⟩
    rw [show (whl 1).v = (.agg #[.int .i64 1, .int .i64 0, .int .i64 0, .int .i64 0, .int .i64 0] : Value) from rfl]
    replace E := Lib.hid (E.out.call hb2)
    clear hb2
    obtain ⟨⟨c0, c1, c2, c3, c4⟩, f0, f1, f2, f3, f4⟩ := (E.out.bx.at 1 rfl).c5
    have S9 := Lib.hid (((((E.out.bx.set1 0 (.int .i64 1)).set1 1 (.int .i64 0)).set1 2 (.int .i64 0)).set1 3 (.int .i64 0)).set1 4 (.int .i64 0))
    go_wp2_with fail
    clear c0 c1 c2 c3 c4 f0 f1 f2 f3 f4
    generalize ((((w2.setCell ⟨w.heap.size, 0, none⟩ (.int .i64 1)).setCell ⟨w.heap.size, 1, none⟩ (.int .i64 0)).setCell ⟨w.heap.size, 2, none⟩ (.int .i64 0)).setCell ⟨w.heap.size, 3, none⟩ (.int .i64 0)).setCell ⟨w.heap.size, 4, none⟩ (.int .i64 0) = w9 at *
    obtain ⟨⟨c0, c1, c2, c3, c4⟩, _⟩ := (S9.out.at 1 rfl).c5
    refine bodyPost_ret (v := .agg #[.int .i64 1, .int .i64 0, .int .i64 0, .int .i64 0, .int .i64 0]) (by simp [results, Tryz.results90, go_sem, c0, c1, c2, c3, c4]) rfl ⟨rfl, S9.out.bel⟩
  · go_enter Tryz.func90, Tryz.ntmps90
    go_wp2_with (first | (refine wpList_insert_own _ rfl _ _ _ 132 rfl 3 3 int_law Tryz.underlying132 (plainElem Tryz.prog 3) (w.heap.size + 1 + 1) _ _ rfl E.out.own (by unfold maxLen; omega) _ _ _ rfl rfl (keyOf_int_mk Tryz.underlying3 (by decide)) _ [] (plainElem_int Tryz.underlying3 (by decide)) ?_; intro w1 hown1 hg1; replace E := Lib.hid (E.out.step hown1 hg1); clear hown1 hg1; obtain ⟨⟨c0, c1, c2, c3, c4⟩, f0, f1, f2, f3, f4⟩ := (E.out.bx.at 1 rfl).c5; obtain ⟨⟨d0, d1, d2, d3, d4⟩, g0, g1, g2, g3, g4⟩ := (E.out.bx.at 0 rfl).c5))
    have S9 := Lib.hid (((((E.out.bx.set1 0 (.int .i64 0)).set1 1 (.int .i64 0)).set1 2 (.int .i64 0)).set1 3 (.int .i64 0)).set1 4 (.int .i64 0))
    clear c0 c1 c2 c3 c4 f0 f1 f2 f3 f4 d0 d1 d2 d3 d4 g0 g1 g2 g3 g4
    generalize ((((w1.setCell ⟨w.heap.size, 0, none⟩ (.int .i64 0)).setCell ⟨w.heap.size, 1, none⟩ (.int .i64 0)).setCell ⟨w.heap.size, 2, none⟩ (.int .i64 0)).setCell ⟨w.heap.size, 3, none⟩ (.int .i64 0)).setCell ⟨w.heap.size, 4, none⟩ (.int .i64 0) = w9 at *
    obtain ⟨⟨c0, c1, c2, c3, c4⟩, _⟩ := (S9.out.at 1 rfl).c5
    refine bodyPost_ret (v := .agg #[.int .i64 0, .int .i64 0, .int .i64 0, .int .i64 0, .int .i64 0]) (by simp [results, Tryz.results90, go_sem, c0, c1, c2, c3, c4]) rfl ⟨rfl, S9.out.bel⟩
  · go_enter Tryz.func90, Tryz.ntmps90
    go_wp2_with (first | (refine wpList_insert_own _ rfl _ _ _ 132 rfl 3 3 int_law Tryz.underlying132 (plainElem Tryz.prog 3) (w.heap.size + 1 + 1) _ _ rfl E.out.own (by unfold maxLen; omega) _ _ _ rfl rfl (keyOf_int_mk Tryz.underlying3 (by decide)) _ [] (plainElem_int Tryz.underlying3 (by decide)) ?_; intro w1 hown1 hg1; replace E := Lib.hid (E.out.step hown1 hg1); clear hown1 hg1; obtain ⟨⟨c0, c1, c2, c3, c4⟩, f0, f1, f2, f3, f4⟩ := (E.out.bx.at 1 rfl).c5; obtain ⟨⟨d0, d1, d2, d3, d4⟩, g0, g1, g2, g3, g4⟩ := (E.out.bx.at 0 rfl).c5))
    have S9 := Lib.hid (((((E.out.bx.set1 0 (.int .i64 0)).set1 1 (.int .i64 0)).set1 2 (.int .i64 0)).set1 3 (.int .i64 0)).set1 4 (.int .i64 0))
    clear c0 c1 c2 c3 c4 f0 f1 f2 f3 f4 d0 d1 d2 d3 d4 g0 g1 g2 g3 g4
    generalize ((((w1.setCell ⟨w.heap.size, 0, none⟩ (.int .i64 0)).setCell ⟨w.heap.size, 1, none⟩ (.int .i64 0)).setCell ⟨w.heap.size, 2, none⟩ (.int .i64 0)).setCell ⟨w.heap.size, 3, none⟩ (.int .i64 0)).setCell ⟨w.heap.size, 4, none⟩ (.int .i64 0) = w9 at *
    obtain ⟨⟨c0, c1, c2, c3, c4⟩, _⟩ := (S9.out.at 1 rfl).c5
    refine bodyPost_ret (v := .agg #[.int .i64 0, .int .i64 0, .int .i64 0, .int .i64 0, .int .i64 0]) (by simp [results, Tryz.results90, go_sem, c0, c1, c2, c3, c4]) rfl ⟨rfl, S9.out.bel⟩
  · go_enter Tryz.func90, Tryz.ntmps90
    go_wp2_with (first | (refine wpList_insert_own _ rfl _ _ _ 132 rfl 3 3 int_law Tryz.underlying132 (plainElem Tryz.prog 3) (w.heap.size + 1 + 1) _ _ rfl E.out.own (by unfold maxLen; omega) _ _ _ rfl rfl (keyOf_int_mk Tryz.underlying3 (by decide)) _ [] (plainElem_int Tryz.underlying3 (by decide)) ?_; intro w1 hown1 hg1; replace E := Lib.hid (E.out.step hown1 hg1); clear hown1 hg1; obtain ⟨⟨c0, c1, c2, c3, c4⟩, f0, f1, f2, f3, f4⟩ := (E.out.bx.at 1 rfl).c5; obtain ⟨⟨d0, d1, d2, d3, d4⟩, g0, g1, g2, g3, g4⟩ := (E.out.bx.at 0 rfl).c5) | (at_lookup; refine wpList_lookup_own_int _ rfl _ _ 132 rfl 3 3 .i64 int_law Tryz.underlying132 Tryz.underlying3 (zero_int _) (w.heap.size + 1 + 1) _ _ rfl E.out.own _ _ rfl (keyOf_int_mk Tryz.underlying3 (by decide)) ?_; intro c hat hwc; obtain rfl := look6 hat; clear hat hwc))
    clear c0 c1 c2 c3 c4 d0 d1 d2 d3 d4 f0 f1 f2 f3 f4 g0 g1 g2 g3 g4
    refine (impl_phase_ok 6 _ (by decide)).mono ?_; rintro e2 w2 ⟨rfl, hb2⟩
    rw [show (phs 6).v = (.agg #[.int .i64 0, .int .i64 0, .int .i64 (-1), .int .i64 0, .int .i64 0] : Value) from rfl]
    replace E := Lib.hid (E.out.call hb2)
    clear hb2
    obtain ⟨⟨c0, c1, c2, c3, c4⟩, f0, f1, f2, f3, f4⟩ := (E.out.bx.at 1 rfl).c5
    have S9 := Lib.hid (((((E.out.bx.set1 0 (.int .i64 0)).set1 1 (.int .i64 0)).set1 2 (.int .i64 (-1))).set1 3 (.int .i64 0)).set1 4 (.int .i64 0))
    go_wp2_with fail
    clear c0 c1 c2 c3 c4 f0 f1 f2 f3 f4
    generalize ((((w2.setCell ⟨w.heap.size, 0, none⟩ (.int .i64 0)).setCell ⟨w.heap.size, 1, none⟩ (.int .i64 0)).setCell ⟨w.heap.size, 2, none⟩ (.int .i64 (-1))).setCell ⟨w.heap.size, 3, none⟩ (.int .i64 0)).setCell ⟨w.heap.size, 4, none⟩ (.int .i64 0) = w9 at *
    obtain ⟨⟨c0, c1, c2, c3, c4⟩, _⟩ := (S9.out.at 1 rfl).c5
    refine bodyPost_ret (v := .agg #[.int .i64 0, .int .i64 0, .int .i64 (-1), .int .i64 0, .int .i64 0]) (by simp [results, Tryz.results90, go_sem, c0, c1, c2, c3, c4]) rfl ⟨rfl, S9.out.bel⟩
end Go.Proofs.YtnckabohlakbgaaGreat
