/- The reference's draws of Pauli operators. -/
import Derived.Test.YtnckabohlakbgaaGreatZ12M
import Derived.BigQuiet
import Derived.Test.YtnckabohlakbgaaGreatZ08M
import Derived.BigRegion
import Derived.Test.YtnckabohlakbgaaGreatZ11Dy9
import Derived.Maps.OwnOps
namespace Go.Proofs.YtnckabohlakbgaaGreat
set_option linter.unusedSimpArgs false
set_option linter.unusedVariables false
set_option linter.unnecessarySimpa false
set_option maxRecDepth 200000
open Go.ChangeShapes Go.WideShapes Go.ChangeAt Go.RowKit

theorem cell_kept {w w' : World} {b : Nat} {a : Addr} {u : Value} (h : w.cell? a = some u) (hg : w.grownBy w' (some b)) (hn : a.block ≠ b) : w'.cell? a = some u := by
  rw [World.cell?_of_block (w := w) (w' := w') (a := a) (hg.block a.block (World.block_lt_of_cell? _ _ h) (fun e2 => hn (by injection e2)))]
  exact h
/-- A box with a Pauli operator. -/
structure PB (w : World) (g : Nat) (a b c : Int) : Prop where
  c0 : w.cell? ⟨g, 0, none⟩ = some (.int .i64 a)
  c1 : w.cell? ⟨g, 1, none⟩ = some (.int .i64 b)
  c2 : w.cell? ⟨g, 2, none⟩ = some (.int .i64 c)
  f0 : w.frozen? ⟨g, 0, none⟩ = false
  f1 : w.frozen? ⟨g, 1, none⟩ = false
  f2 : w.frozen? ⟨g, 2, none⟩ = false
theorem PB.kept {w w' : World} {g b : Nat} {x y z : Int} (h : PB w g x y z) (hg : w.grownBy w' (some b)) (hn : g ≠ b) : PB w' g x y z := by
  have hb := hg.block g (World.block_lt_of_cell? _ _ h.c0) (fun e2 => hn (by injection e2))
  exact ⟨cell_kept h.c0 hg hn, cell_kept h.c1 hg hn, cell_kept h.c2 hg hn, (World.frozen?_of_block (w := w) hb).trans h.f0, (World.frozen?_of_block (w := w) hb).trans h.f1, (World.frozen?_of_block (w := w) hb).trans h.f2⟩
theorem PB.call {w w' : World} {g : Nat} {x y z : Int} (h : PB w g x y z) (hb : Below w.heap.size w w') : PB w' g x y z := by
  have hl : g < w.heap.size := World.block_lt_of_cell? _ _ h.c0
  exact ⟨below_cell hb rfl h.c0, below_cell hb rfl h.c1, below_cell hb rfl h.c2, (hb.frozen hl).trans h.f0, (hb.frozen hl).trans h.f1, (hb.frozen hl).trans h.f2⟩
theorem PB.set {w : World} {g : Nat} {a b c : Int} (h : PB w g a b c) (x y z : Int) :
    PB (((w.setCell ⟨g, 0, none⟩ (.int .i64 x)).setCell ⟨g, 1, none⟩ (.int .i64 y)).setCell ⟨g, 2, none⟩ (.int .i64 z)) g x y z := by
  refine ⟨cell_set_other (cell_set_other (World.cell?_setCell_same _ _ _ h.c0)), cell_set_other (World.cell?_setCell_same _ _ _ (cell_set_other h.c1)), World.cell?_setCell_same _ _ _ (cell_set_other (cell_set_other h.c2)), ?_, ?_, ?_⟩
  all_goals rw [World.frozen?_setCell, World.frozen?_setCell, World.frozen?_setCell]
  · exact h.f0
  · exact h.f1
  · exact h.f2
theorem PB.other {w : World} {g g2 o : Nat} {a b c : Int} {u : Value} (h : PB w g a b c) (hne : g ≠ g2) : PB (w.setCell ⟨g2, o, none⟩ u) g a b c := by
  refine ⟨(World.cell?_setCell_other _ _ _ _ (fun e => hne (by injection e with e1 _; exact e1.symm))).trans h.c0, (World.cell?_setCell_other _ _ _ _ (fun e => hne (by injection e with e1 _; exact e1.symm))).trans h.c1, (World.cell?_setCell_other _ _ _ _ (fun e => hne (by injection e with e1 _; exact e1.symm))).trans h.c2, ?_, ?_, ?_⟩
  all_goals rw [World.frozen?_setCell]
  · exact h.f0
  · exact h.f1
  · exact h.f2
/-- A box above another world's end may be written. -/
theorem grown_set {w w' : World} {r : Option Nat} {a : Addr} {u : Value} (h : w.grownBy w' r) (ha : w.heap.size ≤ a.block) (hl : a.block < w'.heap.size) : w.grownBy (w'.setCell a u) r := by
  have hb : Below w.heap.size w' (w'.setCell a u) := belo
  exact ⟨hb.os.trans h.os, hb.tape.trans h.tape, hb.output.trans h.output, Nat.le_trans h.size hb.size, fun k hk hn => (hb.block k hk).trans (h.block k hk hn)⟩
theorem Cur.put {w0 w : World} {b N0 N : Nat} {zs : List Int} {cv : Value} {a : Addr} (h0 : Cur w0 b zs cv N0) (h : Cur w b zs cv N) (ha : w0.heap.size ≤ a.block) (he : a = ⟨a.block, a.off, none⟩) (u : Value) : Cur (w.setCell a u) b zs cv N := by
  obtain ⟨x, s, hle, hc⟩ := h
  have hbl := h0.lt
  obtain ⟨_, _, _, h0c⟩ := h0
  have hne : b ≠ a.block := by omega
  have hn : zs.length ≠ 0 → ∀ g, cv.ownBlock = some g → g ≠ a.block := by
    intro hz g e
    rcases h0c.rd.2 with ⟨_, h1⟩ | ⟨g2, off, cap, e2, hb, _⟩
    · exact absurd h1 hz
    · rw [e2] at e
      have e3 : g2 = g := by injection e
      omega
  refine ⟨x, s, hle, ?_, ?_, ?_, ?_, ?_, ?_, hc.off, hc.sm⟩
  · rw [he]; exact rdB_grown hc.rd (box_grown _ _ _ _) hn
  · exact (World.cell?_setCell_other _ _ _ _ (fun e => hne (by rw [e]))).trans hc.c0
  · exact (World.cell?_setCell_other _ _ _ _ (fun e => hne (by rw [e]))).trans hc.c1
  · exact (World.cell?_setCell_other _ _ _ _ (fun e => hne (by rw [e]))).trans hc.c2
  · rw [World.frozen?_setCell]; exact hc.f1
  · rw [World.frozen?_setCell]; exact hc.f2
theorem PB.new (w : World) (a b c : Int) : PB (w.alloc (.cells #[.int .i64 a, .int .i64 b, .int .i64 c] 33)) w.heap.size a b c :=
  ⟨cela, cela, cela, froza, froza, froza⟩
set_option maxHeartbeats 8000000 in
theorem cur_pauli_any (b N n : Nat) (zs : List Int) (cv : Value) (w : World) (h : Cur w b zs cv N) (hn1 : 1 ≤ n) (hn : n ≤ 4) (hN : N + 6 ≤ 1000) (hr : ∀ z ∈ zs, 0 ≤ z ∧ z ≤ 255) :
    Calls Tryz.prog 69 #[.pointer (some ⟨b, 0, none⟩), .int .i64 (n : Int)] w fun e w' => ∃ p x z : Nat, e = .returned (.agg #[.int .i64 (p : Int), .int .i64 (x : Int), .int .i64 (z : Int)]) ∧ p < 4 ∧ x < 2 ^ n ∧ z < 2 ^ n ∧ Cur w' b zs cv (N + 6) ∧ w.grownBy w' (some b) := by
  have H := Lib.hid h
  have HR := Lib.hid hr
  have hp : (2 : Nat) ^ n ≤ 16 := Nat.pow_le_pow_right (by omega) hn (n := 2)
  have hp1 : 1 ≤ (2 : Nat) ^ n := Nat.one_le_two_pow
  have hbw := h.lt
  clear h hr
  have hw : IntKind.i64.wrap ((2 : Int) ^ n) = ((2 ^ n : Nat) : Int) := by
    rw [show ((2 : Int) ^ n) = ((2 ^ n : Nat) : Int) by push_cast; rfl]
    exact IntWalk.i64_in _ (by omega)
  have m0 : (0 : Int) ≤ n := by omega
  have m1 : (n : Int) ≤ 4 := by omega
  go_enter Tryz.func69, Tryz.ntmps69
  go_wp2_with fail
  have H0 := Lib.hid (H.out.call (show Below w.heap.size w (w.alloc (.cells #[.int .i64 0, .int .i64 0, .int .i64 0] 33)) from belo))
  have G0 := Lib.hid (show w.grownBy (w.alloc (.cells #[.int .i64 0, .int .i64 0, .int .i64 0] 33)) (some b) from grown_below0 (cur_grown_refl w _) belo)
  have A0 := Lib.hid (PB.new w 0 0 0)
  have hne : w.heap.size ≠ b := by omega
  refine (cur_pick_any b N 4 zs cv _ H0.out (by omega) (by omega) HR.out).mono ?_; rintro e w1 ⟨x1, rfl, hx1, _, hc1, hg1⟩
  have A1 := Lib.hid (A0.out.kept hg1 hne)
  have C1 := Lib.hid hc1
  have G1 := Lib.hid (grown_trans0 G0.out hg1)
  clear hc1 hg1 A0 H0 G0
  go_wp2_with fail
  refine (cur_pick_any b (N + 2) (2 ^ n) zs cv _ C1.out (by omega) (by omega) HR.out).mono ?_; rintro e w2 ⟨x2, rfl, hx2, _, hc2, hg2⟩
  have A2 := Lib.hid (A1.out.kept hg2 hne)
  have C2 := Lib.hid hc2
  have G2 := Lib.hid (grown_trans0 G1.out hg2)
  clear hc2 hg2 A1 C1 G1
  go_wp2_with fail
  refine (cur_pick_any b (N + 4) (2 ^ n) zs cv _ C2.out (by omega) (by omega) HR.out).mono ?_; rintro e w3 ⟨x3, rfl, hx3, _, hc3, hg3⟩
  have A3 := Lib.hid (A2.out.kept hg3 hne)
  have C3 := Lib.hid hc3
  have G3 := Lib.hid (grown_trans0 G2.out hg3)
  obtain ⟨a0, a1, a2, f0, f1, f2⟩ := A3.out
  clear hc3 hg3 A2 C2 G2
  go_wp2_with fail
  have P4 := A3.out.set (x1 : Int) (x2 : Int) (x3 : Int)
  have hl3 : w.heap.size < w3.heap.size := World.block_lt_of_cell? _ _ a0
  have G4 := Lib.hid (grown_set (u := .int .i64 (x3 : Int)) (a := ⟨w.heap.size, 2, none⟩) (grown_set (u := .int .i64 (x2 : Int)) (a := ⟨w.heap.size, 1, none⟩) (grown_set (u := .int .i64 (x1 : Int)) (a := ⟨w.heap.size, 0, none⟩) G3.out (Nat.le_refl _) hl3) (Nat.le_refl _) (by simpa using hl3)) (Nat.le_refl _) (by simpa using hl3))
  have C4 := Lib.hid (Cur.put H.out (Cur.put H.out (Cur.put H.out C3.out (a := ⟨w.heap.size, 0, none⟩) (Nat.le_refl _) rfl (.int .i64 (x1 : Int))) (a := ⟨w.heap.size, 1, none⟩) (Nat.le_refl _) rfl (.int .i64 (x2 : Int))) (a := ⟨w.heap.size, 2, none⟩) (Nat.le_refl _) rfl (.int .i64 (x3 : Int)))
  clear C3 G3 A3 a0 a1 a2 f0 f1 f2
  generalize (((w3.setCell ⟨w.heap.size, 0, none⟩ (.int .i64 (x1 : Int))).setCell ⟨w.heap.size, 1, none⟩ (.int .i64 (x2 : Int))).setCell ⟨w.heap.size, 2, none⟩ (.int .i64 (x3 : Int))) = w4 at *
  obtain ⟨a0, a1, a2, f0, f1, f2⟩ := P4
  refine bodyPost_ret (v := .agg #[.int .i64 (x1 : Int), .int .i64 (x2 : Int), .int .i64 (x3 : Int)]) (by simp [results, Tryz.results69, go_sem, a0, a1, a2]) rfl ⟨x1, x2, x3, rfl, hx1 (by omega), hx2 hp1, hx3 hp1, C4.out, G4.out⟩
set_option maxHeartbeats 8000000 in
theorem cur_anyPauli_any (b N n : Nat) (zs : List Int) (cv : Value) (w : World) (h : Cur w b zs cv N) (hn1 : 1 ≤ n) (hn : n ≤ 4) (hN : N + 12 ≤ 1000) (hr : ∀ z ∈ zs, 0 ≤ z ∧ z ≤ 255) :
    Calls Tryz.prog 31 #[.pointer (some ⟨b, 0, none⟩), .int .i64 (n : Int)] w fun e w' => ∃ p x z : Int, e = .returned (.agg #[.int .i64 p, .int .i64 x, .int .i64 z]) ∧ Cur w' b zs cv (N + 12) ∧ w.grownBy w' (some b) := by
  have H := Lib.hid h
  have HR := Lib.hid hr
  have hbw := h.lt
  clear h hr
  go_enter Tryz.func31, Tryz.ntmps31
  go_wp2_with fail
  have H0 := Lib.hid (H.out.call (show Below w.heap.size w (w.alloc (.cells #[.int .i64 0, .int .i64 0, .int .i64 0] 33)) from belo))
  have G0 := Lib.hid (show w.grownBy (w.alloc (.cells #[.int .i64 0, .int .i64 0, .int .i64 0] 33)) (some b) from grown_below0 (cur_grown_refl w _) belo)
  have A0 := Lib.hid (PB.new w 0 0 0)
  have hne : w.heap.size ≠ b := by omega
  refine (cur_pauli_any b N n zs cv _ H0.out hn1 hn (by omega) HR.out).mono ?_; rintro e w1 ⟨x1, x2, x3, rfl, hx1, hx2, hx3, hc1, hg1⟩
  have A1 := Lib.hid (A0.out.kept hg1 hne)
  have C1 := Lib.hid hc1
  have G1 := Lib.hid (grown_trans0 G0.out hg1)
  have hl1 : w.heap.size < w1.heap.size := World.block_lt_of_cell? _ _ A1.out.c0
  clear hc1 hg1 A0 H0 G0 hx1 hx2 hx3
  go_wp2_with fail
  obtain ⟨g2, hg2⟩ : ∃ g, g = w1.heap.size := ⟨_, rfl⟩
  have P2 := Lib.hid (show PB (w1.alloc (.cells #[.int .i64 (x1 : Int), .int .i64 (x2 : Int), .int .i64 (x3 : Int)] 33)) g2 x1 x2 x3 from by rw [hg2]; exact PB.new w1 _ _ _)
  have A2 := Lib.hid (A1.out.call (show Below w1.heap.size w1 (w1.alloc (.cells #[.int .i64 (x1 : Int), .int .i64 (x2 : Int), .int .i64 (x3 : Int)] 33)) from belo))
  have C2 := Lib.hid (C1.out.call (show Below w1.heap.size w1 (w1.alloc (.cells #[.int .i64 (x1 : Int), .int .i64 (x2 : Int), .int .i64 (x3 : Int)] 33)) from belo))
  have G2 := Lib.hid (grown_below0 G1.out (show Below w1.heap.size w1 (w1.alloc (.cells #[.int .i64 (x1 : Int), .int .i64 (x2 : Int), .int .i64 (x3 : Int)] 33)) from belo))
  rw [← hg2]
  generalize (w1.alloc (.cells #[.int .i64 (x1 : Int), .int .i64 (x2 : Int), .int .i64 (x3 : Int)] 33)) = w2 at *
  rw [← hg2] at hl1
  clear hg2 A1 C1 G1
  clear w1
  have hne2 : g2 ≠ b := by omega
  have hne3 : w.heap.size ≠ g2 := by omega
  refine (cur_pick_any b (N + 6) 14 zs cv _ C2.out (by omega) (by omega) HR.out).mono ?_; rintro e w3 ⟨x4, rfl, _, _, hc3, hg3⟩
  have A3 := Lib.hid (A2.out.kept hg3 hne)
  have P3 := Lib.hid (P2.out.kept hg3 hne2)
  have C3 := Lib.hid hc3
  have G3 := Lib.hid (grown_trans0 G2.out hg3)
  clear hc3 hg3 A2 P2 C2 G2
  clear w2
  have hl3 : w.heap.size < w3.heap.size := World.block_lt_of_cell? _ _ A3.out.c0
  by_cases h4 : (x4 = 0 ∨ x4 = 1) ∨ x4 = 2
  · rcases h4 with (rfl | rfl) | rfl
    · go_wp2_with fail
      have A4 := Lib.hid (A3.out.call (show Below w3.heap.size w3 (w3.alloc (.cells #[.int .i64 (-1), .int .i64 4] 3)) from belo))
      have P4 := Lib.hid (P3.out.call (show Below w3.heap.size w3 (w3.alloc (.cells #[.int .i64 (-1), .int .i64 4] 3)) from belo))
      have C4 := Lib.hid (C3.out.call (show Below w3.heap.size w3 (w3.alloc (.cells #[.int .i64 (-1), .int .i64 4] 3)) from belo))
      have G4 := Lib.hid (grown_below0 G3.out (show Below w3.heap.size w3 (w3.alloc (.cells #[.int .i64 (-1), .int .i64 4] 3)) from belo))
      have L4 := Lib.hid (lit_num w3 [-1, 4] (by decide))
      have O4 : Hid (∀ g, (Value.slice (some ⟨w3.heap.size, 0, none⟩) 2 2).ownBlock = some g → g ≠ b) := fun g e => by
        have e3 : w3.heap.size = g := by injection e
        omega
      go_wp2_with fail
      refine (cur_among_any b (N + 6 + 2) _ [-1, 4] zs _ _ C4.out L4.out (by decide) (by decide) O4.out (by omega) HR.out).mono ?_; rintro e w5 ⟨x5, rfl, _, hc5, hg5⟩
      have A5 := Lib.hid (A4.out.kept hg5 hne)
      have P5 := Lib.hid (P4.out.kept hg5 hne2)
      have C5 := Lib.hid hc5
      have G5 := Lib.hid (grown_trans0 G4.out hg5)
      have hl5 : g2 < w5.heap.size := World.block_lt_of_cell? _ _ P5.out.c0
      clear hc5 hg5 A4 P4 C4 G4 L4 O4 A3 P3 C3 G3
      have A9 := Lib.hid (A5.out.other hne3 (o := 0) (u := .int .i64 x5))
      have C9 := Lib.hid (Cur.put H.out C5.out (a := ⟨g2, 0, none⟩) (by dsimp only; omega) rfl (.int .i64 x5))
      have G9 := Lib.hid (grown_set (u := .int .i64 x5) (a := ⟨g2, 0, none⟩) G5.out (by dsimp only; omega) hl5)
      obtain ⟨b0, b1, b2, q0, q1, q2⟩ := P5.out
      obtain ⟨a0, a1, a2, f0, f1, f2⟩ := A5.out
      clear A5 C5 G5 P5
      have hl9 : w.heap.size < (w5.setCell ⟨g2, 0, none⟩ (.int .i64 x5)).heap.size := World.block_lt_of_cell? _ _ A9.out.c0
      go_wp2_with fail
      have P4 := A9.out.set x5 (x2 : Int) (x3 : Int)
      have G4 := Lib.hid (grown_set (u := .int .i64 (x3 : Int)) (a := ⟨w.heap.size, 2, none⟩) (grown_set (u := .int .i64 (x2 : Int)) (a := ⟨w.heap.size, 1, none⟩) (grown_set (u := .int .i64 x5) (a := ⟨w.heap.size, 0, none⟩) G9.out (Nat.le_refl _) hl9) (Nat.le_refl _) (by simpa using hl9)) (Nat.le_refl _) (by simpa using hl9))
      have C4 := Lib.hid (Cur.put H.out (Cur.put H.out (Cur.put H.out C9.out (a := ⟨w.heap.size, 0, none⟩) (Nat.le_refl _) rfl (.int .i64 x5)) (a := ⟨w.heap.size, 1, none⟩) (Nat.le_refl _) rfl (.int .i64 (x2 : Int))) (a := ⟨w.heap.size, 2, none⟩) (Nat.le_refl _) rfl (.int .i64 (x3 : Int)))
      clear C9 G9 A9 a0 a1 a2 f0 f1 f2 b0 b1 b2 q0 q1 q2
      generalize ((((w5.setCell ⟨g2, 0, none⟩ (.int .i64 x5)).setCell ⟨w.heap.size, 0, none⟩ (.int .i64 x5)).setCell ⟨w.heap.size, 1, none⟩ (.int .i64 (x2 : Int))).setCell ⟨w.heap.size, 2, none⟩ (.int .i64 (x3 : Int))) = w9 at *
      obtain ⟨a0, a1, a2, f0, f1, f2⟩ := P4
      refine bodyPost_ret (v := .agg #[.int .i64 x5, .int .i64 (x2 : Int), .int .i64 (x3 : Int)]) (by simp [results, Tryz.results31, go_sem, a0, a1, a2]) rfl ⟨x5, (x2 : Int), (x3 : Int), rfl, C4.out.le (by omega), G4.out⟩
    · go_wp2_with fail
      have A4 := Lib.hid (A3.out.call (show Below w3.heap.size w3 (w3.alloc (.cells #[.int .i64 (-1), .int .i64 31, .int .i64 32] 3)) from belo))
      have P4 := Lib.hid (P3.out.call (show Below w3.heap.size w3 (w3.alloc (.cells #[.int .i64 (-1), .int .i64 31, .int .i64 32] 3)) from belo))
      have C4 := Lib.hid (C3.out.call (show Below w3.heap.size w3 (w3.alloc (.cells #[.int .i64 (-1), .int .i64 31, .int .i64 32] 3)) from belo))
      have G4 := Lib.hid (grown_below0 G3.out (show Below w3.heap.size w3 (w3.alloc (.cells #[.int .i64 (-1), .int .i64 31, .int .i64 32] 3)) from belo))
      have L4 := Lib.hid (lit_num w3 [-1, 31, 32] (by decide))
      have O4 : Hid (∀ g, (Value.slice (some ⟨w3.heap.size, 0, none⟩) 3 3).ownBlock = some g → g ≠ b) := fun g e => by
        have e3 : w3.heap.size = g := by injection e
        omega
      go_wp2_with fail
      refine (cur_among_any b (N + 6 + 2) _ [-1, 31, 32] zs _ _ C4.out L4.out (by decide) (by decide) O4.out (by omega) HR.out).mono ?_; rintro e w5 ⟨x5, rfl, _, hc5, hg5⟩
      have A5 := Lib.hid (A4.out.kept hg5 hne)
      have P5 := Lib.hid (P4.out.kept hg5 hne2)
      have C5 := Lib.hid hc5
      have G5 := Lib.hid (grown_trans0 G4.out hg5)
      have hl5 : g2 < w5.heap.size := World.block_lt_of_cell? _ _ P5.out.c0
      clear hc5 hg5 A4 P4 C4 G4 L4 O4 A3 P3 C3 G3
      have A9 := Lib.hid (A5.out.other hne3 (o := 1) (u := .int .i64 x5))
      have C9 := Lib.hid (Cur.put H.out C5.out (a := ⟨g2, 1, none⟩) (by dsimp only; omega) rfl (.int .i64 x5))
      have G9 := Lib.hid (grown_set (u := .int .i64 x5) (a := ⟨g2, 1, none⟩) G5.out (by dsimp only; omega) hl5)
      obtain ⟨b0, b1, b2, q0, q1, q2⟩ := P5.out
      obtain ⟨a0, a1, a2, f0, f1, f2⟩ := A5.out
      clear A5 C5 G5 P5
      have hl9 : w.heap.size < (w5.setCell ⟨g2, 1, none⟩ (.int .i64 x5)).heap.size := World.block_lt_of_cell? _ _ A9.out.c0
      go_wp2_with fail
      have P4 := A9.out.set (x1 : Int) x5 (x3 : Int)
      have G4 := Lib.hid (grown_set (u := .int .i64 (x3 : Int)) (a := ⟨w.heap.size, 2, none⟩) (grown_set (u := .int .i64 x5) (a := ⟨w.heap.size, 1, none⟩) (grown_set (u := .int .i64 (x1 : Int)) (a := ⟨w.heap.size, 0, none⟩) G9.out (Nat.le_refl _) hl9) (Nat.le_refl _) (by simpa using hl9)) (Nat.le_refl _) (by simpa using hl9))
      have C4 := Lib.hid (Cur.put H.out (Cur.put H.out (Cur.put H.out C9.out (a := ⟨w.heap.size, 0, none⟩) (Nat.le_refl _) rfl (.int .i64 (x1 : Int))) (a := ⟨w.heap.size, 1, none⟩) (Nat.le_refl _) rfl (.int .i64 x5)) (a := ⟨w.heap.size, 2, none⟩) (Nat.le_refl _) rfl (.int .i64 (x3 : Int)))
      clear C9 G9 A9 a0 a1 a2 f0 f1 f2 b0 b1 b2 q0 q1 q2
      generalize ((((w5.setCell ⟨g2, 1, none⟩ (.int .i64 x5)).setCell ⟨w.heap.size, 0, none⟩ (.int .i64 (x1 : Int))).setCell ⟨w.heap.size, 1, none⟩ (.int .i64 x5)).setCell ⟨w.heap.size, 2, none⟩ (.int .i64 (x3 : Int))) = w9 at *
      obtain ⟨a0, a1, a2, f0, f1, f2⟩ := P4
      refine bodyPost_ret (v := .agg #[.int .i64 (x1 : Int), .int .i64 x5, .int .i64 (x3 : Int)]) (by simp [results, Tryz.results31, go_sem, a0, a1, a2]) rfl ⟨(x1 : Int), x5, (x3 : Int), rfl, C4.out.le (by omega), G4.out⟩
    · go_wp2_with fail
      have A4 := Lib.hid (A3.out.call (show Below w3.heap.size w3 (w3.alloc (.cells #[.int .i64 (-1), .int .i64 31, .int .i64 32] 3)) from belo))
      have P4 := Lib.hid (P3.out.call (show Below w3.heap.size w3 (w3.alloc (.cells #[.int .i64 (-1), .int .i64 31, .int .i64 32] 3)) from belo))
      have C4 := Lib.hid (C3.out.call (show Below w3.heap.size w3 (w3.alloc (.cells #[.int .i64 (-1), .int .i64 31, .int .i64 32] 3)) from belo))
      have G4 := Lib.hid (grown_below0 G3.out (show Below w3.heap.size w3 (w3.alloc (.cells #[.int .i64 (-1), .int .i64 31, .int .i64 32] 3)) from belo))
      have L4 := Lib.hid (lit_num w3 [-1, 31, 32] (by decide))
      have O4 : Hid (∀ g, (Value.slice (some ⟨w3.heap.size, 0, none⟩) 3 3).ownBlock = some g → g ≠ b) := fun g e => by
        have e3 : w3.heap.size = g := by injection e
        omega
      go_wp2_with fail
      refine (cur_among_any b (N + 6 + 2) _ [-1, 31, 32] zs _ _ C4.out L4.out (by decide) (by decide) O4.out (by omega) HR.out).mono ?_; rintro e w5 ⟨x5, rfl, _, hc5, hg5⟩
      have A5 := Lib.hid (A4.out.kept hg5 hne)
      have P5 := Lib.hid (P4.out.kept hg5 hne2)
      have C5 := Lib.hid hc5
      have G5 := Lib.hid (grown_trans0 G4.out hg5)
      have hl5 : g2 < w5.heap.size := World.block_lt_of_cell? _ _ P5.out.c0
      clear hc5 hg5 A4 P4 C4 G4 L4 O4 A3 P3 C3 G3
      have A9 := Lib.hid (A5.out.other hne3 (o := 2) (u := .int .i64 x5))
      have C9 := Lib.hid (Cur.put H.out C5.out (a := ⟨g2, 2, none⟩) (by dsimp only; omega) rfl (.int .i64 x5))
      have G9 := Lib.hid (grown_set (u := .int .i64 x5) (a := ⟨g2, 2, none⟩) G5.out (by dsimp only; omega) hl5)
      obtain ⟨b0, b1, b2, q0, q1, q2⟩ := P5.out
      obtain ⟨a0, a1, a2, f0, f1, f2⟩ := A5.out
      clear A5 C5 G5 P5
      have hl9 : w.heap.size < (w5.setCell ⟨g2, 2, none⟩ (.int .i64 x5)).heap.size := World.block_lt_of_cell? _ _ A9.out.c0
      go_wp2_with fail
      have P4 := A9.out.set (x1 : Int) (x2 : Int) x5
      have G4 := Lib.hid (grown_set (u := .int .i64 x5) (a := ⟨w.heap.size, 2, none⟩) (grown_set (u := .int .i64 (x2 : Int)) (a := ⟨w.heap.size, 1, none⟩) (grown_set (u := .int .i64 (x1 : Int)) (a := ⟨w.heap.size, 0, none⟩) G9.out (Nat.le_refl _) hl9) (Nat.le_refl _) (by simpa using hl9)) (Nat.le_refl _) (by simpa using hl9))
      have C4 := Lib.hid (Cur.put H.out (Cur.put H.out (Cur.put H.out C9.out (a := ⟨w.heap.size, 0, none⟩) (Nat.le_refl _) rfl (.int .i64 (x1 : Int))) (a := ⟨w.heap.size, 1, none⟩) (Nat.le_refl _) rfl (.int .i64 (x2 : Int))) (a := ⟨w.heap.size, 2, none⟩) (Nat.le_refl _) rfl (.int .i64 x5))
      clear C9 G9 A9 a0 a1 a2 f0 f1 f2 b0 b1 b2 q0 q1 q2
      generalize ((((w5.setCell ⟨g2, 2, none⟩ (.int .i64 x5)).setCell ⟨w.heap.size, 0, none⟩ (.int .i64 (x1 : Int))).setCell ⟨w.heap.size, 1, none⟩ (.int .i64 (x2 : Int))).setCell ⟨w.heap.size, 2, none⟩ (.int .i64 x5)) = w9 at *
      obtain ⟨a0, a1, a2, f0, f1, f2⟩ := P4
      refine bodyPost_ret (v := .agg #[.int .i64 (x1 : Int), .int .i64 (x2 : Int), .int .i64 x5]) (by simp [results, Tryz.results31, go_sem, a0, a1, a2]) rfl ⟨(x1 : Int), (x2 : Int), x5, rfl, C4.out.le (by omega), G4.out⟩
  · have i0 : ¬ (x4 : Int) = 0 := by omega
    have i1 : ¬ (x4 : Int) = 1 := by omega
    have i2 : ¬ (x4 : Int) = 2 := by omega
    obtain ⟨b0, b1, b2, q0, q1, q2⟩ := P3.out
    obtain ⟨a0, a1, a2, f0, f1, f2⟩ := A3.out
    have A9 := A3
    have C9 := C3
    have G9 := G3
    clear A3 C3 G3 P3
    have hl9 : w.heap.size < (w3).heap.size := World.block_lt_of_cell? _ _ A9.out.c0
    go_wp2_with fail
    have P4 := A9.out.set (x1 : Int) (x2 : Int) (x3 : Int)
    have G4 := Lib.hid (grown_set (u := .int .i64 (x3 : Int)) (a := ⟨w.heap.size, 2, none⟩) (grown_set (u := .int .i64 (x2 : Int)) (a := ⟨w.heap.size, 1, none⟩) (grown_set (u := .int .i64 (x1 : Int)) (a := ⟨w.heap.size, 0, none⟩) G9.out (Nat.le_refl _) hl9) (Nat.le_refl _) (by simpa using hl9)) (Nat.le_refl _) (by simpa using hl9))
    have C4 := Lib.hid (Cur.put H.out (Cur.put H.out (Cur.put H.out C9.out (a := ⟨w.heap.size, 0, none⟩) (Nat.le_refl _) rfl (.int .i64 (x1 : Int))) (a := ⟨w.heap.size, 1, none⟩) (Nat.le_refl _) rfl (.int .i64 (x2 : Int))) (a := ⟨w.heap.size, 2, none⟩) (Nat.le_refl _) rfl (.int .i64 (x3 : Int)))
    clear C9 G9 A9 a0 a1 a2 f0 f1 f2 b0 b1 b2 q0 q1 q2
    generalize ((((w3).setCell ⟨w.heap.size, 0, none⟩ (.int .i64 (x1 : Int))).setCell ⟨w.heap.size, 1, none⟩ (.int .i64 (x2 : Int))).setCell ⟨w.heap.size, 2, none⟩ (.int .i64 (x3 : Int))) = w9 at *
    obtain ⟨a0, a1, a2, f0, f1, f2⟩ := P4
    refine bodyPost_ret (v := .agg #[.int .i64 (x1 : Int), .int .i64 (x2 : Int), .int .i64 (x3 : Int)]) (by simp [results, Tryz.results31, go_sem, a0, a1, a2]) rfl ⟨(x1 : Int), (x2 : Int), (x3 : Int), rfl, C4.out.le (by omega), G4.out⟩
end Go.Proofs.YtnckabohlakbgaaGreat
namespace Go.Proofs.YtnckabohlakbgaaGreat
set_option linter.unusedSimpArgs false
set_option linter.unusedVariables false
set_option linter.unnecessarySimpa false
set_option maxRecDepth 200000
open Go.ChangeShapes Go.WideShapes Go.ChangeAt Go.RowKit

abbrev EC (g : E3) : Array Value := #[.int .i64 g.a, .int .i64 g.b, .int .i64 g.c]
/-- Three boxes at a world's end: two operators, and the result's. -/
structure Tr (w0 w : World) (a b : E3) : Prop where
  bel : Below w0.heap.size w0 w
  a : PB w w0.heap.size a.a a.b a.c
  b : PB w (w0.heap.size + 1) b.a b.b b.c
  r : PB w (w0.heap.size + 2) 0 0 0
theorem Tr.new (w : World) (a b : E3) : Tr w (((w.alloc (.cells (EC a) 33)).alloc (.cells (EC b) 33)).alloc (.cells #[.int .i64 0, .int .i64 0, .int .i64 0] 33)) a b :=
  ⟨belo, ⟨cela, cela, cela, froza, froza, froza⟩, ⟨cela, cela, cela, froza, froza, froza⟩, ⟨cela, cela, cela, froza, froza, froza⟩⟩
theorem Tr.call {w0 w w' : World} {a b : E3} (h : Tr w0 w a b) (hb : Below w.heap.size w w') : Tr w0 w' a b :=
  ⟨Below.trans h.bel (hb.mono (Nat.le_of_lt (World.block_lt_of_cell? _ _ h.a.c0))), h.a.call hb, h.b.call hb, h.r.call hb⟩
theorem pauB_nat {n : Int} {g : E3} (h : pauB n g = true) : g = (tn g).e ∧ PNok (tn g) := by
  have := of_decide_eq_true h
  exact this.2.nat this.1.1 this.1.2
end Go.Proofs.YtnckabohlakbgaaGreat
namespace Go.Proofs.YtnckabohlakbgaaGreat
set_option linter.unusedSimpArgs false
set_option linter.unusedVariables false
set_option linter.unnecessarySimpa false
set_option maxRecDepth 200000
open Go.ChangeShapes Go.WideShapes Go.ChangeAt Go.RowKit

/-- The letter's byte: I, X, Z, Y. -/
def letB (l : Nat) : Nat := if l = 0 then 73 else if l = 1 then 88 else if l = 2 then 90 else 89
set_option maxHeartbeats 4000000 in
theorem impl_letterOf_any (a : PN) (q : Nat) (w : World) (ha : PNok a) (hq : q ≤ 60) :
    Calls Tryz.prog 53 #[.agg #[.int .i64 ((a).p : Int), .int .i64 ((a).x : Int), .int .i64 ((a).z : Int)], .int .i64 (q : Int)] w fun e w' => e = .returned (.int .u8 ((letB (ltr a q) : Nat) : Int)) ∧ Below w.heap.size w w' := by
  obtain ⟨p, x, z⟩ := a
  obtain ⟨hp, hx, hz⟩ := ha
  dsimp only at *
  have b1 := bit_one x q (by omega)
  have b2 := bit_one z q (by omega)
  have l1 := bt_le x q; have l2 := bt_le z q
  unfold ltr
  dsimp only
  have h1 : bt x q = 0 ∨ bt x q = 1 := by omega
  have h2 : bt z q = 0 ∨ bt z q = 1 := by omega
  clear l1 l2
  rcases h1 with h1 | h1 <;> rcases h2 with h2 | h2
  all_goals
    rw [h1] at b1 ⊢
    rw [h2] at b2 ⊢
    simp only [Int.natCast_zero, Int.natCast_one] at b1 b2
    clear h1 h2
    go_enter Tryz.func53, Tryz.ntmps53
    go_wp2_with fail
    go_region
    go_wp2_with fail
    go_ret
    exact ⟨rfl, belo⟩
end Go.Proofs.YtnckabohlakbgaaGreat
namespace Go.Proofs.YtnckabohlakbgaaGreat
set_option linter.unusedSimpArgs false
set_option linter.unusedVariables false
set_option linter.unnecessarySimpa false
set_option maxRecDepth 200000
open Go.ChangeShapes Go.WideShapes Go.ChangeAt Go.RowKit Go.Maps

/-- The number of a code: zero (4) or a power of i. -/
def cod (c : Nat) : Dy := if c = 4 then whl 0 else phs (2 * c)
theorem byte_law : Keyed Tryz.prog 5 := int_keyed Tryz.underlying5
theorem Em.letter (w : World) : Em (H := Unit) w ((w.alloc (.cells #[.int .i64 0, .int .i64 0, .int .i64 0, .int .i64 0, .int .i64 0] 86)).alloc (.map #[] 0))
    [(w.heap.size, [.int .i64 0, .int .i64 0, .int .i64 0, .int .i64 0, .int .i64 0])] 5 3 (w.heap.size + 1) 0 (.map []) := by
  refine ⟨((Sb.nil w).push [.int .i64 0, .int .i64 0, .int .i64 0, .int .i64 0, .int .i64 0] 86 rfl).alloc (.map #[] 0), ?_, by omega, ?_⟩
  · have h := World.ownsMap_made (H := Unit) (w.alloc (.cells #[.int .i64 0, .int .i64 0, .int .i64 0, .int .i64 0, .int .i64 0] 86)) Tryz.prog 5 (plainElem Tryz.prog 3)
    simpa using h
  · intro p hp
    simp only [List.mem_cons, List.not_mem_nil, or_false] at hp
    rcases hp with rfl; (dsimp only; omega)
def letD : DataW Unit := (((DataW.map []).put (.int .u8 88) (.lit (.int .i64 2))).put (.int .u8 89) (.lit (.int .i64 3))).put (.int .u8 90) (.lit (.int .i64 4))
theorem lookL0 {c : Int} (h : letD.atKey (.int .u8 73) (.lit (.int .i64 0)) = .lit (.int .i64 c)) : c = 0 := by
  rw [show letD.atKey (.int .u8 73) (.lit (.int .i64 0)) = .lit (.int .i64 0) from by kernel_rfl] at h; injection h with h; injection h with _ h; exact h.symm
theorem lookL1 {c : Int} (h : letD.atKey (.int .u8 88) (.lit (.int .i64 0)) = .lit (.int .i64 c)) : c = 2 := by
  rw [show letD.atKey (.int .u8 88) (.lit (.int .i64 0)) = .lit (.int .i64 2) from by kernel_rfl] at h; injection h with h; injection h with _ h; exact h.symm
theorem lookL2 {c : Int} (h : letD.atKey (.int .u8 90) (.lit (.int .i64 0)) = .lit (.int .i64 c)) : c = 4 := by
  rw [show letD.atKey (.int .u8 90) (.lit (.int .i64 0)) = .lit (.int .i64 4) from by kernel_rfl] at h; injection h with h; injection h with _ h; exact h.symm
theorem lookL3 {c : Int} (h : letD.atKey (.int .u8 89) (.lit (.int .i64 0)) = .lit (.int .i64 c)) : c = 3 := by
  rw [show letD.atKey (.int .u8 89) (.lit (.int .i64 0)) = .lit (.int .i64 3) from by kernel_rfl] at h; injection h with h; injection h with _ h; exact h.symm
theorem fac_cod : ∀ l : Fin 4, ∀ i : Fin 2, ∀ j : Fin 2, l.val ≠ 0 → entD (if l.val = 1 then 2 else if l.val = 2 then 4 else 3) i.val j.val = cod (facU l.val i.val j.val) := by decide +kernel
set_option maxHeartbeats 16000000 in
theorem impl_factor_ok (l i j : Nat) (w : World) (hl : l ≤ 3) (hi : i ≤ 1) (hj : j ≤ 1) :
    Calls Tryz.prog 52 #[.int .u8 ((letB l : Nat) : Int), .int .i64 (i : Int), .int .i64 (j : Int)] w fun r w' => r = .returned (cod (facU l i j)).v ∧ Below w.heap.size w w' := by
  have E := Lib.hid (Em.letter w)
  have hmm := @run_makeMap Tryz.prog
  rcases (show l = 0 ∨ l = 1 ∨ l = 2 ∨ l = 3 by omega) with rfl | rfl | rfl | rfl
  · rw [show letB 0 = 73 from rfl]
    rcases (show i = 0 ∨ i = 1 by omega) with rfl | rfl <;> rcases (show j = 0 ∨ j = 1 by omega) with rfl | rfl
    · rw [show cod (facU 0 0 0) = whl 1 from rfl]
      go_enter Tryz.func52, Tryz.ntmps52
      go_wp2_with (first | (refine wpList_insert_own _ rfl _ _ _ 116 rfl 5 3 byte_law Tryz.underlying116 (plainElem Tryz.prog 3) (w.heap.size + 1) _ _ rfl E.out.own (by unfold maxLen; omega) _ _ _ rfl rfl (keyOf_int_mk Tryz.underlying5 (by decide)) _ [] (plainElem_int Tryz.underlying3 (by decide)) ?_; intro w1 hown1 hg1; replace E := Lib.hid (E.out.step hown1 hg1); clear hown1 hg1; obtain ⟨⟨c0, c1, c2, c3, c4⟩, f0, f1, f2, f3, f4⟩ := (E.out.bx.at 0 rfl).c5) | (at_lookup; refine wpList_lookup_own_int _ rfl _ _ 116 rfl 5 3 .i64 byte_law Tryz.underlying116 Tryz.underlying3 (zero_int _) (w.heap.size + 1) _ _ rfl E.out.own _ _ rfl (keyOf_int_mk (a := 73) Tryz.underlying5 (by decide)) ?_; intro c hat hwc; obtain rfl := lookL0 hat; clear hat hwc))
      clear c0 c1 c2 c3 c4 f0 f1 f2 f3 f4
      refine (impl_small_ok true _).mono ?_; rintro e2 w2 ⟨rfl, hb2⟩
      replace E := Lib.hid (E.out.call hb2)
      clear hb2
      go_wp2_with fail
      refine (impl_whole_ok 1 _).mono ?_; rintro e2 w3 ⟨rfl, hb3⟩
      replace E := Lib.hid (E.out.call hb3)
      clear hb3
      rw [show (whl 1).v = (.agg #[.int .i64 1, .int .i64 0, .int .i64 0, .int .i64 0, .int .i64 0] : Value) from rfl]
      obtain ⟨⟨c0, c1, c2, c3, c4⟩, f0, f1, f2, f3, f4⟩ := (E.out.bx.at 0 rfl).c5
      have S9 := Lib.hid (((((E.out.bx.set0 0 (.int .i64 1)).set0 1 (.int .i64 0)).set0 2 (.int .i64 0)).set0 3 (.int .i64 0)).set0 4 (.int .i64 0))
      go_wp2_with fail
      clear c0 c1 c2 c3 c4 f0 f1 f2 f3 f4
      generalize ((((w3.setCell ⟨w.heap.size, 0, none⟩ (.int .i64 1)).setCell ⟨w.heap.size, 1, none⟩ (.int .i64 0)).setCell ⟨w.heap.size, 2, none⟩ (.int .i64 0)).setCell ⟨w.heap.size, 3, none⟩ (.int .i64 0)).setCell ⟨w.heap.size, 4, none⟩ (.int .i64 0) = w9 at *
      obtain ⟨⟨c0, c1, c2, c3, c4⟩, _⟩ := (S9.out.at 0 rfl).c5
      refine bodyPost_ret (v := .agg #[.int .i64 1, .int .i64 0, .int .i64 0, .int .i64 0, .int .i64 0]) (by simp [results, Tryz.results52, go_sem, c0, c1, c2, c3, c4]) rfl ⟨rfl, S9.out.bel⟩
    · rw [show cod (facU 0 0 1) = whl 0 from rfl]
      go_enter Tryz.func52, Tryz.ntmps52
      go_wp2_with (first | (refine wpList_insert_own _ rfl _ _ _ 116 rfl 5 3 byte_law Tryz.underlying116 (plainElem Tryz.prog 3) (w.heap.size + 1) _ _ rfl E.out.own (by unfold maxLen; omega) _ _ _ rfl rfl (keyOf_int_mk Tryz.underlying5 (by decide)) _ [] (plainElem_int Tryz.underlying3 (by decide)) ?_; intro w1 hown1 hg1; replace E := Lib.hid (E.out.step hown1 hg1); clear hown1 hg1; obtain ⟨⟨c0, c1, c2, c3, c4⟩, f0, f1, f2, f3, f4⟩ := (E.out.bx.at 0 rfl).c5) | (at_lookup; refine wpList_lookup_own_int _ rfl _ _ 116 rfl 5 3 .i64 byte_law Tryz.underlying116 Tryz.underlying3 (zero_int _) (w.heap.size + 1) _ _ rfl E.out.own _ _ rfl (keyOf_int_mk (a := 73) Tryz.underlying5 (by decide)) ?_; intro c hat hwc; obtain rfl := lookL0 hat; clear hat hwc))
      clear c0 c1 c2 c3 c4 f0 f1 f2 f3 f4
      refine (impl_small_ok false _).mono ?_; rintro e2 w2 ⟨rfl, hb2⟩
      replace E := Lib.hid (E.out.call hb2)
      clear hb2
      go_wp2_with fail
      refine (impl_whole_ok 0 _).mono ?_; rintro e2 w3 ⟨rfl, hb3⟩
      replace E := Lib.hid (E.out.call hb3)
      clear hb3
      rw [show (whl 0).v = (.agg #[.int .i64 0, .int .i64 0, .int .i64 0, .int .i64 0, .int .i64 0] : Value) from rfl]
      obtain ⟨⟨c0, c1, c2, c3, c4⟩, f0, f1, f2, f3, f4⟩ := (E.out.bx.at 0 rfl).c5
      have S9 := Lib.hid (((((E.out.bx.set0 0 (.int .i64 0)).set0 1 (.int .i64 0)).set0 2 (.int .i64 0)).set0 3 (.int .i64 0)).set0 4 (.int .i64 0))
      go_wp2_with fail
      clear c0 c1 c2 c3 c4 f0 f1 f2 f3 f4
      generalize ((((w3.setCell ⟨w.heap.size, 0, none⟩ (.int .i64 0)).setCell ⟨w.heap.size, 1, none⟩ (.int .i64 0)).setCell ⟨w.heap.size, 2, none⟩ (.int .i64 0)).setCell ⟨w.heap.size, 3, none⟩ (.int .i64 0)).setCell ⟨w.heap.size, 4, none⟩ (.int .i64 0) = w9 at *
      obtain ⟨⟨c0, c1, c2, c3, c4⟩, _⟩ := (S9.out.at 0 rfl).c5
      refine bodyPost_ret (v := .agg #[.int .i64 0, .int .i64 0, .int .i64 0, .int .i64 0, .int .i64 0]) (by simp [results, Tryz.results52, go_sem, c0, c1, c2, c3, c4]) rfl ⟨rfl, S9.out.bel⟩
    · rw [show cod (facU 0 1 0) = whl 0 from rfl]
      go_enter Tryz.func52, Tryz.ntmps52
      go_wp2_with (first | (refine wpList_insert_own _ rfl _ _ _ 116 rfl 5 3 byte_law Tryz.underlying116 (plainElem Tryz.prog 3) (w.heap.size + 1) _ _ rfl E.out.own (by unfold maxLen; omega) _ _ _ rfl rfl (keyOf_int_mk Tryz.underlying5 (by decide)) _ [] (plainElem_int Tryz.underlying3 (by decide)) ?_; intro w1 hown1 hg1; replace E := Lib.hid (E.out.step hown1 hg1); clear hown1 hg1; obtain ⟨⟨c0, c1, c2, c3, c4⟩, f0, f1, f2, f3, f4⟩ := (E.out.bx.at 0 rfl).c5) | (at_lookup; refine wpList_lookup_own_int _ rfl _ _ 116 rfl 5 3 .i64 byte_law Tryz.underlying116 Tryz.underlying3 (zero_int _) (w.heap.size + 1) _ _ rfl E.out.own _ _ rfl (keyOf_int_mk (a := 73) Tryz.underlying5 (by decide)) ?_; intro c hat hwc; obtain rfl := lookL0 hat; clear hat hwc))
      clear c0 c1 c2 c3 c4 f0 f1 f2 f3 f4
      refine (impl_small_ok false _).mono ?_; rintro e2 w2 ⟨rfl, hb2⟩
      replace E := Lib.hid (E.out.call hb2)
      clear hb2
      go_wp2_with fail
      refine (impl_whole_ok 0 _).mono ?_; rintro e2 w3 ⟨rfl, hb3⟩
      replace E := Lib.hid (E.out.call hb3)
      clear hb3
      rw [show (whl 0).v = (.agg #[.int .i64 0, .int .i64 0, .int .i64 0, .int .i64 0, .int .i64 0] : Value) from rfl]
      obtain ⟨⟨c0, c1, c2, c3, c4⟩, f0, f1, f2, f3, f4⟩ := (E.out.bx.at 0 rfl).c5
      have S9 := Lib.hid (((((E.out.bx.set0 0 (.int .i64 0)).set0 1 (.int .i64 0)).set0 2 (.int .i64 0)).set0 3 (.int .i64 0)).set0 4 (.int .i64 0))
      go_wp2_with fail
      clear c0 c1 c2 c3 c4 f0 f1 f2 f3 f4
      generalize ((((w3.setCell ⟨w.heap.size, 0, none⟩ (.int .i64 0)).setCell ⟨w.heap.size, 1, none⟩ (.int .i64 0)).setCell ⟨w.heap.size, 2, none⟩ (.int .i64 0)).setCell ⟨w.heap.size, 3, none⟩ (.int .i64 0)).setCell ⟨w.heap.size, 4, none⟩ (.int .i64 0) = w9 at *
      obtain ⟨⟨c0, c1, c2, c3, c4⟩, _⟩ := (S9.out.at 0 rfl).c5
      refine bodyPost_ret (v := .agg #[.int .i64 0, .int .i64 0, .int .i64 0, .int .i64 0, .int .i64 0]) (by simp [results, Tryz.results52, go_sem, c0, c1, c2, c3, c4]) rfl ⟨rfl, S9.out.bel⟩
    · rw [show cod (facU 0 1 1) = whl 1 from rfl]
      go_enter Tryz.func52, Tryz.ntmps52
      go_wp2_with (first | (refine wpList_insert_own _ rfl _ _ _ 116 rfl 5 3 byte_law Tryz.underlying116 (plainElem Tryz.prog 3) (w.heap.size + 1) _ _ rfl E.out.own (by unfold maxLen; omega) _ _ _ rfl rfl (keyOf_int_mk Tryz.underlying5 (by decide)) _ [] (plainElem_int Tryz.underlying3 (by decide)) ?_; intro w1 hown1 hg1; replace E := Lib.hid (E.out.step hown1 hg1); clear hown1 hg1; obtain ⟨⟨c0, c1, c2, c3, c4⟩, f0, f1, f2, f3, f4⟩ := (E.out.bx.at 0 rfl).c5) | (at_lookup; refine wpList_lookup_own_int _ rfl _ _ 116 rfl 5 3 .i64 byte_law Tryz.underlying116 Tryz.underlying3 (zero_int _) (w.heap.size + 1) _ _ rfl E.out.own _ _ rfl (keyOf_int_mk (a := 73) Tryz.underlying5 (by decide)) ?_; intro c hat hwc; obtain rfl := lookL0 hat; clear hat hwc))
      clear c0 c1 c2 c3 c4 f0 f1 f2 f3 f4
      refine (impl_small_ok true _).mono ?_; rintro e2 w2 ⟨rfl, hb2⟩
      replace E := Lib.hid (E.out.call hb2)
      clear hb2
      go_wp2_with fail
      refine (impl_whole_ok 1 _).mono ?_; rintro e2 w3 ⟨rfl, hb3⟩
      replace E := Lib.hid (E.out.call hb3)
      clear hb3
      rw [show (whl 1).v = (.agg #[.int .i64 1, .int .i64 0, .int .i64 0, .int .i64 0, .int .i64 0] : Value) from rfl]
      obtain ⟨⟨c0, c1, c2, c3, c4⟩, f0, f1, f2, f3, f4⟩ := (E.out.bx.at 0 rfl).c5
      have S9 := Lib.hid (((((E.out.bx.set0 0 (.int .i64 1)).set0 1 (.int .i64 0)).set0 2 (.int .i64 0)).set0 3 (.int .i64 0)).set0 4 (.int .i64 0))
      go_wp2_with fail
      clear c0 c1 c2 c3 c4 f0 f1 f2 f3 f4
      generalize ((((w3.setCell ⟨w.heap.size, 0, none⟩ (.int .i64 1)).setCell ⟨w.heap.size, 1, none⟩ (.int .i64 0)).setCell ⟨w.heap.size, 2, none⟩ (.int .i64 0)).setCell ⟨w.heap.size, 3, none⟩ (.int .i64 0)).setCell ⟨w.heap.size, 4, none⟩ (.int .i64 0) = w9 at *
      obtain ⟨⟨c0, c1, c2, c3, c4⟩, _⟩ := (S9.out.at 0 rfl).c5
      refine bodyPost_ret (v := .agg #[.int .i64 1, .int .i64 0, .int .i64 0, .int .i64 0, .int .i64 0]) (by simp [results, Tryz.results52, go_sem, c0, c1, c2, c3, c4]) rfl ⟨rfl, S9.out.bel⟩
  · rw [show letB 1 = 88 from rfl]
    have hf := fac_cod ⟨1, by decide⟩ ⟨i, by omega⟩ ⟨j, by omega⟩ (by decide)
    have CE := Lib.hid (fun W => impl_entry_ok 2 i j W (by decide) (by decide) hi hj)
    rw [show entD 2 i j = cod (facU 1 i j) from hf] at CE
    clear hf
    generalize cod (facU 1 i j) = D at *
    obtain ⟨⟨da, db, dc, dd⟩, de⟩ := D
    dsimp only [Dy.v] at CE ⊢
    go_enter Tryz.func52, Tryz.ntmps52
    go_wp2_with (first | (refine wpList_insert_own _ rfl _ _ _ 116 rfl 5 3 byte_law Tryz.underlying116 (plainElem Tryz.prog 3) (w.heap.size + 1) _ _ rfl E.out.own (by unfold maxLen; omega) _ _ _ rfl rfl (keyOf_int_mk Tryz.underlying5 (by decide)) _ [] (plainElem_int Tryz.underlying3 (by decide)) ?_; intro w1 hown1 hg1; replace E := Lib.hid (E.out.step hown1 hg1); clear hown1 hg1; obtain ⟨⟨c0, c1, c2, c3, c4⟩, f0, f1, f2, f3, f4⟩ := (E.out.bx.at 0 rfl).c5) | (at_lookup; refine wpList_lookup_own_int _ rfl _ _ 116 rfl 5 3 .i64 byte_law Tryz.underlying116 Tryz.underlying3 (zero_int _) (w.heap.size + 1) _ _ rfl E.out.own _ _ rfl (keyOf_int_mk (a := 88) Tryz.underlying5 (by decide)) ?_; intro c hat hwc; obtain rfl := lookL1 hat; clear hat hwc))
    clear c0 c1 c2 c3 c4 f0 f1 f2 f3 f4
    refine (CE.out _).mono ?_; rintro e2 w2 ⟨rfl, hb2⟩
    replace E := Lib.hid (E.out.call hb2)
    clear hb2 CE
    obtain ⟨⟨c0, c1, c2, c3, c4⟩, f0, f1, f2, f3, f4⟩ := (E.out.bx.at 0 rfl).c5
    have S9 := Lib.hid (((((E.out.bx.set0 0 (.int .i64 da)).set0 1 (.int .i64 db)).set0 2 (.int .i64 dc)).set0 3 (.int .i64 dd)).set0 4 (.int .i64 (de : Int)))
    go_wp2_with fail
    clear c0 c1 c2 c3 c4 f0 f1 f2 f3 f4
    generalize ((((w2.setCell ⟨w.heap.size, 0, none⟩ (.int .i64 da)).setCell ⟨w.heap.size, 1, none⟩ (.int .i64 db)).setCell ⟨w.heap.size, 2, none⟩ (.int .i64 dc)).setCell ⟨w.heap.size, 3, none⟩ (.int .i64 dd)).setCell ⟨w.heap.size, 4, none⟩ (.int .i64 (de : Int)) = w9 at *
    obtain ⟨⟨c0, c1, c2, c3, c4⟩, _⟩ := (S9.out.at 0 rfl).c5
    refine bodyPost_ret (v := .agg #[.int .i64 da, .int .i64 db, .int .i64 dc, .int .i64 dd, .int .i64 (de : Int)]) (by simp [results, Tryz.results52, go_sem, c0, c1, c2, c3, c4]) rfl ⟨rfl, S9.out.bel⟩
  · rw [show letB 2 = 90 from rfl]
    have hf := fac_cod ⟨2, by decide⟩ ⟨i, by omega⟩ ⟨j, by omega⟩ (by decide)
    have CE := Lib.hid (fun W => impl_entry_ok 4 i j W (by decide) (by decide) hi hj)
    rw [show entD 4 i j = cod (facU 2 i j) from hf] at CE
    clear hf
    generalize cod (facU 2 i j) = D at *
    obtain ⟨⟨da, db, dc, dd⟩, de⟩ := D
    dsimp only [Dy.v] at CE ⊢
    go_enter Tryz.func52, Tryz.ntmps52
    go_wp2_with (first | (refine wpList_insert_own _ rfl _ _ _ 116 rfl 5 3 byte_law Tryz.underlying116 (plainElem Tryz.prog 3) (w.heap.size + 1) _ _ rfl E.out.own (by unfold maxLen; omega) _ _ _ rfl rfl (keyOf_int_mk Tryz.underlying5 (by decide)) _ [] (plainElem_int Tryz.underlying3 (by decide)) ?_; intro w1 hown1 hg1; replace E := Lib.hid (E.out.step hown1 hg1); clear hown1 hg1; obtain ⟨⟨c0, c1, c2, c3, c4⟩, f0, f1, f2, f3, f4⟩ := (E.out.bx.at 0 rfl).c5) | (at_lookup; refine wpList_lookup_own_int _ rfl _ _ 116 rfl 5 3 .i64 byte_law Tryz.underlying116 Tryz.underlying3 (zero_int _) (w.heap.size + 1) _ _ rfl E.out.own _ _ rfl (keyOf_int_mk (a := 90) Tryz.underlying5 (by decide)) ?_; intro c hat hwc; obtain rfl := lookL2 hat; clear hat hwc))
    clear c0 c1 c2 c3 c4 f0 f1 f2 f3 f4
    refine (CE.out _).mono ?_; rintro e2 w2 ⟨rfl, hb2⟩
    replace E := Lib.hid (E.out.call hb2)
    clear hb2 CE
    obtain ⟨⟨c0, c1, c2, c3, c4⟩, f0, f1, f2, f3, f4⟩ := (E.out.bx.at 0 rfl).c5
    have S9 := Lib.hid (((((E.out.bx.set0 0 (.int .i64 da)).set0 1 (.int .i64 db)).set0 2 (.int .i64 dc)).set0 3 (.int .i64 dd)).set0 4 (.int .i64 (de : Int)))
    go_wp2_with fail
    clear c0 c1 c2 c3 c4 f0 f1 f2 f3 f4
    generalize ((((w2.setCell ⟨w.heap.size, 0, none⟩ (.int .i64 da)).setCell ⟨w.heap.size, 1, none⟩ (.int .i64 db)).setCell ⟨w.heap.size, 2, none⟩ (.int .i64 dc)).setCell ⟨w.heap.size, 3, none⟩ (.int .i64 dd)).setCell ⟨w.heap.size, 4, none⟩ (.int .i64 (de : Int)) = w9 at *
    obtain ⟨⟨c0, c1, c2, c3, c4⟩, _⟩ := (S9.out.at 0 rfl).c5
    refine bodyPost_ret (v := .agg #[.int .i64 da, .int .i64 db, .int .i64 dc, .int .i64 dd, .int .i64 (de : Int)]) (by simp [results, Tryz.results52, go_sem, c0, c1, c2, c3, c4]) rfl ⟨rfl, S9.out.bel⟩
  · rw [show letB 3 = 89 from rfl]
    have hf := fac_cod ⟨3, by decide⟩ ⟨i, by omega⟩ ⟨j, by omega⟩ (by decide)
    have CE := Lib.hid (fun W => impl_entry_ok 3 i j W (by decide) (by decide) hi hj)
    rw [show entD 3 i j = cod (facU 3 i j) from hf] at CE
    clear hf
    generalize cod (facU 3 i j) = D at *
    obtain ⟨⟨da, db, dc, dd⟩, de⟩ := D
    dsimp only [Dy.v] at CE ⊢
    go_enter Tryz.func52, Tryz.ntmps52
    go_wp2_with (first | (refine wpList_insert_own _ rfl _ _ _ 116 rfl 5 3 byte_law Tryz.underlying116 (plainElem Tryz.prog 3) (w.heap.size + 1) _ _ rfl E.out.own (by unfold maxLen; omega) _ _ _ rfl rfl (keyOf_int_mk Tryz.underlying5 (by decide)) _ [] (plainElem_int Tryz.underlying3 (by decide)) ?_; intro w1 hown1 hg1; replace E := Lib.hid (E.out.step hown1 hg1); clear hown1 hg1; obtain ⟨⟨c0, c1, c2, c3, c4⟩, f0, f1, f2, f3, f4⟩ := (E.out.bx.at 0 rfl).c5) | (at_lookup; refine wpList_lookup_own_int _ rfl _ _ 116 rfl 5 3 .i64 byte_law Tryz.underlying116 Tryz.underlying3 (zero_int _) (w.heap.size + 1) _ _ rfl E.out.own _ _ rfl (keyOf_int_mk (a := 89) Tryz.underlying5 (by decide)) ?_; intro c hat hwc; obtain rfl := lookL3 hat; clear hat hwc))
    clear c0 c1 c2 c3 c4 f0 f1 f2 f3 f4
    refine (CE.out _).mono ?_; rintro e2 w2 ⟨rfl, hb2⟩
    replace E := Lib.hid (E.out.call hb2)
    clear hb2 CE
    obtain ⟨⟨c0, c1, c2, c3, c4⟩, f0, f1, f2, f3, f4⟩ := (E.out.bx.at 0 rfl).c5
    have S9 := Lib.hid (((((E.out.bx.set0 0 (.int .i64 da)).set0 1 (.int .i64 db)).set0 2 (.int .i64 dc)).set0 3 (.int .i64 dd)).set0 4 (.int .i64 (de : Int)))
    go_wp2_with fail
    clear c0 c1 c2 c3 c4 f0 f1 f2 f3 f4
    generalize ((((w2.setCell ⟨w.heap.size, 0, none⟩ (.int .i64 da)).setCell ⟨w.heap.size, 1, none⟩ (.int .i64 db)).setCell ⟨w.heap.size, 2, none⟩ (.int .i64 dc)).setCell ⟨w.heap.size, 3, none⟩ (.int .i64 dd)).setCell ⟨w.heap.size, 4, none⟩ (.int .i64 (de : Int)) = w9 at *
    obtain ⟨⟨c0, c1, c2, c3, c4⟩, _⟩ := (S9.out.at 0 rfl).c5
    refine bodyPost_ret (v := .agg #[.int .i64 da, .int .i64 db, .int .i64 dc, .int .i64 dd, .int .i64 (de : Int)]) (by simp [results, Tryz.results52, go_sem, c0, c1, c2, c3, c4]) rfl ⟨rfl, S9.out.bel⟩
end Go.Proofs.YtnckabohlakbgaaGreat
