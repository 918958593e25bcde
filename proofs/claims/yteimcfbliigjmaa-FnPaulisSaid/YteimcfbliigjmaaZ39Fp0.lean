/- The reference's draws of Pauli operators. -/
import Derived.Test.YteimcfbliigjmaaZ38Cup
import Derived.BigQuiet
namespace Go.Proofs.Yteimcfbliigjmaa
set_option linter.unusedSimpArgs false
set_option linter.unusedVariables false
set_option linter.unnecessarySimpa false
set_option maxRecDepth 200000
open Go.ChangeShapes Go.WideShapes Go.ChangeAt Go.RowKit

theorem cell_kept {w w' : World} {b : Nat} {a : Addr} {u : Value} (h : w.cell? a = some u) (hg : w.grownBy w' (some b)) (hn : a.block ≠ b) : w'.cell? a = some u := by
  rw [World.cell?_of_block (w := w) (w' := w') (a := a) (hg.block a.block (World.block_lt_of_cell? _ _ h) (fun e2 => hn (by injection e2)))]
  exact h
/-- A box with a Pauli operator. -/
structure PB (w : World) (g : Nat) (a b c : Int) : Prop where
  c0 : w.cell? ⟨g, 0, none⟩ = some (.int .i64 a)
  c1 : w.cell? ⟨g, 1, none⟩ = some (.int .i64 b)
  c2 : w.cell? ⟨g, 2, none⟩ = some (.int .i64 c)
  f0 : w.frozen? ⟨g, 0, none⟩ = false
  f1 : w.frozen? ⟨g, 1, none⟩ = false
  f2 : w.frozen? ⟨g, 2, none⟩ = false
theorem PB.kept {w w' : World} {g b : Nat} {x y z : Int} (h : PB w g x y z) (hg : w.grownBy w' (some b)) (hn : g ≠ b) : PB w' g x y z := by
  have hb := hg.block g (World.block_lt_of_cell? _ _ h.c0) (fun e2 => hn (by injection e2))
  exact ⟨cell_kept h.c0 hg hn, cell_kept h.c1 hg hn, cell_kept h.c2 hg hn, (World.frozen?_of_block (w := w) hb).trans h.f0, (World.frozen?_of_block (w := w) hb).trans h.f1, (World.frozen?_of_block (w := w) hb).trans h.f2⟩
theorem PB.call {w w' : World} {g : Nat} {x y z : Int} (h : PB w g x y z) (hb : Below w.heap.size w w') : PB w' g x y z := by
  have hl : g < w.heap.size := World.block_lt_of_cell? _ _ h.c0
  exact ⟨below_cell hb rfl h.c0, below_cell hb rfl h.c1, below_cell hb rfl h.c2, (hb.frozen hl).trans h.f0, (hb.frozen hl).trans h.f1, (hb.frozen hl).trans h.f2⟩
theorem PB.set {w : World} {g : Nat} {a b c : Int} (h : PB w g a b c) (x y z : Int) :
    PB (((w.setCell ⟨g, 0, none⟩ (.int .i64 x)).setCell ⟨g, 1, none⟩ (.int .i64 y)).setCell ⟨g, 2, none⟩ (.int .i64 z)) g x y z := by
  refine ⟨cell_set_other (cell_set_other (World.cell?_setCell_same _ _ _ h.c0)), cell_set_other (World.cell?_setCell_same _ _ _ (cell_set_other h.c1)), World.cell?_setCell_same _ _ _ (cell_set_other (cell_set_other h.c2)), ?_, ?_, ?_⟩
  all_goals rw [World.frozen?_setCell, World.frozen?_setCell, World.frozen?_setCell]
  · exact h.f0
  · exact h.f1
  · exact h.f2
theorem PB.other {w : World} {g g2 o : Nat} {a b c : Int} {u : Value} (h : PB w g a b c) (hne : g ≠ g2) : PB (w.setCell ⟨g2, o, none⟩ u) g a b c := by
  refine ⟨(World.cell?_setCell_other _ _ _ _ (fun e => hne (by injection e with e1 _; exact e1.symm))).trans h.c0, (World.cell?_setCell_other _ _ _ _ (fun e => hne (by injection e with e1 _; exact e1.symm))).trans h.c1, (World.cell?_setCell_other _ _ _ _ (fun e => hne (by injection e with e1 _; exact e1.symm))).trans h.c2, ?_, ?_, ?_⟩
  all_goals rw [World.frozen?_setCell]
  · exact h.f0
  · exact h.f1
  · exact h.f2
/-- A box above another world's end may be written. -/
theorem grown_set {w w' : World} {r : Option Nat} {a : Addr} {u : Value} (h : w.grownBy w' r) (ha : w.heap.size ≤ a.block) (hl : a.block < w'.heap.size) : w.grownBy (w'.setCell a u) r := by
  have hb : Below w.heap.size w' (w'.setCell a u) := (by repeat (first | exact Below.refl _ _ | assumption | refine Below.drew ?_ | refine below_drewN ?_ _ | refine Below.alloc ?_ (by first | omega | (simp <;> omega)) _ | refine Below.setCell ?_ (by first | omega | (simp <;> omega)) _ | refine Below.trans ?_ (Below.mono (by assumption) (by first | omega | (simp <;> omega)))))
  exact ⟨hb.os.trans h.os, hb.tape.trans h.tape, hb.output.trans h.output, Nat.le_trans h.size hb.size, fun k hk hn => (hb.block k hk).trans (h.block k hk hn)⟩
theorem Cur.put {w0 w : World} {b N0 N : Nat} {zs : List Int} {cv : Value} {a : Addr} (h0 : Cur w0 b zs cv N0) (h : Cur w b zs cv N) (ha : w0.heap.size ≤ a.block) (he : a = ⟨a.block, a.off, none⟩) (u : Value) : Cur (w.setCell a u) b zs cv N := by
  obtain ⟨x, s, hle, hc⟩ := h
  have hbl := h0.lt
  obtain ⟨_, _, _, h0c⟩ := h0
  have hne : b ≠ a.block := by omega
  have hn : zs.length ≠ 0 → ∀ g, cv.ownBlock = some g → g ≠ a.block := by
    intro hz g e
    rcases h0c.rd.2 with ⟨_, h1⟩ | ⟨g2, off, cap, e2, hb, _⟩
    · exact absurd h1 hz
    · rw [e2] at e
      have e3 : g2 = g := by injection e
      omega
  refine ⟨x, s, hle, ?_, ?_, ?_, ?_, ?_, ?_, hc.off, hc.sm⟩
  · rw [he]; exact rdB_grown hc.rd (box_grown _ _ _ _) hn
  · exact (World.cell?_setCell_other _ _ _ _ (fun e => hne (by rw [e]))).trans hc.c0
  · exact (World.cell?_setCell_other _ _ _ _ (fun e => hne (by rw [e]))).trans hc.c1
  · exact (World.cell?_setCell_other _ _ _ _ (fun e => hne (by rw [e]))).trans hc.c2
  · rw [World.frozen?_setCell]; exact hc.f1
  · rw [World.frozen?_setCell]; exact hc.f2
theorem PB.new (w : World) (a b c : Int) : PB (w.alloc (.cells #[.int .i64 a, .int .i64 b, .int .i64 c] 24)) w.heap.size a b c :=
  ⟨(by repeat (first | (refine Eq.trans (World.cell?_alloc_at _ _ _ _ ?hh) ?_; (case hh => (simp; done)); rfl) | refine cell_alloc_keep _ ?_)), (by repeat (first | (refine Eq.trans (World.cell?_alloc_at _ _ _ _ ?hh) ?_; (case hh => (simp; done)); rfl) | refine cell_alloc_keep _ ?_)), (by repeat (first | (refine Eq.trans (World.cell?_alloc_at _ _ _ _ ?hh) ?_; (case hh => (simp; done)); rfl) | refine cell_alloc_keep _ ?_)), (by repeat (first | (refine World.frozen?_alloc_at _ _ _ _ ?hh; case hh => (simp; done)) | (refine frozen_alloc_lt _ ?hh ?_; case hh => first | omega | (simp <;> omega)))), (by repeat (first | (refine World.frozen?_alloc_at _ _ _ _ ?hh; case hh => (simp; done)) | (refine frozen_alloc_lt _ ?hh ?_; case hh => first | omega | (simp <;> omega)))), (by repeat (first | (refine World.frozen?_alloc_at _ _ _ _ ?hh; case hh => (simp; done)) | (refine frozen_alloc_lt _ ?hh ?_; case hh => first | omega | (simp <;> omega))))⟩
set_option maxHeartbeats 8000000 in
theorem cur_pauli_any (b N n : Nat) (zs : List Int) (cv : Value) (w : World) (h : Cur w b zs cv N) (hn1 : 1 ≤ n) (hn : n ≤ 4) (hN : N + 6 ≤ 1000) (hr : ∀ z ∈ zs, 0 ≤ z ∧ z ≤ 255) :
    Calls Try.prog 36 #[.pointer (some ⟨b, 0, none⟩), .int .i64 (n : Int)] w fun e w' => ∃ p x z : Nat, e = .returned (.agg #[.int .i64 (p : Int), .int .i64 (x : Int), .int .i64 (z : Int)]) ∧ p < 4 ∧ x < 2 ^ n ∧ z < 2 ^ n ∧ Cur w' b zs cv (N + 6) ∧ w.grownBy w' (some b) := by
  have H := Lib.hid h
  have HR := Lib.hid hr
  have hp : (2 : Nat) ^ n ≤ 16 := Nat.pow_le_pow_right (by omega) hn (n := 2)
  have hp1 : 1 ≤ (2 : Nat) ^ n := Nat.one_le_two_pow
  have hbw := h.lt
  clear h hr
  have hw : IntKind.i64.wrap ((2 : Int) ^ n) = ((2 ^ n : Nat) : Int) := by
    rw [show ((2 : Int) ^ n) = ((2 ^ n : Nat) : Int) by push_cast; rfl]
    exact IntWalk.i64_in _ (by omega)
  have m0 : (0 : Int) ≤ n := by omega
  have m1 : (n : Int) ≤ 4 := by omega
  go_enter Try.func36, Try.ntmps36
  go_wp2_with fail
  have H0 := Lib.hid (H.out.call (show Below w.heap.size w (w.alloc (.cells #[.int .i64 0, .int .i64 0, .int .i64 0] 24)) from (by repeat (first | exact Below.refl _ _ | assumption | refine Below.drew ?_ | refine below_drewN ?_ _ | refine Below.alloc ?_ (by first | omega | (simp <;> omega)) _ | refine Below.setCell ?_ (by first | omega | (simp <;> omega)) _ | refine Below.trans ?_ (Below.mono (by assumption) (by first | omega | (simp <;> omega)))))))
  have G0 := Lib.hid (show w.grownBy (w.alloc (.cells #[.int .i64 0, .int .i64 0, .int .i64 0] 24)) (some b) from grown_below0 (cur_grown_refl w _) (by repeat (first | exact Below.refl _ _ | assumption | refine Below.drew ?_ | refine below_drewN ?_ _ | refine Below.alloc ?_ (by first | omega | (simp <;> omega)) _ | refine Below.setCell ?_ (by first | omega | (simp <;> omega)) _ | refine Below.trans ?_ (Below.mono (by assumption) (by first | omega | (simp <;> omega))))))
  have A0 := Lib.hid (PB.new w 0 0 0)
  have hne : w.heap.size ≠ b := by omega
  refine (cur_pick_any b N 4 zs cv _ H0.out (by omega) (by omega) HR.out).mono ?_; rintro e w1 ⟨x1, rfl, hx1, _, hc1, hg1⟩
  have A1 := Lib.hid (A0.out.kept hg1 hne)
  have C1 := Lib.hid hc1
  have G1 := Lib.hid (grown_trans0 G0.out hg1)
  clear hc1 hg1 A0 H0 G0
  go_wp2_with fail
  refine (cur_pick_any b (N + 2) (2 ^ n) zs cv _ C1.out (by omega) (by omega) HR.out).mono ?_; rintro e w2 ⟨x2, rfl, hx2, _, hc2, hg2⟩
  have A2 := Lib.hid (A1.out.kept hg2 hne)
  have C2 := Lib.hid hc2
  have G2 := Lib.hid (grown_trans0 G1.out hg2)
  clear hc2 hg2 A1 C1 G1
  go_wp2_with fail
  refine (cur_pick_any b (N + 4) (2 ^ n) zs cv _ C2.out (by omega) (by omega) HR.out).mono ?_; rintro e w3 ⟨x3, rfl, hx3, _, hc3, hg3⟩
  have A3 := Lib.hid (A2.out.kept hg3 hne)
  have C3 := Lib.hid hc3
  have G3 := Lib.hid (grown_trans0 G2.out hg3)
  obtain ⟨a0, a1, a2, f0, f1, f2⟩ := A3.out
  clear hc3 hg3 A2 C2 G2
  go_wp2_with fail
  have P4 := A3.out.set (x1 : Int) (x2 : Int) (x3 : Int)
  have hl3 : w.heap.size < w3.heap.size := World.block_lt_of_cell? _ _ a0
  have G4 := Lib.hid (grown_set (u := .int .i64 (x3 : Int)) (a := ⟨w.heap.size, 2, none⟩) (grown_set (u := .int .i64 (x2 : Int)) (a := ⟨w.heap.size, 1, none⟩) (grown_set (u := .int .i64 (x1 : Int)) (a := ⟨w.heap.size, 0, none⟩) G3.out (Nat.le_refl _) hl3) (Nat.le_refl _) (by simpa using hl3)) (Nat.le_refl _) (by simpa using hl3))
  have C4 := Lib.hid (Cur.put H.out (Cur.put H.out (Cur.put H.out C3.out (a := ⟨w.heap.size, 0, none⟩) (Nat.le_refl _) rfl (.int .i64 (x1 : Int))) (a := ⟨w.heap.size, 1, none⟩) (Nat.le_refl _) rfl (.int .i64 (x2 : Int))) (a := ⟨w.heap.size, 2, none⟩) (Nat.le_refl _) rfl (.int .i64 (x3 : Int)))
  clear C3 G3 A3 a0 a1 a2 f0 f1 f2
  generalize (((w3.setCell ⟨w.heap.size, 0, none⟩ (.int .i64 (x1 : Int))).setCell ⟨w.heap.size, 1, none⟩ (.int .i64 (x2 : Int))).setCell ⟨w.heap.size, 2, none⟩ (.int .i64 (x3 : Int))) = w4 at *
  obtain ⟨a0, a1, a2, f0, f1, f2⟩ := P4
  refine bodyPost_ret (v := .agg #[.int .i64 (x1 : Int), .int .i64 (x2 : Int), .int .i64 (x3 : Int)]) (by simp [results, Try.results36, go_sem, a0, a1, a2]) rfl ⟨x1, x2, x3, rfl, hx1 (by omega), hx2 hp1, hx3 hp1, C4.out, G4.out⟩
set_option maxHeartbeats 8000000 in
theorem cur_anyPauli_any (b N n : Nat) (zs : List Int) (cv : Value) (w : World) (h : Cur w b zs cv N) (hn1 : 1 ≤ n) (hn : n ≤ 4) (hN : N + 12 ≤ 1000) (hr : ∀ z ∈ zs, 0 ≤ z ∧ z ≤ 255) :
    Calls Try.prog 16 #[.pointer (some ⟨b, 0, none⟩), .int .i64 (n : Int)] w fun e w' => ∃ p x z : Int, e = .returned (.agg #[.int .i64 p, .int .i64 x, .int .i64 z]) ∧ Cur w' b zs cv (N + 12) ∧ w.grownBy w' (some b) := by
  have H := Lib.hid h
  have HR := Lib.hid hr
  have hbw := h.lt
  clear h hr
  go_enter Try.func16, Try.ntmps16
  go_wp2_with fail
  have H0 := Lib.hid (H.out.call (show Below w.heap.size w (w.alloc (.cells #[.int .i64 0, .int .i64 0, .int .i64 0] 24)) from (by repeat (first | exact Below.refl _ _ | assumption | refine Below.drew ?_ | refine below_drewN ?_ _ | refine Below.alloc ?_ (by first | omega | (simp <;> omega)) _ | refine Below.setCell ?_ (by first | omega | (simp <;> omega)) _ | refine Below.trans ?_ (Below.mono (by assumption) (by first | omega | (simp <;> omega)))))))
  have G0 := Lib.hid (show w.grownBy (w.alloc (.cells #[.int .i64 0, .int .i64 0, .int .i64 0] 24)) (some b) from grown_below0 (cur_grown_refl w _) (by repeat (first | exact Below.refl _ _ | assumption | refine Below.drew ?_ | refine below_drewN ?_ _ | refine Below.alloc ?_ (by first | omega | (simp <;> omega)) _ | refine Below.setCell ?_ (by first | omega | (simp <;> omega)) _ | refine Below.trans ?_ (Below.mono (by assumption) (by first | omega | (simp <;> omega))))))
  have A0 := Lib.hid (PB.new w 0 0 0)
  have hne : w.heap.size ≠ b := by omega
  refine (cur_pauli_any b N n zs cv _ H0.out hn1 hn (by omega) HR.out).mono ?_; rintro e w1 ⟨x1, x2, x3, rfl, hx1, hx2, hx3, hc1, hg1⟩
  have A1 := Lib.hid (A0.out.kept hg1 hne)
  have C1 := Lib.hid hc1
  have G1 := Lib.hid (grown_trans0 G0.out hg1)
  have hl1 : w.heap.size < w1.heap.size := World.block_lt_of_cell? _ _ A1.out.c0
  clear hc1 hg1 A0 H0 G0 hx1 hx2 hx3
  go_wp2_with fail
  obtain ⟨g2, hg2⟩ : ∃ g, g = w1.heap.size := ⟨_, rfl⟩
  have P2 := Lib.hid (show PB (w1.alloc (.cells #[.int .i64 (x1 : Int), .int .i64 (x2 : Int), .int .i64 (x3 : Int)] 24)) g2 x1 x2 x3 from by rw [hg2]; exact PB.new w1 _ _ _)
  have A2 := Lib.hid (A1.out.call (show Below w1.heap.size w1 (w1.alloc (.cells #[.int .i64 (x1 : Int), .int .i64 (x2 : Int), .int .i64 (x3 : Int)] 24)) from (by repeat (first | exact Below.refl _ _ | assumption | refine Below.drew ?_ | refine below_drewN ?_ _ | refine Below.alloc ?_ (by first | omega | (simp <;> omega)) _ | refine Below.setCell ?_ (by first | omega | (simp <;> omega)) _ | refine Below.trans ?_ (Below.mono (by assumption) (by first | omega | (simp <;> omega)))))))
  have C2 := Lib.hid (C1.out.call (show Below w1.heap.size w1 (w1.alloc (.cells #[.int .i64 (x1 : Int), .int .i64 (x2 : Int), .int .i64 (x3 : Int)] 24)) from (by repeat (first | exact Below.refl _ _ | assumption | refine Below.drew ?_ | refine below_drewN ?_ _ | refine Below.alloc ?_ (by first | omega | (simp <;> omega)) _ | refine Below.setCell ?_ (by first | omega | (simp <;> omega)) _ | refine Below.trans ?_ (Below.mono (by assumption) (by first | omega | (simp <;> omega)))))))
  have G2 := Lib.hid (grown_below0 G1.out (show Below w1.heap.size w1 (w1.alloc (.cells #[.int .i64 (x1 : Int), .int .i64 (x2 : Int), .int .i64 (x3 : Int)] 24)) from (by repeat (first | exact Below.refl _ _ | assumption | refine Below.drew ?_ | refine below_drewN ?_ _ | refine Below.alloc ?_ (by first | omega | (simp <;> omega)) _ | refine Below.setCell ?_ (by first | omega | (simp <;> omega)) _ | refine Below.trans ?_ (Below.mono (by assumption) (by first | omega | (simp <;> omega)))))))
  rw [← hg2]
  generalize (w1.alloc (.cells #[.int .i64 (x1 : Int), .int .i64 (x2 : Int), .int .i64 (x3 : Int)] 24)) = w2 at *
  rw [← hg2] at hl1
  clear hg2 A1 C1 G1
  clear w1
  have hne2 : g2 ≠ b := by omega
  have hne3 : w.heap.size ≠ g2 := by omega
  refine (cur_pick_any b (N + 6) 14 zs cv _ C2.out (by omega) (by omega) HR.out).mono ?_; rintro e w3 ⟨x4, rfl, _, _, hc3, hg3⟩
  have A3 := Lib.hid (A2.out.kept hg3 hne)
  have P3 := Lib.hid (P2.out.kept hg3 hne2)
  have C3 := Lib.hid hc3
  have G3 := Lib.hid (grown_trans0 G2.out hg3)
  clear hc3 hg3 A2 P2 C2 G2
  clear w2
  have hl3 : w.heap.size < w3.heap.size := World.block_lt_of_cell? _ _ A3.out.c0
  by_cases h4 : (x4 = 0 ∨ x4 = 1) ∨ x4 = 2
  · rcases h4 with (rfl | rfl) | rfl
    · go_wp2_with fail
      have A4 := Lib.hid (A3.out.call (show Below w3.heap.size w3 (w3.alloc (.cells #[.int .i64 (-1), .int .i64 4] 3)) from (by repeat (first | exact Below.refl _ _ | assumption | refine Below.drew ?_ | refine below_drewN ?_ _ | refine Below.alloc ?_ (by first | omega | (simp <;> omega)) _ | refine Below.setCell ?_ (by first | omega | (simp <;> omega)) _ | refine Below.trans ?_ (Below.mono (by assumption) (by first | omega | (simp <;> omega)))))))
      have P4 := Lib.hid (P3.out.call (show Below w3.heap.size w3 (w3.alloc (.cells #[.int .i64 (-1), .int .i64 4] 3)) from (by repeat (first | exact Below.refl _ _ | assumption | refine Below.drew ?_ | refine below_drewN ?_ _ | refine Below.alloc ?_ (by first | omega | (simp <;> omega)) _ | refine Below.setCell ?_ (by first | omega | (simp <;> omega)) _ | refine Below.trans ?_ (Below.mono (by assumption) (by first | omega | (simp <;> omega)))))))
      have C4 := Lib.hid (C3.out.call (show Below w3.heap.size w3 (w3.alloc (.cells #[.int .i64 (-1), .int .i64 4] 3)) from (by repeat (first | exact Below.refl _ _ | assumption | refine Below.drew ?_ | refine below_drewN ?_ _ | refine Below.alloc ?_ (by first | omega | (simp <;> omega)) _ | refine Below.setCell ?_ (by first | omega | (simp <;> omega)) _ | refine Below.trans ?_ (Below.mono (by assumption) (by first | omega | (simp <;> omega)))))))
      have G4 := Lib.hid (grown_below0 G3.out (show Below w3.heap.size w3 (w3.alloc (.cells #[.int .i64 (-1), .int .i64 4] 3)) from (by repeat (first | exact Below.refl _ _ | assumption | refine Below.drew ?_ | refine below_drewN ?_ _ | refine Below.alloc ?_ (by first | omega | (simp <;> omega)) _ | refine Below.setCell ?_ (by first | omega | (simp <;> omega)) _ | refine Below.trans ?_ (Below.mono (by assumption) (by first | omega | (simp <;> omega)))))))
      have L4 := Lib.hid (lit_num w3 [-1, 4] (by decide))
      have O4 : Hid (∀ g, (Value.slice (some ⟨w3.heap.size, 0, none⟩) 2 2).ownBlock = some g → g ≠ b) := fun g e => by
        have e3 : w3.heap.size = g := by injection e
        omega
      go_wp2_with fail
      refine (cur_among_any b (N + 6 + 2) _ [-1, 4] zs _ _ C4.out L4.out (by decide) (by decide) O4.out (by omega) HR.out).mono ?_; rintro e w5 ⟨x5, rfl, _, hc5, hg5⟩
      have A5 := Lib.hid (A4.out.kept hg5 hne)
      have P5 := Lib.hid (P4.out.kept hg5 hne2)
      have C5 := Lib.hid hc5
      have G5 := Lib.hid (grown_trans0 G4.out hg5)
      have hl5 : g2 < w5.heap.size := World.block_lt_of_cell? _ _ P5.out.c0
      clear hc5 hg5 A4 P4 C4 G4 L4 O4 A3 P3 C3 G3
      have A9 := Lib.hid (A5.out.other hne3 (o := 0) (u := .int .i64 x5))
      have C9 := Lib.hid (Cur.put H.out C5.out (a := ⟨g2, 0, none⟩) (by dsimp only; omega) rfl (.int .i64 x5))
      have G9 := Lib.hid (grown_set (u := .int .i64 x5) (a := ⟨g2, 0, none⟩) G5.out (by dsimp only; omega) hl5)
      obtain ⟨b0, b1, b2, q0, q1, q2⟩ := P5.out
      obtain ⟨a0, a1, a2, f0, f1, f2⟩ := A5.out
      clear A5 C5 G5 P5
      have hl9 : w.heap.size < (w5.setCell ⟨g2, 0, none⟩ (.int .i64 x5)).heap.size := World.block_lt_of_cell? _ _ A9.out.c0
      go_wp2_with fail
      have P4 := A9.out.set x5 (x2 : Int) (x3 : Int)
      have G4 := Lib.hid (grown_set (u := .int .i64 (x3 : Int)) (a := ⟨w.heap.size, 2, none⟩) (grown_set (u := .int .i64 (x2 : Int)) (a := ⟨w.heap.size, 1, none⟩) (grown_set (u := .int .i64 x5) (a := ⟨w.heap.size, 0, none⟩) G9.out (Nat.le_refl _) hl9) (Nat.le_refl _) (by simpa using hl9)) (Nat.le_refl _) (by simpa using hl9))
      have C4 := Lib.hid (Cur.put H.out (Cur.put H.out (Cur.put H.out C9.out (a := ⟨w.heap.size, 0, none⟩) (Nat.le_refl _) rfl (.int .i64 x5)) (a := ⟨w.heap.size, 1, none⟩) (Nat.le_refl _) rfl (.int .i64 (x2 : Int))) (a := ⟨w.heap.size, 2, none⟩) (Nat.le_refl _) rfl (.int .i64 (x3 : Int)))
      clear C9 G9 A9 a0 a1 a2 f0 f1 f2 b0 b1 b2 q0 q1 q2
      generalize ((((w5.setCell ⟨g2, 0, none⟩ (.int .i64 x5)).setCell ⟨w.heap.size, 0, none⟩ (.int .i64 x5)).setCell ⟨w.heap.size, 1, none⟩ (.int .i64 (x2 : Int))).setCell ⟨w.heap.size, 2, none⟩ (.int .i64 (x3 : Int))) = w9 at *
      obtain ⟨a0, a1, a2, f0, f1, f2⟩ := P4
      refine bodyPost_ret (v := .agg #[.int .i64 x5, .int .i64 (x2 : Int), .int .i64 (x3 : Int)]) (by simp [results, Try.results16, go_sem, a0, a1, a2]) rfl ⟨x5, (x2 : Int), (x3 : Int), rfl, C4.out.le (by omega), G4.out⟩
    · go_wp2_with fail
      have A4 := Lib.hid (A3.out.call (show Below w3.heap.size w3 (w3.alloc (.cells #[.int .i64 (-1), .int .i64 31, .int .i64 32] 3)) from (by repeat (first | exact Below.refl _ _ | assumption | refine Below.drew ?_ | refine below_drewN ?_ _ | refine Below.alloc ?_ (by first | omega | (simp <;> omega)) _ | refine Below.setCell ?_ (by first | omega | (simp <;> omega)) _ | refine Below.trans ?_ (Below.mono (by assumption) (by first | omega | (simp <;> omega)))))))
      have P4 := Lib.hid (P3.out.call (show Below w3.heap.size w3 (w3.alloc (.cells #[.int .i64 (-1), .int .i64 31, .int .i64 32] 3)) from (by repeat (first | exact Below.refl _ _ | assumption | refine Below.drew ?_ | refine below_drewN ?_ _ | refine Below.alloc ?_ (by first | omega | (simp <;> omega)) _ | refine Below.setCell ?_ (by first | omega | (simp <;> omega)) _ | refine Below.trans ?_ (Below.mono (by assumption) (by first | omega | (simp <;> omega)))))))
      have C4 := Lib.hid (C3.out.call (show Below w3.heap.size w3 (w3.alloc (.cells #[.int .i64 (-1), .int .i64 31, .int .i64 32] 3)) from (by repeat (first | exact Below.refl _ _ | assumption | refine Below.drew ?_ | refine below_drewN ?_ _ | refine Below.alloc ?_ (by first | omega | (simp <;> omega)) _ | refine Below.setCell ?_ (by first | omega | (simp <;> omega)) _ | refine Below.trans ?_ (Below.mono (by assumption) (by first | omega | (simp <;> omega)))))))
      have G4 := Lib.hid (grown_below0 G3.out (show Below w3.heap.size w3 (w3.alloc (.cells #[.int .i64 (-1), .int .i64 31, .int .i64 32] 3)) from (by repeat (first | exact Below.refl _ _ | assumption | refine Below.drew ?_ | refine below_drewN ?_ _ | refine Below.alloc ?_ (by first | omega | (simp <;> omega)) _ | refine Below.setCell ?_ (by first | omega | (simp <;> omega)) _ | refine Below.trans ?_ (Below.mono (by assumption) (by first | omega | (simp <;> omega)))))))
      have L4 := Lib.hid (lit_num w3 [-1, 31, 32] (by decide))
      have O4 : Hid (∀ g, (Value.slice (some ⟨w3.heap.size, 0, none⟩) 3 3).ownBlock = some g → g ≠ b) := fun g e => by
        have e3 : w3.heap.size = g := by injection e
        omega
      go_wp2_with fail
      refine (cur_among_any b (N + 6 + 2) _ [-1, 31, 32] zs _ _ C4.out L4.out (by decide) (by decide) O4.out (by omega) HR.out).mono ?_; rintro e w5 ⟨x5, rfl, _, hc5, hg5⟩
      have A5 := Lib.hid (A4.out.kept hg5 hne)
      have P5 := Lib.hid (P4.out.kept hg5 hne2)
      have C5 := Lib.hid hc5
      have G5 := Lib.hid (grown_trans0 G4.out hg5)
      have hl5 : g2 < w5.heap.size := World.block_lt_of_cell? _ _ P5.out.c0
      clear hc5 hg5 A4 P4 C4 G4 L4 O4 A3 P3 C3 G3
      have A9 := Lib.hid (A5.out.other hne3 (o := 1) (u := .int .i64 x5))
      have C9 := Lib.hid (Cur.put H.out C5.out (a := ⟨g2, 1, none⟩) (by dsimp only; omega) rfl (.int .i64 x5))
      have G9 := Lib.hid (grown_set (u := .int .i64 x5) (a := ⟨g2, 1, none⟩) G5.out (by dsimp only; omega) hl5)
      obtain ⟨b0, b1, b2, q0, q1, q2⟩ := P5.out
      obtain ⟨a0, a1, a2, f0, f1, f2⟩ := A5.out
      clear A5 C5 G5 P5
      have hl9 : w.heap.size < (w5.setCell ⟨g2, 1, none⟩ (.int .i64 x5)).heap.size := World.block_lt_of_cell? _ _ A9.out.c0
      go_wp2_with fail
      have P4 := A9.out.set (x1 : Int) x5 (x3 : Int)
      have G4 := Lib.hid (grown_set (u := .int .i64 (x3 : Int)) (a := ⟨w.heap.size, 2, none⟩) (grown_set (u := .int .i64 x5) (a := ⟨w.heap.size, 1, none⟩) (grown_set (u := .int .i64 (x1 : Int)) (a := ⟨w.heap.size, 0, none⟩) G9.out (Nat.le_refl _) hl9) (Nat.le_refl _) (by simpa using hl9)) (Nat.le_refl _) (by simpa using hl9))
      have C4 := Lib.hid (Cur.put H.out (Cur.put H.out (Cur.put H.out C9.out (a := ⟨w.heap.size, 0, none⟩) (Nat.le_refl _) rfl (.int .i64 (x1 : Int))) (a := ⟨w.heap.size, 1, none⟩) (Nat.le_refl _) rfl (.int .i64 x5)) (a := ⟨w.heap.size, 2, none⟩) (Nat.le_refl _) rfl (.int .i64 (x3 : Int)))
      clear C9 G9 A9 a0 a1 a2 f0 f1 f2 b0 b1 b2 q0 q1 q2
      generalize ((((w5.setCell ⟨g2, 1, none⟩ (.int .i64 x5)).setCell ⟨w.heap.size, 0, none⟩ (.int .i64 (x1 : Int))).setCell ⟨w.heap.size, 1, none⟩ (.int .i64 x5)).setCell ⟨w.heap.size, 2, none⟩ (.int .i64 (x3 : Int))) = w9 at *
      obtain ⟨a0, a1, a2, f0, f1, f2⟩ := P4
      refine bodyPost_ret (v := .agg #[.int .i64 (x1 : Int), .int .i64 x5, .int .i64 (x3 : Int)]) (by simp [results, Try.results16, go_sem, a0, a1, a2]) rfl ⟨(x1 : Int), x5, (x3 : Int), rfl, C4.out.le (by omega), G4.out⟩
    · go_wp2_with fail
      have A4 := Lib.hid (A3.out.call (show Below w3.heap.size w3 (w3.alloc (.cells #[.int .i64 (-1), .int .i64 31, .int .i64 32] 3)) from (by repeat (first | exact Below.refl _ _ | assumption | refine Below.drew ?_ | refine below_drewN ?_ _ | refine Below.alloc ?_ (by first | omega | (simp <;> omega)) _ | refine Below.setCell ?_ (by first | omega | (simp <;> omega)) _ | refine Below.trans ?_ (Below.mono (by assumption) (by first | omega | (simp <;> omega)))))))
      have P4 := Lib.hid (P3.out.call (show Below w3.heap.size w3 (w3.alloc (.cells #[.int .i64 (-1), .int .i64 31, .int .i64 32] 3)) from (by repeat (first | exact Below.refl _ _ | assumption | refine Below.drew ?_ | refine below_drewN ?_ _ | refine Below.alloc ?_ (by first | omega | (simp <;> omega)) _ | refine Below.setCell ?_ (by first | omega | (simp <;> omega)) _ | refine Below.trans ?_ (Below.mono (by assumption) (by first | omega | (simp <;> omega)))))))
      have C4 := Lib.hid (C3.out.call (show Below w3.heap.size w3 (w3.alloc (.cells #[.int .i64 (-1), .int .i64 31, .int .i64 32] 3)) from (by repeat (first | exact Below.refl _ _ | assumption | refine Below.drew ?_ | refine below_drewN ?_ _ | refine Below.alloc ?_ (by first | omega | (simp <;> omega)) _ | refine Below.setCell ?_ (by first | omega | (simp <;> omega)) _ | refine Below.trans ?_ (Below.mono (by assumption) (by first | omega | (simp <;> omega)))))))
      have G4 := Lib.hid (grown_below0 G3.out (show Below w3.heap.size w3 (w3.alloc (.cells #[.int .i64 (-1), .int .i64 31, .int .i64 32] 3)) from (by repeat (first | exact Below.refl _ _ | assumption | refine Below.drew ?_ | refine below_drewN ?_ _ | refine Below.alloc ?_ (by first | omega | (simp <;> omega)) _ | refine Below.setCell ?_ (by first | omega | (simp <;> omega)) _ | refine Below.trans ?_ (Below.mono (by assumption) (by first | omega | (simp <;> omega)))))))
      have L4 := Lib.hid (lit_num w3 [-1, 31, 32] (by decide))
      have O4 : Hid (∀ g, (Value.slice (some ⟨w3.heap.size, 0, none⟩) 3 3).ownBlock = some g → g ≠ b) := fun g e => by
        have e3 : w3.heap.size = g := by injection e
        omega
      go_wp2_with fail
      refine (cur_among_any b (N + 6 + 2) _ [-1, 31, 32] zs _ _ C4.out L4.out (by decide) (by decide) O4.out (by omega) HR.out).mono ?_; rintro e w5 ⟨x5, rfl, _, hc5, hg5⟩
      have A5 := Lib.hid (A4.out.kept hg5 hne)
      have P5 := Lib.hid (P4.out.kept hg5 hne2)
      have C5 := Lib.hid hc5
      have G5 := Lib.hid (grown_trans0 G4.out hg5)
      have hl5 : g2 < w5.heap.size := World.block_lt_of_cell? _ _ P5.out.c0
      clear hc5 hg5 A4 P4 C4 G4 L4 O4 A3 P3 C3 G3
      have A9 := Lib.hid (A5.out.other hne3 (o := 2) (u := .int .i64 x5))
      have C9 := Lib.hid (Cur.put H.out C5.out (a := ⟨g2, 2, none⟩) (by dsimp only; omega) rfl (.int .i64 x5))
      have G9 := Lib.hid (grown_set (u := .int .i64 x5) (a := ⟨g2, 2, none⟩) G5.out (by dsimp only; omega) hl5)
      obtain ⟨b0, b1, b2, q0, q1, q2⟩ := P5.out
      obtain ⟨a0, a1, a2, f0, f1, f2⟩ := A5.out
      clear A5 C5 G5 P5
      have hl9 : w.heap.size < (w5.setCell ⟨g2, 2, none⟩ (.int .i64 x5)).heap.size := World.block_lt_of_cell? _ _ A9.out.c0
      go_wp2_with fail
      have P4 := A9.out.set (x1 : Int) (x2 : Int) x5
      have G4 := Lib.hid (grown_set (u := .int .i64 x5) (a := ⟨w.heap.size, 2, none⟩) (grown_set (u := .int .i64 (x2 : Int)) (a := ⟨w.heap.size, 1, none⟩) (grown_set (u := .int .i64 (x1 : Int)) (a := ⟨w.heap.size, 0, none⟩) G9.out (Nat.le_refl _) hl9) (Nat.le_refl _) (by simpa using hl9)) (Nat.le_refl _) (by simpa using hl9))
      have C4 := Lib.hid (Cur.put H.out (Cur.put H.out (Cur.put H.out C9.out (a := ⟨w.heap.size, 0, none⟩) (Nat.le_refl _) rfl (.int .i64 (x1 : Int))) (a := ⟨w.heap.size, 1, none⟩) (Nat.le_refl _) rfl (.int .i64 (x2 : Int))) (a := ⟨w.heap.size, 2, none⟩) (Nat.le_refl _) rfl (.int .i64 x5))
      clear C9 G9 A9 a0 a1 a2 f0 f1 f2 b0 b1 b2 q0 q1 q2
      generalize ((((w5.setCell ⟨g2, 2, none⟩ (.int .i64 x5)).setCell ⟨w.heap.size, 0, none⟩ (.int .i64 (x1 : Int))).setCell ⟨w.heap.size, 1, none⟩ (.int .i64 (x2 : Int))).setCell ⟨w.heap.size, 2, none⟩ (.int .i64 x5)) = w9 at *
      obtain ⟨a0, a1, a2, f0, f1, f2⟩ := P4
      refine bodyPost_ret (v := .agg #[.int .i64 (x1 : Int), .int .i64 (x2 : Int), .int .i64 x5]) (by simp [results, Try.results16, go_sem, a0, a1, a2]) rfl ⟨(x1 : Int), (x2 : Int), x5, rfl, C4.out.le (by omega), G4.out⟩
  · have i0 : ¬ (x4 : Int) = 0 := by omega
    have i1 : ¬ (x4 : Int) = 1 := by omega
    have i2 : ¬ (x4 : Int) = 2 := by omega
    obtain ⟨b0, b1, b2, q0, q1, q2⟩ := P3.out
    obtain ⟨a0, a1, a2, f0, f1, f2⟩ := A3.out
    have A9 := A3
    have C9 := C3
    have G9 := G3
    clear A3 C3 G3 P3
    have hl9 : w.heap.size < (w3).heap.size := World.block_lt_of_cell? _ _ A9.out.c0
    go_wp2_with fail
    have P4 := A9.out.set (x1 : Int) (x2 : Int) (x3 : Int)
    have G4 := Lib.hid (grown_set (u := .int .i64 (x3 : Int)) (a := ⟨w.heap.size, 2, none⟩) (grown_set (u := .int .i64 (x2 : Int)) (a := ⟨w.heap.size, 1, none⟩) (grown_set (u := .int .i64 (x1 : Int)) (a := ⟨w.heap.size, 0, none⟩) G9.out (Nat.le_refl _) hl9) (Nat.le_refl _) (by simpa using hl9)) (Nat.le_refl _) (by simpa using hl9))
    have C4 := Lib.hid (Cur.put H.out (Cur.put H.out (Cur.put H.out C9.out (a := ⟨w.heap.size, 0, none⟩) (Nat.le_refl _) rfl (.int .i64 (x1 : Int))) (a := ⟨w.heap.size, 1, none⟩) (Nat.le_refl _) rfl (.int .i64 (x2 : Int))) (a := ⟨w.heap.size, 2, none⟩) (Nat.le_refl _) rfl (.int .i64 (x3 : Int)))
    clear C9 G9 A9 a0 a1 a2 f0 f1 f2 b0 b1 b2 q0 q1 q2
    generalize ((((w3).setCell ⟨w.heap.size, 0, none⟩ (.int .i64 (x1 : Int))).setCell ⟨w.heap.size, 1, none⟩ (.int .i64 (x2 : Int))).setCell ⟨w.heap.size, 2, none⟩ (.int .i64 (x3 : Int))) = w9 at *
    obtain ⟨a0, a1, a2, f0, f1, f2⟩ := P4
    refine bodyPost_ret (v := .agg #[.int .i64 (x1 : Int), .int .i64 (x2 : Int), .int .i64 (x3 : Int)]) (by simp [results, Try.results16, go_sem, a0, a1, a2]) rfl ⟨(x1 : Int), (x2 : Int), (x3 : Int), rfl, C4.out.le (by omega), G4.out⟩
end Go.Proofs.Yteimcfbliigjmaa
