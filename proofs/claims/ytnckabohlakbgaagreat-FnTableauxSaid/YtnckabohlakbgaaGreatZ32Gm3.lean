/- The matrix of a gate. -/
import Derived.Test.YtnckabohlakbgaaGreatZ31M
import Derived.Test.YtnckabohlakbgaaGreatZ24M
import Derived.Test.YtnckabohlakbgaaGreatZ06Brk
import Derived.BigRegion
import Derived.BigQuiet
import Derived.Shelf.Abstract
namespace Go.Proofs.YtnckabohlakbgaaGreat
set_option linter.unusedSimpArgs false
set_option linter.unusedVariables false
set_option linter.unnecessarySimpa false
set_option maxRecDepth 200000
open Go.ChangeShapes Go.WideShapes Go.ChangeAt Go.RowKit

theorem gt_gate {n k a b : Nat} (h1 : 1 ≤ n) (h5 : n ≤ 5) (h : GtOk n k a b) : GateOk (n : Int) ⟨(k : Int), (a : Int), (b : Int)⟩ := by
  have hk := h.kind; have la := h.la; have lb := h.lb
  unfold GateOk
  dsimp only
  omega
set_option maxHeartbeats 8000000 in
theorem impl_GateMatrix_ok (n k a b : Nat) (w : World) (hn1 : 1 ≤ n) (hn : n ≤ 5) (hg : GtOk n k a b) :
    Calls Tryz.prog 83 #[.int .i64 (n : Int), .agg #[.int .i64 (k : Int), .int .i64 (a : Int), .int .i64 (b : Int)]] w fun e w' => MatOwn w (2 ^ n) (2 ^ n) (gmD n k a b) e w' := by
  have HA := Lib.hid (show decide (GateOk (n : Int) ⟨(k : Int), (a : Int), (b : Int)⟩) = true from decide_eq_true (gt_gate hn1 hn hg))
  have OA := Lib.hid hg
  have HD := Lib.hid (dim_pow hn)
  have hd := (dim_pow hn).le
  have S0 := Lib.hid ((((Sb.nil w).push [.int .i64 (n : Int)] 3 rfl).push [.int .i64 (k : Int), .int .i64 (a : Int), .int .i64 (b : Int)] 66 (g := w.heap.size + 1) (by simp)).push [.int .i64 0, .int .i64 0, .slice none 0 0] 47 (g := w.heap.size + 1 + 1) (by simp))
  have eg := enters_of Tryz.func103 (by kernel_rfl) rfl
  have CMX := Lib.hid (fun (W : World) (h1 : Bw W (w.heap.size + 1) [.int .i64 (k : Int), .int .i64 (a : Int), .int .i64 (b : Int)]) (h2 : Bw W w.heap.size [.int .i64 (n : Int)]) =>
    impl_matrixOf_ok (2 ^ n) (2 ^ n) HD.out HD.out 103 #[.pointer (some ⟨w.heap.size + 1, 0, none⟩), .pointer (some ⟨w.heap.size, 0, none⟩)] (gmD n k a b) eg W (fun V i j hi hj hb =>
      (show Calls Tryz.prog 103 #[.int .i64 (i : Int), .int .i64 (j : Int), .pointer (some ⟨w.heap.size + 1, 0, none⟩), .pointer (some ⟨w.heap.size, 0, none⟩)] V _ from impl_GateCell_ok n k a b i j (w.heap.size + 1) w.heap.size V hn1 hn OA.out (by omega) (by omega) (h1.call hb) (h2.call hb))))
  have hw : IntKind.i64.wrap ((2 : Int) ^ n) = ((2 ^ n : Nat) : Int) := by
    rw [show ((2 : Int) ^ n) = ((2 ^ n : Nat) : Int) by push_cast; rfl]
    exact IntWalk.i64_in _ (by omega)
  have m0 : (0 : Int) ≤ n := by omega
  have m1 : (n : Int) ≤ 5 := by omega
  obtain ⟨d, hdd⟩ : ∃ d, d = 2 ^ n := ⟨_, rfl⟩
  rw [← hdd] at CMX hw hd ⊢
  clear hg eg HD hdd
  obtain ⟨⟨b0, b1, b2⟩, -⟩ := (S0.out.at 1 rfl).c3
  have n0 := (S0.out.at 2 rfl).cs 0 _ rfl
  generalize gmD n k a b = F at *
  go_enter Tryz.func83, Tryz.ntmps83
  go_wp2_with fail
  clear b0 b1 b2 n0
  generalize (((w.alloc (.cells #[.int .i64 (n : Int)] 3)).alloc (.cells #[.int .i64 (k : Int), .int .i64 (a : Int), .int .i64 (b : Int)] 66)).alloc (.cells #[.int .i64 0, .int .i64 0, .slice none 0 0] 47)) = w1 at *
  refine (impl_IsValidGate_any n ⟨(k : Int), (a : Int), (b : Int)⟩ _).mono ?_; rintro e w2 ⟨rfl, hb2⟩
  rw [HA.out]
  have S2 := Lib.hid (S0.out.call hb2)
  clear hb2 S0
  have X := Lib.hid S2.out.drew
  have n0 := (S2.out.at 2 rfl).cs 0 _ rfl
  clear S2
  go_wp2_with fail
  refine AnyB.begin (S := (fun w' => w'.cell? ⟨w.heap.size, 0, none⟩ = some (.int .i64 (n : Int)))) [8] (by kernel_rfl) ?_ (fun hHeld0 => ?_)
  · ((try dsimp only); (exact n0))
  refine AnyB.tk (i := 0) (h := ?_)
  refine AnyB.tq (i := 1) (h := ?_)
  refine AnyB.tk (i := 2) (h := ?_)
  refine AnyB.tq (i := 3) (h := ?_)
  refine AnyB.each (rs := [4]) (by kernel_rfl) (by simp) ?_
  refine EachB.cons rfl (fun K hK hB => ?_) ?_
  · skip
    go_simp
    refine hK.out _ _ ?_ (fun hHeld1 => ?_)
    · ((try dsimp only); (exact n0))
    clear hB hK K hHeld0
    refine AnyB.each (rs := [5]) (by kernel_rfl) (by simp) ?_
    refine EachB.cons rfl (fun K hK hB => ?_) ?_
    · skip
      (go_simp; go_at_call 48; refine (CMX.out _ (X.out.at 1 rfl) (X.out.at 2 rfl)).mono ?_; rintro e xA ⟨ar, capr, rfl, hO, hxA⟩; have O := Lib.hid hO; have hl := X.out.lt; replace X := Lib.hid (X.out.call hxA); clear hxA n0 hO; have n0 := (X.out.at 2 rfl).cs 0 _ rfl; obtain ⟨⟨c0, c1, c2⟩, f0, f1, f2⟩ := X.out.head.c3; dsimp only)
      refine hK.out _ _ ?_ (fun hHeld2 => ?_)
      · ((try dsimp only); (exact n0))
      clear hB hK K hHeld1
      refine AnyB.tq (i := 6) (h := ?_)
      refine AnyB.tq (i := 7) (h := ?_)
      refine AnyB.each (rs := [8]) (by kernel_rfl) (by simp) ?_
      refine EachB.cons rfl (fun K hK hB => ?_) ?_
      · skip
        go_simp
        refine hB.out _ _ rfl ?_
        clear hB hK K
        refine AnyB.tq (i := 9) (h := ?_)
        refine AnyB.none (by kernel_rfl) ?_ _
        have X9 := Lib.hid (((X.out.set0 0 (.int .i64 (d : Int))).set0 1 (.int .i64 (d : Int))).set0 2 (.slice ar (d * d) capr))
        simp only [World.drew] at hl
        have O9 := Lib.hid (((O.out.set (a := ⟨w.heap.size + 1 + 1, 0, none⟩) (Nat.lt_of_lt_of_le hl (Nat.le_add_right _ _)) (.int .i64 (d : Int))).set (a := ⟨w.heap.size + 1 + 1, 1, none⟩) (Nat.lt_of_lt_of_le hl (Nat.le_add_right _ _)) (.int .i64 (d : Int))).set (a := ⟨w.heap.size + 1 + 1, 2, none⟩) (Nat.lt_of_lt_of_le hl (Nat.le_add_right _ _)) (.slice ar (d * d) capr))
        go_wp2_with fail
        clear X O c0 c1 c2 f0 f1 f2 n0
        generalize (((xA.setCell ⟨w.heap.size + 1 + 1, 0, none⟩ (.int .i64 (d : Int))).setCell ⟨w.heap.size + 1 + 1, 1, none⟩ (.int .i64 (d : Int))).setCell ⟨w.heap.size + 1 + 1, 2, none⟩ (.slice ar (d * d) capr)) = w9 at *
        obtain ⟨⟨c0, c1, c2⟩, -⟩ := X9.out.head.c3
        refine bodyPost_ret (v := .tuple #[.agg #[.int .i64 (d : Int), .int .i64 (d : Int), .slice ar (d * d) capr], .bool true]) (by simp [results, Tryz.results83, go_sem, c0, c1, c2]) rfl ⟨ar, capr, rfl, OwnE.le O9.out (show w.heap.size ≤ w2.heap.size + 2 from by omega), X9.out.bel⟩
      exact EachB.nil
    exact EachB.nil
  exact EachB.nil
end Go.Proofs.YtnckabohlakbgaaGreat
