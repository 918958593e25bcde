/- The matrix of an operator. -/
import Derived.Test.YtnckabohlakbgaaGreatZ26M
import Derived.Test.YtnckabohlakbgaaGreatZ25M
import Derived.Test.YtnckabohlakbgaaGreatZ06Brk
import Derived.BigRegion
import Derived.BigQuiet
import Derived.Shelf.Abstract
namespace Go.Proofs.YtnckabohlakbgaaGreat
set_option linter.unusedSimpArgs false
set_option linter.unusedVariables false
set_option linter.unnecessarySimpa false
set_option maxRecDepth 200000
open Go.ChangeShapes Go.WideShapes Go.ChangeAt Go.RowKit

/-- What a function that answers a matrix and 'true' leaves. -/
def MatAns (w : World) (r c : Nat) (F : Nat → Nat → Dy) (e : Ending) (w' : World) : Prop :=
  ∃ a cap, e = .returned (.tuple #[.agg #[.int .i64 (r : Int), .int .i64 (c : Int), .slice a (r * c) cap], .bool true]) ∧ RdM w' r c a cap F ∧ Below w.heap.size w w'
/-- The same, the cells in a block of the call's own. -/
def MatOwn (w : World) (r c : Nat) (F : Nat → Nat → Dy) (e : Ending) (w' : World) : Prop :=
  ∃ a cap, e = .returned (.tuple #[.agg #[.int .i64 (r : Int), .int .i64 (c : Int), .slice a (r * c) cap], .bool true]) ∧ OwnE w' w.heap.size 86 (.slice a (r * c) cap) Dy.cs 5 (cellsTo c F (r * c)) ∧ Below w.heap.size w w'
theorem MatOwn.ans {w w' : World} {r c : Nat} {F : Nat → Nat → Dy} {e : Ending} (h : MatOwn w r c F e w') : MatAns w r c F e w' := by
  obtain ⟨a, cap, he, ho, hb⟩ := h
  exact ⟨a, cap, he, OwnE.rd ho, hb⟩
theorem MatAns.of {w w' : World} {r c : Nat} {F : Nat → Nat → Dy} {e : Ending} (h : ∃ a cap, e = .returned (.tuple #[.agg #[.int .i64 (r : Int), .int .i64 (c : Int), .slice a (r * c) cap], .bool true]) ∧ RdM w' r c a cap F ∧ Below w.heap.size w w') : MatAns w r c F e w' := h
theorem RdM.set {w : World} {r c : Nat} {a : Option Addr} {cap B : Nat} {F : Nat → Nat → Dy} (h : OwnE w B 86 (.slice a (r * c) cap) Dy.cs 5 (cellsTo c F (r * c))) {p : Addr} (hp : p.block < B) (u : Value) :
    OwnE (w.setCell p u) B 86 (.slice a (r * c) cap) Dy.cs 5 (cellsTo c F (r * c)) := OwnE.set h hp u
theorem dim_pow {n : Nat} (h : n ≤ 5) : MDim (2 ^ n) := by
  rcases (show n = 0 ∨ n = 1 ∨ n = 2 ∨ n = 3 ∨ n = 4 ∨ n = 5 by omega) with rfl | rfl | rfl | rfl | rfl | rfl <;> (unfold MDim; decide)
set_option maxHeartbeats 8000000 in
theorem impl_PauliMatrix_ok (n : Nat) (a : PN) (w : World) (hn1 : 1 ≤ n) (hn : n ≤ 5) (hA : pauB (n : Int) a.e = true) (ha : PNok a) :
    Calls Tryz.prog 17 #[.int .i64 (n : Int), .agg #[.int .i64 ((a).p : Int), .int .i64 ((a).x : Int), .int .i64 ((a).z : Int)]] w fun e w' => MatAns w (2 ^ n) (2 ^ n) (fun i j => cod (cellU n a i j n)) e w' := by
  have HA := Lib.hid hA
  have OA := Lib.hid ha
  have HD := Lib.hid (dim_pow hn)
  have hd := (dim_pow hn).le
  have S0 := Lib.hid ((((Sb.nil w).push [.int .i64 (n : Int)] 3 rfl).push [.int .i64 (a.p : Int), .int .i64 (a.x : Int), .int .i64 (a.z : Int)] 33 (g := w.heap.size + 1) (by simp)).push [.int .i64 0, .int .i64 0, .slice none 0 0] 47 (g := w.heap.size + 1 + 1) (by simp))
  have eg := enters_of Tryz.func49 (by kernel_rfl) rfl
  have CMX := Lib.hid (fun (W : World) (h1 : Bw W (w.heap.size + 1) [.int .i64 (a.p : Int), .int .i64 (a.x : Int), .int .i64 (a.z : Int)]) (h2 : Bw W w.heap.size [.int .i64 (n : Int)]) =>
    impl_matrixOf_ok (2 ^ n) (2 ^ n) HD.out HD.out 49 #[.pointer (some ⟨w.heap.size + 1, 0, none⟩), .pointer (some ⟨w.heap.size, 0, none⟩)] (fun i j => cod (cellU n a i j n)) eg W (fun V i j hi hj hb =>
      (show Calls Tryz.prog 49 #[.int .i64 (i : Int), .int .i64 (j : Int), .pointer (some ⟨w.heap.size + 1, 0, none⟩), .pointer (some ⟨w.heap.size, 0, none⟩)] V _ from impl_PauliCell_ok n i j (w.heap.size + 1) w.heap.size a V hn1 hn OA.out (by omega) (by omega) (h1.call hb) (h2.call hb))))
  have hw : IntKind.i64.wrap ((2 : Int) ^ n) = ((2 ^ n : Nat) : Int) := by
    rw [show ((2 : Int) ^ n) = ((2 ^ n : Nat) : Int) by push_cast; rfl]
    exact IntWalk.i64_in _ (by omega)
  have m0 : (0 : Int) ≤ n := by omega
  have m1 : (n : Int) ≤ 5 := by omega
  obtain ⟨d, hdd⟩ : ∃ d, d = 2 ^ n := ⟨_, rfl⟩
  rw [← hdd] at CMX hw hd ⊢
  clear hA ha eg HD hdd
  obtain ⟨⟨b0, b1, b2⟩, -⟩ := (S0.out.at 1 rfl).c3
  have n0 := (S0.out.at 2 rfl).cs 0 _ rfl
  generalize (fun i j => cod (cellU n a i j n)) = F at *
  go_enter Tryz.func17, Tryz.ntmps17
  go_wp2_with fail
  clear b0 b1 b2 n0
  generalize (((w.alloc (.cells #[.int .i64 (n : Int)] 3)).alloc (.cells #[.int .i64 (a.p : Int), .int .i64 (a.x : Int), .int .i64 (a.z : Int)] 33)).alloc (.cells #[.int .i64 0, .int .i64 0, .slice none 0 0] 47)) = w1 at *
  refine (impl_IsValidPauli_any n a.e _).mono ?_; rintro e w2 ⟨rfl, hb2⟩
  rw [HA.out]
  have S2 := Lib.hid (S0.out.call hb2)
  clear hb2 S0
  have X := Lib.hid S2.out.drew
  have n0 := (S2.out.at 2 rfl).cs 0 _ rfl
  clear S2
  go_wp2_with fail
  refine AnyB.begin (S := (fun w' => w'.cell? ⟨w.heap.size, 0, none⟩ = some (.int .i64 (n : Int)))) [8] (by kernel_rfl) ?_ (fun hHeld0 => ?_)
  · ((try dsimp only); (exact n0))
  refine AnyB.tk (i := 0) (h := ?_)
  refine AnyB.tq (i := 1) (h := ?_)
  refine AnyB.tk (i := 2) (h := ?_)
  refine AnyB.tq (i := 3) (h := ?_)
  refine AnyB.each (rs := [4]) (by kernel_rfl) (by simp) ?_
  refine EachB.cons rfl (fun K hK hB => ?_) ?_
  · skip
    go_simp
    refine hK.out _ _ ?_ (fun hHeld1 => ?_)
    · ((try dsimp only); (exact n0))
    clear hB hK K hHeld0
    refine AnyB.each (rs := [5]) (by kernel_rfl) (by simp) ?_
    refine EachB.cons rfl (fun K hK hB => ?_) ?_
    · skip
      (go_simp; go_at_call 48; refine (CMX.out _ (X.out.at 1 rfl) (X.out.at 2 rfl)).mono ?_; rintro e xA ⟨ar, capr, rfl, hO, hxA⟩; have O := Lib.hid hO; have hl := X.out.lt; replace X := Lib.hid (X.out.call hxA); clear hxA n0 hO; have n0 := (X.out.at 2 rfl).cs 0 _ rfl; obtain ⟨⟨c0, c1, c2⟩, f0, f1, f2⟩ := X.out.head.c3; dsimp only)
      refine hK.out _ _ ?_ (fun hHeld2 => ?_)
      · ((try dsimp only); (exact n0))
      clear hB hK K hHeld1
      refine AnyB.tq (i := 6) (h := ?_)
      refine AnyB.tq (i := 7) (h := ?_)
      refine AnyB.each (rs := [8]) (by kernel_rfl) (by simp) ?_
      refine EachB.cons rfl (fun K hK hB => ?_) ?_
      · skip
        go_simp
        refine hB.out _ _ rfl ?_
        clear hB hK K
        refine AnyB.tq (i := 9) (h := ?_)
        refine AnyB.none (by kernel_rfl) ?_ _
        have X9 := Lib.hid (((X.out.set0 0 (.int .i64 (d : Int))).set0 1 (.int .i64 (d : Int))).set0 2 (.slice ar (d * d) capr))
        simp only [World.drew] at hl
        have O9 := Lib.hid (((O.out.set (a := ⟨w.heap.size + 1 + 1, 0, none⟩) (Nat.lt_of_lt_of_le hl (Nat.le_add_right _ _)) (.int .i64 (d : Int))).set (a := ⟨w.heap.size + 1 + 1, 1, none⟩) (Nat.lt_of_lt_of_le hl (Nat.le_add_right _ _)) (.int .i64 (d : Int))).set (a := ⟨w.heap.size + 1 + 1, 2, none⟩) (Nat.lt_of_lt_of_le hl (Nat.le_add_right _ _)) (.slice ar (d * d) capr))
        go_wp2_with fail
        clear X O c0 c1 c2 f0 f1 f2 n0
        generalize (((xA.setCell ⟨w.heap.size + 1 + 1, 0, none⟩ (.int .i64 (d : Int))).setCell ⟨w.heap.size + 1 + 1, 1, none⟩ (.int .i64 (d : Int))).setCell ⟨w.heap.size + 1 + 1, 2, none⟩ (.slice ar (d * d) capr)) = w9 at *
        obtain ⟨⟨c0, c1, c2⟩, -⟩ := X9.out.head.c3
        refine bodyPost_ret (v := .tuple #[.agg #[.int .i64 (d : Int), .int .i64 (d : Int), .slice ar (d * d) capr], .bool true]) (by simp [results, Tryz.results17, go_sem, c0, c1, c2]) rfl (.of ⟨ar, capr, rfl, O9.out.rd, X9.out.bel⟩)
      exact EachB.nil
    exact EachB.nil
  exact EachB.nil
end Go.Proofs.YtnckabohlakbgaaGreat
