/- The product of two matrices. -/
import Derived.Test.YtnckabohlakbgaaGreatZ25M
import Derived.Test.YtnckabohlakbgaaGreatZ26M
import Derived.Test.YtnckabohlakbgaaGreatZ27Dy16
import Derived.BigRegion
import Derived.BigQuiet
import Derived.Shelf.Abstract
namespace Go.Proofs.YtnckabohlakbgaaGreat
set_option linter.unusedSimpArgs false
set_option linter.unusedVariables false
set_option linter.unnecessarySimpa false
set_option maxRecDepth 200000
open Go.ChangeShapes Go.WideShapes Go.ChangeAt Go.RowKit

set_option maxHeartbeats 8000000 in
theorem impl_MulMatrix_own (r m c : Nat) (A B : Nat → Nat → Dy) (P S : Nat → Nat → Nat → Dy) (w : World) (a b : Option Addr) (ca cb : Nat) (hr : MDim r) (hm : MDim m) (hc : MDim c) (hS : SumOk r m c A B P S)
    (h1 : RdM w r m a ca A) (h2 : RdM w m c b cb B) (k1 : ∀ x ∈ cellsTo m A (r * m), x.ok) (k2 : ∀ x ∈ cellsTo c B (m * c), x.ok) :
    Calls Tryz.prog 18 #[.agg #[.int .i64 (r : Int), .int .i64 (m : Int), .slice a (r * m) ca], .agg #[.int .i64 (m : Int), .int .i64 (c : Int), .slice b (m * c) cb]] w fun e w' => MatOwn w r c (fun i j => S i j m) e w' := by
  have S0 := Lib.hid ((((Sb.nil w).push [.int .i64 (r : Int), .int .i64 (m : Int), .slice a (r * m) ca] 47 rfl).push [.int .i64 (m : Int), .int .i64 (c : Int), .slice b (m * c) cb] 47 (g := w.heap.size + 1) (by simp)).push [.int .i64 0, .int .i64 0, .slice none 0 0] 47 (g := w.heap.size + 1 + 1) (by simp))
  have H1 := Lib.hid h1
  have H2 := Lib.hid h2
  have VA := Lib.hid (fun W (h : RdM W r m a ca A) => impl_IsValidMatrix_ok r m (.slice a (r * m) ca) (cellsTo m A (r * m)) W hr hm (cellsTo_len _ _ _) h k1)
  have VB := Lib.hid (fun W (h : RdM W m c b cb B) => impl_IsValidMatrix_ok m c (.slice b (m * c) cb) (cellsTo c B (m * c)) W hm hc (cellsTo_len _ _ _) h k2)
  have eg := enters_of Tryz.func56 (by kernel_rfl) rfl
  have CMX := Lib.hid (fun (W : World) (hA : RdM W r m a ca A) (hB : RdM W m c b cb B) (h1 : Bw W w.heap.size [.int .i64 (r : Int), .int .i64 (m : Int), .slice a (r * m) ca]) (h2 : Bw W (w.heap.size + 1) [.int .i64 (m : Int), .int .i64 (c : Int), .slice b (m * c) cb]) =>
    impl_matrixOf_ok r c hr hc 56 #[.pointer (some ⟨w.heap.size, 0, none⟩), .pointer (some ⟨w.heap.size + 1, 0, none⟩)] (fun i j => S i j m) eg W (fun V i j hi hj hb =>
      (show Calls Tryz.prog 56 #[.int .i64 (i : Int), .int .i64 (j : Int), .pointer (some ⟨w.heap.size, 0, none⟩), .pointer (some ⟨w.heap.size + 1, 0, none⟩)] V _ from impl_MulCell_ok r m c i j w.heap.size (w.heap.size + 1) A B P S V a b ca cb hr.le.2 hm.le.2 hc.le.2 hi hj hS (hA.call hb) (hB.call hb) (h1.call hb) (h2.call hb))))
  clear h1 h2 k1 k2 eg hr hm hc hS
  generalize (fun i j => S i j m) = F at *
  generalize r * m = na at *
  generalize m * c = nb at *
  go_enter Tryz.func18, Tryz.ntmps18
  go_wp2_with fail
  generalize (((w.alloc (.cells #[.int .i64 (r : Int), .int .i64 (m : Int), .slice a na ca] 47)).alloc (.cells #[.int .i64 (m : Int), .int .i64 (c : Int), .slice b nb cb] 47)).alloc (.cells #[.int .i64 0, .int .i64 0, .slice none 0 0] 47)) = w1 at *
  refine (VA.out _ (RdM.call H1.out S0.out.bel)).mono ?_; rintro e w2 ⟨rfl, hb2⟩
  have S2 := Lib.hid (S0.out.call hb2)
  clear hb2 S0 VA
  obtain ⟨⟨b0, b1, b2⟩, -⟩ := (S2.out.at 1 rfl).c3
  go_wp2_with fail
  clear b0 b1 b2
  refine (VB.out _ (RdM.call H2.out S2.out.bel)).mono ?_; rintro e w3 ⟨rfl, hb3⟩
  have S3 := Lib.hid (S2.out.call hb3)
  clear hb3 S2 VB
  obtain ⟨⟨b0, b1, b2⟩, -⟩ := (S3.out.at 1 rfl).c3
  obtain ⟨⟨a0, a1, a2⟩, -⟩ := (S3.out.at 2 rfl).c3
  go_wp2_with fail
  clear a0 a1 a2 b0 b1 b2
  have hl := S3.out.lt
  refine (CMX.out _ (RdM.call H1.out S3.out.bel) (RdM.call H2.out S3.out.bel) (S3.out.at 2 rfl) (S3.out.at 1 rfl)).mono ?_; rintro e xA ⟨ar, capr, rfl, hO, hxA⟩
  have O := Lib.hid hO
  have X := Lib.hid (S3.out.call hxA)
  clear hxA hO S3 CMX
  have X9 := Lib.hid (((X.out.set0 0 (.int .i64 (r : Int))).set0 1 (.int .i64 (c : Int))).set0 2 (.slice ar (r * c) capr))
  have O9 := Lib.hid (((O.out.set (a := ⟨w.heap.size + 1 + 1, 0, none⟩) (Nat.lt_of_lt_of_le hl (Nat.le_add_right _ _)) (.int .i64 (r : Int))).set (a := ⟨w.heap.size + 1 + 1, 1, none⟩) (Nat.lt_of_lt_of_le hl (Nat.le_add_right _ _)) (.int .i64 (c : Int))).set (a := ⟨w.heap.size + 1 + 1, 2, none⟩) (Nat.lt_of_lt_of_le hl (Nat.le_add_right _ _)) (.slice ar (r * c) capr))
  obtain ⟨⟨c0, c1, c2⟩, f0, f1, f2⟩ := X.out.head.c3
  go_wp2_with fail
  clear X O c0 c1 c2 f0 f1 f2
  generalize (((xA.setCell ⟨w.heap.size + 1 + 1, 0, none⟩ (.int .i64 (r : Int))).setCell ⟨w.heap.size + 1 + 1, 1, none⟩ (.int .i64 (c : Int))).setCell ⟨w.heap.size + 1 + 1, 2, none⟩ (.slice ar (r * c) capr)) = w9 at *
  obtain ⟨⟨c0, c1, c2⟩, -⟩ := X9.out.head.c3
  refine bodyPost_ret (v := .tuple #[.agg #[.int .i64 (r : Int), .int .i64 (c : Int), .slice ar (r * c) capr], .bool true]) (by simp [results, Tryz.results18, go_sem, c0, c1, c2]) rfl ⟨ar, capr, rfl, OwnE.le O9.out (by omega), X9.out.bel⟩
theorem impl_MulMatrix_ok (r m c : Nat) (A B : Nat → Nat → Dy) (P S : Nat → Nat → Nat → Dy) (w : World) (a b : Option Addr) (ca cb : Nat) (hr : MDim r) (hm : MDim m) (hc : MDim c) (hS : SumOk r m c A B P S)
    (h1 : RdM w r m a ca A) (h2 : RdM w m c b cb B) (k1 : ∀ x ∈ cellsTo m A (r * m), x.ok) (k2 : ∀ x ∈ cellsTo c B (m * c), x.ok) :
    Calls Tryz.prog 18 #[.agg #[.int .i64 (r : Int), .int .i64 (m : Int), .slice a (r * m) ca], .agg #[.int .i64 (m : Int), .int .i64 (c : Int), .slice b (m * c) cb]] w fun e w' => MatAns w r c (fun i j => S i j m) e w' :=
  (impl_MulMatrix_own r m c A B P S w a b ca cb hr hm hc hS h1 h2 k1 k2).mono fun _ _ h => h.ans
end Go.Proofs.YtnckabohlakbgaaGreat
