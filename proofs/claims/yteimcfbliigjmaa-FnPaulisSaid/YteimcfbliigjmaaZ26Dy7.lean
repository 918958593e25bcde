/- The program's sum of two numbers num / sqrt(2)^exp. -/
import Derived.Test.YteimcfbliigjmaaZ25M
import Derived.BigRegion
import Derived.BigQuiet
namespace Go.Proofs.Yteimcfbliigjmaa
set_option linter.unusedSimpArgs false
set_option linter.unusedVariables false
set_option linter.unnecessarySimpa false
set_option maxRecDepth 200000
open Go.ChangeShapes Go.WideShapes Go.ChangeAt Go.RowKit

/-- What a sum asks of its summands: every numerator on the way is small. -/
structure AddOk (x y : Dy) : Prop where
  okx : x.ok
  oky : y.ok
  ux : ∀ k, k ≤ max x.exp y.exp - x.exp → (rtN x.num k).le 1000000000
  uy : ∀ k, k ≤ max x.exp y.exp - y.exp → (rtN y.num k).le 1000000000
  s : ((rtN x.num (max x.exp y.exp - x.exp)).add (rtN y.num (max x.exp y.exp - y.exp))).le 1000000000
theorem run_max2 (a b : Nat) (W : World) : (Builtin.max_ #[3, 3] 3 #[.int .i64 (a : Int), .int .i64 (b : Int)]).run Try.prog W = .ok (.int .i64 (max (a : Int) (b : Int))) W := by
  by_cases h : (a : Int) < (b : Int)
  · simp [Builtin.max_, Builtin.max2, h, go_sem]; omega
  · simp [Builtin.max_, Builtin.max2, h, go_sem]; omega
set_option maxHeartbeats 8000000 in
theorem impl_combined_ok (x y : Dy) (w : World) (h : AddOk x y) :
    Calls Try.prog 53 #[x.v, y.v, .func (.func 54) #[] #[]] w fun r w' => r = .returned (.tuple #[(dadd x y).v, .bool true]) ∧ Below w.heap.size w w' := by
  obtain ⟨D, hD⟩ : ∃ D, D = dadd x y := ⟨_, rfl⟩
  rw [← hD]
  unfold dadd at hD
  have xe60 := h.okx.exp
  have ye60 := h.oky.exp
  have hux := h.ux; have huy := h.uy; have hs := h.s
  obtain ⟨E, hE⟩ : ∃ E, E = max x.exp y.exp := ⟨_, rfl⟩
  rw [← hE] at hD hux huy hs
  have hE60 : E ≤ 60 := by omega
  have HE : Hid ((E : Int) = max (x.exp : Int) (y.exp : Int)) := (show (E : Int) = max (x.exp : Int) (y.exp : Int) from by omega)
  have VX := Lib.hid (fun W => impl_IsValidDyadic_ok x W h.okx)
  have VY := Lib.hid (fun W => impl_IsValidDyadic_ok y W h.oky)
  have RX := Lib.hid (fun W => impl_raised_ok x E W xe60 hE60 hux)
  have RY := Lib.hid (fun W => impl_raised_ok y E W ye60 hE60 huy)
  have AD := Lib.hid (fun W => impl_AddRing_ok _ _ W (hux _ (Nat.le_refl _)) (huy _ (Nat.le_refl _)) hs)
  have CN := Lib.hid (fun W => impl_DyadicOf_ok _ E W hs hE60)
  rw [← hD] at CN
  clear hD hux huy hs h hE xe60 ye60
  generalize Rg4.add (rtN x.num (E - x.exp)) (rtN y.num (E - y.exp)) = s at *
  generalize rtN x.num (E - x.exp) = p at *
  generalize rtN y.num (E - y.exp) = q at *
  have S0 := Lib.hid ((((Sb.nil w).push x.cs 60 rfl).push y.cs 60 (g := w.heap.size + 1) (by simp)).push [.int .i64 0, .int .i64 0, .int .i64 0, .int .i64 0, .int .i64 0] 60 (g := w.heap.size + 1 + 1) (by simp))
  obtain ⟨sa, sb, sc, sd⟩ := s
  obtain ⟨pa, pb, pc, pd⟩ := p
  obtain ⟨qa, qb, qc, qd⟩ := q
  obtain ⟨⟨xa, xb, xc, xd⟩, xe⟩ := x
  obtain ⟨⟨ya, yb, yc, yd⟩, ye⟩ := y
  obtain ⟨⟨da, db, dc, dd⟩, de⟩ := D
  dsimp only [Dy.cs, Dy.v, Rg4.cs, Rg4.v] at S0 HE VX VY RX RY AD CN ⊢
  go_enter Try.func53, Try.ntmps53
  go_wp2_with fail
  generalize (((w.alloc (.cells #[.int .i64 xa, .int .i64 xb, .int .i64 xc, .int .i64 xd, .int .i64 (xe : Int)] 60)).alloc (.cells #[.int .i64 ya, .int .i64 yb, .int .i64 yc, .int .i64 yd, .int .i64 (ye : Int)] 60)).alloc (.cells #[.int .i64 0, .int .i64 0, .int .i64 0, .int .i64 0, .int .i64 0] 60)) = w1 at *
  refine (VX.out _).mono ?_; rintro e2 w2 ⟨rfl, hb2⟩
  have S2 := Lib.hid (S0.out.call hb2)
  obtain ⟨⟨a0, a1, a2, a3, a4⟩, _⟩ := (S2.out.at 1 rfl).c5
  clear hb2 S0 VX
  go_wp2_with fail
  clear a0 a1 a2 a3 a4
  refine (VY.out _).mono ?_; rintro e2 w3 ⟨rfl, hb3⟩
  have S3 := Lib.hid (S2.out.call hb3)
  obtain ⟨⟨a0, a1, a2, a3, a4⟩, _⟩ := (S3.out.at 1 rfl).c5
  obtain ⟨⟨b0, b1, b2, b3, b4⟩, _⟩ := (S3.out.at 2 rfl).c5
  clear hb3 S2 VY
  have hmx := run_max2 xe ye w3
  rw [← HE.out] at hmx
  go_wp2_with fail
  clear a0 a1 a2 a3 a4 b0 b1 b2 b3 b4 hmx
  refine (RX.out _).mono ?_; rintro e2 w4 ⟨rfl, hb4⟩
  obtain ⟨g4, hg4⟩ : ∃ g, w4.heap.size = g := ⟨_, rfl⟩
  have S4 := Lib.hid (show Sb w.heap.size w (w4.alloc (.cells #[.int .i64 pa, .int .i64 pb, .int .i64 pc, .int .i64 pd] 58)) _ from (S3.out.call hb4).push [.int .i64 pa, .int .i64 pb, .int .i64 pc, .int .i64 pd] 58 hg4)
  clear hb4 S3 RX
  obtain ⟨⟨a0, a1, a2, a3, a4⟩, _⟩ := (S4.out.at 2 rfl).c5
  go_wp2_with fail
  clear a0 a1 a2 a3 a4
  generalize (w4.alloc (.cells #[.int .i64 pa, .int .i64 pb, .int .i64 pc, .int .i64 pd] 58)) = w5 at *
  clear hg4
  refine (RY.out _).mono ?_; rintro e2 w6 ⟨rfl, hb6⟩
  obtain ⟨g6, hg6⟩ : ∃ g, w6.heap.size = g := ⟨_, rfl⟩
  have S6 := Lib.hid (show Sb w.heap.size w (w6.alloc (.cells #[.int .i64 qa, .int .i64 qb, .int .i64 qc, .int .i64 qd] 58)) _ from (S4.out.call hb6).push [.int .i64 qa, .int .i64 qb, .int .i64 qc, .int .i64 qd] 58 hg6)
  clear hb6 S4 RY
  obtain ⟨⟨a0, a1, a2, a3⟩, _⟩ := (S6.out.at 0 rfl).c4
  obtain ⟨⟨b0, b1, b2, b3⟩, _⟩ := (S6.out.at 1 rfl).c4
  go_wp2_with fail
  clear a0 a1 a2 a3 b0 b1 b2 b3
  generalize (w6.alloc (.cells #[.int .i64 qa, .int .i64 qb, .int .i64 qc, .int .i64 qd] 58)) = w7 at *
  clear hg6
  refine (AD.out _).mono ?_; rintro e2 w8 ⟨rfl, hb8⟩
  obtain ⟨g8, hg8⟩ : ∃ g, w8.heap.size = g := ⟨_, rfl⟩
  have S8 := Lib.hid (show Sb w.heap.size w (w8.alloc (.cells #[.int .i64 sa, .int .i64 sb, .int .i64 sc, .int .i64 sd] 58)) _ from (S6.out.call hb8).push [.int .i64 sa, .int .i64 sb, .int .i64 sc, .int .i64 sd] 58 hg8)
  clear hb8 S6 AD
  obtain ⟨⟨a0, a1, a2, a3⟩, _⟩ := (S8.out.at 0 rfl).c4
  go_wp2_with fail
  clear a0 a1 a2 a3
  generalize (w8.alloc (.cells #[.int .i64 sa, .int .i64 sb, .int .i64 sc, .int .i64 sd] 58)) = w9 at *
  clear hg8
  refine (CN.out _).mono ?_; rintro e2 w10 ⟨rfl, hb10⟩
  have S10 := Lib.hid (S8.out.call hb10).tail.tail.tail
  clear hb10 S8 CN
  obtain ⟨⟨a0, a1, a2, a3, a4⟩, f0, f1, f2, f3, f4⟩ := S10.out.head.c5
  have S9 := Lib.hid (((((S10.out.set0 0 (.int .i64 da)).set0 1 (.int .i64 db)).set0 2 (.int .i64 dc)).set0 3 (.int .i64 dd)).set0 4 (.int .i64 (de : Int)))
  clear S10
  go_wp2_with fail
  clear a0 a1 a2 a3 a4 f0 f1 f2 f3 f4
  generalize ((((w10.setCell ⟨w.heap.size + 1 + 1, 0, none⟩ (.int .i64 da)).setCell ⟨w.heap.size + 1 + 1, 1, none⟩ (.int .i64 db)).setCell ⟨w.heap.size + 1 + 1, 2, none⟩ (.int .i64 dc)).setCell ⟨w.heap.size + 1 + 1, 3, none⟩ (.int .i64 dd)).setCell ⟨w.heap.size + 1 + 1, 4, none⟩ (.int .i64 (de : Int)) = w11 at *
  obtain ⟨⟨c0, c1, c2, c3, c4⟩, _⟩ := S9.out.head.c5
  refine bodyPost_ret (v := .tuple #[.agg #[.int .i64 da, .int .i64 db, .int .i64 dc, .int .i64 dd, .int .i64 (de : Int)], .bool true]) (by simp [results, Try.results53, go_sem, c0, c1, c2, c3, c4]) rfl ⟨rfl, S9.out.bel⟩
set_option maxHeartbeats 4000000 in
theorem impl_AddDyadic_ok (x y : Dy) (w : World) (h : AddOk x y) :
    Calls Try.prog 34 #[x.v, y.v] w fun r w' => r = .returned (.tuple #[(dadd x y).v, .bool true]) ∧ Below w.heap.size w w' := by
  have S0 := Lib.hid ((((Sb.nil w).push x.cs 60 rfl).push y.cs 60 (g := w.heap.size + 1) (by simp)).push [.int .i64 0, .int .i64 0, .int .i64 0, .int .i64 0, .int .i64 0] 60 (g := w.heap.size + 1 + 1) (by simp))
  have CN := Lib.hid (fun W => impl_combined_ok x y W h)
  clear h
  generalize dadd x y = D at *
  obtain ⟨⟨xa, xb, xc, xd⟩, xe⟩ := x
  obtain ⟨⟨ya, yb, yc, yd⟩, ye⟩ := y
  obtain ⟨⟨da, db, dc, dd⟩, de⟩ := D
  dsimp only [Dy.cs, Dy.v, Rg4.cs, Rg4.v] at S0 CN ⊢
  go_enter Try.func34, Try.ntmps34
  go_wp2_with fail
  generalize (((w.alloc (.cells #[.int .i64 xa, .int .i64 xb, .int .i64 xc, .int .i64 xd, .int .i64 (xe : Int)] 60)).alloc (.cells #[.int .i64 ya, .int .i64 yb, .int .i64 yc, .int .i64 yd, .int .i64 (ye : Int)] 60)).alloc (.cells #[.int .i64 0, .int .i64 0, .int .i64 0, .int .i64 0, .int .i64 0] 60)) = w1 at *
  refine (CN.out _).mono ?_; rintro e2 w10 ⟨rfl, hb10⟩
  have S10 := Lib.hid (S0.out.call hb10)
  clear hb10 S0 CN
  obtain ⟨⟨a0, a1, a2, a3, a4⟩, f0, f1, f2, f3, f4⟩ := S10.out.head.c5
  have S9 := Lib.hid (((((S10.out.set0 0 (.int .i64 da)).set0 1 (.int .i64 db)).set0 2 (.int .i64 dc)).set0 3 (.int .i64 dd)).set0 4 (.int .i64 (de : Int)))
  clear S10
  go_wp2_with fail
  clear a0 a1 a2 a3 a4 f0 f1 f2 f3 f4
  generalize ((((w10.setCell ⟨w.heap.size + 1 + 1, 0, none⟩ (.int .i64 da)).setCell ⟨w.heap.size + 1 + 1, 1, none⟩ (.int .i64 db)).setCell ⟨w.heap.size + 1 + 1, 2, none⟩ (.int .i64 dc)).setCell ⟨w.heap.size + 1 + 1, 3, none⟩ (.int .i64 dd)).setCell ⟨w.heap.size + 1 + 1, 4, none⟩ (.int .i64 (de : Int)) = w11 at *
  obtain ⟨⟨c0, c1, c2, c3, c4⟩, _⟩ := S9.out.head.c5
  refine bodyPost_ret (v := .tuple #[.agg #[.int .i64 da, .int .i64 db, .int .i64 dc, .int .i64 dd, .int .i64 (de : Int)], .bool true]) (by simp [results, Try.results34, go_sem, c0, c1, c2, c3, c4]) rfl ⟨rfl, S9.out.bel⟩
end Go.Proofs.Yteimcfbliigjmaa
