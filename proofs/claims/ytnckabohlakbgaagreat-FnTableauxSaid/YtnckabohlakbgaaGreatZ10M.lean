/- The program's raised, the sum and the product of two numbers num / sqrt(2)^exp. -/
import Derived.Test.YtnckabohlakbgaaGreatZ09M
import Derived.BigRegion
import Derived.BigQuiet
import Derived.Test.YtnckabohlakbgaaGreatZ03M
namespace Go.Proofs.YtnckabohlakbgaaGreat
set_option linter.unusedSimpArgs false
set_option linter.unusedVariables false
set_option linter.unnecessarySimpa false
set_option maxRecDepth 200000
open Go.ChangeShapes Go.WideShapes Go.ChangeAt Go.RowKit

set_option maxHeartbeats 4000000 in
theorem impl_raised_ok (x : Dy) (E : Nat) (w : World) (he : x.exp ≤ 60) (hE : E ≤ 60) (hM : ∀ k, k ≤ E - x.exp → (rtN x.num k).le 1000000000) :
    Calls Tryz.prog 111 #[x.v, .int .i64 (E : Int)] w fun r w' => r = .returned (.tuple #[(rtN x.num (E - x.exp)).v, .bool true]) ∧ Below w.heap.size w w' := by
  have S0 := Lib.hid ((((Sb.nil w).push x.cs 86 rfl).push [.int .i64 0, .int .i64 0, .int .i64 0, .int .i64 0] 84 (g := w.heap.size + 1) (by simp)).push x.num.cs 84 (g := w.heap.size + 2) (by simp))
  have HM := Lib.hid hM
  clear hM
  obtain ⟨⟨a, b, c, d⟩, e⟩ := x
  dsimp only [Dy.cs, Dy.v, Rg4.cs] at S0 HM he ⊢
  obtain ⟨F, hF⟩ : ∃ F, F = rtN ⟨a, b, c, d⟩ := ⟨_, rfl⟩
  have F0 : F 0 = ⟨a, b, c, d⟩ := by rw [hF]; rfl
  have FS := Lib.hid (show ∀ k, F (k + 1) = (F k).rt from fun k => by rw [hF]; rfl)
  rw [← hF] at HM ⊢
  have F00 := Lib.hid F0
  clear hF F0
  go_enter Tryz.func111, Tryz.ntmps111
  go_wp2_with fail
  go_loopw [7, 8] (fun o i wr => ∃ (j : Nat), j ≤ E - e ∧ o = .bool true ∧ i = .int .i64 ((e + j : Nat) : Int) ∧ Hid (Sb w.heap.size w wr [(w.heap.size + 2, (F j).cs), (w.heap.size + 1, [.int .i64 0, .int .i64 0, .int .i64 0, .int .i64 0]), (w.heap.size, [.int .i64 a, .int .i64 b, .int .i64 c, .int .i64 d, .int .i64 (e : Int)])])) (fun _ i _ => E - (intOf i).toNat)
  case atStart => exact ⟨0, Nat.zero_le _, rfl, rfl, by rw [F00.out]; exact S0⟩
  case round =>
    clear S0
    obtain ⟨j, hj, rfl, rfl, hS⟩ := hrel
    by_cases hlt : e + j < E
    · have i1 : (e : Int) + (j : Int) < (E : Int) := by omega
      have H1 := Lib.hid (HM.out j hj)
      have H2 := Lib.hid (show (F j).rt.le 1000000000 from by rw [← FS.out]; exact HM.out _ (by omega))
      have CD := Lib.hid (fun W => impl_MulRootTwo_ok (F j) W H1.out H2.out)
      have HF := FS.out j
      rw [← HF] at CD
      have HF2 := Lib.hid HF
      clear HF H1 H2
      obtain ⟨y, hy⟩ : ∃ y, y = F j := ⟨_, rfl⟩
      obtain ⟨z, hz⟩ : ∃ z, z = F (j + 1) := ⟨_, rfl⟩
      rw [← hy] at CD hS
      rw [← hz] at CD
      have HZ := Lib.hid hz
      clear hy hz HF2
      obtain ⟨ya, yb, yc, yd⟩ := y
      obtain ⟨za, zb, zc, zd⟩ := z
      obtain ⟨⟨b0, b1, b2, b3⟩, g0, g1, g2, g3⟩ := hS.out.head.c4
      go_wp2_with fail
      refine (CD.out _).mono ?_; rintro e2 w6 ⟨rfl, hb6⟩
      have S6 := Lib.hid (hS.out.call hb6)
      clear hb6 hS b0 b1 b2 b3 g0 g1 g2 g3 CD
      obtain ⟨⟨b0, b1, b2, b3⟩, g0, g1, g2, g3⟩ := S6.out.head.c4
      have S7 := Lib.hid ((((S6.out.set0 0 (.int .i64 za)).set0 1 (.int .i64 zb)).set0 2 (.int .i64 zc)).set0 3 (.int .i64 zd))
      clear S6
      go_wp2_with fail
      go_roundw
      case rel => exact ⟨j + 1, by omega, rfl, by congr 1, by rw [← HZ.out]; exact S7⟩
      case measure => simp [intOf]; omega
    · have hje : j = E - e := by omega
      have i1 : ¬ (e : Int) + (j : Int) < (E : Int) := by omega
      obtain ⟨y, hy⟩ : ∃ y, y = F j := ⟨_, rfl⟩
      rw [← hy] at hS
      rw [hje] at hy
      have HY := Lib.hid hy
      clear hy hje
      obtain ⟨ya, yb, yc, yd⟩ := y
      obtain ⟨⟨b0, b1, b2, b3⟩, g0, g1, g2, g3⟩ := hS.out.head.c4
      obtain ⟨⟨c0, c1, c2, c3⟩, f0, f1, f2, f3⟩ := (hS.out.at 1 rfl).c4
      have S9 := Lib.hid ((((hS.out.set1 0 (.int .i64 ya)).set1 1 (.int .i64 yb)).set1 2 (.int .i64 yc)).set1 3 (.int .i64 yd))
      clear hS
      go_wp2_with fail
      clear b0 b1 b2 b3 g0 g1 g2 g3 c0 c1 c2 c3 f0 f1 f2 f3
      generalize (((wr.setCell ⟨w.heap.size + 1, 0, none⟩ (.int .i64 ya)).setCell ⟨w.heap.size + 1, 1, none⟩ (.int .i64 yb)).setCell ⟨w.heap.size + 1, 2, none⟩ (.int .i64 yc)).setCell ⟨w.heap.size + 1, 3, none⟩ (.int .i64 yd) = w9 at *
      obtain ⟨⟨c0, c1, c2, c3⟩, _⟩ := (S9.out.at 1 rfl).c4
      refine bodyPost_ret (v := .tuple #[.agg #[.int .i64 ya, .int .i64 yb, .int .i64 yc, .int .i64 yd], .bool true]) (by simp [results, Tryz.results111, go_sem, c0, c1, c2, c3]) rfl ⟨by rw [← HY.out], S9.out.bel⟩
end Go.Proofs.YtnckabohlakbgaaGreat
namespace Go.Proofs.YtnckabohlakbgaaGreat
set_option linter.unusedSimpArgs false
set_option linter.unusedVariables false
set_option linter.unnecessarySimpa false
set_option maxRecDepth 200000
open Go.ChangeShapes Go.WideShapes Go.ChangeAt Go.RowKit

def dmul (x y : Dy) : Dy := nrm (x.num.mul y.num) (x.exp + y.exp)
def dadd (x y : Dy) : Dy := nrm ((rtN x.num (max x.exp y.exp - x.exp)).add (rtN y.num (max x.exp y.exp - y.exp))) (max x.exp y.exp)
set_option maxHeartbeats 4000000 in
theorem impl_MulDyadic_ok (x y : Dy) (A B : Int) (w : World) (hx : x.ok) (hy : y.ok) (h1 : x.num.le A) (h2 : y.num.le B) (hA : A ≤ 1000000000) (hB : B ≤ 1000000000) (hK : 4 * (A * B) ≤ 1000000000) (hE : x.exp + y.exp ≤ 60) :
    Calls Tryz.prog 51 #[x.v, y.v] w fun r w' => r = .returned (.tuple #[(dmul x y).v, .bool true]) ∧ Below w.heap.size w w' := by
  have CM := Lib.hid (fun W => impl_MulRing_ok x.num y.num W A B h1 h2 hA hB hK)
  have hml := (Rg4.mul_le h1 h2).mono hK
  have CN := Lib.hid (fun W => impl_DyadicOf_ok (x.num.mul y.num) (x.exp + y.exp) W hml hE)
  have VX := Lib.hid (fun W => impl_IsValidDyadic_ok x W hx)
  have VY := Lib.hid (fun W => impl_IsValidDyadic_ok y W hy)
  have S0 := Lib.hid ((((Sb.nil w).push x.cs 86 rfl).push y.cs 86 (g := w.heap.size + 1) (by simp)).push [.int .i64 0, .int .i64 0, .int .i64 0, .int .i64 0, .int .i64 0] 86 (g := w.heap.size + 1 + 1) (by simp))
  obtain ⟨D, hD⟩ : ∃ D, D = dmul x y := ⟨_, rfl⟩
  rw [← hD]
  rw [show nrm (x.num.mul y.num) (x.exp + y.exp) = D from hD.symm] at CN
  clear hD hml h1 h2 hA hB hK hx hy
  generalize x.num.mul y.num = m at *
  obtain ⟨ma, mb, mc, md⟩ := m
  obtain ⟨⟨xa, xb, xc, xd⟩, xe⟩ := x
  obtain ⟨⟨ya, yb, yc, yd⟩, ye⟩ := y
  obtain ⟨⟨da, db, dc, dd⟩, de⟩ := D
  dsimp only [Dy.cs, Dy.v, Rg4.cs, Rg4.v] at S0 hE CM CN VX VY ⊢
  have hes : ((xe + ye : Nat) : Int) = (xe : Int) + (ye : Int) := by omega
  rw [hes] at CN
  clear hes
  have e0 : IntKind.i64.wrap ((xe : Int) + (ye : Int)) = (xe : Int) + (ye : Int) := IntWalk.i64_in _ (by omega)
  go_enter Tryz.func51, Tryz.ntmps51
  go_wp2_with fail
  generalize (((w.alloc (.cells #[.int .i64 xa, .int .i64 xb, .int .i64 xc, .int .i64 xd, .int .i64 (xe : Int)] 86)).alloc (.cells #[.int .i64 ya, .int .i64 yb, .int .i64 yc, .int .i64 yd, .int .i64 (ye : Int)] 86)).alloc (.cells #[.int .i64 0, .int .i64 0, .int .i64 0, .int .i64 0, .int .i64 0] 86)) = w1 at *
  refine (CM.out _).mono ?_; rintro e2 w2 ⟨rfl, hb2⟩
  obtain ⟨g2, hg2⟩ : ∃ g, w2.heap.size = g := ⟨_, rfl⟩
  have S2 := Lib.hid (show Sb w.heap.size w (w2.alloc (.cells #[.int .i64 ma, .int .i64 mb, .int .i64 mc, .int .i64 md] 84)) _ from (S0.out.call hb2).push [.int .i64 ma, .int .i64 mb, .int .i64 mc, .int .i64 md] 84 hg2)
  obtain ⟨⟨a0, a1, a2, a3, a4⟩, _⟩ := (S2.out.at 3 rfl).c5
  clear hb2 S0 CM
  go_wp2_with fail
  clear a0 a1 a2 a3 a4
  generalize (w2.alloc (.cells #[.int .i64 ma, .int .i64 mb, .int .i64 mc, .int .i64 md] 84)) = w3 at *
  clear hg2
  refine (VX.out _).mono ?_; rintro e2 w4 ⟨rfl, hb4⟩
  have S4 := Lib.hid (S2.out.call hb4)
  clear hb4 S2
  obtain ⟨⟨b0, b1, b2, b3, b4⟩, _⟩ := (S4.out.at 2 rfl).c5
  go_wp2_with fail
  clear b0 b1 b2 b3 b4
  refine (VY.out _).mono ?_; rintro e2 w5 ⟨rfl, hb5⟩
  have S5 := Lib.hid (S4.out.call hb5)
  clear hb5 S4
  obtain ⟨⟨b0, b1, b2, b3, b4⟩, _⟩ := (S5.out.at 2 rfl).c5
  obtain ⟨⟨a0, a1, a2, a3, a4⟩, _⟩ := (S5.out.at 3 rfl).c5
  obtain ⟨⟨c0, c1, c2, c3⟩, _⟩ := (S5.out.at 0 rfl).c4
  go_wp2_with fail
  clear a0 a1 a2 a3 a4 b0 b1 b2 b3 b4 c0 c1 c2 c3
  refine (CN.out _).mono ?_; rintro e2 w6 ⟨rfl, hb6⟩
  have S6 := Lib.hid (S5.out.call hb6)
  clear hb6 S5
  obtain ⟨⟨a0, a1, a2, a3, a4⟩, f0, f1, f2, f3, f4⟩ := (S6.out.at 1 rfl).c5
  have S9 := Lib.hid (((((S6.out.set1 0 (.int .i64 da)).set1 1 (.int .i64 db)).set1 2 (.int .i64 dc)).set1 3 (.int .i64 dd)).set1 4 (.int .i64 (de : Int)))
  clear S6
  go_wp2_with fail
  clear a0 a1 a2 a3 a4 f0 f1 f2 f3 f4
  generalize ((((w6.setCell ⟨w.heap.size + 1 + 1, 0, none⟩ (.int .i64 da)).setCell ⟨w.heap.size + 1 + 1, 1, none⟩ (.int .i64 db)).setCell ⟨w.heap.size + 1 + 1, 2, none⟩ (.int .i64 dc)).setCell ⟨w.heap.size + 1 + 1, 3, none⟩ (.int .i64 dd)).setCell ⟨w.heap.size + 1 + 1, 4, none⟩ (.int .i64 (de : Int)) = w9 at *
  obtain ⟨⟨c0, c1, c2, c3, c4⟩, _⟩ := (S9.out.at 1 rfl).c5
  refine bodyPost_ret (v := .tuple #[.agg #[.int .i64 da, .int .i64 db, .int .i64 dc, .int .i64 dd, .int .i64 (de : Int)], .bool true]) (by simp [results, Tryz.results51, go_sem, c0, c1, c2, c3, c4]) rfl ⟨rfl, S9.out.bel⟩
end Go.Proofs.YtnckabohlakbgaaGreat
namespace Go.Proofs.YtnckabohlakbgaaGreat
set_option linter.unusedSimpArgs false
set_option linter.unusedVariables false
set_option linter.unnecessarySimpa false
set_option maxRecDepth 200000
open Go.ChangeShapes Go.WideShapes Go.ChangeAt Go.RowKit

/-- What a sum asks of its summands: every numerator on the way is small. -/
structure AddOk (x y : Dy) : Prop where
  okx : x.ok
  oky : y.ok
  ux : ∀ k, k ≤ max x.exp y.exp - x.exp → (rtN x.num k).le 1000000000
  uy : ∀ k, k ≤ max x.exp y.exp - y.exp → (rtN y.num k).le 1000000000
  s : ((rtN x.num (max x.exp y.exp - x.exp)).add (rtN y.num (max x.exp y.exp - y.exp))).le 1000000000
theorem run_max2 (a b : Nat) (W : World) : (Builtin.max_ #[3, 3] 3 #[.int .i64 (a : Int), .int .i64 (b : Int)]).run Tryz.prog W = .ok (.int .i64 (max (a : Int) (b : Int))) W := by
  by_cases h : (a : Int) < (b : Int)
  · simp [Builtin.max_, Builtin.max2, h, go_sem]; omega
  · simp [Builtin.max_, Builtin.max2, h, go_sem]; omega
set_option maxHeartbeats 8000000 in
theorem impl_combined_ok (x y : Dy) (w : World) (h : AddOk x y) :
    Calls Tryz.prog 93 #[x.v, y.v, .func (.func 94) #[] #[]] w fun r w' => r = .returned (.tuple #[(dadd x y).v, .bool true]) ∧ Below w.heap.size w w' := by
  obtain ⟨D, hD⟩ : ∃ D, D = dadd x y := ⟨_, rfl⟩
  rw [← hD]
  unfold dadd at hD
  have xe60 := h.okx.exp
  have ye60 := h.oky.exp
  have hux := h.ux; have huy := h.uy; have hs := h.s
  obtain ⟨E, hE⟩ : ∃ E, E = max x.exp y.exp := ⟨_, rfl⟩
  rw [← hE] at hD hux huy hs
  have hE60 : E ≤ 60 := by omega
  have HE : Hid ((E : Int) = max (x.exp : Int) (y.exp : Int)) := (show (E : Int) = max (x.exp : Int) (y.exp : Int) from by omega)
  have VX := Lib.hid (fun W => impl_IsValidDyadic_ok x W h.okx)
  have VY := Lib.hid (fun W => impl_IsValidDyadic_ok y W h.oky)
  have RX := Lib.hid (fun W => impl_raised_ok x E W xe60 hE60 hux)
  have RY := Lib.hid (fun W => impl_raised_ok y E W ye60 hE60 huy)
  have AD := Lib.hid (fun W => impl_AddRing_ok _ _ W (hux _ (Nat.le_refl _)) (huy _ (Nat.le_refl _)) hs)
  have CN := Lib.hid (fun W => impl_DyadicOf_ok _ E W hs hE60)
  rw [← hD] at CN
  clear hD hux huy hs h hE xe60 ye60
  generalize Rg4.add (rtN x.num (E - x.exp)) (rtN y.num (E - y.exp)) = s at *
  generalize rtN x.num (E - x.exp) = p at *
  generalize rtN y.num (E - y.exp) = q at *
  have S0 := Lib.hid ((((Sb.nil w).push x.cs 86 rfl).push y.cs 86 (g := w.heap.size + 1) (by simp)).push [.int .i64 0, .int .i64 0, .int .i64 0, .int .i64 0, .int .i64 0] 86 (g := w.heap.size + 1 + 1) (by simp))
  obtain ⟨sa, sb, sc, sd⟩ := s
  obtain ⟨pa, pb, pc, pd⟩ := p
  obtain ⟨qa, qb, qc, qd⟩ := q
  obtain ⟨⟨xa, xb, xc, xd⟩, xe⟩ := x
  obtain ⟨⟨ya, yb, yc, yd⟩, ye⟩ := y
  obtain ⟨⟨da, db, dc, dd⟩, de⟩ := D
  dsimp only [Dy.cs, Dy.v, Rg4.cs, Rg4.v] at S0 HE VX VY RX RY AD CN ⊢
  go_enter Tryz.func93, Tryz.ntmps93
  go_wp2_with fail
  generalize (((w.alloc (.cells #[.int .i64 xa, .int .i64 xb, .int .i64 xc, .int .i64 xd, .int .i64 (xe : Int)] 86)).alloc (.cells #[.int .i64 ya, .int .i64 yb, .int .i64 yc, .int .i64 yd, .int .i64 (ye : Int)] 86)).alloc (.cells #[.int .i64 0, .int .i64 0, .int .i64 0, .int .i64 0, .int .i64 0] 86)) = w1 at *
  refine (VX.out _).mono ?_; rintro e2 w2 ⟨rfl, hb2⟩
  have S2 := Lib.hid (S0.out.call hb2)
  obtain ⟨⟨a0, a1, a2, a3, a4⟩, _⟩ := (S2.out.at 1 rfl).c5
  clear hb2 S0 VX
  go_wp2_with fail
  clear a0 a1 a2 a3 a4
  refine (VY.out _).mono ?_; rintro e2 w3 ⟨rfl, hb3⟩
  have S3 := Lib.hid (S2.out.call hb3)
  obtain ⟨⟨a0, a1, a2, a3, a4⟩, _⟩ := (S3.out.at 1 rfl).c5
  obtain ⟨⟨b0, b1, b2, b3, b4⟩, _⟩ := (S3.out.at 2 rfl).c5
  clear hb3 S2 VY
  have hmx := run_max2 xe ye w3
  rw [← HE.out] at hmx
  go_wp2_with fail
  clear a0 a1 a2 a3 a4 b0 b1 b2 b3 b4 hmx
  refine (RX.out _).mono ?_; rintro e2 w4 ⟨rfl, hb4⟩
  obtain ⟨g4, hg4⟩ : ∃ g, w4.heap.size = g := ⟨_, rfl⟩
  have S4 := Lib.hid (show Sb w.heap.size w (w4.alloc (.cells #[.int .i64 pa, .int .i64 pb, .int .i64 pc, .int .i64 pd] 84)) _ from (S3.out.call hb4).push [.int .i64 pa, .int .i64 pb, .int .i64 pc, .int .i64 pd] 84 hg4)
  clear hb4 S3 RX
  obtain ⟨⟨a0, a1, a2, a3, a4⟩, _⟩ := (S4.out.at 2 rfl).c5
  go_wp2_with fail
  clear a0 a1 a2 a3 a4
  generalize (w4.alloc (.cells #[.int .i64 pa, .int .i64 pb, .int .i64 pc, .int .i64 pd] 84)) = w5 at *
  clear hg4
  refine (RY.out _).mono ?_; rintro e2 w6 ⟨rfl, hb6⟩
  obtain ⟨g6, hg6⟩ : ∃ g, w6.heap.size = g := ⟨_, rfl⟩
  have S6 := Lib.hid (show Sb w.heap.size w (w6.alloc (.cells #[.int .i64 qa, .int .i64 qb, .int .i64 qc, .int .i64 qd] 84)) _ from (S4.out.call hb6).push [.int .i64 qa, .int .i64 qb, .int .i64 qc, .int .i64 qd] 84 hg6)
  clear hb6 S4 RY
  obtain ⟨⟨a0, a1, a2, a3⟩, _⟩ := (S6.out.at 0 rfl).c4
  obtain ⟨⟨b0, b1, b2, b3⟩, _⟩ := (S6.out.at 1 rfl).c4
  go_wp2_with fail
  clear a0 a1 a2 a3 b0 b1 b2 b3
  generalize (w6.alloc (.cells #[.int .i64 qa, .int .i64 qb, .int .i64 qc, .int .i64 qd] 84)) = w7 at *
  clear hg6
  refine (AD.out _).mono ?_; rintro e2 w8 ⟨rfl, hb8⟩
  obtain ⟨g8, hg8⟩ : ∃ g, w8.heap.size = g := ⟨_, rfl⟩
  have S8 := Lib.hid (show Sb w.heap.size w (w8.alloc (.cells #[.int .i64 sa, .int .i64 sb, .int .i64 sc, .int .i64 sd] 84)) _ from (S6.out.call hb8).push [.int .i64 sa, .int .i64 sb, .int .i64 sc, .int .i64 sd] 84 hg8)
  clear hb8 S6 AD
  obtain ⟨⟨a0, a1, a2, a3⟩, _⟩ := (S8.out.at 0 rfl).c4
  go_wp2_with fail
  clear a0 a1 a2 a3
  generalize (w8.alloc (.cells #[.int .i64 sa, .int .i64 sb, .int .i64 sc, .int .i64 sd] 84)) = w9 at *
  clear hg8
  refine (CN.out _).mono ?_; rintro e2 w10 ⟨rfl, hb10⟩
  have S10 := Lib.hid (S8.out.call hb10).tail.tail.tail
  clear hb10 S8 CN
  obtain ⟨⟨a0, a1, a2, a3, a4⟩, f0, f1, f2, f3, f4⟩ := S10.out.head.c5
  have S9 := Lib.hid (((((S10.out.set0 0 (.int .i64 da)).set0 1 (.int .i64 db)).set0 2 (.int .i64 dc)).set0 3 (.int .i64 dd)).set0 4 (.int .i64 (de : Int)))
  clear S10
  go_wp2_with fail
  clear a0 a1 a2 a3 a4 f0 f1 f2 f3 f4
  generalize ((((w10.setCell ⟨w.heap.size + 1 + 1, 0, none⟩ (.int .i64 da)).setCell ⟨w.heap.size + 1 + 1, 1, none⟩ (.int .i64 db)).setCell ⟨w.heap.size + 1 + 1, 2, none⟩ (.int .i64 dc)).setCell ⟨w.heap.size + 1 + 1, 3, none⟩ (.int .i64 dd)).setCell ⟨w.heap.size + 1 + 1, 4, none⟩ (.int .i64 (de : Int)) = w11 at *
  obtain ⟨⟨c0, c1, c2, c3, c4⟩, _⟩ := S9.out.head.c5
  refine bodyPost_ret (v := .tuple #[.agg #[.int .i64 da, .int .i64 db, .int .i64 dc, .int .i64 dd, .int .i64 (de : Int)], .bool true]) (by simp [results, Tryz.results93, go_sem, c0, c1, c2, c3, c4]) rfl ⟨rfl, S9.out.bel⟩
set_option maxHeartbeats 4000000 in
theorem impl_AddDyadic_ok (x y : Dy) (w : World) (h : AddOk x y) :
    Calls Tryz.prog 58 #[x.v, y.v] w fun r w' => r = .returned (.tuple #[(dadd x y).v, .bool true]) ∧ Below w.heap.size w w' := by
  have S0 := Lib.hid ((((Sb.nil w).push x.cs 86 rfl).push y.cs 86 (g := w.heap.size + 1) (by simp)).push [.int .i64 0, .int .i64 0, .int .i64 0, .int .i64 0, .int .i64 0] 86 (g := w.heap.size + 1 + 1) (by simp))
  have CN := Lib.hid (fun W => impl_combined_ok x y W h)
  clear h
  generalize dadd x y = D at *
  obtain ⟨⟨xa, xb, xc, xd⟩, xe⟩ := x
  obtain ⟨⟨ya, yb, yc, yd⟩, ye⟩ := y
  obtain ⟨⟨da, db, dc, dd⟩, de⟩ := D
  dsimp only [Dy.cs, Dy.v, Rg4.cs, Rg4.v] at S0 CN ⊢
  go_enter Tryz.func58, Tryz.ntmps58
  go_wp2_with fail
  generalize (((w.alloc (.cells #[.int .i64 xa, .int .i64 xb, .int .i64 xc, .int .i64 xd, .int .i64 (xe : Int)] 86)).alloc (.cells #[.int .i64 ya, .int .i64 yb, .int .i64 yc, .int .i64 yd, .int .i64 (ye : Int)] 86)).alloc (.cells #[.int .i64 0, .int .i64 0, .int .i64 0, .int .i64 0, .int .i64 0] 86)) = w1 at *
  refine (CN.out _).mono ?_; rintro e2 w10 ⟨rfl, hb10⟩
  have S10 := Lib.hid (S0.out.call hb10)
  clear hb10 S0 CN
  obtain ⟨⟨a0, a1, a2, a3, a4⟩, f0, f1, f2, f3, f4⟩ := S10.out.head.c5
  have S9 := Lib.hid (((((S10.out.set0 0 (.int .i64 da)).set0 1 (.int .i64 db)).set0 2 (.int .i64 dc)).set0 3 (.int .i64 dd)).set0 4 (.int .i64 (de : Int)))
  clear S10
  go_wp2_with fail
  clear a0 a1 a2 a3 a4 f0 f1 f2 f3 f4
  generalize ((((w10.setCell ⟨w.heap.size + 1 + 1, 0, none⟩ (.int .i64 da)).setCell ⟨w.heap.size + 1 + 1, 1, none⟩ (.int .i64 db)).setCell ⟨w.heap.size + 1 + 1, 2, none⟩ (.int .i64 dc)).setCell ⟨w.heap.size + 1 + 1, 3, none⟩ (.int .i64 dd)).setCell ⟨w.heap.size + 1 + 1, 4, none⟩ (.int .i64 (de : Int)) = w11 at *
  obtain ⟨⟨c0, c1, c2, c3, c4⟩, _⟩ := S9.out.head.c5
  refine bodyPost_ret (v := .tuple #[.agg #[.int .i64 da, .int .i64 db, .int .i64 dc, .int .i64 dd, .int .i64 (de : Int)], .bool true]) (by simp [results, Tryz.results58, go_sem, c0, c1, c2, c3, c4]) rfl ⟨rfl, S9.out.bel⟩
end Go.Proofs.YtnckabohlakbgaaGreat
namespace Go.Proofs.YtnckabohlakbgaaGreat
set_option linter.unusedSimpArgs false
set_option linter.unusedVariables false
set_option linter.unnecessarySimpa false
set_option maxRecDepth 200000
open Go.ChangeShapes Go.WideShapes Go.ChangeAt Go.RowKit

def omN (x : Rg4) : Nat → Rg4
  | 0 => x
  | k + 1 => (omN x k).om
theorem omN_le {x : Rg4} {M : Int} (h : x.le M) : ∀ k, (omN x k).le M
  | 0 => h
  | k + 1 => Rg4.om_le (omN_le h k)
set_option maxHeartbeats 4000000 in
theorem impl_MulOmega_ok (x : Rg4) (k : Nat) (w : World) (hx : x.le 1000000000) (hk : k ≤ 1000) :
    Calls Tryz.prog 85 #[x.v, .int .i64 (k : Int)] w fun r w' => r = .returned (.tuple #[(omN x (k % 8)).v, .bool true]) ∧ Below w.heap.size w w' := by
  have HW := Lib.hid (show inB (k : Int) (-1000) 1000 = true from by simp [inB]; omega)
  have HV := Lib.hid hx
  have S0 := Lib.hid (((Sb.nil w).push x.cs 84 rfl).push [.int .i64 0, .int .i64 0, .int .i64 0, .int .i64 0] 84 (g := w.heap.size + 1) (by simp))
  have h1 : Int.tmod (k : Int) 8 = ((k % 8 : Nat) : Int) := by
    rw [show (8 : Int) = ((8 : Nat) : Int) from rfl]; rfl
  have hm8 : k % 8 < 8 := Nat.mod_lt _ (by decide)
  have h2 : Int.tmod (((k % 8 : Nat) : Int) + 8) 8 = ((k % 8 : Nat) : Int) := by
    have e : (((k % 8 : Nat) : Int) + 8) = ((k % 8 + 8 : Nat) : Int) := by omega
    rw [e, show (8 : Int) = ((8 : Nat) : Int) from rfl]
    show ((((k % 8 + 8) % 8 : Nat)) : Int) = _
    omega
  have HL := Lib.hid (omN_le hx)
  obtain ⟨F, hF⟩ : ∃ F, F = omN x := ⟨_, rfl⟩
  have F0 := Lib.hid (show F 0 = x from by rw [hF]; rfl)
  have FS := Lib.hid (show ∀ k, F (k + 1) = (F k).om from fun k => by rw [hF]; rfl)
  rw [← hF] at HL ⊢
  clear hF hx
  generalize k % 8 = m at *
  have h3 : IntKind.i64.wrap ((m : Int) + 8) = (m : Int) + 8 := IntWalk.i64_in _ (by omega)
  obtain ⟨a, b, c, d⟩ := x
  dsimp only [Rg4.cs, Rg4.v] at S0 ⊢
  go_enter Tryz.func85, Tryz.ntmps85
  go_wp2_with fail
  generalize ((w.alloc (.cells #[.int .i64 a, .int .i64 b, .int .i64 c, .int .i64 d] 84)).alloc (.cells #[.int .i64 0, .int .i64 0, .int .i64 0, .int .i64 0] 84)) = w1 at *
  refine (within_is HW.out _).mono ?_; rintro e2 w3 ⟨rfl, rfl⟩
  obtain ⟨⟨a0, a1, a2, a3⟩, _⟩ := (S0.out.at 1 rfl).c4
  go_wp2_with fail
  refine (impl_IsValidRing_ok ⟨a, b, c, d⟩ _ HV.out).mono ?_; rintro e2 w2 ⟨rfl, hb2⟩
  have S2 := Lib.hid (S0.out.call hb2)
  clear hb2 S0 HW HV a0 a1 a2 a3
  go_wp2_with fail
  go_loopw [19] (fun i wr => ∃ (j : Nat), j ≤ m ∧ i = .int .i64 (j : Int) ∧ Hid (Sb w.heap.size w wr [(w.heap.size + 1, [.int .i64 0, .int .i64 0, .int .i64 0, .int .i64 0]), (w.heap.size, (F j).cs)])) (fun i _ => m - (intOf i).toNat)
  case atStart => exact ⟨0, Nat.zero_le _, rfl, by rw [F0.out]; exact S2⟩
  case round =>
    clear S2 h1 h2 h3
    obtain ⟨j, hj, rfl, hS⟩ := hrel
    by_cases hlt : j < m
    · have i1 : (j : Int) < (m : Int) := by omega
      have HF := Lib.hid (FS.out j)
      have hle := HL.out j
      generalize F j = y at *
      obtain ⟨ya, yb, yc, yd⟩ := y
      have HF2 := Lib.hid (show F (j + 1) = ⟨-yd, ya, yb, yc⟩ from HF.out)
      have hd := hle.2.2.2
      dsimp only at hd
      clear hle HF
      have e0 : IntKind.i64.wrap (-yd) = -yd := IntWalk.i64_in _ (by omega)
      obtain ⟨⟨b0, b1, b2, b3⟩, g0, g1, g2, g3⟩ := (hS.out.at 1 rfl).c4
      have S7 := Lib.hid ((((hS.out.set1 0 (.int .i64 (-yd))).set1 1 (.int .i64 ya)).set1 2 (.int .i64 yb)).set1 3 (.int .i64 yc))
      clear hS
      go_wp2_with fail
      go_roundw
      case rel => exact ⟨j + 1, by omega, by go_num, by rw [HF2.out]; exact S7⟩
      case measure => simp [intOf]; omega
    · have i1 : ¬ (j : Int) < (m : Int) := by omega
      obtain rfl : j = m := by omega
      obtain ⟨y, hy⟩ : ∃ y, y = F j := ⟨_, rfl⟩
      rw [← hy] at hS
      have HY := Lib.hid hy
      clear hy
      obtain ⟨ya, yb, yc, yd⟩ := y
      obtain ⟨⟨b0, b1, b2, b3⟩, g0, g1, g2, g3⟩ := (hS.out.at 1 rfl).c4
      obtain ⟨⟨c0, c1, c2, c3⟩, f0, f1, f2, f3⟩ := hS.out.head.c4
      have S9 := Lib.hid ((((hS.out.set0 0 (.int .i64 ya)).set0 1 (.int .i64 yb)).set0 2 (.int .i64 yc)).set0 3 (.int .i64 yd))
      clear hS
      go_wp2_with fail
      clear b0 b1 b2 b3 g0 g1 g2 g3 c0 c1 c2 c3 f0 f1 f2 f3
      generalize (((wr.setCell ⟨w.heap.size + 1, 0, none⟩ (.int .i64 ya)).setCell ⟨w.heap.size + 1, 1, none⟩ (.int .i64 yb)).setCell ⟨w.heap.size + 1, 2, none⟩ (.int .i64 yc)).setCell ⟨w.heap.size + 1, 3, none⟩ (.int .i64 yd) = w9 at *
      obtain ⟨⟨c0, c1, c2, c3⟩, _⟩ := S9.out.head.c4
      refine bodyPost_ret (v := .tuple #[.agg #[.int .i64 ya, .int .i64 yb, .int .i64 yc, .int .i64 yd], .bool true]) (by simp [results, Tryz.results85, go_sem, c0, c1, c2, c3]) rfl ⟨by rw [← HY.out], S9.out.bel⟩
/-- The number w^k. -/
def phs (k : Nat) : Dy := ⟨omN Rg4.one (k % 8), 0⟩
theorem one_le : Rg4.one.le 1 := by unfold Rg4.le Rg4.one; decide
set_option maxHeartbeats 4000000 in
theorem impl_phase_ok (k : Nat) (w : World) (hk : k ≤ 1000) :
    Calls Tryz.prog 50 #[.int .i64 (k : Int)] w fun r w' => r = .returned (phs k).v ∧ Below w.heap.size w w' := by
  have S0 := Lib.hid ((Sb.nil w).push [.int .i64 0, .int .i64 0, .int .i64 0, .int .i64 0, .int .i64 0] 86 rfl)
  have CM := Lib.hid (fun W => impl_MulOmega_ok Rg4.one k W (one_le.mono (by decide)) hk)
  unfold phs
  generalize omN Rg4.one (k % 8) = y at *
  obtain ⟨ya, yb, yc, yd⟩ := y
  dsimp only [Rg4.one, Rg4.v, Dy.v, Dy.cs] at CM ⊢
  go_enter Tryz.func50, Tryz.ntmps50
  go_wp2_with fail
  generalize (w.alloc (.cells #[.int .i64 0, .int .i64 0, .int .i64 0, .int .i64 0, .int .i64 0] 86)) = w1 at *
  refine (CM.out _).mono ?_; rintro e2 w2 ⟨rfl, hb2⟩
  obtain ⟨⟨a0, a1, a2, a3, a4⟩, f0, f1, f2, f3, f4⟩ := (S0.out.call hb2).head.c5
  have S2 := Lib.hid ((S0.out.call hb2).alloc (.cells #[.int .i64 ya, .int .i64 yb, .int .i64 yc, .int .i64 yd] 84))
  clear hb2 S0 CM a0 a1 a2 a3 a4 f0 f1 f2 f3 f4
  obtain ⟨⟨a0, a1, a2, a3, a4⟩, f0, f1, f2, f3, f4⟩ := S2.out.head.c5
  have S9 := Lib.hid (((((S2.out.set0 0 (.int .i64 ya)).set0 1 (.int .i64 yb)).set0 2 (.int .i64 yc)).set0 3 (.int .i64 yd)).set0 4 (.int .i64 0))
  clear S2
  go_wp2_with fail
  clear a0 a1 a2 a3 a4 f0 f1 f2 f3 f4
  generalize (((((w2.alloc (.cells #[.int .i64 ya, .int .i64 yb, .int .i64 yc, .int .i64 yd] 84)).setCell ⟨w.heap.size, 0, none⟩ (.int .i64 ya)).setCell ⟨w.heap.size, 1, none⟩ (.int .i64 yb)).setCell ⟨w.heap.size, 2, none⟩ (.int .i64 yc)).setCell ⟨w.heap.size, 3, none⟩ (.int .i64 yd)).setCell ⟨w.heap.size, 4, none⟩ (.int .i64 0) = w11 at *
  obtain ⟨⟨c0, c1, c2, c3, c4⟩, _⟩ := S9.out.head.c5
  refine bodyPost_ret (v := .agg #[.int .i64 ya, .int .i64 yb, .int .i64 yc, .int .i64 yd, .int .i64 0]) (by simp [results, Tryz.results50, go_sem, c0, c1, c2, c3, c4]) rfl ⟨rfl, S9.out.bel⟩
/-- A whole number. -/
def whl (n : Int) : Dy := ⟨⟨n, 0, 0, 0⟩, 0⟩
set_option maxHeartbeats 4000000 in
theorem impl_whole_ok (n : Int) (w : World) :
    Calls Tryz.prog 82 #[.int .i64 n] w fun r w' => r = .returned (whl n).v ∧ Below w.heap.size w w' := by
  go_enter Tryz.func82, Tryz.ntmps82
  go_wp2_with fail
  refine bodyPost_ret (v := .agg #[.int .i64 n, .int .i64 0, .int .i64 0, .int .i64 0, .int .i64 0]) (by simp [results, Tryz.results82, go_sem]) rfl ⟨rfl, belo⟩
theorem impl_small_ok (b : Bool) (w : World) :
    Calls Tryz.prog 89 #[.bool b] w fun r w' => r = .returned (.int .i64 (if b then 1 else 0)) ∧ Below w.heap.size w w' := by
  cases b
  all_goals
    go_enter Tryz.func89, Tryz.ntmps89
    go_wp2_with fail
    go_ret
    exact ⟨rfl, belo⟩
theorem impl_bitOf_ok (n s q : Nat) (w : World) (hn : n ≤ 60) (hs : s < 2 ^ 31) (hq : q < n) :
    Calls Tryz.prog 54 #[.int .i64 (n : Int), .int .i64 (s : Int), .int .i64 (q : Int)] w fun r w' => r = .returned (.int .i64 (qb n s q : Int)) ∧ w = w' := by
  obtain ⟨r, hr⟩ : ∃ r, r = n - 1 - q := ⟨_, rfl⟩
  have h1 : (n : Int) - 1 - (q : Int) = (r : Int) := by omega
  unfold qb
  rw [← hr]
  have hrl : r ≤ 60 := by omega
  clear hr
  have e0 : IntKind.i64.wrap ((n : Int) - 1) = (n : Int) - 1 := IntWalk.i64_in _ (by omega)
  have e1 : IntKind.i64.wrap (r : Int) = (r : Int) := IntWalk.i64_in _ (by omega)
  have b1 := bit_one s r (by omega)
  go_enter Tryz.func54, Tryz.ntmps54
  go_wp2_with fail
  go_ret
  exact ⟨rfl, rfl⟩
end Go.Proofs.YtnckabohlakbgaaGreat
