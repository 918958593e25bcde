/- The program's tests and lowest terms of the numbers num / sqrt(2)^exp. -/
import Derived.Test.YteimcfbliigjmaaZ24Dy3
import Derived.BigRegion
import Derived.BigQuiet
namespace Go.Proofs.Yteimcfbliigjmaa
set_option linter.unusedSimpArgs false
set_option linter.unusedVariables false
set_option linter.unnecessarySimpa false
set_option maxRecDepth 200000
open Go.ChangeShapes Go.WideShapes Go.ChangeAt Go.RowKit

abbrev Dy.cs (x : Dy) : List Value := [.int .i64 x.num.a, .int .i64 x.num.b, .int .i64 x.num.c, .int .i64 x.num.d, .int .i64 (x.exp : Int)]
abbrev Dy.v (x : Dy) : Value := .agg #[.int .i64 x.num.a, .int .i64 x.num.b, .int .i64 x.num.c, .int .i64 x.num.d, .int .i64 (x.exp : Int)]
theorem Dy.len (x : Dy) : x.cs.length = 5 := rfl
theorem Dy.ones (x : Dy) : ∀ u ∈ x.cs, u.oneCell' = true := by
  intro u hu
  simp only [Dy.cs, List.mem_cons, List.not_mem_nil, or_false] at hu
  rcases hu with rfl | rfl | rfl | rfl | rfl <;> rfl
/-- A valid number. -/
structure Dy.ok (x : Dy) : Prop where
  num : x.num.le 1000000000
  exp : x.exp ≤ 60
  low : x.low
set_option maxHeartbeats 4000000 in
theorem impl_IsValidDyadic_ok (x : Dy) (w : World) (h : x.ok) :
    Calls Try.prog 46 #[x.v] w fun e w' => e = .returned (.bool true) ∧ Below w.heap.size w w' := by
  obtain ⟨⟨a, b, c, d⟩, e⟩ := x
  have HN := Lib.hid h.num
  have he : e ≤ 60 := h.exp
  have HW := Lib.hid (show inB (e : Int) 0 60 = true from by simp [inB]; omega)
  have hl := h.low
  clear h
  have S0 := Lib.hid ((Sb.nil w).push (Dy.cs ⟨⟨a, b, c, d⟩, e⟩) 60 rfl)
  dsimp only [Dy.cs, Dy.v] at S0 ⊢
  by_cases h0 : e = 0
  · subst h0
    clear hl he
    go_enter Try.func46, Try.ntmps46
    go_wp2_with fail
    generalize (w.alloc (.cells #[.int .i64 a, .int .i64 b, .int .i64 c, .int .i64 d, .int .i64 0] 60)) = w1 at *
    refine (impl_IsValidRing_ok ⟨a, b, c, d⟩ _ HN.out).mono ?_; rintro e w2 ⟨rfl, hb2⟩
    have S2 := Lib.hid (S0.out.call hb2)
    obtain ⟨⟨c0, c1, c2, c3, c4⟩, _⟩ := S2.out.head.c5
    go_wp2_with fail
    refine (within_is HW.out _).mono ?_; rintro e w3 ⟨rfl, rfl⟩
    go_wp2_with fail
    go_ret
    exact ⟨rfl, S2.out.bel⟩
  · have HE := Lib.hid (show (⟨a, b, c, d⟩ : Rg4).evn = false from by rcases hl with hl | hl; exact absurd hl h0; exact hl)
    have he0 : ((e : Int) == 0) = false := by simp; omega
    clear hl h0
    go_enter Try.func46, Try.ntmps46
    go_wp2_with fail
    generalize (w.alloc (.cells #[.int .i64 a, .int .i64 b, .int .i64 c, .int .i64 d, .int .i64 (e : Int)] 60)) = w1 at *
    refine (impl_IsValidRing_ok ⟨a, b, c, d⟩ _ HN.out).mono ?_; rintro e2 w2 ⟨rfl, hb2⟩
    have S2 := Lib.hid (S0.out.call hb2)
    clear hb2
    obtain ⟨⟨c0, c1, c2, c3, c4⟩, _⟩ := S2.out.head.c5
    go_wp2_with fail
    refine (within_is HW.out _).mono ?_; rintro e2 w3 ⟨rfl, rfl⟩
    go_wp2_with fail
    refine (impl_isEven_any ⟨a, b, c, d⟩ _ HN.out).mono ?_; rintro e2 w4 ⟨rfl, hb4⟩
    rw [HE.out]
    have S4 := Lib.hid (S2.out.call hb4)
    clear hb4
    go_wp2_with fail
    go_ret
    exact ⟨rfl, S4.out.bel⟩
set_option maxHeartbeats 4000000 in
theorem impl_DyadicOf_ok (x : Rg4) (e : Nat) (w : World) (hx : x.le 1000000000) (he : e ≤ 60) :
    Calls Try.prog 47 #[x.v, .int .i64 (e : Int)] w fun r w' => r = .returned (.tuple #[(nrm x e).v, .bool true]) ∧ Below w.heap.size w w' := by
  have HX := Lib.hid hx
  have HW := Lib.hid (show inB (e : Int) 0 60 = true from by simp [inB]; omega)
  have S0 := Lib.hid (((Sb.nil w).push x.cs 58 rfl).push [.int .i64 0, .int .i64 0, .int .i64 0, .int .i64 0, .int .i64 0] 60 (g := w.heap.size + 1) (by simp))
  have HM : Hid (nrm x e = nrm x e) := (show nrm x e = nrm x e from rfl)
  obtain ⟨R, hR⟩ : ∃ R, R = nrm x e := ⟨_, rfl⟩
  rw [← hR]
  have HR0 := Lib.hid hR
  have HXL := Lib.hid hx
  clear hx HM hR
  obtain ⟨a, b, c, d⟩ := x
  dsimp only [Rg4.cs, Rg4.v] at S0 ⊢
  go_enter Try.func47, Try.ntmps47
  go_wp2_with fail
  generalize ((w.alloc (.cells #[.int .i64 a, .int .i64 b, .int .i64 c, .int .i64 d] 58)).alloc (.cells #[.int .i64 0, .int .i64 0, .int .i64 0, .int .i64 0, .int .i64 0] 60)) = w1 at *
  refine (impl_IsValidRing_ok ⟨a, b, c, d⟩ _ HX.out).mono ?_; rintro e2 w2 ⟨rfl, hb2⟩
  have S2 := Lib.hid (S0.out.call hb2)
  clear hb2 S0
  go_wp2_with fail
  refine (within_is HW.out _).mono ?_; rintro e2 w3 ⟨rfl, rfl⟩
  go_wp2_with fail
  go_loopw [1] (fun i wr => ∃ (k : Nat) (y : Rg4), k ≤ e ∧ i = .int .i64 k ∧ Hid (y.le 1000000000) ∧ Hid (R = nrm y k) ∧ Hid (Sb w.heap.size w wr [(w.heap.size + 1, [.int .i64 0, .int .i64 0, .int .i64 0, .int .i64 0, .int .i64 0]), (w.heap.size, y.cs)])) (fun i _ => (intOf i).toNat)
  case atStart => exact ⟨e, ⟨a, b, c, d⟩, Nat.le_refl _, rfl, HXL, HR0, S2⟩
  case round =>
    clear S2 HXL HR0 HX HW
    obtain ⟨k, ⟨ya, yb, yc, yd⟩, hk, rfl, hle, hR, hS⟩ := hrel
    obtain ⟨⟨b0, b1, b2, b3⟩, g0, g1, g2, g3⟩ := (hS.out.at 1 rfl).c4
    obtain ⟨⟨c0, c1, c2, c3, c4⟩, f0, f1, f2, f3, f4⟩ := hS.out.head.c5
    by_cases h0 : k = 0
    · subst h0
      have HR := Lib.hid (show R = ⟨⟨ya, yb, yc, yd⟩, 0⟩ from hR.out)
      have S9 := Lib.hid (((((hS.out.set0 0 (.int .i64 ya)).set0 1 (.int .i64 yb)).set0 2 (.int .i64 yc)).set0 3 (.int .i64 yd)).set0 4 (.int .i64 0))
      clear hS hR
      go_wp2_with fail
      clear b0 b1 b2 b3 g0 g1 g2 g3 c0 c1 c2 c3 c4 f0 f1 f2 f3 f4
      generalize ((((wr.setCell ⟨w.heap.size + 1, 0, none⟩ (.int .i64 ya)).setCell ⟨w.heap.size + 1, 1, none⟩ (.int .i64 yb)).setCell ⟨w.heap.size + 1, 2, none⟩ (.int .i64 yc)).setCell ⟨w.heap.size + 1, 3, none⟩ (.int .i64 yd)).setCell ⟨w.heap.size + 1, 4, none⟩ (.int .i64 0) = w9 at *
      obtain ⟨⟨c0, c1, c2, c3, c4⟩, _⟩ := S9.out.head.c5
      refine bodyPost_ret (v := .tuple #[.agg #[.int .i64 ya, .int .i64 yb, .int .i64 yc, .int .i64 yd, .int .i64 0], .bool true]) (by simp [results, Try.results47, go_sem, c0, c1, c2, c3, c4]) rfl ⟨?_, S9.out.bel⟩
      rw [HR.out]; rfl
    · have k1 : 0 < k := by omega
      cases hev : (⟨ya, yb, yc, yd⟩ : Rg4).evn with
      | false =>
        have HEV := Lib.hid hev
        have HR := Lib.hid (show R = ⟨⟨ya, yb, yc, yd⟩, k⟩ from by
          rw [hR.out]
          obtain ⟨j, rfl⟩ : ∃ j, k = j + 1 := ⟨k - 1, by omega⟩
          simp only [nrm, hev]; rfl)
        clear hev hR c0 c1 c2 c3 c4 f0 f1 f2 f3 f4 g0 g1 g2 g3
        go_wp2_with fail
        refine (impl_isEven_any ⟨ya, yb, yc, yd⟩ _ hle.out).mono ?_; rintro e2 w5 ⟨rfl, hb5⟩
        rw [HEV.out]
        have S5 := Lib.hid (hS.out.call hb5)
        clear hb5 hS b0 b1 b2 b3
        obtain ⟨⟨b0, b1, b2, b3⟩, g0, g1, g2, g3⟩ := (S5.out.at 1 rfl).c4
        obtain ⟨⟨c0, c1, c2, c3, c4⟩, f0, f1, f2, f3, f4⟩ := S5.out.head.c5
        have S9 := Lib.hid (((((S5.out.set0 0 (.int .i64 ya)).set0 1 (.int .i64 yb)).set0 2 (.int .i64 yc)).set0 3 (.int .i64 yd)).set0 4 (.int .i64 (k : Int)))
        clear S5
        go_wp2_with fail
        clear b0 b1 b2 b3 g0 g1 g2 g3 c0 c1 c2 c3 c4 f0 f1 f2 f3 f4
        generalize ((((w5.setCell ⟨w.heap.size + 1, 0, none⟩ (.int .i64 ya)).setCell ⟨w.heap.size + 1, 1, none⟩ (.int .i64 yb)).setCell ⟨w.heap.size + 1, 2, none⟩ (.int .i64 yc)).setCell ⟨w.heap.size + 1, 3, none⟩ (.int .i64 yd)).setCell ⟨w.heap.size + 1, 4, none⟩ (.int .i64 (k : Int)) = w9 at *
        obtain ⟨⟨c0, c1, c2, c3, c4⟩, _⟩ := S9.out.head.c5
        refine bodyPost_ret (v := .tuple #[.agg #[.int .i64 ya, .int .i64 yb, .int .i64 yc, .int .i64 yd, .int .i64 (k : Int)], .bool true]) (by simp [results, Try.results47, go_sem, c0, c1, c2, c3, c4]) rfl ⟨?_, S9.out.bel⟩
        rw [HR.out]
      | true =>
        have HEV := Lib.hid hev
        have HR := Lib.hid (show R = nrm (⟨ya, yb, yc, yd⟩ : Rg4).hf (k - 1) from by
          rw [hR.out]
          obtain ⟨j, rfl⟩ : ∃ j, k = j + 1 := ⟨k - 1, by omega⟩
          simp only [nrm, hev]; rfl)
        have HF := Lib.hid (Rg4.hf_le hle.out)
        have CD := Lib.hid (fun W => impl_DivRootTwo_ok ⟨ya, yb, yc, yd⟩ W hle.out hev)
        clear hev hR c0 c1 c2 c3 c4 f0 f1 f2 f3 f4 g0 g1 g2 g3
        generalize (⟨ya, yb, yc, yd⟩ : Rg4).hf = z at *
        obtain ⟨za, zb, zc, zd⟩ := z
        go_wp2_with fail
        refine (impl_isEven_any ⟨ya, yb, yc, yd⟩ _ hle.out).mono ?_; rintro e2 w5 ⟨rfl, hb5⟩
        rw [HEV.out]
        have S5 := Lib.hid (hS.out.call hb5)
        clear hb5 hS b0 b1 b2 b3
        obtain ⟨⟨b0, b1, b2, b3⟩, g0, g1, g2, g3⟩ := (S5.out.at 1 rfl).c4
        go_wp2_with fail
        refine (CD.out _).mono ?_; rintro e2 w6 ⟨rfl, hb6⟩
        have S6 := Lib.hid (S5.out.call hb6)
        clear hb6 S5 b0 b1 b2 b3 g0 g1 g2 g3
        obtain ⟨⟨b0, b1, b2, b3⟩, g0, g1, g2, g3⟩ := (S6.out.at 1 rfl).c4
        have S7 := Lib.hid ((((S6.out.set1 0 (.int .i64 za)).set1 1 (.int .i64 zb)).set1 2 (.int .i64 zc)).set1 3 (.int .i64 zd))
        clear S6
        go_wp2_with fail
        go_roundw
        case rel => exact ⟨k - 1, ⟨za, zb, zc, zd⟩, by omega, by congr 1; omega, HF, HR, S7⟩
        case measure => simp [intOf]; omega
end Go.Proofs.Yteimcfbliigjmaa
namespace Go.Proofs.Yteimcfbliigjmaa
set_option linter.unusedSimpArgs false
set_option linter.unusedVariables false
set_option linter.unnecessarySimpa false
set_option maxRecDepth 200000
open Go.ChangeShapes Go.WideShapes Go.ChangeAt Go.RowKit

set_option maxHeartbeats 4000000 in
theorem impl_raised_ok (x : Dy) (E : Nat) (w : World) (he : x.exp ≤ 60) (hE : E ≤ 60) (hM : ∀ k, k ≤ E - x.exp → (rtN x.num k).le 1000000000) :
    Calls Try.prog 62 #[x.v, .int .i64 (E : Int)] w fun r w' => r = .returned (.tuple #[(rtN x.num (E - x.exp)).v, .bool true]) ∧ Below w.heap.size w w' := by
  have S0 := Lib.hid ((((Sb.nil w).push x.cs 60 rfl).push [.int .i64 0, .int .i64 0, .int .i64 0, .int .i64 0] 58 (g := w.heap.size + 1) (by simp)).push x.num.cs 58 (g := w.heap.size + 2) (by simp))
  have HM := Lib.hid hM
  clear hM
  obtain ⟨⟨a, b, c, d⟩, e⟩ := x
  dsimp only [Dy.cs, Dy.v, Rg4.cs] at S0 HM he ⊢
  obtain ⟨F, hF⟩ : ∃ F, F = rtN ⟨a, b, c, d⟩ := ⟨_, rfl⟩
  have F0 : F 0 = ⟨a, b, c, d⟩ := by rw [hF]; rfl
  have FS := Lib.hid (show ∀ k, F (k + 1) = (F k).rt from fun k => by rw [hF]; rfl)
  rw [← hF] at HM ⊢
  have F00 := Lib.hid F0
  clear hF F0
  go_enter Try.func62, Try.ntmps62
  go_wp2_with fail
  go_loopw [7, 8] (fun o i wr => ∃ (j : Nat), j ≤ E - e ∧ o = .bool true ∧ i = .int .i64 ((e + j : Nat) : Int) ∧ Hid (Sb w.heap.size w wr [(w.heap.size + 2, (F j).cs), (w.heap.size + 1, [.int .i64 0, .int .i64 0, .int .i64 0, .int .i64 0]), (w.heap.size, [.int .i64 a, .int .i64 b, .int .i64 c, .int .i64 d, .int .i64 (e : Int)])])) (fun _ i _ => E - (intOf i).toNat)
  case atStart => exact ⟨0, Nat.zero_le _, rfl, rfl, by rw [F00.out]; exact S0⟩
  case round =>
    clear S0
    obtain ⟨j, hj, rfl, rfl, hS⟩ := hrel
    by_cases hlt : e + j < E
    · have i1 : (e : Int) + (j : Int) < (E : Int) := by omega
      have H1 := Lib.hid (HM.out j hj)
      have H2 := Lib.hid (show (F j).rt.le 1000000000 from by rw [← FS.out]; exact HM.out _ (by omega))
      have CD := Lib.hid (fun W => impl_MulRootTwo_ok (F j) W H1.out H2.out)
      have HF := FS.out j
      rw [← HF] at CD
      have HF2 := Lib.hid HF
      clear HF H1 H2
      obtain ⟨y, hy⟩ : ∃ y, y = F j := ⟨_, rfl⟩
      obtain ⟨z, hz⟩ : ∃ z, z = F (j + 1) := ⟨_, rfl⟩
      rw [← hy] at CD hS
      rw [← hz] at CD
      have HZ := Lib.hid hz
      clear hy hz HF2
      obtain ⟨ya, yb, yc, yd⟩ := y
      obtain ⟨za, zb, zc, zd⟩ := z
      obtain ⟨⟨b0, b1, b2, b3⟩, g0, g1, g2, g3⟩ := hS.out.head.c4
      go_wp2_with fail
      refine (CD.out _).mono ?_; rintro e2 w6 ⟨rfl, hb6⟩
      have S6 := Lib.hid (hS.out.call hb6)
      clear hb6 hS b0 b1 b2 b3 g0 g1 g2 g3 CD
      obtain ⟨⟨b0, b1, b2, b3⟩, g0, g1, g2, g3⟩ := S6.out.head.c4
      have S7 := Lib.hid ((((S6.out.set0 0 (.int .i64 za)).set0 1 (.int .i64 zb)).set0 2 (.int .i64 zc)).set0 3 (.int .i64 zd))
      clear S6
      go_wp2_with fail
      go_roundw
      case rel => exact ⟨j + 1, by omega, rfl, by congr 1, by rw [← HZ.out]; exact S7⟩
      case measure => simp [intOf]; omega
    · have hje : j = E - e := by omega
      have i1 : ¬ (e : Int) + (j : Int) < (E : Int) := by omega
      obtain ⟨y, hy⟩ : ∃ y, y = F j := ⟨_, rfl⟩
      rw [← hy] at hS
      rw [hje] at hy
      have HY := Lib.hid hy
      clear hy hje
      obtain ⟨ya, yb, yc, yd⟩ := y
      obtain ⟨⟨b0, b1, b2, b3⟩, g0, g1, g2, g3⟩ := hS.out.head.c4
      obtain ⟨⟨c0, c1, c2, c3⟩, f0, f1, f2, f3⟩ := (hS.out.at 1 rfl).c4
      have S9 := Lib.hid ((((hS.out.set1 0 (.int .i64 ya)).set1 1 (.int .i64 yb)).set1 2 (.int .i64 yc)).set1 3 (.int .i64 yd))
      clear hS
      go_wp2_with fail
      clear b0 b1 b2 b3 g0 g1 g2 g3 c0 c1 c2 c3 f0 f1 f2 f3
      generalize (((wr.setCell ⟨w.heap.size + 1, 0, none⟩ (.int .i64 ya)).setCell ⟨w.heap.size + 1, 1, none⟩ (.int .i64 yb)).setCell ⟨w.heap.size + 1, 2, none⟩ (.int .i64 yc)).setCell ⟨w.heap.size + 1, 3, none⟩ (.int .i64 yd) = w9 at *
      obtain ⟨⟨c0, c1, c2, c3⟩, _⟩ := (S9.out.at 1 rfl).c4
      refine bodyPost_ret (v := .tuple #[.agg #[.int .i64 ya, .int .i64 yb, .int .i64 yc, .int .i64 yd], .bool true]) (by simp [results, Try.results62, go_sem, c0, c1, c2, c3]) rfl ⟨by rw [← HY.out], S9.out.bel⟩
end Go.Proofs.Yteimcfbliigjmaa
namespace Go.Proofs.Yteimcfbliigjmaa
set_option linter.unusedSimpArgs false
set_option linter.unusedVariables false
set_option linter.unnecessarySimpa false
set_option maxRecDepth 200000
open Go.ChangeShapes Go.WideShapes Go.ChangeAt Go.RowKit

def dmul (x y : Dy) : Dy := nrm (x.num.mul y.num) (x.exp + y.exp)
def dadd (x y : Dy) : Dy := nrm ((rtN x.num (max x.exp y.exp - x.exp)).add (rtN y.num (max x.exp y.exp - y.exp))) (max x.exp y.exp)
set_option maxHeartbeats 4000000 in
theorem impl_MulDyadic_ok (x y : Dy) (A B : Int) (w : World) (hx : x.ok) (hy : y.ok) (h1 : x.num.le A) (h2 : y.num.le B) (hA : A ≤ 1000000000) (hB : B ≤ 1000000000) (hK : 4 * (A * B) ≤ 1000000000) (hE : x.exp + y.exp ≤ 60) :
    Calls Try.prog 28 #[x.v, y.v] w fun r w' => r = .returned (.tuple #[(dmul x y).v, .bool true]) ∧ Below w.heap.size w w' := by
  have CM := Lib.hid (fun W => impl_MulRing_ok x.num y.num W A B h1 h2 hA hB hK)
  have hml := (Rg4.mul_le h1 h2).mono hK
  have CN := Lib.hid (fun W => impl_DyadicOf_ok (x.num.mul y.num) (x.exp + y.exp) W hml hE)
  have VX := Lib.hid (fun W => impl_IsValidDyadic_ok x W hx)
  have VY := Lib.hid (fun W => impl_IsValidDyadic_ok y W hy)
  have S0 := Lib.hid ((((Sb.nil w).push x.cs 60 rfl).push y.cs 60 (g := w.heap.size + 1) (by simp)).push [.int .i64 0, .int .i64 0, .int .i64 0, .int .i64 0, .int .i64 0] 60 (g := w.heap.size + 1 + 1) (by simp))
  obtain ⟨D, hD⟩ : ∃ D, D = dmul x y := ⟨_, rfl⟩
  rw [← hD]
  rw [show nrm (x.num.mul y.num) (x.exp + y.exp) = D from hD.symm] at CN
  clear hD hml h1 h2 hA hB hK hx hy
  generalize x.num.mul y.num = m at *
  obtain ⟨ma, mb, mc, md⟩ := m
  obtain ⟨⟨xa, xb, xc, xd⟩, xe⟩ := x
  obtain ⟨⟨ya, yb, yc, yd⟩, ye⟩ := y
  obtain ⟨⟨da, db, dc, dd⟩, de⟩ := D
  dsimp only [Dy.cs, Dy.v, Rg4.cs, Rg4.v] at S0 hE CM CN VX VY ⊢
  have hes : ((xe + ye : Nat) : Int) = (xe : Int) + (ye : Int) := by omega
  rw [hes] at CN
  clear hes
  have e0 : IntKind.i64.wrap ((xe : Int) + (ye : Int)) = (xe : Int) + (ye : Int) := IntWalk.i64_in _ (by omega)
  go_enter Try.func28, Try.ntmps28
  go_wp2_with fail
  generalize (((w.alloc (.cells #[.int .i64 xa, .int .i64 xb, .int .i64 xc, .int .i64 xd, .int .i64 (xe : Int)] 60)).alloc (.cells #[.int .i64 ya, .int .i64 yb, .int .i64 yc, .int .i64 yd, .int .i64 (ye : Int)] 60)).alloc (.cells #[.int .i64 0, .int .i64 0, .int .i64 0, .int .i64 0, .int .i64 0] 60)) = w1 at *
  refine (CM.out _).mono ?_; rintro e2 w2 ⟨rfl, hb2⟩
  obtain ⟨g2, hg2⟩ : ∃ g, w2.heap.size = g := ⟨_, rfl⟩
  have S2 := Lib.hid (show Sb w.heap.size w (w2.alloc (.cells #[.int .i64 ma, .int .i64 mb, .int .i64 mc, .int .i64 md] 58)) _ from (S0.out.call hb2).push [.int .i64 ma, .int .i64 mb, .int .i64 mc, .int .i64 md] 58 hg2)
  obtain ⟨⟨a0, a1, a2, a3, a4⟩, _⟩ := (S2.out.at 3 rfl).c5
  clear hb2 S0 CM
  go_wp2_with fail
  clear a0 a1 a2 a3 a4
  generalize (w2.alloc (.cells #[.int .i64 ma, .int .i64 mb, .int .i64 mc, .int .i64 md] 58)) = w3 at *
  clear hg2
  refine (VX.out _).mono ?_; rintro e2 w4 ⟨rfl, hb4⟩
  have S4 := Lib.hid (S2.out.call hb4)
  clear hb4 S2
  obtain ⟨⟨b0, b1, b2, b3, b4⟩, _⟩ := (S4.out.at 2 rfl).c5
  go_wp2_with fail
  clear b0 b1 b2 b3 b4
  refine (VY.out _).mono ?_; rintro e2 w5 ⟨rfl, hb5⟩
  have S5 := Lib.hid (S4.out.call hb5)
  clear hb5 S4
  obtain ⟨⟨b0, b1, b2, b3, b4⟩, _⟩ := (S5.out.at 2 rfl).c5
  obtain ⟨⟨a0, a1, a2, a3, a4⟩, _⟩ := (S5.out.at 3 rfl).c5
  obtain ⟨⟨c0, c1, c2, c3⟩, _⟩ := (S5.out.at 0 rfl).c4
  go_wp2_with fail
  clear a0 a1 a2 a3 a4 b0 b1 b2 b3 b4 c0 c1 c2 c3
  refine (CN.out _).mono ?_; rintro e2 w6 ⟨rfl, hb6⟩
  have S6 := Lib.hid (S5.out.call hb6)
  clear hb6 S5
  obtain ⟨⟨a0, a1, a2, a3, a4⟩, f0, f1, f2, f3, f4⟩ := (S6.out.at 1 rfl).c5
  have S9 := Lib.hid (((((S6.out.set1 0 (.int .i64 da)).set1 1 (.int .i64 db)).set1 2 (.int .i64 dc)).set1 3 (.int .i64 dd)).set1 4 (.int .i64 (de : Int)))
  clear S6
  go_wp2_with fail
  clear a0 a1 a2 a3 a4 f0 f1 f2 f3 f4
  generalize ((((w6.setCell ⟨w.heap.size + 1 + 1, 0, none⟩ (.int .i64 da)).setCell ⟨w.heap.size + 1 + 1, 1, none⟩ (.int .i64 db)).setCell ⟨w.heap.size + 1 + 1, 2, none⟩ (.int .i64 dc)).setCell ⟨w.heap.size + 1 + 1, 3, none⟩ (.int .i64 dd)).setCell ⟨w.heap.size + 1 + 1, 4, none⟩ (.int .i64 (de : Int)) = w9 at *
  obtain ⟨⟨c0, c1, c2, c3, c4⟩, _⟩ := (S9.out.at 1 rfl).c5
  refine bodyPost_ret (v := .tuple #[.agg #[.int .i64 da, .int .i64 db, .int .i64 dc, .int .i64 dd, .int .i64 (de : Int)], .bool true]) (by simp [results, Try.results28, go_sem, c0, c1, c2, c3, c4]) rfl ⟨rfl, S9.out.bel⟩
end Go.Proofs.Yteimcfbliigjmaa
