/- A valid matrix. -/
import Derived.Test.YtnckabohlakbgaaGreatZ25M
import Derived.BigRegion
import Derived.BigQuiet
import Derived.Test.YtnckabohlakbgaaGreatZ13M
import Derived.Test.YtnckabohlakbgaaGreatZ06Brk
namespace Go.Proofs.YtnckabohlakbgaaGreat
set_option linter.unusedSimpArgs false
set_option linter.unusedVariables false
set_option linter.unnecessarySimpa false
set_option maxRecDepth 200000
open Go.ChangeShapes Go.WideShapes Go.ChangeAt Go.RowKit

theorem IsValidMatrix1_ok (xs : List Dy) (w : World) (h : ∀ x ∈ xs, x.ok) : PredB 92 #[] encDy (fun _ => false) xs w := by
  intro W x hx _
  have HX := Lib.hid (h x hx)
  have S0 := Lib.hid ((Sb.nil W).push x.cs 86 rfl)
  have CV := Lib.hid (fun W => impl_IsValidDyadic_ok x W (h x hx))
  clear h hx HX
  obtain ⟨⟨a, b, c, d⟩, e⟩ := x
  show Calls Tryz.prog 92 #[.agg #[.int .i64 a, .int .i64 b, .int .i64 c, .int .i64 d, .int .i64 (e : Int)]] W _
  dsimp only [Dy.cs, Dy.v] at S0 CV
  go_enter Tryz.func92, Tryz.ntmps92
  go_wp2_with fail
  generalize (W.alloc (.cells #[.int .i64 a, .int .i64 b, .int .i64 c, .int .i64 d, .int .i64 (e : Int)] 86)) = w1 at *
  refine (CV.out _).mono ?_; rintro e2 w2 ⟨rfl, hb2⟩
  have S2 := Lib.hid (S0.out.call hb2)
  clear hb2
  go_wp2_with fail
  go_ret
  exact ⟨rfl, S2.out.bel⟩
theorem Rd.kept {w w' : World} {n sz : Nat} {v : Value} {xs : List Value} {B : Nat} (h : Rd w v n sz xs) (hb : Below B w w') (hB : w.heap.size ≤ B) : Rd w' v n sz xs :=
  Rd.below h (hb.mono hB) rfl
set_option maxHeartbeats 8000000 in
theorem impl_IsValidMatrix_ok (r c : Nat) (v : Value) (xs : List Dy) (w : World) (hr : MDim r) (hc : MDim c) (hl : xs.length = r * c) (hv : RdE w v Dy.cs 5 xs) (h : ∀ x ∈ xs, x.ok) :
    Calls Tryz.prog 55 #[.agg #[.int .i64 (r : Int), .int .i64 (c : Int), v]] w fun e w' => e = .returned (.bool true) ∧ Below w.heap.size w w' := by
  have HR := Lib.hid hr
  have HC := Lib.hid hc
  have hr32 := hr.le.2
  have hc32 := hc.le.2
  have hm : r * c ≤ 32 * 32 := Nat.mul_le_mul hr32 hc32
  obtain ⟨a, cap, rfl⟩ := hv.form_any
  have S0 := Lib.hid ((Sb.nil w).push [.int .i64 (r : Int), .int .i64 (c : Int), .slice a xs.length cap] 47 rfl)
  have V0 := Lib.hid (RdE.below hv (show Below w.heap.size w (w.alloc (.cells #[.int .i64 (r : Int), .int .i64 (c : Int), .slice a xs.length cap] 47)) from belo) rfl)
  have hrc : ((xs.length : Nat) : Int) = (r : Int) * (c : Int) := by rw [hl]; simp
  have hw : IntKind.i64.wrap ((r : Int) * (c : Int)) = (xs.length : Int) := by rw [← hrc]; exact IntWalk.i64_in _ (by omega)
  have eg := enters_of Tryz.func92 (by kernel_rfl) rfl
  have CF := Lib.hid (fun W V => slices_ContainsFunc_Dyadic 92 #[] (fun _ => false) eg (.slice a xs.length cap) xs W V (IsValidMatrix1_ok xs W h))
  have ha : xs.any (fun _ => false) = false := by simp
  rw [ha] at CF
  clear hr hc hr32 hc32 hm hl hv hrc eg ha h
  go_enter Tryz.func55, Tryz.ntmps55
  go_wp2_with fail
  generalize (w.alloc (.cells #[.int .i64 (r : Int), .int .i64 (c : Int), .slice a xs.length cap] 47)) = w1 at *
  refine (impl_isDim_ok r _ HR.out).mono ?_; rintro e w2 ⟨rfl, rfl⟩
  obtain ⟨⟨a0, a1, a2⟩, -⟩ := S0.out.head.c3
  go_wp2_with fail
  refine (impl_isDim_ok c _ HC.out).mono ?_; rintro e w2 ⟨rfl, rfl⟩
  go_wp2_with fail
  refine (CF.out _ V0.out).mono ?_; rintro e w2 ⟨rfl, hb2⟩
  have S2 := Lib.hid (S0.out.call hb2)
  clear hb2 a0 a1 a2
  go_wp2_with fail
  go_ret
  exact ⟨rfl, S2.out.bel⟩
end Go.Proofs.YtnckabohlakbgaaGreat
namespace Go.Proofs.YtnckabohlakbgaaGreat
set_option linter.unusedSimpArgs false
set_option linter.unusedVariables false
set_option linter.unnecessarySimpa false
set_option maxRecDepth 200000
open Go.ChangeShapes Go.WideShapes Go.ChangeAt Go.RowKit

theorem ltr_le3 (a : PN) (q : Nat) : ltr a q ≤ 3 := by unfold ltr; have := bt_le a.x q; have := bt_le a.z q; omega
theorem cod_mul {x y : Nat} (hx : x ≤ 4) (hy : y ≤ 4) : dmul (cod x) (cod y) = cod (mulU x y) := by
  have h : ∀ x : Fin 5, ∀ y : Fin 5, dmul (cod x) (cod y) = cod (mulU x y) := by decide +kernel
  exact h ⟨x, by omega⟩ ⟨y, by omega⟩
theorem cod_small {x : Nat} (hx : x ≤ 4) : (cod x).exp = 0 ∧ (cod x).num.le 1 := by
  have h : ∀ x : Fin 5, (cod x).exp = 0 ∧ ((-1 ≤ (cod x).num.a ∧ (cod x).num.a ≤ 1) ∧ (-1 ≤ (cod x).num.b ∧ (cod x).num.b ≤ 1) ∧ (-1 ≤ (cod x).num.c ∧ (cod x).num.c ≤ 1) ∧ (-1 ≤ (cod x).num.d ∧ (cod x).num.d ≤ 1)) := by decide +kernel
  exact h ⟨x, by omega⟩
theorem cod_ok {x : Nat} (hx : x ≤ 4) : (cod x).ok := by
  obtain ⟨h1, h2⟩ := cod_small hx
  exact ⟨h2.mono (by decide), by omega, .inl h1⟩
theorem impl_mul_cod (x y : Nat) (w : World) (hx : x ≤ 4) (hy : y ≤ 4) :
    Calls Tryz.prog 51 #[(cod x).v, (cod y).v] w fun r w' => r = .returned (.tuple #[(cod (mulU x y)).v, .bool true]) ∧ Below w.heap.size w w' := by
  rw [← cod_mul hx hy]
  obtain ⟨h1, h2⟩ := cod_small hx
  obtain ⟨h3, h4⟩ := cod_small hy
  exact impl_MulDyadic_ok _ _ 1 1 w (cod_ok hx) (cod_ok hy) h2 h4 (by decide) (by decide) (by decide) (by omega)
/-- The state of the closure: its result's box, the product so far, what it has caught. -/
structure Pst (w0 w : World) (g8 bp bn n : Nat) (a : PN) (D : Dy) : Prop where
  bx : Sb w0.heap.size w0 w [(g8, D.cs), (w0.heap.size, [.int .i64 0, .int .i64 0, .int .i64 0, .int .i64 0, .int .i64 0])]
  pb : Bw w bp [.int .i64 (a.p : Int), .int .i64 (a.x : Int), .int .i64 (a.z : Int)]
  nb : Bw w bn [.int .i64 (n : Int)]
  lp : bp < w0.heap.size
  ln : bn < w0.heap.size
section
variable {w0 w w' : World} {g8 bp bn n : Nat} {a : PN} {D : Dy}
theorem Pst.call (h : Pst w0 w g8 bp bn n a D) (hb : Below w.heap.size w w') : Pst w0 w' g8 bp bn n a D := ⟨h.bx.call hb, h.pb.call hb, h.nb.call hb, h.lp, h.ln⟩
theorem Pst.drew (h : Pst w0 w g8 bp bn n a D) : Pst w0 w.drew g8 bp bn n a D := ⟨h.bx.drew, h.pb.drew, h.nb.drew, h.lp, h.ln⟩
theorem Pst.set (h : Pst w0 w g8 bp bn n a D) (E : Dy) : Pst w0 (((((w.setCell ⟨g8, 0, none⟩ (.int .i64 E.num.a)).setCell ⟨g8, 1, none⟩ (.int .i64 E.num.b)).setCell ⟨g8, 2, none⟩ (.int .i64 E.num.c)).setCell ⟨g8, 3, none⟩ (.int .i64 E.num.d)).setCell ⟨g8, 4, none⟩ (.int .i64 (E.exp : Int))) g8 bp bn n a E := by
  have hg := h.bx.ge (g8, D.cs) (by simp)
  dsimp only at hg
  have n1 : bp ≠ g8 := by have := h.lp; omega
  have n2 : bn ≠ g8 := by have := h.ln; omega
  exact ⟨((((h.bx.set0 0 _).set0 1 _).set0 2 _).set0 3 _).set0 4 _, ((((h.pb.other n1 _ _).other n1 _ _).other n1 _ _).other n1 _ _).other n1 _ _, ((((h.nb.other n2 _ _).other n2 _ _).other n2 _ _).other n2 _ _).other n2 _ _, h.lp, h.ln⟩
end
set_option maxHeartbeats 16000000 in
theorem impl_PauliCell_ok (n i j bp bn : Nat) (a : PN) (w : World) (hn1 : 1 ≤ n) (hn : n ≤ 5) (ha : PNok a) (hi : i < 32) (hj : j < 32)
    (hp : Bw w bp [.int .i64 (a.p : Int), .int .i64 (a.x : Int), .int .i64 (a.z : Int)]) (hq : Bw w bn [.int .i64 (n : Int)]) :
    Calls Tryz.prog 49 #[.int .i64 (i : Int), .int .i64 (j : Int), .pointer (some ⟨bp, 0, none⟩), .pointer (some ⟨bn, 0, none⟩)] w fun e w' =>
      e = .returned (.tuple #[(cod (cellU n a i j n)).v, .bool true]) ∧ Below w.heap.size w w' := by
  have HA := Lib.hid ha
  have hp3 := ha.p
  have HF := Lib.hid (show cellU n a i j 0 = a.p from rfl)
  have FS := Lib.hid (show ∀ k, cellU n a i j (k + 1) = mulU (cellU n a i j k) (facU (ltr a k) (qb n i k) (qb n j k)) from fun k => rfl)
  have FL := Lib.hid (cellU_le n a i j hp3)
  have hb0 : Below w.heap.size w (w.alloc (.cells #[.int .i64 0, .int .i64 0, .int .i64 0, .int .i64 0, .int .i64 0] 86)) := belo
  have S0 := Lib.hid ((Sb.nil w).push [.int .i64 0, .int .i64 0, .int .i64 0, .int .i64 0, .int .i64 0] 86 rfl)
  have P0 := Lib.hid (hp.call hb0)
  have N0 := Lib.hid (hq.call hb0)
  have lp := hp.lt
  have ln := hq.lt
  obtain ⟨F, hFF⟩ : ∃ F, F = cellU n a i j := ⟨_, rfl⟩
  rw [← hFF] at HF FS FL ⊢
  clear hp hq hb0 hFF
  have e0 : IntKind.i64.wrap (2 * (a.p : Int)) = 2 * (a.p : Int) := IntWalk.i64_in _ (by omega)
  obtain ⟨⟨a0, a1, a2⟩, -⟩ := P0.out.c3
  go_enter Tryz.func49, Tryz.ntmps49
  go_wp2_with fail
  clear a0 a1 a2 e0
  generalize (w.alloc (.cells #[.int .i64 0, .int .i64 0, .int .i64 0, .int .i64 0, .int .i64 0] 86)) = w1 at *
  have CP := Lib.hid (fun W => impl_phase_ok (2 * a.p) W (by omega))
  rw [show phs (2 * a.p) = cod (F 0) from by rw [HF.out]; unfold cod; rw [if_neg (by omega)], show ((2 * a.p : Nat) : Int) = 2 * (a.p : Int) from by omega] at CP
  refine (CP.out _).mono ?_; rintro e w2 ⟨rfl, hb2⟩
  obtain ⟨g8, hg8⟩ : ∃ g, w2.heap.size = g := ⟨_, rfl⟩
  clear CP
  obtain ⟨D, hD⟩ : ∃ D, D = cod (F 0) := ⟨_, rfl⟩
  rw [← hD]
  have X0 := Lib.hid (show Pst w (w2.alloc (.cells D.cs.toArray 86)) g8 bp bn n a D from ⟨(S0.out.call hb2).push D.cs 86 hg8, ((P0.out.call hb2).alloc _), ((N0.out.call hb2).alloc _), lp, ln⟩)
  rw [hD] at X0
  obtain ⟨⟨da, db, dc, dd⟩, de⟩ := D
  have HD := Lib.hid hD
  clear hb2 S0 P0 N0 hD
  dsimp only [Dy.v]
  have hX : Pst w (w2.alloc (.cells #[.int .i64 da, .int .i64 db, .int .i64 dc, .int .i64 dd, .int .i64 (de : Int)] 86)) g8 bp bn n a (cod (F 0)) := by
    have := X0.out
    rw [← HD.out] at this
    rw [← HD.out]
    exact this
  have X := Lib.hid hX
  have n0 := hX.nb.cs 0 _ rfl
  clear X0 HD hX
  go_wp2_with fail
  clear n0
  generalize (w2.alloc (.cells #[.int .i64 da, .int .i64 db, .int .i64 dc, .int .i64 dd, .int .i64 (de : Int)] 86)) = w3 at *
  clear hg8
  go_loopw [15] (fun o wr => ∃ k : Nat, k ≤ n ∧ o = .int .i64 (k : Int) ∧ Hid (Pst w wr g8 bp bn n a (cod (F k)))) (fun o _ => n - (intOf o).toNat)
  case atStart => exact ⟨0, Nat.zero_le _, rfl, X⟩
  case round =>
    clear X
    obtain ⟨k, hk, rfl, hX⟩ := hrel
    by_cases hlt : k < n
    · have i1 : (k : Int) < (n : Int) := by omega
      have FK := Lib.hid (FS.out k)
      have l1 := FL.out k
      have l2 := facU_le (ltr a k) (qb n i k) (qb n j k) (qb_le _ _ _) (qb_le _ _ _)
      have CL := Lib.hid (fun W => impl_letterOf_any a k W HA.out (by omega))
      have C1 := Lib.hid (fun W => impl_bitOf_ok n i k W (by omega) (by omega) hlt)
      have C2 := Lib.hid (fun W => impl_bitOf_ok n j k W (by omega) (by omega) hlt)
      have CF := Lib.hid (fun W => impl_factor_ok (ltr a k) (qb n i k) (qb n j k) W (ltr_le3 a k) (qb_le _ _ _) (qb_le _ _ _))
      have CM := Lib.hid (fun W => impl_mul_cod (F k) _ W l1 l2)
      rw [← FK.out] at CM
      have X := Lib.hid hX.out.drew
      clear hX l1 l2 FK
      obtain ⟨E, hE⟩ : ∃ E, E = cod (F (k + 1)) := ⟨_, rfl⟩
      rw [← hE] at CM
      have HE := Lib.hid hE
      clear hE
      generalize cod (facU (ltr a k) (qb n i k) (qb n j k)) = G at *
      generalize cod (F k) = D at *
      obtain ⟨⟨da, db, dc, dd⟩, de⟩ := D
      obtain ⟨⟨ga, gb, gc, gd⟩, ge⟩ := G
      obtain ⟨⟨ea, eb, ec, ed⟩, ee⟩ := E
      dsimp only [Dy.v] at CF CM
      generalize letB (ltr a k) = lb at *
      generalize qb n i k = qi at *
      generalize qb n j k = qj at *
      obtain ⟨⟨o0, o1, o2, o3, o4⟩, -⟩ := (X.out.bx.at 0 rfl).c5
      obtain ⟨⟨a0, a1, a2⟩, -⟩ := X.out.pb.c3
      have n0 := X.out.nb.cs 0 _ rfl
      go_wp2_with fail
      refine AnyB.begin (S := (fun w' => w'.cell? ⟨g8, 0, none⟩ = some (.int .i64 da) ∧ w'.cell? ⟨g8, 1, none⟩ = some (.int .i64 db) ∧ w'.cell? ⟨g8, 2, none⟩ = some (.int .i64 dc) ∧ w'.cell? ⟨g8, 3, none⟩ = some (.int .i64 dd) ∧ w'.cell? ⟨g8, 4, none⟩ = some (.int .i64 (de : Int)) ∧ w'.cell? ⟨bp, 0, none⟩ = some (.int .i64 (a.p : Int)) ∧ w'.cell? ⟨bp, 1, none⟩ = some (.int .i64 (a.x : Int)) ∧ w'.cell? ⟨bp, 2, none⟩ = some (.int .i64 (a.z : Int)) ∧ w'.cell? ⟨bn, 0, none⟩ = some (.int .i64 (n : Int)))) [17] (by kernel_rfl) ?_ (fun hHeld0 => ?_)
      · ((try dsimp only); (exact ⟨o0, o1, o2, o3, o4, a0, a1, a2, n0⟩))
      refine AnyB.tk (i := 0) (h := ?_)
      refine AnyB.tk (i := 1) (h := ?_)
      refine AnyB.tq (i := 2) (h := ?_)
      refine AnyB.tk (i := 4) (h := ?_)
      refine AnyB.tq (i := 5) (h := ?_)
      refine AnyB.tq (i := 6) (h := ?_)
      refine AnyB.tk (i := 8) (h := ?_)
      refine AnyB.tq (i := 9) (h := ?_)
      refine AnyB.tq (i := 10) (h := ?_)
      refine AnyB.each (rs := [3]) (by kernel_rfl) (by simp) ?_
      refine EachB.cons rfl (fun K hK hB => ?_) ?_
      · skip
        (go_simp; go_at_call 53; refine (CL.out _).mono ?_; rintro e xL ⟨rfl, hxL⟩; replace X := Lib.hid (X.out.call hxL); clear hxL o0 o1 o2 o3 o4 a0 a1 a2 n0; obtain ⟨⟨o0, o1, o2, o3, o4⟩, -⟩ := (X.out.bx.at 0 rfl).c5; obtain ⟨⟨a0, a1, a2⟩, -⟩ := X.out.pb.c3; have n0 := X.out.nb.cs 0 _ rfl; dsimp only)
        refine hK.out _ _ ?_ (fun hHeld1 => ?_)
        · ((try dsimp only); (exact ⟨o0, o1, o2, o3, o4, a0, a1, a2, n0⟩))
        clear hB hK K hHeld0
        refine AnyB.each (rs := [7]) (by kernel_rfl) (by simp) ?_
        refine EachB.cons rfl (fun K hK hB => ?_) ?_
        · skip
          (go_simp; go_at_call 54; refine (C1.out _).mono ?_; rintro e xB ⟨rfl, rfl⟩; dsimp only)
          refine hK.out _ _ ?_ (fun hHeld2 => ?_)
          · ((try dsimp only); (exact ⟨o0, o1, o2, o3, o4, a0, a1, a2, n0⟩))
          clear hB hK K hHeld1
          refine AnyB.each (rs := [11]) (by kernel_rfl) (by simp) ?_
          refine EachB.cons rfl (fun K hK hB => ?_) ?_
          · skip
            (go_simp; go_at_call 54; refine (C2.out _).mono ?_; rintro e xC ⟨rfl, rfl⟩; dsimp only)
            refine hK.out _ _ ?_ (fun hHeld3 => ?_)
            · ((try dsimp only); (exact ⟨o0, o1, o2, o3, o4, a0, a1, a2, n0⟩))
            clear hB hK K hHeld2
            refine AnyB.each (rs := [12]) (by kernel_rfl) (by simp) ?_
            refine EachB.cons rfl (fun K hK hB => ?_) ?_
            · skip
              (go_simp; go_at_call 52; refine (CF.out _).mono ?_; rintro e xF ⟨rfl, hxF⟩; replace X := Lib.hid (X.out.call hxF); clear hxF o0 o1 o2 o3 o4 a0 a1 a2 n0; obtain ⟨⟨o0, o1, o2, o3, o4⟩, -⟩ := (X.out.bx.at 0 rfl).c5; obtain ⟨⟨a0, a1, a2⟩, -⟩ := X.out.pb.c3; have n0 := X.out.nb.cs 0 _ rfl; dsimp only)
              refine hK.out _ _ ?_ (fun hHeld4 => ?_)
              · ((try dsimp only); (exact ⟨o0, o1, o2, o3, o4, a0, a1, a2, n0⟩))
              clear hB hK K hHeld3
              refine AnyB.each (rs := [13]) (by kernel_rfl) (by simp) ?_
              refine EachB.cons rfl (fun K hK hB => ?_) ?_
              · skip
                (go_simp; go_at_call 51; refine (CM.out _).mono ?_; rintro e xM ⟨rfl, hxM⟩; replace X := Lib.hid (X.out.call hxM); clear hxM o0 o1 o2 o3 o4 a0 a1 a2 n0; obtain ⟨⟨o0, o1, o2, o3, o4⟩, f0, f1, f2, f3, f4⟩ := (X.out.bx.at 0 rfl).c5; obtain ⟨⟨a0, a1, a2⟩, -⟩ := X.out.pb.c3; have n0 := X.out.nb.cs 0 _ rfl; dsimp only)
                refine hK.out _ _ ?_ (fun hHeld5 => ?_)
                · ((try dsimp only); (exact ⟨o0, o1, o2, o3, o4, a0, a1, a2, n0⟩))
                clear hB hK K hHeld4
                refine AnyB.tq (i := 14) (h := ?_)
                refine AnyB.tq (i := 15) (h := ?_)
                refine AnyB.tq (i := 16) (h := ?_)
                refine AnyB.each (rs := [17]) (by kernel_rfl) (by simp) ?_
                refine EachB.cons rfl (fun K hK hB => ?_) ?_
                · skip
                  go_simp
                  refine hB.out _ _ rfl ?_
                  clear hB hK K
                  refine AnyB.none (by kernel_rfl) ?_ _
                  have X9 := Lib.hid (X.out.set ⟨⟨ea, eb, ec, ed⟩, ee⟩)
                  clear X CL C1 C2 CF CM
                  go_wp2_with fail
                  go_roundw
                  case rel => exact ⟨k + 1, by omega, by go_num, by rw [← HE.out]; exact X9⟩
                  case measure => simp [intOf]; omega
                exact EachB.nil
              exact EachB.nil
            exact EachB.nil
          exact EachB.nil
        exact EachB.nil
      exact EachB.nil
    · have i1 : ¬ (k : Int) < (n : Int) := by omega
      obtain rfl : k = n := by omega
      obtain ⟨D, hD⟩ : ∃ D, D = cod (F k) := ⟨_, rfl⟩
      have S9 := hX.out.bx
      rw [← hD] at S9
      have HD := Lib.hid hD
      clear hX hD
      obtain ⟨⟨da, db, dc, dd⟩, de⟩ := D
      have hS := Lib.hid S9
      clear S9
      obtain ⟨⟨b0, b1, b2, b3, b4⟩, g0, g1, g2, g3, g4⟩ := hS.out.head.c5
      obtain ⟨⟨c0, c1, c2, c3, c4⟩, f0, f1, f2, f3, f4⟩ := (hS.out.at 1 rfl).c5
      have S9 := Lib.hid (((((hS.out.set1 0 (.int .i64 da)).set1 1 (.int .i64 db)).set1 2 (.int .i64 dc)).set1 3 (.int .i64 dd)).set1 4 (.int .i64 (de : Int)))
      clear hS
      go_wp2_with fail
      clear b0 b1 b2 b3 b4 g0 g1 g2 g3 g4 c0 c1 c2 c3 c4 f0 f1 f2 f3 f4
      generalize ((((wr.setCell ⟨w.heap.size, 0, none⟩ (.int .i64 da)).setCell ⟨w.heap.size, 1, none⟩ (.int .i64 db)).setCell ⟨w.heap.size, 2, none⟩ (.int .i64 dc)).setCell ⟨w.heap.size, 3, none⟩ (.int .i64 dd)).setCell ⟨w.heap.size, 4, none⟩ (.int .i64 (de : Int)) = w9 at *
      obtain ⟨⟨c0, c1, c2, c3, c4⟩, -⟩ := (S9.out.at 1 rfl).c5
      refine bodyPost_ret (v := .tuple #[.agg #[.int .i64 da, .int .i64 db, .int .i64 dc, .int .i64 dd, .int .i64 (de : Int)], .bool true]) (by simp [results, Tryz.results49, go_sem, c0, c1, c2, c3, c4]) rfl ⟨by rw [← HD.out], S9.out.bel⟩
end Go.Proofs.YtnckabohlakbgaaGreat
