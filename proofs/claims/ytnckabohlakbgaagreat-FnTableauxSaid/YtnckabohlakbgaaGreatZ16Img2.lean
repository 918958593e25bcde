/- The image of an operator under a tableau, in the reference. -/
import Derived.Test.YtnckabohlakbgaaGreatZ15Img1
import Derived.Test.YtnckabohlakbgaaGreatZ06Brk
namespace Go.Proofs.YtnckabohlakbgaaGreat
set_option linter.unusedSimpArgs false
set_option linter.unusedVariables false
set_option linter.unnecessarySimpa false
set_option maxRecDepth 200000
open Go.ChangeShapes Go.WideShapes Go.ChangeAt Go.RowKit

theorem cell_set3 {w : World} {b : Nat} {u0 u1 u2 : Value} (c0 : w.cell? ⟨b, 0, none⟩ = some u0) (c1 : w.cell? ⟨b, 1, none⟩ = some u1) (c2 : w.cell? ⟨b, 2, none⟩ = some u2) (v : Value) :
    (w.setCell ⟨b, 0, none⟩ v).cell? ⟨b, 0, none⟩ = some v ∧ (w.setCell ⟨b, 0, none⟩ v).cell? ⟨b, 1, none⟩ = some u1 ∧ (w.setCell ⟨b, 0, none⟩ v).cell? ⟨b, 2, none⟩ = some u2 :=
  ⟨World.cell?_setCell_same _ _ _ c0, cell_set_other c1, cell_set_other c2⟩
set_option maxHeartbeats 8000000 in
theorem spec_l7Image_any (n : Nat) (X Z : List PN) (p : PN) (v0 v1 : Value) (w : World) (hn : n ≤ 5) (hX : X.length = n) (hZ : Z.length = n) (okX : PLok X) (okZ : PLok Z) (okp : PNok p) (h0 : RdE w v0 E3.cs 3 (pes X)) (h1 : RdE w v1 E3.cs 3 (pes Z)) :
    Calls Tryz.prog 36 #[.agg #[.int .i64 (n : Int), v0, v1], .agg #[.int .i64 ((p).p : Int), .int .i64 ((p).x : Int), .int .i64 ((p).z : Int)]] w fun e w' => e = .returned (.agg #[.int .i64 ((imgS X Z p n).p : Int), .int .i64 ((imgS X Z p n).x : Int), .int .i64 ((imgS X Z p n).z : Int)]) ∧ Below w.heap.size w w' := by
  obtain ⟨A, cA, rfl, HA⟩ := pes_at h0
  obtain ⟨A2, cB, rfl, HB⟩ := pes_at h1
  rw [hX] at HA ⊢; rw [hZ] at HB ⊢
  have OX := Lib.hid okX; have OZ := Lib.hid okZ; have OP := Lib.hid okp
  clear h0 h1 hX hZ okX okZ
  obtain ⟨hp, hx, hz⟩ := okp
  have H0 : Hid (imgS X Z p 0 = ⟨p.p, 0, 0⟩) := rfl
  go_enter Tryz.func36, Tryz.ntmps36
  go_wp2_with fail
  skip
  obtain ⟨W0, hW0⟩ : ∃ W0, W0 = (((w.alloc (.cells #[.int .i64 (n : Int), .slice A n cA, .slice A2 n cB] 29)).alloc (.cells #[.int .i64 ((p).p : Int), .int .i64 ((p).x : Int), .int .i64 ((p).z : Int)] 33)).alloc (.cells #[.int .i64 0, .int .i64 0, .int .i64 0] 33)) := ⟨_, rfl⟩
  have BW := Lib.hid (show Below w.heap.size w W0 from by rw [hW0]; exact belo)
  have T0 := Lib.hid (show W0.cell? ⟨w.heap.size, 0, none⟩ = some (.int .i64 (n : Int)) from by rw [hW0]; exact cela)
  have P0 := Lib.hid (show W0.cell? ⟨w.heap.size + 1, 0, none⟩ = some (.int .i64 (p.p : Int)) from by rw [hW0]; exact cela)
  have T1 := Lib.hid (show W0.cell? ⟨w.heap.size, 1, none⟩ = some (.slice A n cA) from by rw [hW0]; exact cela)
  have T2 := Lib.hid (show W0.cell? ⟨w.heap.size, 2, none⟩ = some (.slice A2 n cB) from by rw [hW0]; exact cela)
  have P1 := Lib.hid (show W0.cell? ⟨w.heap.size + 1, 1, none⟩ = some (.int .i64 (p.x : Int)) from by rw [hW0]; exact cela)
  have P2 := Lib.hid (show W0.cell? ⟨w.heap.size + 1, 2, none⟩ = some (.int .i64 (p.z : Int)) from by rw [hW0]; exact cela)
  have R0 := Lib.hid (show W0.cell? ⟨w.heap.size + 1 + 1, 0, none⟩ = some (.int .i64 0) from by rw [hW0]; exact cela)
  have R1 := Lib.hid (show W0.cell? ⟨w.heap.size + 1 + 1, 1, none⟩ = some (.int .i64 0) from by rw [hW0]; exact cela)
  have R2 := Lib.hid (show W0.cell? ⟨w.heap.size + 1 + 1, 2, none⟩ = some (.int .i64 0) from by rw [hW0]; exact cela)
  have F0 := Lib.hid (show W0.frozen? ⟨w.heap.size + 1 + 1, 0, none⟩ = false from by rw [hW0]; exact froza)
  have F1 := Lib.hid (show W0.frozen? ⟨w.heap.size + 1 + 1, 1, none⟩ = false from by rw [hW0]; exact froza)
  have F2 := Lib.hid (show W0.frozen? ⟨w.heap.size + 1 + 1, 2, none⟩ = false from by rw [hW0]; exact froza)
  have HW0 := Lib.hid hW0; clear hW0
  go_loopw [6] (fun i wr => ∃ k : Nat, k ≤ n ∧ i = .int .i64 k ∧ wr.cell? ⟨w.heap.size + 1 + 1 + 1, 0, none⟩ = some (.int .i64 ((imgS X Z p k).p : Int)) ∧ wr.cell? ⟨w.heap.size + 1 + 1 + 1, 1, none⟩ = some (.int .i64 ((imgS X Z p k).x : Int)) ∧ wr.cell? ⟨w.heap.size + 1 + 1 + 1, 2, none⟩ = some (.int .i64 ((imgS X Z p k).z : Int)) ∧ wr.frozen? ⟨w.heap.size + 1 + 1 + 1, 0, none⟩ = false ∧ wr.frozen? ⟨w.heap.size + 1 + 1 + 1, 1, none⟩ = false ∧ wr.frozen? ⟨w.heap.size + 1 + 1 + 1, 2, none⟩ = false ∧ Hid (Below (w.heap.size + 3) W0 wr) ∧ w.heap.size + 4 ≤ wr.heap.size) (fun i _ => n - (intOf i).toNat)
  case atStart => exact ⟨0, by omega, rfl, (by rw [H0.out]; exact cela), (by rw [H0.out]; exact cela), (by rw [H0.out]; exact cela), froza, froza, froza, (show Below _ _ _ from by rw [HW0.out]; exact belo), by simp⟩
  case round =>
    obtain ⟨k, hk, rfl, c0, c1, c2, f0, f1, f2, hbel, hsz⟩ := hrel
    have OS := Lib.hid (imgS_ok (p := p) hp OX.out OZ.out k)
    by_cases hlt : k < n
    · skip
      have HS : Hid (imgS X Z p (k + 1) = (let s1 := if p.x.testBit k = true then mulN (imgS X Z p k) (X.getD k ⟨0, 0, 0⟩) else imgS X Z p k; let s2 := if p.z.testBit k = true then mulN s1 (Z.getD k ⟨0, 0, 0⟩) else s1; if p.x.testBit k = true ∧ p.z.testBit k = true then ⟨(s2.p + 1) % 4, s2.x, s2.z⟩ else s2)) := rfl
      have bw := Lib.hid (show Below w.heap.size w wr from Below.trans BW.out (hbel.out.mono (by omega)))
      have t0 := (hbel.out.cell (p := ⟨w.heap.size, 0, none⟩) (by simp)).trans T0.out; have p0 := (hbel.out.cell (p := ⟨w.heap.size + 1, 0, none⟩) (by simp)).trans P0.out; have t1 := (hbel.out.cell (p := ⟨w.heap.size, 1, none⟩) (by simp)).trans T1.out; have t2 := (hbel.out.cell (p := ⟨w.heap.size, 2, none⟩) (by simp)).trans T2.out; have p1 := (hbel.out.cell (p := ⟨w.heap.size + 1, 1, none⟩) (by simp)).trans P1.out; have p2 := (hbel.out.cell (p := ⟨w.heap.size + 1, 2, none⟩) (by simp)).trans P2.out
      obtain ⟨ga, offa, rfl, hga, a0, a1, a2⟩ := HA.out k hlt
      obtain ⟨gb, offb, rfl, hgb, b0, b1, b2⟩ := HB.out k hlt
      replace a0 := (bw.out.cell hga).trans a0
      replace a1 := (bw.out.cell hga).trans a1
      replace a2 := (bw.out.cell hga).trans a2
      replace b0 := (bw.out.cell hgb).trans b0
      replace b1 := (bw.out.cell hgb).trans b1
      replace b2 := (bw.out.cell hgb).trans b2
      have OA := Lib.hid (OX.out.get k); have OB := Lib.hid (OZ.out.get k)
      obtain ⟨s, hs⟩ : ∃ s, s = imgS X Z p k := ⟨_, rfl⟩
      obtain ⟨ea, hea⟩ : ∃ ea, ea = X.getD k ⟨0, 0, 0⟩ := ⟨_, rfl⟩
      obtain ⟨eb, heb⟩ : ∃ eb, eb = Z.getD k ⟨0, 0, 0⟩ := ⟨_, rfl⟩
      rw [← hs] at c0 c1 c2 OS HS; rw [← hea] at a0 a1 a2 OA HS; rw [← heb] at b0 b1 b2 OB HS
      have i1 : (k : Int) < (n : Int) := by omega
      have i2 : (0 : Int) ≤ (k : Int) := by omega
      have k5 : k ≤ 5 := by omega
      clear hs hea heb HA HB bw
      cases hbx : p.x.testBit k <;> cases hbz : p.z.testBit k
      · skip
        have HLT := Lib.hid (show ltr p k = 0 from by unfold ltr; rw [bt_bit hbx, bt_bit hbz]; rfl)
        rw [hbx, hbz] at HS; simp only [if_true, if_false, Bool.false_eq_true, and_self, and_true, true_and, false_and, and_false] at HS; clear hbx hbz
        have l1 : bits .and .i64 0 1 = 0 := by decide
        have l2 : bits .and .i64 0 2 = 0 := by decide
        go_wp2_with fail
        refine (spec_l7Letter_any p k _ OP.out (by omega)).mono ?_; rintro e xl ⟨rfl, hbl⟩; rw [HLT.out]; replace t0 := below_cell hbl rfl t0; replace t1 := below_cell hbl rfl t1; replace t2 := below_cell hbl rfl t2; replace p0 := below_cell hbl rfl p0; replace p1 := below_cell hbl rfl p1; replace p2 := below_cell hbl rfl p2; replace a0 := below_cell hbl rfl a0; replace a1 := below_cell hbl rfl a1; replace a2 := below_cell hbl rfl a2; replace b0 := below_cell hbl rfl b0; replace b1 := below_cell hbl rfl b1; replace b2 := below_cell hbl rfl b2; replace c0 := below_cell hbl rfl c0; replace c1 := below_cell hbl rfl c1; replace c2 := below_cell hbl rfl c2; replace f0 := below_frz hbl rfl (by omega) f0; replace f1 := below_frz hbl rfl (by omega) f1; replace f2 := below_frz hbl rfl (by omega) f2; replace hbel := Lib.hid (show Below (w.heap.size + 3) W0 xl from Below.trans hbel.out (hbl.mono (by omega))); have zl := hbl.size; replace hsz : w.heap.size + 4 ≤ xl.heap.size := (by omega); clear hbl zl
        go_wp2_with fail
        go_roundw
        case rel => exact ⟨k + 1, by omega, by go_num, (by rw [HS.out]; exact c0), (by rw [HS.out]; exact c1), (by rw [HS.out]; exact c2), f0, f1, f2, hbel, hsz⟩
        case measure => simp [intOf]; omega
      · skip
        have HLT := Lib.hid (show ltr p k = 2 from by unfold ltr; rw [bt_bit hbx, bt_bit hbz]; rfl)
        rw [hbx, hbz] at HS; simp only [if_true, if_false, Bool.false_eq_true, and_self, and_true, true_and, false_and, and_false] at HS; clear hbx hbz
        have l1 : bits .and .i64 2 1 = 0 := by decide
        have l2 : bits .and .i64 2 2 = 2 := by decide
        go_wp2_with fail
        refine (spec_l7Letter_any p k _ OP.out (by omega)).mono ?_; rintro e xl ⟨rfl, hbl⟩; rw [HLT.out]; replace t0 := below_cell hbl rfl t0; replace t1 := below_cell hbl rfl t1; replace t2 := below_cell hbl rfl t2; replace p0 := below_cell hbl rfl p0; replace p1 := below_cell hbl rfl p1; replace p2 := below_cell hbl rfl p2; replace a0 := below_cell hbl rfl a0; replace a1 := below_cell hbl rfl a1; replace a2 := below_cell hbl rfl a2; replace b0 := below_cell hbl rfl b0; replace b1 := below_cell hbl rfl b1; replace b2 := below_cell hbl rfl b2; replace c0 := below_cell hbl rfl c0; replace c1 := below_cell hbl rfl c1; replace c2 := below_cell hbl rfl c2; replace f0 := below_frz hbl rfl (by omega) f0; replace f1 := below_frz hbl rfl (by omega) f1; replace f2 := below_frz hbl rfl (by omega) f2; replace hbel := Lib.hid (show Below (w.heap.size + 3) W0 xl from Below.trans hbel.out (hbl.mono (by omega))); have zl := hbl.size; replace hsz : w.heap.size + 4 ≤ xl.heap.size := (by omega); clear hbl zl
        go_wp2_with fail
        refine AnyB.begin (S := (fun w' => w'.cell? ⟨w.heap.size, 2, none⟩ = some (.slice (some ⟨gb, offb, none⟩) n cB) ∧ w'.cell? ⟨gb, offb + k * 3, none⟩ = some (.int .i64 ((eb).p : Int)) ∧ w'.cell? ⟨gb, offb + k * 3 + 1, none⟩ = some (.int .i64 ((eb).x : Int)) ∧ w'.cell? ⟨gb, offb + k * 3 + 2, none⟩ = some (.int .i64 ((eb).z : Int)) ∧ w'.cell? ⟨w.heap.size + 1 + 1 + 1, 0, none⟩ = some (.int .i64 ((s).p : Int)) ∧ w'.cell? ⟨w.heap.size + 1 + 1 + 1, 1, none⟩ = some (.int .i64 ((s).x : Int)) ∧ w'.cell? ⟨w.heap.size + 1 + 1 + 1, 2, none⟩ = some (.int .i64 ((s).z : Int)))) [7] (by kernel_rfl) ?_ (fun hHeld0 => ?_)
        · ((try dsimp only); (first | exact ⟨t2, b0, b1, b2, c0, c1, c2⟩ | (go_split_ands; refine ⟨?_, ?_, ?_, ?_, ?_, ?_, ?_⟩ <;> (refine below_cell hb3 rfl ?_; assumption))))
        refine AnyB.tk (i := 0) (h := ?_)
        refine AnyB.tq (i := 1) (h := ?_)
        refine AnyB.tk (i := 2) (h := ?_)
        refine AnyB.tq (i := 3) (h := ?_)
        refine AnyB.tq (i := 4) (h := ?_)
        refine AnyB.tk (i := 5) (h := ?_)
        refine AnyB.each (rs := [6]) (by kernel_rfl) (by simp) ?_
        refine EachB.cons rfl (fun K hK hB => ?_) ?_
        · skip
          (go_simp; go_at_call 75; refine (spec_l7Mul_any (s) (eb) _ OS.out OB.out).mono ?_; rintro e x3 ⟨rfl, hb3⟩; have d0 := below_cell hb3 rfl (cell_drew c0); have d1 := below_cell hb3 rfl (cell_drew c1); have d2 := below_cell hb3 rfl (cell_drew c2); have f0 := below_frz hb3 rfl (World.block_lt_of_cell? _ _ c0) (frz_drew f0); have f1 := below_frz hb3 rfl (World.block_lt_of_cell? _ _ c0) (frz_drew f1); have f2 := below_frz hb3 rfl (World.block_lt_of_cell? _ _ c0) (frz_drew f2); dsimp only)
          refine hK.out _ _ ?_ (fun hHeld1 => ?_)
          · ((try dsimp only); (first | exact ⟨t2, b0, b1, b2, c0, c1, c2⟩ | (go_split_ands; refine ⟨?_, ?_, ?_, ?_, ?_, ?_, ?_⟩ <;> (refine below_cell hb3 rfl ?_; assumption))))
          clear hB hK K hHeld0
          refine AnyB.each (rs := [7]) (by kernel_rfl) (by simp) ?_
          refine EachB.cons rfl (fun K hK hB => ?_) ?_
          · skip
            go_simp
            refine hB.out _ _ rfl ?_
            clear hB hK K
            refine AnyB.none (by kernel_rfl) ?_ _
            obtain ⟨x0, x1, x2⟩ := box_set3 (.int .i64 ((mulN (s) eb).p : Int)) (.int .i64 ((mulN (s) eb).x : Int)) (.int .i64 ((mulN (s) eb).z : Int)) d0 d1 d2
            have y0 : (((x3.setCell ⟨w.heap.size + 1 + 1 + 1, 0, none⟩ (.int .i64 ((mulN (s) eb).p : Int))).setCell ⟨w.heap.size + 1 + 1 + 1, 1, none⟩ (.int .i64 ((mulN (s) eb).x : Int))).setCell ⟨w.heap.size + 1 + 1 + 1, 2, none⟩ (.int .i64 ((mulN (s) eb).z : Int))).frozen? ⟨w.heap.size + 1 + 1 + 1, 0, none⟩ = false := by rw [World.frozen?_setCell, World.frozen?_setCell, World.frozen?_setCell]; exact f0
            have y1 : (((x3.setCell ⟨w.heap.size + 1 + 1 + 1, 0, none⟩ (.int .i64 ((mulN (s) eb).p : Int))).setCell ⟨w.heap.size + 1 + 1 + 1, 1, none⟩ (.int .i64 ((mulN (s) eb).x : Int))).setCell ⟨w.heap.size + 1 + 1 + 1, 2, none⟩ (.int .i64 ((mulN (s) eb).z : Int))).frozen? ⟨w.heap.size + 1 + 1 + 1, 1, none⟩ = false := by rw [World.frozen?_setCell, World.frozen?_setCell, World.frozen?_setCell]; exact f1
            have y2 : (((x3.setCell ⟨w.heap.size + 1 + 1 + 1, 0, none⟩ (.int .i64 ((mulN (s) eb).p : Int))).setCell ⟨w.heap.size + 1 + 1 + 1, 1, none⟩ (.int .i64 ((mulN (s) eb).x : Int))).setCell ⟨w.heap.size + 1 + 1 + 1, 2, none⟩ (.int .i64 ((mulN (s) eb).z : Int))).frozen? ⟨w.heap.size + 1 + 1 + 1, 2, none⟩ = false := by rw [World.frozen?_setCell, World.frozen?_setCell, World.frozen?_setCell]; exact f2
            have hbel2 := Lib.hid (show Below (w.heap.size + 3) W0 (((x3.setCell ⟨w.heap.size + 1 + 1 + 1, 0, none⟩ (.int .i64 ((mulN (s) eb).p : Int))).setCell ⟨w.heap.size + 1 + 1 + 1, 1, none⟩ (.int .i64 ((mulN (s) eb).x : Int))).setCell ⟨w.heap.size + 1 + 1 + 1, 2, none⟩ (.int .i64 ((mulN (s) eb).z : Int))) from Below.setCell (Below.setCell (Below.setCell (Below.trans hbel.out (Below.trans (show Below (w.heap.size + 3) xl xl.drew from belo) (hb3.mono (by simp; omega)))) (by simp) _) (by simp) _) (by simp) _)
            have hsz2 : w.heap.size + 4 ≤ (((x3.setCell ⟨w.heap.size + 1 + 1 + 1, 0, none⟩ (.int .i64 ((mulN (s) eb).p : Int))).setCell ⟨w.heap.size + 1 + 1 + 1, 1, none⟩ (.int .i64 ((mulN (s) eb).x : Int))).setCell ⟨w.heap.size + 1 + 1 + 1, 2, none⟩ (.int .i64 ((mulN (s) eb).z : Int))).heap.size := by have := hb3.size; simp at this ⊢; omega
            replace t0 := cell_set_far (nb := w.heap.size + 1 + 1 + 1) (o2 := 2) (v := .int .i64 ((mulN (s) eb).z : Int)) (by omega) (cell_set_far (nb := w.heap.size + 1 + 1 + 1) (o2 := 1) (v := .int .i64 ((mulN (s) eb).x : Int)) (by omega) (cell_set_far (nb := w.heap.size + 1 + 1 + 1) (o2 := 0) (v := .int .i64 ((mulN (s) eb).p : Int)) (by omega) (below_cell hb3 rfl (cell_drew t0))))
            replace t1 := cell_set_far (nb := w.heap.size + 1 + 1 + 1) (o2 := 2) (v := .int .i64 ((mulN (s) eb).z : Int)) (by omega) (cell_set_far (nb := w.heap.size + 1 + 1 + 1) (o2 := 1) (v := .int .i64 ((mulN (s) eb).x : Int)) (by omega) (cell_set_far (nb := w.heap.size + 1 + 1 + 1) (o2 := 0) (v := .int .i64 ((mulN (s) eb).p : Int)) (by omega) (below_cell hb3 rfl (cell_drew t1))))
            replace t2 := cell_set_far (nb := w.heap.size + 1 + 1 + 1) (o2 := 2) (v := .int .i64 ((mulN (s) eb).z : Int)) (by omega) (cell_set_far (nb := w.heap.size + 1 + 1 + 1) (o2 := 1) (v := .int .i64 ((mulN (s) eb).x : Int)) (by omega) (cell_set_far (nb := w.heap.size + 1 + 1 + 1) (o2 := 0) (v := .int .i64 ((mulN (s) eb).p : Int)) (by omega) (below_cell hb3 rfl (cell_drew t2))))
            replace p0 := cell_set_far (nb := w.heap.size + 1 + 1 + 1) (o2 := 2) (v := .int .i64 ((mulN (s) eb).z : Int)) (by omega) (cell_set_far (nb := w.heap.size + 1 + 1 + 1) (o2 := 1) (v := .int .i64 ((mulN (s) eb).x : Int)) (by omega) (cell_set_far (nb := w.heap.size + 1 + 1 + 1) (o2 := 0) (v := .int .i64 ((mulN (s) eb).p : Int)) (by omega) (below_cell hb3 rfl (cell_drew p0))))
            replace p1 := cell_set_far (nb := w.heap.size + 1 + 1 + 1) (o2 := 2) (v := .int .i64 ((mulN (s) eb).z : Int)) (by omega) (cell_set_far (nb := w.heap.size + 1 + 1 + 1) (o2 := 1) (v := .int .i64 ((mulN (s) eb).x : Int)) (by omega) (cell_set_far (nb := w.heap.size + 1 + 1 + 1) (o2 := 0) (v := .int .i64 ((mulN (s) eb).p : Int)) (by omega) (below_cell hb3 rfl (cell_drew p1))))
            replace p2 := cell_set_far (nb := w.heap.size + 1 + 1 + 1) (o2 := 2) (v := .int .i64 ((mulN (s) eb).z : Int)) (by omega) (cell_set_far (nb := w.heap.size + 1 + 1 + 1) (o2 := 1) (v := .int .i64 ((mulN (s) eb).x : Int)) (by omega) (cell_set_far (nb := w.heap.size + 1 + 1 + 1) (o2 := 0) (v := .int .i64 ((mulN (s) eb).p : Int)) (by omega) (below_cell hb3 rfl (cell_drew p2))))
            replace a0 := cell_set_far (nb := w.heap.size + 1 + 1 + 1) (o2 := 2) (v := .int .i64 ((mulN (s) eb).z : Int)) (by omega) (cell_set_far (nb := w.heap.size + 1 + 1 + 1) (o2 := 1) (v := .int .i64 ((mulN (s) eb).x : Int)) (by omega) (cell_set_far (nb := w.heap.size + 1 + 1 + 1) (o2 := 0) (v := .int .i64 ((mulN (s) eb).p : Int)) (by omega) (below_cell hb3 rfl (cell_drew a0))))
            replace a1 := cell_set_far (nb := w.heap.size + 1 + 1 + 1) (o2 := 2) (v := .int .i64 ((mulN (s) eb).z : Int)) (by omega) (cell_set_far (nb := w.heap.size + 1 + 1 + 1) (o2 := 1) (v := .int .i64 ((mulN (s) eb).x : Int)) (by omega) (cell_set_far (nb := w.heap.size + 1 + 1 + 1) (o2 := 0) (v := .int .i64 ((mulN (s) eb).p : Int)) (by omega) (below_cell hb3 rfl (cell_drew a1))))
            replace a2 := cell_set_far (nb := w.heap.size + 1 + 1 + 1) (o2 := 2) (v := .int .i64 ((mulN (s) eb).z : Int)) (by omega) (cell_set_far (nb := w.heap.size + 1 + 1 + 1) (o2 := 1) (v := .int .i64 ((mulN (s) eb).x : Int)) (by omega) (cell_set_far (nb := w.heap.size + 1 + 1 + 1) (o2 := 0) (v := .int .i64 ((mulN (s) eb).p : Int)) (by omega) (below_cell hb3 rfl (cell_drew a2))))
            replace b0 := cell_set_far (nb := w.heap.size + 1 + 1 + 1) (o2 := 2) (v := .int .i64 ((mulN (s) eb).z : Int)) (by omega) (cell_set_far (nb := w.heap.size + 1 + 1 + 1) (o2 := 1) (v := .int .i64 ((mulN (s) eb).x : Int)) (by omega) (cell_set_far (nb := w.heap.size + 1 + 1 + 1) (o2 := 0) (v := .int .i64 ((mulN (s) eb).p : Int)) (by omega) (below_cell hb3 rfl (cell_drew b0))))
            replace b1 := cell_set_far (nb := w.heap.size + 1 + 1 + 1) (o2 := 2) (v := .int .i64 ((mulN (s) eb).z : Int)) (by omega) (cell_set_far (nb := w.heap.size + 1 + 1 + 1) (o2 := 1) (v := .int .i64 ((mulN (s) eb).x : Int)) (by omega) (cell_set_far (nb := w.heap.size + 1 + 1 + 1) (o2 := 0) (v := .int .i64 ((mulN (s) eb).p : Int)) (by omega) (below_cell hb3 rfl (cell_drew b1))))
            replace b2 := cell_set_far (nb := w.heap.size + 1 + 1 + 1) (o2 := 2) (v := .int .i64 ((mulN (s) eb).z : Int)) (by omega) (cell_set_far (nb := w.heap.size + 1 + 1 + 1) (o2 := 1) (v := .int .i64 ((mulN (s) eb).x : Int)) (by omega) (cell_set_far (nb := w.heap.size + 1 + 1 + 1) (o2 := 0) (v := .int .i64 ((mulN (s) eb).p : Int)) (by omega) (below_cell hb3 rfl (cell_drew b2))))
            have OS3 := Lib.hid (mulN_ok OS.out OB.out)
            clear c0 c1 c2 d0 d1 d2 f0 f1 f2 hbel hsz hb3
            obtain ⟨W3, hW3⟩ : ∃ W, W = (((x3.setCell ⟨w.heap.size + 1 + 1 + 1, 0, none⟩ (.int .i64 ((mulN (s) eb).p : Int))).setCell ⟨w.heap.size + 1 + 1 + 1, 1, none⟩ (.int .i64 ((mulN (s) eb).x : Int))).setCell ⟨w.heap.size + 1 + 1 + 1, 2, none⟩ (.int .i64 ((mulN (s) eb).z : Int))) := ⟨_, rfl⟩
            rw [← hW3] at x0 x1 x2 y0 y1 y2 hbel2 hsz2 t0 t1 t2 p0 p1 p2 a0 a1 a2 b0 b1 b2 ⊢
            have HW3 := Lib.hid hW3; clear hW3
            have c0 := x0; have c1 := x1; have c2 := x2; have f0 := y0; have f1 := y1; have f2 := y2; have hbel := hbel2; have hsz := hsz2; clear x0 x1 x2 y0 y1 y2 hbel2 hsz2
            go_wp2_with fail
            go_roundw
            case rel => exact ⟨k + 1, by omega, by go_num, (by rw [HS.out]; exact c0), (by rw [HS.out]; exact c1), (by rw [HS.out]; exact c2), f0, f1, f2, hbel, hsz⟩
            case measure => simp [intOf]; omega
          exact EachB.nil
        exact EachB.nil
      · skip
        have HLT := Lib.hid (show ltr p k = 1 from by unfold ltr; rw [bt_bit hbx, bt_bit hbz]; rfl)
        rw [hbx, hbz] at HS; simp only [if_true, if_false, Bool.false_eq_true, and_self, and_true, true_and, false_and, and_false] at HS; clear hbx hbz
        have l1 : bits .and .i64 1 1 = 1 := by decide
        have l2 : bits .and .i64 1 2 = 0 := by decide
        go_wp2_with fail
        refine (spec_l7Letter_any p k _ OP.out (by omega)).mono ?_; rintro e xl ⟨rfl, hbl⟩; rw [HLT.out]; replace t0 := below_cell hbl rfl t0; replace t1 := below_cell hbl rfl t1; replace t2 := below_cell hbl rfl t2; replace p0 := below_cell hbl rfl p0; replace p1 := below_cell hbl rfl p1; replace p2 := below_cell hbl rfl p2; replace a0 := below_cell hbl rfl a0; replace a1 := below_cell hbl rfl a1; replace a2 := below_cell hbl rfl a2; replace b0 := below_cell hbl rfl b0; replace b1 := below_cell hbl rfl b1; replace b2 := below_cell hbl rfl b2; replace c0 := below_cell hbl rfl c0; replace c1 := below_cell hbl rfl c1; replace c2 := below_cell hbl rfl c2; replace f0 := below_frz hbl rfl (by omega) f0; replace f1 := below_frz hbl rfl (by omega) f1; replace f2 := below_frz hbl rfl (by omega) f2; replace hbel := Lib.hid (show Below (w.heap.size + 3) W0 xl from Below.trans hbel.out (hbl.mono (by omega))); have zl := hbl.size; replace hsz : w.heap.size + 4 ≤ xl.heap.size := (by omega); clear hbl zl
        go_wp2_with fail
        refine AnyB.begin (S := (fun w' => w'.cell? ⟨w.heap.size, 1, none⟩ = some (.slice (some ⟨ga, offa, none⟩) n cA) ∧ w'.cell? ⟨ga, offa + k * 3, none⟩ = some (.int .i64 ((ea).p : Int)) ∧ w'.cell? ⟨ga, offa + k * 3 + 1, none⟩ = some (.int .i64 ((ea).x : Int)) ∧ w'.cell? ⟨ga, offa + k * 3 + 2, none⟩ = some (.int .i64 ((ea).z : Int)) ∧ w'.cell? ⟨w.heap.size + 1 + 1 + 1, 0, none⟩ = some (.int .i64 ((s).p : Int)) ∧ w'.cell? ⟨w.heap.size + 1 + 1 + 1, 1, none⟩ = some (.int .i64 ((s).x : Int)) ∧ w'.cell? ⟨w.heap.size + 1 + 1 + 1, 2, none⟩ = some (.int .i64 ((s).z : Int)))) [7] (by kernel_rfl) ?_ (fun hHeld0 => ?_)
        · ((try dsimp only); (first | exact ⟨t1, a0, a1, a2, c0, c1, c2⟩ | (go_split_ands; refine ⟨?_, ?_, ?_, ?_, ?_, ?_, ?_⟩ <;> (refine below_cell hb3 rfl ?_; assumption))))
        refine AnyB.tk (i := 0) (h := ?_)
        refine AnyB.tq (i := 1) (h := ?_)
        refine AnyB.tk (i := 2) (h := ?_)
        refine AnyB.tq (i := 3) (h := ?_)
        refine AnyB.tq (i := 4) (h := ?_)
        refine AnyB.tk (i := 5) (h := ?_)
        refine AnyB.each (rs := [6]) (by kernel_rfl) (by simp) ?_
        refine EachB.cons rfl (fun K hK hB => ?_) ?_
        · skip
          (go_simp; go_at_call 75; refine (spec_l7Mul_any (s) (ea) _ OS.out OA.out).mono ?_; rintro e x3 ⟨rfl, hb3⟩; have d0 := below_cell hb3 rfl (cell_drew c0); have d1 := below_cell hb3 rfl (cell_drew c1); have d2 := below_cell hb3 rfl (cell_drew c2); have f0 := below_frz hb3 rfl (World.block_lt_of_cell? _ _ c0) (frz_drew f0); have f1 := below_frz hb3 rfl (World.block_lt_of_cell? _ _ c0) (frz_drew f1); have f2 := below_frz hb3 rfl (World.block_lt_of_cell? _ _ c0) (frz_drew f2); dsimp only)
          refine hK.out _ _ ?_ (fun hHeld1 => ?_)
          · ((try dsimp only); (first | exact ⟨t1, a0, a1, a2, c0, c1, c2⟩ | (go_split_ands; refine ⟨?_, ?_, ?_, ?_, ?_, ?_, ?_⟩ <;> (refine below_cell hb3 rfl ?_; assumption))))
          clear hB hK K hHeld0
          refine AnyB.each (rs := [7]) (by kernel_rfl) (by simp) ?_
          refine EachB.cons rfl (fun K hK hB => ?_) ?_
          · skip
            go_simp
            refine hB.out _ _ rfl ?_
            clear hB hK K
            refine AnyB.none (by kernel_rfl) ?_ _
            obtain ⟨x0, x1, x2⟩ := box_set3 (.int .i64 ((mulN (s) ea).p : Int)) (.int .i64 ((mulN (s) ea).x : Int)) (.int .i64 ((mulN (s) ea).z : Int)) d0 d1 d2
            have y0 : (((x3.setCell ⟨w.heap.size + 1 + 1 + 1, 0, none⟩ (.int .i64 ((mulN (s) ea).p : Int))).setCell ⟨w.heap.size + 1 + 1 + 1, 1, none⟩ (.int .i64 ((mulN (s) ea).x : Int))).setCell ⟨w.heap.size + 1 + 1 + 1, 2, none⟩ (.int .i64 ((mulN (s) ea).z : Int))).frozen? ⟨w.heap.size + 1 + 1 + 1, 0, none⟩ = false := by rw [World.frozen?_setCell, World.frozen?_setCell, World.frozen?_setCell]; exact f0
            have y1 : (((x3.setCell ⟨w.heap.size + 1 + 1 + 1, 0, none⟩ (.int .i64 ((mulN (s) ea).p : Int))).setCell ⟨w.heap.size + 1 + 1 + 1, 1, none⟩ (.int .i64 ((mulN (s) ea).x : Int))).setCell ⟨w.heap.size + 1 + 1 + 1, 2, none⟩ (.int .i64 ((mulN (s) ea).z : Int))).frozen? ⟨w.heap.size + 1 + 1 + 1, 1, none⟩ = false := by rw [World.frozen?_setCell, World.frozen?_setCell, World.frozen?_setCell]; exact f1
            have y2 : (((x3.setCell ⟨w.heap.size + 1 + 1 + 1, 0, none⟩ (.int .i64 ((mulN (s) ea).p : Int))).setCell ⟨w.heap.size + 1 + 1 + 1, 1, none⟩ (.int .i64 ((mulN (s) ea).x : Int))).setCell ⟨w.heap.size + 1 + 1 + 1, 2, none⟩ (.int .i64 ((mulN (s) ea).z : Int))).frozen? ⟨w.heap.size + 1 + 1 + 1, 2, none⟩ = false := by rw [World.frozen?_setCell, World.frozen?_setCell, World.frozen?_setCell]; exact f2
            have hbel2 := Lib.hid (show Below (w.heap.size + 3) W0 (((x3.setCell ⟨w.heap.size + 1 + 1 + 1, 0, none⟩ (.int .i64 ((mulN (s) ea).p : Int))).setCell ⟨w.heap.size + 1 + 1 + 1, 1, none⟩ (.int .i64 ((mulN (s) ea).x : Int))).setCell ⟨w.heap.size + 1 + 1 + 1, 2, none⟩ (.int .i64 ((mulN (s) ea).z : Int))) from Below.setCell (Below.setCell (Below.setCell (Below.trans hbel.out (Below.trans (show Below (w.heap.size + 3) xl xl.drew from belo) (hb3.mono (by simp; omega)))) (by simp) _) (by simp) _) (by simp) _)
            have hsz2 : w.heap.size + 4 ≤ (((x3.setCell ⟨w.heap.size + 1 + 1 + 1, 0, none⟩ (.int .i64 ((mulN (s) ea).p : Int))).setCell ⟨w.heap.size + 1 + 1 + 1, 1, none⟩ (.int .i64 ((mulN (s) ea).x : Int))).setCell ⟨w.heap.size + 1 + 1 + 1, 2, none⟩ (.int .i64 ((mulN (s) ea).z : Int))).heap.size := by have := hb3.size; simp at this ⊢; omega
            replace t0 := cell_set_far (nb := w.heap.size + 1 + 1 + 1) (o2 := 2) (v := .int .i64 ((mulN (s) ea).z : Int)) (by omega) (cell_set_far (nb := w.heap.size + 1 + 1 + 1) (o2 := 1) (v := .int .i64 ((mulN (s) ea).x : Int)) (by omega) (cell_set_far (nb := w.heap.size + 1 + 1 + 1) (o2 := 0) (v := .int .i64 ((mulN (s) ea).p : Int)) (by omega) (below_cell hb3 rfl (cell_drew t0))))
            replace t1 := cell_set_far (nb := w.heap.size + 1 + 1 + 1) (o2 := 2) (v := .int .i64 ((mulN (s) ea).z : Int)) (by omega) (cell_set_far (nb := w.heap.size + 1 + 1 + 1) (o2 := 1) (v := .int .i64 ((mulN (s) ea).x : Int)) (by omega) (cell_set_far (nb := w.heap.size + 1 + 1 + 1) (o2 := 0) (v := .int .i64 ((mulN (s) ea).p : Int)) (by omega) (below_cell hb3 rfl (cell_drew t1))))
            replace t2 := cell_set_far (nb := w.heap.size + 1 + 1 + 1) (o2 := 2) (v := .int .i64 ((mulN (s) ea).z : Int)) (by omega) (cell_set_far (nb := w.heap.size + 1 + 1 + 1) (o2 := 1) (v := .int .i64 ((mulN (s) ea).x : Int)) (by omega) (cell_set_far (nb := w.heap.size + 1 + 1 + 1) (o2 := 0) (v := .int .i64 ((mulN (s) ea).p : Int)) (by omega) (below_cell hb3 rfl (cell_drew t2))))
            replace p0 := cell_set_far (nb := w.heap.size + 1 + 1 + 1) (o2 := 2) (v := .int .i64 ((mulN (s) ea).z : Int)) (by omega) (cell_set_far (nb := w.heap.size + 1 + 1 + 1) (o2 := 1) (v := .int .i64 ((mulN (s) ea).x : Int)) (by omega) (cell_set_far (nb := w.heap.size + 1 + 1 + 1) (o2 := 0) (v := .int .i64 ((mulN (s) ea).p : Int)) (by omega) (below_cell hb3 rfl (cell_drew p0))))
            replace p1 := cell_set_far (nb := w.heap.size + 1 + 1 + 1) (o2 := 2) (v := .int .i64 ((mulN (s) ea).z : Int)) (by omega) (cell_set_far (nb := w.heap.size + 1 + 1 + 1) (o2 := 1) (v := .int .i64 ((mulN (s) ea).x : Int)) (by omega) (cell_set_far (nb := w.heap.size + 1 + 1 + 1) (o2 := 0) (v := .int .i64 ((mulN (s) ea).p : Int)) (by omega) (below_cell hb3 rfl (cell_drew p1))))
            replace p2 := cell_set_far (nb := w.heap.size + 1 + 1 + 1) (o2 := 2) (v := .int .i64 ((mulN (s) ea).z : Int)) (by omega) (cell_set_far (nb := w.heap.size + 1 + 1 + 1) (o2 := 1) (v := .int .i64 ((mulN (s) ea).x : Int)) (by omega) (cell_set_far (nb := w.heap.size + 1 + 1 + 1) (o2 := 0) (v := .int .i64 ((mulN (s) ea).p : Int)) (by omega) (below_cell hb3 rfl (cell_drew p2))))
            replace a0 := cell_set_far (nb := w.heap.size + 1 + 1 + 1) (o2 := 2) (v := .int .i64 ((mulN (s) ea).z : Int)) (by omega) (cell_set_far (nb := w.heap.size + 1 + 1 + 1) (o2 := 1) (v := .int .i64 ((mulN (s) ea).x : Int)) (by omega) (cell_set_far (nb := w.heap.size + 1 + 1 + 1) (o2 := 0) (v := .int .i64 ((mulN (s) ea).p : Int)) (by omega) (below_cell hb3 rfl (cell_drew a0))))
            replace a1 := cell_set_far (nb := w.heap.size + 1 + 1 + 1) (o2 := 2) (v := .int .i64 ((mulN (s) ea).z : Int)) (by omega) (cell_set_far (nb := w.heap.size + 1 + 1 + 1) (o2 := 1) (v := .int .i64 ((mulN (s) ea).x : Int)) (by omega) (cell_set_far (nb := w.heap.size + 1 + 1 + 1) (o2 := 0) (v := .int .i64 ((mulN (s) ea).p : Int)) (by omega) (below_cell hb3 rfl (cell_drew a1))))
            replace a2 := cell_set_far (nb := w.heap.size + 1 + 1 + 1) (o2 := 2) (v := .int .i64 ((mulN (s) ea).z : Int)) (by omega) (cell_set_far (nb := w.heap.size + 1 + 1 + 1) (o2 := 1) (v := .int .i64 ((mulN (s) ea).x : Int)) (by omega) (cell_set_far (nb := w.heap.size + 1 + 1 + 1) (o2 := 0) (v := .int .i64 ((mulN (s) ea).p : Int)) (by omega) (below_cell hb3 rfl (cell_drew a2))))
            replace b0 := cell_set_far (nb := w.heap.size + 1 + 1 + 1) (o2 := 2) (v := .int .i64 ((mulN (s) ea).z : Int)) (by omega) (cell_set_far (nb := w.heap.size + 1 + 1 + 1) (o2 := 1) (v := .int .i64 ((mulN (s) ea).x : Int)) (by omega) (cell_set_far (nb := w.heap.size + 1 + 1 + 1) (o2 := 0) (v := .int .i64 ((mulN (s) ea).p : Int)) (by omega) (below_cell hb3 rfl (cell_drew b0))))
            replace b1 := cell_set_far (nb := w.heap.size + 1 + 1 + 1) (o2 := 2) (v := .int .i64 ((mulN (s) ea).z : Int)) (by omega) (cell_set_far (nb := w.heap.size + 1 + 1 + 1) (o2 := 1) (v := .int .i64 ((mulN (s) ea).x : Int)) (by omega) (cell_set_far (nb := w.heap.size + 1 + 1 + 1) (o2 := 0) (v := .int .i64 ((mulN (s) ea).p : Int)) (by omega) (below_cell hb3 rfl (cell_drew b1))))
            replace b2 := cell_set_far (nb := w.heap.size + 1 + 1 + 1) (o2 := 2) (v := .int .i64 ((mulN (s) ea).z : Int)) (by omega) (cell_set_far (nb := w.heap.size + 1 + 1 + 1) (o2 := 1) (v := .int .i64 ((mulN (s) ea).x : Int)) (by omega) (cell_set_far (nb := w.heap.size + 1 + 1 + 1) (o2 := 0) (v := .int .i64 ((mulN (s) ea).p : Int)) (by omega) (below_cell hb3 rfl (cell_drew b2))))
            have OS3 := Lib.hid (mulN_ok OS.out OA.out)
            clear c0 c1 c2 d0 d1 d2 f0 f1 f2 hbel hsz hb3
            obtain ⟨W3, hW3⟩ : ∃ W, W = (((x3.setCell ⟨w.heap.size + 1 + 1 + 1, 0, none⟩ (.int .i64 ((mulN (s) ea).p : Int))).setCell ⟨w.heap.size + 1 + 1 + 1, 1, none⟩ (.int .i64 ((mulN (s) ea).x : Int))).setCell ⟨w.heap.size + 1 + 1 + 1, 2, none⟩ (.int .i64 ((mulN (s) ea).z : Int))) := ⟨_, rfl⟩
            rw [← hW3] at x0 x1 x2 y0 y1 y2 hbel2 hsz2 t0 t1 t2 p0 p1 p2 a0 a1 a2 b0 b1 b2 ⊢
            have HW3 := Lib.hid hW3; clear hW3
            have c0 := x0; have c1 := x1; have c2 := x2; have f0 := y0; have f1 := y1; have f2 := y2; have hbel := hbel2; have hsz := hsz2; clear x0 x1 x2 y0 y1 y2 hbel2 hsz2
            go_wp2_with fail
            go_roundw
            case rel => exact ⟨k + 1, by omega, by go_num, (by rw [HS.out]; exact c0), (by rw [HS.out]; exact c1), (by rw [HS.out]; exact c2), f0, f1, f2, hbel, hsz⟩
            case measure => simp [intOf]; omega
          exact EachB.nil
        exact EachB.nil
      · skip
        have HLT := Lib.hid (show ltr p k = 3 from by unfold ltr; rw [bt_bit hbx, bt_bit hbz]; rfl)
        rw [hbx, hbz] at HS; simp only [if_true, if_false, Bool.false_eq_true, and_self, and_true, true_and, false_and, and_false] at HS; clear hbx hbz
        have l1 : bits .and .i64 3 1 = 1 := by decide
        have l2 : bits .and .i64 3 2 = 2 := by decide
        go_wp2_with fail
        refine (spec_l7Letter_any p k _ OP.out (by omega)).mono ?_; rintro e xl ⟨rfl, hbl⟩; rw [HLT.out]; replace t0 := below_cell hbl rfl t0; replace t1 := below_cell hbl rfl t1; replace t2 := below_cell hbl rfl t2; replace p0 := below_cell hbl rfl p0; replace p1 := below_cell hbl rfl p1; replace p2 := below_cell hbl rfl p2; replace a0 := below_cell hbl rfl a0; replace a1 := below_cell hbl rfl a1; replace a2 := below_cell hbl rfl a2; replace b0 := below_cell hbl rfl b0; replace b1 := below_cell hbl rfl b1; replace b2 := below_cell hbl rfl b2; replace c0 := below_cell hbl rfl c0; replace c1 := below_cell hbl rfl c1; replace c2 := below_cell hbl rfl c2; replace f0 := below_frz hbl rfl (by omega) f0; replace f1 := below_frz hbl rfl (by omega) f1; replace f2 := below_frz hbl rfl (by omega) f2; replace hbel := Lib.hid (show Below (w.heap.size + 3) W0 xl from Below.trans hbel.out (hbl.mono (by omega))); have zl := hbl.size; replace hsz : w.heap.size + 4 ≤ xl.heap.size := (by omega); clear hbl zl
        go_wp2_with fail
        refine AnyB.begin (S := (fun w' => w'.cell? ⟨w.heap.size, 1, none⟩ = some (.slice (some ⟨ga, offa, none⟩) n cA) ∧ w'.cell? ⟨ga, offa + k * 3, none⟩ = some (.int .i64 ((ea).p : Int)) ∧ w'.cell? ⟨ga, offa + k * 3 + 1, none⟩ = some (.int .i64 ((ea).x : Int)) ∧ w'.cell? ⟨ga, offa + k * 3 + 2, none⟩ = some (.int .i64 ((ea).z : Int)) ∧ w'.cell? ⟨w.heap.size + 1 + 1 + 1, 0, none⟩ = some (.int .i64 ((s).p : Int)) ∧ w'.cell? ⟨w.heap.size + 1 + 1 + 1, 1, none⟩ = some (.int .i64 ((s).x : Int)) ∧ w'.cell? ⟨w.heap.size + 1 + 1 + 1, 2, none⟩ = some (.int .i64 ((s).z : Int)))) [7] (by kernel_rfl) ?_ (fun hHeld0 => ?_)
        · ((try dsimp only); (first | exact ⟨t1, a0, a1, a2, c0, c1, c2⟩ | (go_split_ands; refine ⟨?_, ?_, ?_, ?_, ?_, ?_, ?_⟩ <;> (refine below_cell hb3 rfl ?_; assumption))))
        refine AnyB.tk (i := 0) (h := ?_)
        refine AnyB.tq (i := 1) (h := ?_)
        refine AnyB.tk (i := 2) (h := ?_)
        refine AnyB.tq (i := 3) (h := ?_)
        refine AnyB.tq (i := 4) (h := ?_)
        refine AnyB.tk (i := 5) (h := ?_)
        refine AnyB.each (rs := [6]) (by kernel_rfl) (by simp) ?_
        refine EachB.cons rfl (fun K hK hB => ?_) ?_
        · skip
          (go_simp; go_at_call 75; refine (spec_l7Mul_any (s) (ea) _ OS.out OA.out).mono ?_; rintro e x3 ⟨rfl, hb3⟩; have d0 := below_cell hb3 rfl (cell_drew c0); have d1 := below_cell hb3 rfl (cell_drew c1); have d2 := below_cell hb3 rfl (cell_drew c2); have f0 := below_frz hb3 rfl (World.block_lt_of_cell? _ _ c0) (frz_drew f0); have f1 := below_frz hb3 rfl (World.block_lt_of_cell? _ _ c0) (frz_drew f1); have f2 := below_frz hb3 rfl (World.block_lt_of_cell? _ _ c0) (frz_drew f2); dsimp only)
          refine hK.out _ _ ?_ (fun hHeld1 => ?_)
          · ((try dsimp only); (first | exact ⟨t1, a0, a1, a2, c0, c1, c2⟩ | (go_split_ands; refine ⟨?_, ?_, ?_, ?_, ?_, ?_, ?_⟩ <;> (refine below_cell hb3 rfl ?_; assumption))))
          clear hB hK K hHeld0
          refine AnyB.each (rs := [7]) (by kernel_rfl) (by simp) ?_
          refine EachB.cons rfl (fun K hK hB => ?_) ?_
          · skip
            go_simp
            refine hB.out _ _ rfl ?_
            clear hB hK K
            refine AnyB.none (by kernel_rfl) ?_ _
            obtain ⟨x0, x1, x2⟩ := box_set3 (.int .i64 ((mulN (s) ea).p : Int)) (.int .i64 ((mulN (s) ea).x : Int)) (.int .i64 ((mulN (s) ea).z : Int)) d0 d1 d2
            have y0 : (((x3.setCell ⟨w.heap.size + 1 + 1 + 1, 0, none⟩ (.int .i64 ((mulN (s) ea).p : Int))).setCell ⟨w.heap.size + 1 + 1 + 1, 1, none⟩ (.int .i64 ((mulN (s) ea).x : Int))).setCell ⟨w.heap.size + 1 + 1 + 1, 2, none⟩ (.int .i64 ((mulN (s) ea).z : Int))).frozen? ⟨w.heap.size + 1 + 1 + 1, 0, none⟩ = false := by rw [World.frozen?_setCell, World.frozen?_setCell, World.frozen?_setCell]; exact f0
            have y1 : (((x3.setCell ⟨w.heap.size + 1 + 1 + 1, 0, none⟩ (.int .i64 ((mulN (s) ea).p : Int))).setCell ⟨w.heap.size + 1 + 1 + 1, 1, none⟩ (.int .i64 ((mulN (s) ea).x : Int))).setCell ⟨w.heap.size + 1 + 1 + 1, 2, none⟩ (.int .i64 ((mulN (s) ea).z : Int))).frozen? ⟨w.heap.size + 1 + 1 + 1, 1, none⟩ = false := by rw [World.frozen?_setCell, World.frozen?_setCell, World.frozen?_setCell]; exact f1
            have y2 : (((x3.setCell ⟨w.heap.size + 1 + 1 + 1, 0, none⟩ (.int .i64 ((mulN (s) ea).p : Int))).setCell ⟨w.heap.size + 1 + 1 + 1, 1, none⟩ (.int .i64 ((mulN (s) ea).x : Int))).setCell ⟨w.heap.size + 1 + 1 + 1, 2, none⟩ (.int .i64 ((mulN (s) ea).z : Int))).frozen? ⟨w.heap.size + 1 + 1 + 1, 2, none⟩ = false := by rw [World.frozen?_setCell, World.frozen?_setCell, World.frozen?_setCell]; exact f2
            have hbel2 := Lib.hid (show Below (w.heap.size + 3) W0 (((x3.setCell ⟨w.heap.size + 1 + 1 + 1, 0, none⟩ (.int .i64 ((mulN (s) ea).p : Int))).setCell ⟨w.heap.size + 1 + 1 + 1, 1, none⟩ (.int .i64 ((mulN (s) ea).x : Int))).setCell ⟨w.heap.size + 1 + 1 + 1, 2, none⟩ (.int .i64 ((mulN (s) ea).z : Int))) from Below.setCell (Below.setCell (Below.setCell (Below.trans hbel.out (Below.trans (show Below (w.heap.size + 3) xl xl.drew from belo) (hb3.mono (by simp; omega)))) (by simp) _) (by simp) _) (by simp) _)
            have hsz2 : w.heap.size + 4 ≤ (((x3.setCell ⟨w.heap.size + 1 + 1 + 1, 0, none⟩ (.int .i64 ((mulN (s) ea).p : Int))).setCell ⟨w.heap.size + 1 + 1 + 1, 1, none⟩ (.int .i64 ((mulN (s) ea).x : Int))).setCell ⟨w.heap.size + 1 + 1 + 1, 2, none⟩ (.int .i64 ((mulN (s) ea).z : Int))).heap.size := by have := hb3.size; simp at this ⊢; omega
            replace t0 := cell_set_far (nb := w.heap.size + 1 + 1 + 1) (o2 := 2) (v := .int .i64 ((mulN (s) ea).z : Int)) (by omega) (cell_set_far (nb := w.heap.size + 1 + 1 + 1) (o2 := 1) (v := .int .i64 ((mulN (s) ea).x : Int)) (by omega) (cell_set_far (nb := w.heap.size + 1 + 1 + 1) (o2 := 0) (v := .int .i64 ((mulN (s) ea).p : Int)) (by omega) (below_cell hb3 rfl (cell_drew t0))))
            replace t1 := cell_set_far (nb := w.heap.size + 1 + 1 + 1) (o2 := 2) (v := .int .i64 ((mulN (s) ea).z : Int)) (by omega) (cell_set_far (nb := w.heap.size + 1 + 1 + 1) (o2 := 1) (v := .int .i64 ((mulN (s) ea).x : Int)) (by omega) (cell_set_far (nb := w.heap.size + 1 + 1 + 1) (o2 := 0) (v := .int .i64 ((mulN (s) ea).p : Int)) (by omega) (below_cell hb3 rfl (cell_drew t1))))
            replace t2 := cell_set_far (nb := w.heap.size + 1 + 1 + 1) (o2 := 2) (v := .int .i64 ((mulN (s) ea).z : Int)) (by omega) (cell_set_far (nb := w.heap.size + 1 + 1 + 1) (o2 := 1) (v := .int .i64 ((mulN (s) ea).x : Int)) (by omega) (cell_set_far (nb := w.heap.size + 1 + 1 + 1) (o2 := 0) (v := .int .i64 ((mulN (s) ea).p : Int)) (by omega) (below_cell hb3 rfl (cell_drew t2))))
            replace p0 := cell_set_far (nb := w.heap.size + 1 + 1 + 1) (o2 := 2) (v := .int .i64 ((mulN (s) ea).z : Int)) (by omega) (cell_set_far (nb := w.heap.size + 1 + 1 + 1) (o2 := 1) (v := .int .i64 ((mulN (s) ea).x : Int)) (by omega) (cell_set_far (nb := w.heap.size + 1 + 1 + 1) (o2 := 0) (v := .int .i64 ((mulN (s) ea).p : Int)) (by omega) (below_cell hb3 rfl (cell_drew p0))))
            replace p1 := cell_set_far (nb := w.heap.size + 1 + 1 + 1) (o2 := 2) (v := .int .i64 ((mulN (s) ea).z : Int)) (by omega) (cell_set_far (nb := w.heap.size + 1 + 1 + 1) (o2 := 1) (v := .int .i64 ((mulN (s) ea).x : Int)) (by omega) (cell_set_far (nb := w.heap.size + 1 + 1 + 1) (o2 := 0) (v := .int .i64 ((mulN (s) ea).p : Int)) (by omega) (below_cell hb3 rfl (cell_drew p1))))
            replace p2 := cell_set_far (nb := w.heap.size + 1 + 1 + 1) (o2 := 2) (v := .int .i64 ((mulN (s) ea).z : Int)) (by omega) (cell_set_far (nb := w.heap.size + 1 + 1 + 1) (o2 := 1) (v := .int .i64 ((mulN (s) ea).x : Int)) (by omega) (cell_set_far (nb := w.heap.size + 1 + 1 + 1) (o2 := 0) (v := .int .i64 ((mulN (s) ea).p : Int)) (by omega) (below_cell hb3 rfl (cell_drew p2))))
            replace a0 := cell_set_far (nb := w.heap.size + 1 + 1 + 1) (o2 := 2) (v := .int .i64 ((mulN (s) ea).z : Int)) (by omega) (cell_set_far (nb := w.heap.size + 1 + 1 + 1) (o2 := 1) (v := .int .i64 ((mulN (s) ea).x : Int)) (by omega) (cell_set_far (nb := w.heap.size + 1 + 1 + 1) (o2 := 0) (v := .int .i64 ((mulN (s) ea).p : Int)) (by omega) (below_cell hb3 rfl (cell_drew a0))))
            replace a1 := cell_set_far (nb := w.heap.size + 1 + 1 + 1) (o2 := 2) (v := .int .i64 ((mulN (s) ea).z : Int)) (by omega) (cell_set_far (nb := w.heap.size + 1 + 1 + 1) (o2 := 1) (v := .int .i64 ((mulN (s) ea).x : Int)) (by omega) (cell_set_far (nb := w.heap.size + 1 + 1 + 1) (o2 := 0) (v := .int .i64 ((mulN (s) ea).p : Int)) (by omega) (below_cell hb3 rfl (cell_drew a1))))
            replace a2 := cell_set_far (nb := w.heap.size + 1 + 1 + 1) (o2 := 2) (v := .int .i64 ((mulN (s) ea).z : Int)) (by omega) (cell_set_far (nb := w.heap.size + 1 + 1 + 1) (o2 := 1) (v := .int .i64 ((mulN (s) ea).x : Int)) (by omega) (cell_set_far (nb := w.heap.size + 1 + 1 + 1) (o2 := 0) (v := .int .i64 ((mulN (s) ea).p : Int)) (by omega) (below_cell hb3 rfl (cell_drew a2))))
            replace b0 := cell_set_far (nb := w.heap.size + 1 + 1 + 1) (o2 := 2) (v := .int .i64 ((mulN (s) ea).z : Int)) (by omega) (cell_set_far (nb := w.heap.size + 1 + 1 + 1) (o2 := 1) (v := .int .i64 ((mulN (s) ea).x : Int)) (by omega) (cell_set_far (nb := w.heap.size + 1 + 1 + 1) (o2 := 0) (v := .int .i64 ((mulN (s) ea).p : Int)) (by omega) (below_cell hb3 rfl (cell_drew b0))))
            replace b1 := cell_set_far (nb := w.heap.size + 1 + 1 + 1) (o2 := 2) (v := .int .i64 ((mulN (s) ea).z : Int)) (by omega) (cell_set_far (nb := w.heap.size + 1 + 1 + 1) (o2 := 1) (v := .int .i64 ((mulN (s) ea).x : Int)) (by omega) (cell_set_far (nb := w.heap.size + 1 + 1 + 1) (o2 := 0) (v := .int .i64 ((mulN (s) ea).p : Int)) (by omega) (below_cell hb3 rfl (cell_drew b1))))
            replace b2 := cell_set_far (nb := w.heap.size + 1 + 1 + 1) (o2 := 2) (v := .int .i64 ((mulN (s) ea).z : Int)) (by omega) (cell_set_far (nb := w.heap.size + 1 + 1 + 1) (o2 := 1) (v := .int .i64 ((mulN (s) ea).x : Int)) (by omega) (cell_set_far (nb := w.heap.size + 1 + 1 + 1) (o2 := 0) (v := .int .i64 ((mulN (s) ea).p : Int)) (by omega) (below_cell hb3 rfl (cell_drew b2))))
            have OS3 := Lib.hid (mulN_ok OS.out OA.out)
            clear c0 c1 c2 d0 d1 d2 f0 f1 f2 hbel hsz hb3
            obtain ⟨W3, hW3⟩ : ∃ W, W = (((x3.setCell ⟨w.heap.size + 1 + 1 + 1, 0, none⟩ (.int .i64 ((mulN (s) ea).p : Int))).setCell ⟨w.heap.size + 1 + 1 + 1, 1, none⟩ (.int .i64 ((mulN (s) ea).x : Int))).setCell ⟨w.heap.size + 1 + 1 + 1, 2, none⟩ (.int .i64 ((mulN (s) ea).z : Int))) := ⟨_, rfl⟩
            rw [← hW3] at x0 x1 x2 y0 y1 y2 hbel2 hsz2 t0 t1 t2 p0 p1 p2 a0 a1 a2 b0 b1 b2 ⊢
            have HW3 := Lib.hid hW3; clear hW3
            have c0 := x0; have c1 := x1; have c2 := x2; have f0 := y0; have f1 := y1; have f2 := y2; have hbel := hbel2; have hsz := hsz2; clear x0 x1 x2 y0 y1 y2 hbel2 hsz2
            go_wp2_with fail
            refine AnyB.begin (S := (fun w' => w'.cell? ⟨w.heap.size, 2, none⟩ = some (.slice (some ⟨gb, offb, none⟩) n cB) ∧ w'.cell? ⟨gb, offb + k * 3, none⟩ = some (.int .i64 ((eb).p : Int)) ∧ w'.cell? ⟨gb, offb + k * 3 + 1, none⟩ = some (.int .i64 ((eb).x : Int)) ∧ w'.cell? ⟨gb, offb + k * 3 + 2, none⟩ = some (.int .i64 ((eb).z : Int)) ∧ w'.cell? ⟨w.heap.size + 1 + 1 + 1, 0, none⟩ = some (.int .i64 ((mulN (s) ea).p : Int)) ∧ w'.cell? ⟨w.heap.size + 1 + 1 + 1, 1, none⟩ = some (.int .i64 ((mulN (s) ea).x : Int)) ∧ w'.cell? ⟨w.heap.size + 1 + 1 + 1, 2, none⟩ = some (.int .i64 ((mulN (s) ea).z : Int)))) [7] (by kernel_rfl) ?_ (fun hHeld0 => ?_)
            · ((try dsimp only); (first | exact ⟨t2, b0, b1, b2, c0, c1, c2⟩ | (go_split_ands; refine ⟨?_, ?_, ?_, ?_, ?_, ?_, ?_⟩ <;> (refine below_cell hb4 rfl ?_; assumption))))
            refine AnyB.tk (i := 0) (h := ?_)
            refine AnyB.tq (i := 1) (h := ?_)
            refine AnyB.tk (i := 2) (h := ?_)
            refine AnyB.tq (i := 3) (h := ?_)
            refine AnyB.tq (i := 4) (h := ?_)
            refine AnyB.tk (i := 5) (h := ?_)
            refine AnyB.each (rs := [6]) (by kernel_rfl) (by simp) ?_
            refine EachB.cons rfl (fun K hK hB => ?_) ?_
            · skip
              (go_simp; go_at_call 75; refine (spec_l7Mul_any (mulN (s) ea) (eb) _ OS3.out OB.out).mono ?_; rintro e x4 ⟨rfl, hb4⟩; have d0 := below_cell hb4 rfl (cell_drew c0); have d1 := below_cell hb4 rfl (cell_drew c1); have d2 := below_cell hb4 rfl (cell_drew c2); have f0 := below_frz hb4 rfl (World.block_lt_of_cell? _ _ c0) (frz_drew f0); have f1 := below_frz hb4 rfl (World.block_lt_of_cell? _ _ c0) (frz_drew f1); have f2 := below_frz hb4 rfl (World.block_lt_of_cell? _ _ c0) (frz_drew f2); dsimp only)
              refine hK.out _ _ ?_ (fun hHeld1 => ?_)
              · ((try dsimp only); (first | exact ⟨t2, b0, b1, b2, c0, c1, c2⟩ | (go_split_ands; refine ⟨?_, ?_, ?_, ?_, ?_, ?_, ?_⟩ <;> (refine below_cell hb4 rfl ?_; assumption))))
              clear hB hK K hHeld0
              refine AnyB.each (rs := [7]) (by kernel_rfl) (by simp) ?_
              refine EachB.cons rfl (fun K hK hB => ?_) ?_
              · skip
                go_simp
                refine hB.out _ _ rfl ?_
                clear hB hK K
                refine AnyB.none (by kernel_rfl) ?_ _
                obtain ⟨x0, x1, x2⟩ := box_set3 (.int .i64 ((mulN (mulN (s) ea) eb).p : Int)) (.int .i64 ((mulN (mulN (s) ea) eb).x : Int)) (.int .i64 ((mulN (mulN (s) ea) eb).z : Int)) d0 d1 d2
                have y0 : (((x4.setCell ⟨w.heap.size + 1 + 1 + 1, 0, none⟩ (.int .i64 ((mulN (mulN (s) ea) eb).p : Int))).setCell ⟨w.heap.size + 1 + 1 + 1, 1, none⟩ (.int .i64 ((mulN (mulN (s) ea) eb).x : Int))).setCell ⟨w.heap.size + 1 + 1 + 1, 2, none⟩ (.int .i64 ((mulN (mulN (s) ea) eb).z : Int))).frozen? ⟨w.heap.size + 1 + 1 + 1, 0, none⟩ = false := by rw [World.frozen?_setCell, World.frozen?_setCell, World.frozen?_setCell]; exact f0
                have y1 : (((x4.setCell ⟨w.heap.size + 1 + 1 + 1, 0, none⟩ (.int .i64 ((mulN (mulN (s) ea) eb).p : Int))).setCell ⟨w.heap.size + 1 + 1 + 1, 1, none⟩ (.int .i64 ((mulN (mulN (s) ea) eb).x : Int))).setCell ⟨w.heap.size + 1 + 1 + 1, 2, none⟩ (.int .i64 ((mulN (mulN (s) ea) eb).z : Int))).frozen? ⟨w.heap.size + 1 + 1 + 1, 1, none⟩ = false := by rw [World.frozen?_setCell, World.frozen?_setCell, World.frozen?_setCell]; exact f1
                have y2 : (((x4.setCell ⟨w.heap.size + 1 + 1 + 1, 0, none⟩ (.int .i64 ((mulN (mulN (s) ea) eb).p : Int))).setCell ⟨w.heap.size + 1 + 1 + 1, 1, none⟩ (.int .i64 ((mulN (mulN (s) ea) eb).x : Int))).setCell ⟨w.heap.size + 1 + 1 + 1, 2, none⟩ (.int .i64 ((mulN (mulN (s) ea) eb).z : Int))).frozen? ⟨w.heap.size + 1 + 1 + 1, 2, none⟩ = false := by rw [World.frozen?_setCell, World.frozen?_setCell, World.frozen?_setCell]; exact f2
                have hbel2 := Lib.hid (show Below (w.heap.size + 3) W0 (((x4.setCell ⟨w.heap.size + 1 + 1 + 1, 0, none⟩ (.int .i64 ((mulN (mulN (s) ea) eb).p : Int))).setCell ⟨w.heap.size + 1 + 1 + 1, 1, none⟩ (.int .i64 ((mulN (mulN (s) ea) eb).x : Int))).setCell ⟨w.heap.size + 1 + 1 + 1, 2, none⟩ (.int .i64 ((mulN (mulN (s) ea) eb).z : Int))) from Below.setCell (Below.setCell (Below.setCell (Below.trans hbel.out (Below.trans (show Below (w.heap.size + 3) W3 W3.drew from belo) (hb4.mono (by simp; omega)))) (by simp) _) (by simp) _) (by simp) _)
                have hsz2 : w.heap.size + 4 ≤ (((x4.setCell ⟨w.heap.size + 1 + 1 + 1, 0, none⟩ (.int .i64 ((mulN (mulN (s) ea) eb).p : Int))).setCell ⟨w.heap.size + 1 + 1 + 1, 1, none⟩ (.int .i64 ((mulN (mulN (s) ea) eb).x : Int))).setCell ⟨w.heap.size + 1 + 1 + 1, 2, none⟩ (.int .i64 ((mulN (mulN (s) ea) eb).z : Int))).heap.size := by have := hb4.size; simp at this ⊢; omega
                replace t0 := cell_set_far (nb := w.heap.size + 1 + 1 + 1) (o2 := 2) (v := .int .i64 ((mulN (mulN (s) ea) eb).z : Int)) (by omega) (cell_set_far (nb := w.heap.size + 1 + 1 + 1) (o2 := 1) (v := .int .i64 ((mulN (mulN (s) ea) eb).x : Int)) (by omega) (cell_set_far (nb := w.heap.size + 1 + 1 + 1) (o2 := 0) (v := .int .i64 ((mulN (mulN (s) ea) eb).p : Int)) (by omega) (below_cell hb4 rfl (cell_drew t0))))
                replace t1 := cell_set_far (nb := w.heap.size + 1 + 1 + 1) (o2 := 2) (v := .int .i64 ((mulN (mulN (s) ea) eb).z : Int)) (by omega) (cell_set_far (nb := w.heap.size + 1 + 1 + 1) (o2 := 1) (v := .int .i64 ((mulN (mulN (s) ea) eb).x : Int)) (by omega) (cell_set_far (nb := w.heap.size + 1 + 1 + 1) (o2 := 0) (v := .int .i64 ((mulN (mulN (s) ea) eb).p : Int)) (by omega) (below_cell hb4 rfl (cell_drew t1))))
                replace t2 := cell_set_far (nb := w.heap.size + 1 + 1 + 1) (o2 := 2) (v := .int .i64 ((mulN (mulN (s) ea) eb).z : Int)) (by omega) (cell_set_far (nb := w.heap.size + 1 + 1 + 1) (o2 := 1) (v := .int .i64 ((mulN (mulN (s) ea) eb).x : Int)) (by omega) (cell_set_far (nb := w.heap.size + 1 + 1 + 1) (o2 := 0) (v := .int .i64 ((mulN (mulN (s) ea) eb).p : Int)) (by omega) (below_cell hb4 rfl (cell_drew t2))))
                replace p0 := cell_set_far (nb := w.heap.size + 1 + 1 + 1) (o2 := 2) (v := .int .i64 ((mulN (mulN (s) ea) eb).z : Int)) (by omega) (cell_set_far (nb := w.heap.size + 1 + 1 + 1) (o2 := 1) (v := .int .i64 ((mulN (mulN (s) ea) eb).x : Int)) (by omega) (cell_set_far (nb := w.heap.size + 1 + 1 + 1) (o2 := 0) (v := .int .i64 ((mulN (mulN (s) ea) eb).p : Int)) (by omega) (below_cell hb4 rfl (cell_drew p0))))
                replace p1 := cell_set_far (nb := w.heap.size + 1 + 1 + 1) (o2 := 2) (v := .int .i64 ((mulN (mulN (s) ea) eb).z : Int)) (by omega) (cell_set_far (nb := w.heap.size + 1 + 1 + 1) (o2 := 1) (v := .int .i64 ((mulN (mulN (s) ea) eb).x : Int)) (by omega) (cell_set_far (nb := w.heap.size + 1 + 1 + 1) (o2 := 0) (v := .int .i64 ((mulN (mulN (s) ea) eb).p : Int)) (by omega) (below_cell hb4 rfl (cell_drew p1))))
                replace p2 := cell_set_far (nb := w.heap.size + 1 + 1 + 1) (o2 := 2) (v := .int .i64 ((mulN (mulN (s) ea) eb).z : Int)) (by omega) (cell_set_far (nb := w.heap.size + 1 + 1 + 1) (o2 := 1) (v := .int .i64 ((mulN (mulN (s) ea) eb).x : Int)) (by omega) (cell_set_far (nb := w.heap.size + 1 + 1 + 1) (o2 := 0) (v := .int .i64 ((mulN (mulN (s) ea) eb).p : Int)) (by omega) (below_cell hb4 rfl (cell_drew p2))))
                replace a0 := cell_set_far (nb := w.heap.size + 1 + 1 + 1) (o2 := 2) (v := .int .i64 ((mulN (mulN (s) ea) eb).z : Int)) (by omega) (cell_set_far (nb := w.heap.size + 1 + 1 + 1) (o2 := 1) (v := .int .i64 ((mulN (mulN (s) ea) eb).x : Int)) (by omega) (cell_set_far (nb := w.heap.size + 1 + 1 + 1) (o2 := 0) (v := .int .i64 ((mulN (mulN (s) ea) eb).p : Int)) (by omega) (below_cell hb4 rfl (cell_drew a0))))
                replace a1 := cell_set_far (nb := w.heap.size + 1 + 1 + 1) (o2 := 2) (v := .int .i64 ((mulN (mulN (s) ea) eb).z : Int)) (by omega) (cell_set_far (nb := w.heap.size + 1 + 1 + 1) (o2 := 1) (v := .int .i64 ((mulN (mulN (s) ea) eb).x : Int)) (by omega) (cell_set_far (nb := w.heap.size + 1 + 1 + 1) (o2 := 0) (v := .int .i64 ((mulN (mulN (s) ea) eb).p : Int)) (by omega) (below_cell hb4 rfl (cell_drew a1))))
                replace a2 := cell_set_far (nb := w.heap.size + 1 + 1 + 1) (o2 := 2) (v := .int .i64 ((mulN (mulN (s) ea) eb).z : Int)) (by omega) (cell_set_far (nb := w.heap.size + 1 + 1 + 1) (o2 := 1) (v := .int .i64 ((mulN (mulN (s) ea) eb).x : Int)) (by omega) (cell_set_far (nb := w.heap.size + 1 + 1 + 1) (o2 := 0) (v := .int .i64 ((mulN (mulN (s) ea) eb).p : Int)) (by omega) (below_cell hb4 rfl (cell_drew a2))))
                replace b0 := cell_set_far (nb := w.heap.size + 1 + 1 + 1) (o2 := 2) (v := .int .i64 ((mulN (mulN (s) ea) eb).z : Int)) (by omega) (cell_set_far (nb := w.heap.size + 1 + 1 + 1) (o2 := 1) (v := .int .i64 ((mulN (mulN (s) ea) eb).x : Int)) (by omega) (cell_set_far (nb := w.heap.size + 1 + 1 + 1) (o2 := 0) (v := .int .i64 ((mulN (mulN (s) ea) eb).p : Int)) (by omega) (below_cell hb4 rfl (cell_drew b0))))
                replace b1 := cell_set_far (nb := w.heap.size + 1 + 1 + 1) (o2 := 2) (v := .int .i64 ((mulN (mulN (s) ea) eb).z : Int)) (by omega) (cell_set_far (nb := w.heap.size + 1 + 1 + 1) (o2 := 1) (v := .int .i64 ((mulN (mulN (s) ea) eb).x : Int)) (by omega) (cell_set_far (nb := w.heap.size + 1 + 1 + 1) (o2 := 0) (v := .int .i64 ((mulN (mulN (s) ea) eb).p : Int)) (by omega) (below_cell hb4 rfl (cell_drew b1))))
                replace b2 := cell_set_far (nb := w.heap.size + 1 + 1 + 1) (o2 := 2) (v := .int .i64 ((mulN (mulN (s) ea) eb).z : Int)) (by omega) (cell_set_far (nb := w.heap.size + 1 + 1 + 1) (o2 := 1) (v := .int .i64 ((mulN (mulN (s) ea) eb).x : Int)) (by omega) (cell_set_far (nb := w.heap.size + 1 + 1 + 1) (o2 := 0) (v := .int .i64 ((mulN (mulN (s) ea) eb).p : Int)) (by omega) (below_cell hb4 rfl (cell_drew b2))))
                have OS4 := Lib.hid (mulN_ok OS3.out OB.out)
                clear c0 c1 c2 d0 d1 d2 f0 f1 f2 hbel hsz hb4
                obtain ⟨W4, hW4⟩ : ∃ W, W = (((x4.setCell ⟨w.heap.size + 1 + 1 + 1, 0, none⟩ (.int .i64 ((mulN (mulN (s) ea) eb).p : Int))).setCell ⟨w.heap.size + 1 + 1 + 1, 1, none⟩ (.int .i64 ((mulN (mulN (s) ea) eb).x : Int))).setCell ⟨w.heap.size + 1 + 1 + 1, 2, none⟩ (.int .i64 ((mulN (mulN (s) ea) eb).z : Int))) := ⟨_, rfl⟩
                rw [← hW4] at x0 x1 x2 y0 y1 y2 hbel2 hsz2 t0 t1 t2 p0 p1 p2 a0 a1 a2 b0 b1 b2 ⊢
                have HW4 := Lib.hid hW4; clear hW4
                have c0 := x0; have c1 := x1; have c2 := x2; have f0 := y0; have f1 := y1; have f2 := y2; have hbel := hbel2; have hsz := hsz2; clear x0 x1 x2 y0 y1 y2 hbel2 hsz2
                have hm : IntKind.i64.wrap ((mulN (mulN (s) ea) eb).p + 1 : Int) = ((mulN (mulN (s) ea) eb).p + 1 : Int) := IntWalk.i64_in _ (by have := OS4.out.p; omega)
                have hpp := OS4.out.p
                have c0' := cell_set3 c0 c1 c2 (.int .i64 ((((mulN (mulN (s) ea) eb).p : Int) + 1) % 4))
                have HP := Lib.hid (fun u => Below.setCell hbel.out (p := ⟨w.heap.size + 1 + 1 + 1, 0, none⟩) (by simp) u)
                go_wp2_with fail
                go_roundw
                case rel => exact ⟨k + 1, by omega, by go_num, (by rw [HS.out]; show _ = some (Value.int .i64 ((((mulN (mulN (s) ea) eb).p + 1) % 4 : Nat) : Int)); rw [show ((((mulN (mulN (s) ea) eb).p + 1) % 4 : Nat) : Int) = (((mulN (mulN (s) ea) eb).p : Int) + 1) % 4 from by omega]; exact c0'.1), (by rw [HS.out]; exact c0'.2.1), (by rw [HS.out]; exact c0'.2.2), (by rw [World.frozen?_setCell]; exact f0), (by rw [World.frozen?_setCell]; exact f1), (by rw [World.frozen?_setCell]; exact f2), HP.out _, by simp; omega⟩
                case measure => simp [intOf]; omega
              exact EachB.nil
            exact EachB.nil
          exact EachB.nil
        exact EachB.nil
    · have e : k = n := by omega
      subst e
      have t0 := (hbel.out.cell (p := ⟨w.heap.size, 0, none⟩) (by simp)).trans T0.out
      have r0 := (hbel.out.cell (p := ⟨w.heap.size + 1 + 1, 0, none⟩) (by simp)).trans R0.out; have q0 := (hbel.out.frozen (p := ⟨w.heap.size + 1 + 1, 0, none⟩) (by simp)).trans F0.out
      have r1 := (hbel.out.cell (p := ⟨w.heap.size + 1 + 1, 1, none⟩) (by simp)).trans R1.out; have q1 := (hbel.out.frozen (p := ⟨w.heap.size + 1 + 1, 1, none⟩) (by simp)).trans F1.out
      have r2 := (hbel.out.cell (p := ⟨w.heap.size + 1 + 1, 2, none⟩) (by simp)).trans R2.out; have q2 := (hbel.out.frozen (p := ⟨w.heap.size + 1 + 1, 2, none⟩) (by simp)).trans F2.out
      have bw := Lib.hid (show Below w.heap.size w wr from Below.trans BW.out (hbel.out.mono (by omega)))
      go_wp2_with fail
      have hZ := box_set3 (w3 := wr) (nb := w.heap.size + 1 + 1) (.int .i64 ((imgS X Z p k).p : Int)) (.int .i64 ((imgS X Z p k).x : Int)) (.int .i64 ((imgS X Z p k).z : Int)) r0 r1 r2
      refine bodyPost_ret (v := .agg #[.int .i64 ((imgS X Z p k).p : Int), .int .i64 ((imgS X Z p k).x : Int), .int .i64 ((imgS X Z p k).z : Int)]) (by simp [results, Tryz.results36, go_sem, hZ]) rfl ⟨rfl, ?_⟩
      have bq := bw.out
      exact belo
end Go.Proofs.YtnckabohlakbgaaGreat
