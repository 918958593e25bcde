/- The reference's product of Pauli operators. -/
import Derived.Test.YtnckabohlakbgaaGreatZ05M
import Derived.Test.YtnckabohlakbgaaGreatZ06Brk
namespace Go.Proofs.YtnckabohlakbgaaGreat
set_option linter.unusedSimpArgs false
set_option linter.unusedVariables false
set_option linter.unnecessarySimpa false
set_option maxRecDepth 200000
open Go.ChangeShapes Go.WideShapes Go.ChangeAt Go.RowKit

theorem ltr_le (a : PN) (q : Nat) : ltr a q ≤ 3 := by unfold ltr; have := bt_le a.x q; have := bt_le a.z q; omega
set_option maxHeartbeats 4000000 in
theorem spec_l7Mul_any (a b : PN) (w : World) (ha : PNok a) (hb : PNok b) :
    Calls Tryz.prog 75 #[.agg #[.int .i64 ((a).p : Int), .int .i64 ((a).x : Int), .int .i64 ((a).z : Int)], .agg #[.int .i64 ((b).p : Int), .int .i64 ((b).x : Int), .int .i64 ((b).z : Int)]] w fun e w' => e = .returned (.agg #[.int .i64 ((mulN a b).p : Int), .int .i64 ((mulN a b).x : Int), .int .i64 ((mulN a b).z : Int)]) ∧ Below w.heap.size w w' := by
  have HF := Lib.hid (mul_sg ha hb)
  have HX := Lib.hid (show (mulN a b).x = a.x ^^^ b.x from rfl); have HZ := Lib.hid (show (mulN a b).z = a.z ^^^ b.z from rfl)
  have Ha := Lib.hid ha; have Hb := Lib.hid hb
  obtain ⟨hp, hx, hz⟩ := ha
  obtain ⟨hp2, hx2, hz2⟩ := hb
  have e1 := bits_xor a.x b.x (by omega) (by omega)
  have e2 := bits_xor a.z b.z (by omega) (by omega)
  generalize a.x ^^^ b.x = X at *
  generalize a.z ^^^ b.z = Z at *
  go_enter Tryz.func75, Tryz.ntmps75
  go_wp2_with fail
  clear e1 e2
  go_loopw [6] (fun i wr => ∃ k : Nat, k ≤ 5 ∧ i = .int .i64 k ∧ wr.cell? ⟨w.heap.size + 1 + 1 + 1, 0, none⟩ = some (.int .i64 ((a.p : Int) + (b.p : Int) + (sgTo a b k : Int))) ∧ wr.cell? ⟨w.heap.size + 1 + 1 + 1, 1, none⟩ = some (.int .i64 (X : Int)) ∧ wr.cell? ⟨w.heap.size + 1 + 1 + 1, 2, none⟩ = some (.int .i64 (Z : Int)) ∧ wr.frozen? ⟨w.heap.size + 1 + 1 + 1, 0, none⟩ = false ∧ Hid (Below (w.heap.size + 3) (((w.alloc (.cells #[.int .i64 ((a).p : Int), .int .i64 ((a).x : Int), .int .i64 ((a).z : Int)] 33)).alloc (.cells #[.int .i64 ((b).p : Int), .int .i64 ((b).x : Int), .int .i64 ((b).z : Int)] 33)).alloc (.cells #[.int .i64 0, .int .i64 0, .int .i64 0] 33)) wr) ∧ w.heap.size + 4 ≤ wr.heap.size) (fun i _ => 5 - (intOf i).toNat)
  case atStart => exact ⟨0, by omega, rfl, (by rw [show ((a.p : Int) + (b.p : Int) + (sgTo a b 0 : Int)) = (a.p : Int) + b.p from by simp [sgTo]]; exact cela), cela, cela, froza, (show Below _ _ _ from belo), by simp⟩
  case round =>
    obtain ⟨k, hk, rfl, c0, c1, c2, f0, hbel, hsz⟩ := hrel
    have a0 := (hbel.out.cell (p := ⟨w.heap.size, 0, none⟩) (by simp)).trans (show (((w.alloc (.cells #[.int .i64 ((a).p : Int), .int .i64 ((a).x : Int), .int .i64 ((a).z : Int)] 33)).alloc (.cells #[.int .i64 ((b).p : Int), .int .i64 ((b).x : Int), .int .i64 ((b).z : Int)] 33)).alloc (.cells #[.int .i64 0, .int .i64 0, .int .i64 0] 33)).cell? _ = some (.int .i64 (a.p : Int)) from cela)
    have a1 := (hbel.out.cell (p := ⟨w.heap.size, 1, none⟩) (by simp)).trans (show (((w.alloc (.cells #[.int .i64 ((a).p : Int), .int .i64 ((a).x : Int), .int .i64 ((a).z : Int)] 33)).alloc (.cells #[.int .i64 ((b).p : Int), .int .i64 ((b).x : Int), .int .i64 ((b).z : Int)] 33)).alloc (.cells #[.int .i64 0, .int .i64 0, .int .i64 0] 33)).cell? _ = some (.int .i64 (a.x : Int)) from cela)
    have a2 := (hbel.out.cell (p := ⟨w.heap.size, 2, none⟩) (by simp)).trans (show (((w.alloc (.cells #[.int .i64 ((a).p : Int), .int .i64 ((a).x : Int), .int .i64 ((a).z : Int)] 33)).alloc (.cells #[.int .i64 ((b).p : Int), .int .i64 ((b).x : Int), .int .i64 ((b).z : Int)] 33)).alloc (.cells #[.int .i64 0, .int .i64 0, .int .i64 0] 33)).cell? _ = some (.int .i64 (a.z : Int)) from cela)
    have b0 := (hbel.out.cell (p := ⟨w.heap.size + 1, 0, none⟩) (by simp)).trans (show (((w.alloc (.cells #[.int .i64 ((a).p : Int), .int .i64 ((a).x : Int), .int .i64 ((a).z : Int)] 33)).alloc (.cells #[.int .i64 ((b).p : Int), .int .i64 ((b).x : Int), .int .i64 ((b).z : Int)] 33)).alloc (.cells #[.int .i64 0, .int .i64 0, .int .i64 0] 33)).cell? _ = some (.int .i64 (b.p : Int)) from cela)
    have b1 := (hbel.out.cell (p := ⟨w.heap.size + 1, 1, none⟩) (by simp)).trans (show (((w.alloc (.cells #[.int .i64 ((a).p : Int), .int .i64 ((a).x : Int), .int .i64 ((a).z : Int)] 33)).alloc (.cells #[.int .i64 ((b).p : Int), .int .i64 ((b).x : Int), .int .i64 ((b).z : Int)] 33)).alloc (.cells #[.int .i64 0, .int .i64 0, .int .i64 0] 33)).cell? _ = some (.int .i64 (b.x : Int)) from cela)
    have b2 := (hbel.out.cell (p := ⟨w.heap.size + 1, 2, none⟩) (by simp)).trans (show (((w.alloc (.cells #[.int .i64 ((a).p : Int), .int .i64 ((a).x : Int), .int .i64 ((a).z : Int)] 33)).alloc (.cells #[.int .i64 ((b).p : Int), .int .i64 ((b).x : Int), .int .i64 ((b).z : Int)] 33)).alloc (.cells #[.int .i64 0, .int .i64 0, .int .i64 0] 33)).cell? _ = some (.int .i64 (b.z : Int)) from cela)
    have hsg := sgTo_le a b k
    by_cases hlt : k < 5
    · have la := ltr_le a k; have lb := ltr_le b k; have ls := sgT_le (ltr a k) (ltr b k)
      have HS := Lib.hid (show sgTo a b (k + 1) = sgTo a b k + sgT (ltr a k) (ltr b k) from rfl)
      have h2 : IntKind.i64.wrap (((a.p : Int) + (b.p : Int) + (sgTo a b k : Int)) + (sgT (ltr a k) (ltr b k) : Int)) = ((a.p : Int) + (b.p : Int) + (sgTo a b k : Int)) + (sgT (ltr a k) (ltr b k) : Int) := IntWalk.i64_in _ (by omega)
      go_wp2_with fail
      refine AnyB.begin (S := (fun w' => w'.cell? ⟨w.heap.size, 0, none⟩ = some (.int .i64 (a.p : Int)) ∧ w'.cell? ⟨w.heap.size, 1, none⟩ = some (.int .i64 (a.x : Int)) ∧ w'.cell? ⟨w.heap.size, 2, none⟩ = some (.int .i64 (a.z : Int)) ∧ w'.cell? ⟨w.heap.size + 1, 0, none⟩ = some (.int .i64 (b.p : Int)) ∧ w'.cell? ⟨w.heap.size + 1, 1, none⟩ = some (.int .i64 (b.x : Int)) ∧ w'.cell? ⟨w.heap.size + 1, 2, none⟩ = some (.int .i64 (b.z : Int)) ∧ w'.cell? ⟨w.heap.size + 1 + 1 + 1, 0, none⟩ = some (.int .i64 ((a.p : Int) + (b.p : Int) + (sgTo a b k : Int))))) [11] (by kernel_rfl) ?_ (fun hHeld0 => ?_)
      · ((try dsimp only); (first | exact ⟨a0, a1, a2, b0, b1, b2, c0⟩ | (go_split_ands; refine ⟨?_, ?_, ?_, ?_, ?_, ?_, ?_⟩ <;> first | (refine below_cell hx1 rfl ?_; assumption) | (refine below_cell hx2 rfl ?_; assumption) | (refine below_cell hx3 rfl ?_; assumption))))
      refine AnyB.tq (i := 0) (h := ?_)
      refine AnyB.tk (i := 1) (h := ?_)
      refine AnyB.tk (i := 2) (h := ?_)
      refine AnyB.tq (i := 3) (h := ?_)
      refine AnyB.tk (i := 5) (h := ?_)
      refine AnyB.tq (i := 6) (h := ?_)
      refine AnyB.each (rs := [4]) (by kernel_rfl) (by simp) ?_
      refine EachB.cons rfl (fun K hK hB => ?_) ?_
      · skip
        (go_simp; go_at_call 74; refine (spec_l7Letter_any a k _ Ha.out (by omega)).mono ?_; rintro e x1 ⟨rfl, hx1⟩; have f1 := below_frz hx1 rfl (by simp; omega) (frz_drew f0); have z1 := hx1.size; (simp at z1); dsimp only)
        refine hK.out _ _ ?_ (fun hHeld1 => ?_)
        · ((try dsimp only); (first | exact ⟨a0, a1, a2, b0, b1, b2, c0⟩ | (go_split_ands; refine ⟨?_, ?_, ?_, ?_, ?_, ?_, ?_⟩ <;> first | (refine below_cell hx1 rfl ?_; assumption) | (refine below_cell hx2 rfl ?_; assumption) | (refine below_cell hx3 rfl ?_; assumption))))
        clear hB hK K hHeld0
        refine AnyB.each (rs := [7]) (by kernel_rfl) (by simp) ?_
        refine EachB.cons rfl (fun K hK hB => ?_) ?_
        · skip
          (go_simp; go_at_call 74; refine (spec_l7Letter_any b k _ Hb.out (by omega)).mono ?_; rintro e x2 ⟨rfl, hx2⟩; have f2 := below_frz hx2 rfl (by omega) f1; have z2 := hx2.size; dsimp only)
          refine hK.out _ _ ?_ (fun hHeld2 => ?_)
          · ((try dsimp only); (first | exact ⟨a0, a1, a2, b0, b1, b2, c0⟩ | (go_split_ands; refine ⟨?_, ?_, ?_, ?_, ?_, ?_, ?_⟩ <;> first | (refine below_cell hx1 rfl ?_; assumption) | (refine below_cell hx2 rfl ?_; assumption) | (refine below_cell hx3 rfl ?_; assumption))))
          clear hB hK K hHeld1
          refine AnyB.each (rs := [8]) (by kernel_rfl) (by simp) ?_
          refine EachB.cons rfl (fun K hK hB => ?_) ?_
          · skip
            (go_simp; go_at_call 100; refine (spec_l7Sign_any _ _ _ la lb).mono ?_; rintro e x3 ⟨rfl, hx3⟩; have f3 := below_frz hx3 rfl (by omega) f2; have z3 := hx3.size; dsimp only)
            refine hK.out _ _ ?_ (fun hHeld3 => ?_)
            · ((try dsimp only); (first | exact ⟨a0, a1, a2, b0, b1, b2, c0⟩ | (go_split_ands; refine ⟨?_, ?_, ?_, ?_, ?_, ?_, ?_⟩ <;> first | (refine below_cell hx1 rfl ?_; assumption) | (refine below_cell hx2 rfl ?_; assumption) | (refine below_cell hx3 rfl ?_; assumption))))
            clear hB hK K hHeld2
            refine AnyB.tq (i := 9) (h := ?_)
            refine AnyB.tq (i := 10) (h := ?_)
            refine AnyB.each (rs := [11]) (by kernel_rfl) (by simp) ?_
            refine EachB.cons rfl (fun K hK hB => ?_) ?_
            · skip
              go_simp
              refine hB.out _ _ rfl ?_
              clear hB hK K
              refine AnyB.none (by kernel_rfl) ?_ _
              have hB1 := Lib.hid (show Below (w.heap.size + 3) _ x3 from Below.trans hbel.out (Below.trans (show Below (w.heap.size + 3) wr x1 from Below.trans belo (hx1.mono (by simp; omega))) (Below.trans (hx2.mono (by omega)) (hx3.mono (by omega)))))
              have d0 := below_cell hx3 rfl (below_cell hx2 rfl (below_cell hx1 rfl (cell_drew c0)))
              have d1 := below_cell hx3 rfl (below_cell hx2 rfl (below_cell hx1 rfl (cell_drew c1)))
              have d2 := below_cell hx3 rfl (below_cell hx2 rfl (below_cell hx1 rfl (cell_drew c2)))
              clear hx1 hx2 hx3 hbel c0 c1 c2
              go_wp2_with fail
              go_roundw
              case rel => exact ⟨k + 1, by omega, by go_num, (by rw [HS.out, show ((a.p : Int) + (b.p : Int) + ((sgTo a b k + sgT (ltr a k) (ltr b k) : Nat) : Int)) = (a.p : Int) + b.p + (sgTo a b k : Int) + (sgT (ltr a k) (ltr b k) : Int) from by omega]; exact World.cell?_setCell_same _ _ _ d0), cell_set_other d1, cell_set_other d2, by rw [World.frozen?_setCell]; exact f3, (show Below _ _ _ from Below.setCell hB1.out (by simp) _), by simp; omega⟩
              case measure => simp [intOf]; omega
            exact EachB.nil
          exact EachB.nil
        exact EachB.nil
      exact EachB.nil
    · have e : k = 5 := by omega
      subst e
      have r0 := (hbel.out.cell (p := ⟨w.heap.size + 1 + 1, 0, none⟩) (by simp)).trans (show (((w.alloc (.cells #[.int .i64 ((a).p : Int), .int .i64 ((a).x : Int), .int .i64 ((a).z : Int)] 33)).alloc (.cells #[.int .i64 ((b).p : Int), .int .i64 ((b).x : Int), .int .i64 ((b).z : Int)] 33)).alloc (.cells #[.int .i64 0, .int .i64 0, .int .i64 0] 33)).cell? _ = some (.int .i64 0) from cela)
      have r1 := (hbel.out.cell (p := ⟨w.heap.size + 1 + 1, 1, none⟩) (by simp)).trans (show (((w.alloc (.cells #[.int .i64 ((a).p : Int), .int .i64 ((a).x : Int), .int .i64 ((a).z : Int)] 33)).alloc (.cells #[.int .i64 ((b).p : Int), .int .i64 ((b).x : Int), .int .i64 ((b).z : Int)] 33)).alloc (.cells #[.int .i64 0, .int .i64 0, .int .i64 0] 33)).cell? _ = some (.int .i64 0) from cela)
      have r2 := (hbel.out.cell (p := ⟨w.heap.size + 1 + 1, 2, none⟩) (by simp)).trans (show (((w.alloc (.cells #[.int .i64 ((a).p : Int), .int .i64 ((a).x : Int), .int .i64 ((a).z : Int)] 33)).alloc (.cells #[.int .i64 ((b).p : Int), .int .i64 ((b).x : Int), .int .i64 ((b).z : Int)] 33)).alloc (.cells #[.int .i64 0, .int .i64 0, .int .i64 0] 33)).cell? _ = some (.int .i64 0) from cela)
      have q0 := (hbel.out.frozen (p := ⟨w.heap.size + 1 + 1, 0, none⟩) (by simp)).trans (show (((w.alloc (.cells #[.int .i64 ((a).p : Int), .int .i64 ((a).x : Int), .int .i64 ((a).z : Int)] 33)).alloc (.cells #[.int .i64 ((b).p : Int), .int .i64 ((b).x : Int), .int .i64 ((b).z : Int)] 33)).alloc (.cells #[.int .i64 0, .int .i64 0, .int .i64 0] 33)).frozen? _ = false from froza)
      have q1 := (hbel.out.frozen (p := ⟨w.heap.size + 1 + 1, 1, none⟩) (by simp)).trans (show (((w.alloc (.cells #[.int .i64 ((a).p : Int), .int .i64 ((a).x : Int), .int .i64 ((a).z : Int)] 33)).alloc (.cells #[.int .i64 ((b).p : Int), .int .i64 ((b).x : Int), .int .i64 ((b).z : Int)] 33)).alloc (.cells #[.int .i64 0, .int .i64 0, .int .i64 0] 33)).frozen? _ = false from froza)
      have q2 := (hbel.out.frozen (p := ⟨w.heap.size + 1 + 1, 2, none⟩) (by simp)).trans (show (((w.alloc (.cells #[.int .i64 ((a).p : Int), .int .i64 ((a).x : Int), .int .i64 ((a).z : Int)] 33)).alloc (.cells #[.int .i64 ((b).p : Int), .int .i64 ((b).x : Int), .int .i64 ((b).z : Int)] 33)).alloc (.cells #[.int .i64 0, .int .i64 0, .int .i64 0] 33)).frozen? _ = false from froza)
      clear a0 a1 a2 b0 b1 b2
      go_wp2_with fail
      have hZ := box_set3 (w3 := wr.setCell ⟨w.heap.size + 1 + 1 + 1, 0, none⟩ (.int .i64 (((a.p : Int) + (b.p : Int) + (sgTo a b 5 : Int)) % 4))) (nb := w.heap.size + 1 + 1) (.int .i64 (((a.p : Int) + (b.p : Int) + (sgTo a b 5 : Int)) % 4)) (.int .i64 (X : Int)) (.int .i64 (Z : Int)) (cell_set_far (by omega) r0) (cell_set_far (by omega) r1) (cell_set_far (by omega) r2)
      refine bodyPost_ret (v := .agg #[.int .i64 (((a.p : Int) + (b.p : Int) + (sgTo a b 5 : Int)) % 4), .int .i64 (X : Int), .int .i64 (Z : Int)]) (by simp [results, Tryz.results75, go_sem, hZ]) rfl ⟨?_, ?_⟩
      · rw [HX.out, HZ.out, ← HF.out, ret_agg3 (show ((a.p : Int) + (b.p : Int) + (sgTo a b 5 : Int)) % 4 = (((a.p + b.p + sgTo a b 5) % 4 : Nat) : Int) from by omega)]
      · have hq := hbel.out
        have hw : Below w.heap.size w wr := Below.trans (show Below w.heap.size w (((w.alloc (.cells #[.int .i64 ((a).p : Int), .int .i64 ((a).x : Int), .int .i64 ((a).z : Int)] 33)).alloc (.cells #[.int .i64 ((b).p : Int), .int .i64 ((b).x : Int), .int .i64 ((b).z : Int)] 33)).alloc (.cells #[.int .i64 0, .int .i64 0, .int .i64 0] 33)) from belo) (hq.mono (by omega))
        exact belo
end Go.Proofs.YtnckabohlakbgaaGreat
