/- The image of an operator under a tableau, in the program. -/
import Derived.Test.YtnckabohlakbgaaGreatZ07Pau4
import Derived.Test.YtnckabohlakbgaaGreatZ05M
import Derived.Test.YtnckabohlakbgaaGreatZ06Brk
import Derived.Deep.RegionHeld3
namespace Go.Proofs.YtnckabohlakbgaaGreat
set_option linter.unusedSimpArgs false
set_option linter.unusedVariables false
set_option linter.unnecessarySimpa false
set_option maxRecDepth 200000
open Go.ChangeShapes Go.WideShapes Go.ChangeAt Go.RowKit

def pes (L : List PN) : List E3 := L.map PN.e
theorem pes_len (L : List PN) : (pes L).length = L.length := by simp [pes]
theorem pes_getD (L : List PN) (i : Nat) : (pes L).getD i ⟨0, 0, 0⟩ = (L.getD i ⟨0, 0, 0⟩).e := by
  unfold pes
  by_cases h : i < L.length
  · simp [List.getD, h]
  · simp [List.getD, h]; rfl
/-- The cells of a slice of operators. -/
theorem pes_at {w : World} {v : Value} {L : List PN} (h : RdE w v E3.cs 3 (pes L)) : ∃ A c, v = .slice A L.length c ∧ Hid (∀ k, k < L.length → ∃ b off, A = some ⟨b, off, none⟩ ∧ b < w.heap.size ∧ w.cell? ⟨b, off + k * 3, none⟩ = some (.int .i64 ((L.getD k ⟨0, 0, 0⟩).p : Int)) ∧ w.cell? ⟨b, off + k * 3 + 1, none⟩ = some (.int .i64 ((L.getD k ⟨0, 0, 0⟩).x : Int)) ∧ w.cell? ⟨b, off + k * 3 + 2, none⟩ = some (.int .i64 ((L.getD k ⟨0, 0, 0⟩).z : Int))) := by
  rcases h.cases0 E3.len with ⟨he, A, c, rfl⟩ | ⟨_, b, off, cap, rfl, hb, hl, hm, hc⟩
  · have h0 : L.length = 0 := by rw [← pes_len, he]; rfl
    rw [h0]
    exact ⟨A, c, rfl, show ∀ _, _ from fun k hk => absurd hk (Nat.not_lt_zero _)⟩
  · refine ⟨_, cap, by rw [pes_len], show ∀ _, _ from fun k hk => ⟨b, off, rfl, hb, ?_⟩⟩
    have hk2 : k < (pes L).length := by rw [pes_len]; exact hk
    have e : (pes L)[k] = (L.getD k ⟨0, 0, 0⟩).e := by
      rw [← pes_getD]; simp [List.getD, hk2]
    exact ⟨hc k hk2 0 _ (by omega) (by rw [e]; rfl), hc k hk2 1 _ (by omega) (by rw [e]; rfl), hc k hk2 2 _ (by omega) (by rw [e]; rfl)⟩
theorem bt_bit {x k : Nat} {b : Bool} (h : x.testBit k = b) : bt x k = b.toNat := by unfold bt; rw [h]
set_option maxHeartbeats 8000000 in
theorem impl_image_any (n : Nat) (X Z : List PN) (p : PN) (v0 v1 : Value) (w : World) (hn : n ≤ 5) (hX : X.length = n) (hZ : Z.length = n) (okX : PLok X) (okZ : PLok Z) (okp : PNok p) (h0 : RdE w v0 E3.cs 3 (pes X)) (h1 : RdE w v1 E3.cs 3 (pes Z)) :
    Calls Tryz.prog 33 #[.agg #[.int .i64 (n : Int), v0, v1], .agg #[.int .i64 ((p).p : Int), .int .i64 ((p).x : Int), .int .i64 ((p).z : Int)]] w fun e w' => e = .returned (.agg #[.int .i64 ((imgN X Z p n).p : Int), .int .i64 ((imgN X Z p n).x : Int), .int .i64 ((imgN X Z p n).z : Int)]) ∧ Below w.heap.size w w' := by
  obtain ⟨A, cA, rfl, HA⟩ := pes_at h0
  obtain ⟨A2, cB, rfl, HB⟩ := pes_at h1
  rw [hX] at HA ⊢; rw [hZ] at HB ⊢
  have OX := Lib.hid okX; have OZ := Lib.hid okZ; have OP := Lib.hid okp
  clear h0 h1 hX hZ okX okZ
  obtain ⟨hp, hx, hz⟩ := okp
  have e1 := bits_and p.x p.z (by omega) (by omega)
  have m1 := @and31 p.x p.z hx
  have H0 : Hid (imgN X Z p 0 = ⟨(p.p + pop (p.x &&& p.z)) % 4, 0, 0⟩) := rfl
  generalize p.x &&& p.z = M at *
  have q1 := OnesCount_any M
  have r1 := pop31 m1
  generalize pop M = N at *
  have Q1 := Lib.hid q1; clear q1
  have hu : IntKind.u64.wrap (M : Int) = M := IntWalk.u64_in _ (by omega)
  have hs : IntKind.i64.wrap ((p.p : Int) + (N : Int)) = (p.p : Int) + N := IntWalk.i64_in _ (by omega)
  have ht : Int.tmod ((p.p : Int) + (N : Int)) 4 = ((p.p : Int) + N) % 4 := Int.tmod_eq_emod_of_nonneg (by omega)
  go_enter Tryz.func33, Tryz.ntmps33
  go_wp2_with fail
  have p0 : (((w.alloc (.cells #[.int .i64 (n : Int), .slice A n cA, .slice A2 n cB] 29)).alloc (.cells #[.int .i64 ((p).p : Int), .int .i64 ((p).x : Int), .int .i64 ((p).z : Int)] 33)).alloc (.cells #[.int .i64 0, .int .i64 0, .int .i64 0] 33)).cell? ⟨w.heap.size + 1, 0, none⟩ = some (.int .i64 (p.p : Int)) := cela
  have p1 : (((w.alloc (.cells #[.int .i64 (n : Int), .slice A n cA, .slice A2 n cB] 29)).alloc (.cells #[.int .i64 ((p).p : Int), .int .i64 ((p).x : Int), .int .i64 ((p).z : Int)] 33)).alloc (.cells #[.int .i64 0, .int .i64 0, .int .i64 0] 33)).cell? ⟨w.heap.size + 1, 1, none⟩ = some (.int .i64 (p.x : Int)) := cela
  have p2 : (((w.alloc (.cells #[.int .i64 (n : Int), .slice A n cA, .slice A2 n cB] 29)).alloc (.cells #[.int .i64 ((p).p : Int), .int .i64 ((p).x : Int), .int .i64 ((p).z : Int)] 33)).alloc (.cells #[.int .i64 0, .int .i64 0, .int .i64 0] 33)).cell? ⟨w.heap.size + 1, 2, none⟩ = some (.int .i64 (p.z : Int)) := cela
  refine AnyB.begin (S := (fun w' => w'.cell? ⟨w.heap.size + 1, 0, none⟩ = some (.int .i64 (p.p : Int)) ∧ w'.cell? ⟨w.heap.size + 1, 1, none⟩ = some (.int .i64 (p.x : Int)) ∧ w'.cell? ⟨w.heap.size + 1, 2, none⟩ = some (.int .i64 (p.z : Int)))) [13] (by kernel_rfl) ?_ (fun hHeld0 => ?_)
  · ((try dsimp only); (first | exact ⟨p0, p1, p2⟩ | assumption | (go_split_ands; refine ⟨?_, ?_, ?_⟩ <;> (refine cell_alloc_keep _ ?_; assumption))))
  refine AnyB.tq (i := 0) (h := ?_)
  refine AnyB.tk (i := 1) (h := ?_)
  refine AnyB.tq (i := 2) (h := ?_)
  refine AnyB.tk (i := 3) (h := ?_)
  refine AnyB.tq (i := 4) (h := ?_)
  refine AnyB.tk (i := 5) (h := ?_)
  refine AnyB.tq (i := 6) (h := ?_)
  refine AnyB.tq (i := 7) (h := ?_)
  refine AnyB.each (rs := [8, 12]) (by kernel_rfl) (by simp) ?_
  refine EachB.cons rfl (fun K hK hB => ?_) ?_
  · skip
    (go_simp; go_at_call 70; refine (Q1.out _ (by omega)).mono ?_; rintro e x1 ⟨rfl, rfl⟩; dsimp only)
    refine hK.out _ _ ?_ (fun hHeld1 => ?_)
    · ((try dsimp only); (first | exact ⟨p0, p1, p2⟩ | assumption | (go_split_ands; refine ⟨?_, ?_, ?_⟩ <;> (refine cell_alloc_keep _ ?_; assumption))))
    clear hB hK K hHeld0
    refine AnyB.tq (i := 9) (h := ?_)
    refine AnyB.tq (i := 10) (h := ?_)
    refine AnyB.tq (i := 11) (h := ?_)
    refine AnyB.each (rs := [12]) (by kernel_rfl) (by simp) ?_
    refine EachB.cons rfl (fun K hK hB => ?_) ?_
    · skip
      go_simp
      refine hK.out _ _ ?_ (fun hHeld2 => ?_)
      · ((try dsimp only); (first | exact ⟨p0, p1, p2⟩ | assumption | (go_split_ands; refine ⟨?_, ?_, ?_⟩ <;> (refine cell_alloc_keep _ ?_; assumption))))
      clear hB hK K hHeld1
      refine AnyB.each (rs := [13]) (by kernel_rfl) (by simp) ?_
      refine EachB.cons rfl (fun K hK hB => ?_) ?_
      · skip
        go_simp
        refine hB.out _ _ rfl ?_
        clear hB hK K
        refine AnyB.none (by kernel_rfl) ?_ _
        go_wp2_with fail
        clear p0 p1 p2 e1 hu hs ht
        obtain ⟨W0, hW0⟩ : ∃ W0, W0 = (((w.alloc (.cells #[.int .i64 (n : Int), .slice A n cA, .slice A2 n cB] 29)).alloc (.cells #[.int .i64 ((p).p : Int), .int .i64 ((p).x : Int), .int .i64 ((p).z : Int)] 33)).alloc (.cells #[.int .i64 0, .int .i64 0, .int .i64 0] 33)) := ⟨_, rfl⟩
        have BW := Lib.hid (show Below w.heap.size w W0 from by rw [hW0]; exact belo)
        have T1 := Lib.hid (show W0.cell? ⟨w.heap.size, 1, none⟩ = some (.slice A n cA) from by rw [hW0]; exact cela)
        have T2 := Lib.hid (show W0.cell? ⟨w.heap.size, 2, none⟩ = some (.slice A2 n cB) from by rw [hW0]; exact cela)
        have P1 := Lib.hid (show W0.cell? ⟨w.heap.size + 1, 1, none⟩ = some (.int .i64 (p.x : Int)) from by rw [hW0]; exact cela)
        have P2 := Lib.hid (show W0.cell? ⟨w.heap.size + 1, 2, none⟩ = some (.int .i64 (p.z : Int)) from by rw [hW0]; exact cela)
        have R0 := Lib.hid (show W0.cell? ⟨w.heap.size + 1 + 1, 0, none⟩ = some (.int .i64 0) from by rw [hW0]; exact cela)
        have R1 := Lib.hid (show W0.cell? ⟨w.heap.size + 1 + 1, 1, none⟩ = some (.int .i64 0) from by rw [hW0]; exact cela)
        have R2 := Lib.hid (show W0.cell? ⟨w.heap.size + 1 + 1, 2, none⟩ = some (.int .i64 0) from by rw [hW0]; exact cela)
        have F0 := Lib.hid (show W0.frozen? ⟨w.heap.size + 1 + 1, 0, none⟩ = false from by rw [hW0]; exact froza)
        have F1 := Lib.hid (show W0.frozen? ⟨w.heap.size + 1 + 1, 1, none⟩ = false from by rw [hW0]; exact froza)
        have F2 := Lib.hid (show W0.frozen? ⟨w.heap.size + 1 + 1, 2, none⟩ = false from by rw [hW0]; exact froza)
        have HW0 := Lib.hid hW0; clear hW0
        go_loopw [21] (fun i wr => ∃ k : Nat, k ≤ n ∧ i = .int .i64 k ∧ wr.cell? ⟨w.heap.size + 1 + 1 + 1, 0, none⟩ = some (.int .i64 ((imgN X Z p k).p : Int)) ∧ wr.cell? ⟨w.heap.size + 1 + 1 + 1, 1, none⟩ = some (.int .i64 ((imgN X Z p k).x : Int)) ∧ wr.cell? ⟨w.heap.size + 1 + 1 + 1, 2, none⟩ = some (.int .i64 ((imgN X Z p k).z : Int)) ∧ wr.frozen? ⟨w.heap.size + 1 + 1 + 1, 0, none⟩ = false ∧ wr.frozen? ⟨w.heap.size + 1 + 1 + 1, 1, none⟩ = false ∧ wr.frozen? ⟨w.heap.size + 1 + 1 + 1, 2, none⟩ = false ∧ Hid (Below (w.heap.size + 3) W0 wr) ∧ w.heap.size + 4 ≤ wr.heap.size) (fun i _ => n - (intOf i).toNat)
        case atStart => exact ⟨0, by omega, rfl, (by rw [H0.out, show (((p.p + N) % 4 : Nat) : Int) = ((p.p : Int) + N) % 4 from by omega]; exact cela), (by rw [H0.out]; exact cela), (by rw [H0.out]; exact cela), froza, froza, froza, (show Below _ _ _ from by rw [HW0.out]; exact belo), by simp⟩
        case round =>
          obtain ⟨k, hk, rfl, c0, c1, c2, f0, f1, f2, hbel, hsz⟩ := hrel
          have OS := Lib.hid (imgN_ok (p := p) OX.out OZ.out k)
          by_cases hlt : k < n
          · skip
            have HS : Hid (imgN X Z p (k + 1) = (let s1 := if p.x.testBit k = true then mulN (imgN X Z p k) (X.getD k ⟨0, 0, 0⟩) else imgN X Z p k; if p.z.testBit k = true then mulN s1 (Z.getD k ⟨0, 0, 0⟩) else s1)) := rfl
            have bw := Lib.hid (show Below w.heap.size w wr from Below.trans BW.out (hbel.out.mono (by omega)))
            have t1 := (hbel.out.cell (p := ⟨w.heap.size, 1, none⟩) (by simp)).trans T1.out; have t2 := (hbel.out.cell (p := ⟨w.heap.size, 2, none⟩) (by simp)).trans T2.out; have p1 := (hbel.out.cell (p := ⟨w.heap.size + 1, 1, none⟩) (by simp)).trans P1.out; have p2 := (hbel.out.cell (p := ⟨w.heap.size + 1, 2, none⟩) (by simp)).trans P2.out
            obtain ⟨ga, offa, rfl, hga, a0, a1, a2⟩ := HA.out k hlt
            obtain ⟨gb, offb, rfl, hgb, b0, b1, b2⟩ := HB.out k hlt
            replace a0 := (bw.out.cell hga).trans a0
            replace a1 := (bw.out.cell hga).trans a1
            replace a2 := (bw.out.cell hga).trans a2
            replace b0 := (bw.out.cell hgb).trans b0
            replace b1 := (bw.out.cell hgb).trans b1
            replace b2 := (bw.out.cell hgb).trans b2
            have OA := Lib.hid (OX.out.get k); have OB := Lib.hid (OZ.out.get k)
            obtain ⟨s, hs⟩ : ∃ s, s = imgN X Z p k := ⟨_, rfl⟩
            obtain ⟨ea, hea⟩ : ∃ ea, ea = X.getD k ⟨0, 0, 0⟩ := ⟨_, rfl⟩
            obtain ⟨eb, heb⟩ : ∃ eb, eb = Z.getD k ⟨0, 0, 0⟩ := ⟨_, rfl⟩
            rw [← hs] at c0 c1 c2 OS HS; rw [← hea] at a0 a1 a2 OA HS; rw [← heb] at b0 b1 b2 OB HS
            have i1 : (k : Int) < (n : Int) := by omega
            have i2 : (0 : Int) ≤ (k : Int) := by omega
            have k5 : k ≤ 5 := by omega
            have w1 := bit_one p.x k (by omega)
            have w2 := bit_one p.z k (by omega)
            clear hs hea heb HA HB bw
            cases hbx : p.x.testBit k <;> cases hbz : p.z.testBit k
            · rw [bt_bit hbx] at w1; rw [bt_bit hbz] at w2; rw [hbx, hbz] at HS; simp only [Bool.toNat_true, Bool.toNat_false, if_true, if_false, Bool.false_eq_true, Int.natCast_zero, Int.natCast_one, Int.ofNat_zero, Int.ofNat_one] at w1 w2 HS; clear hbx hbz
              go_wp2_with fail
              go_roundw
              case rel => exact ⟨k + 1, by omega, by go_num, (by rw [HS.out]; exact c0), (by rw [HS.out]; exact c1), (by rw [HS.out]; exact c2), f0, f1, f2, hbel, hsz⟩
              case measure => simp [intOf]; omega
            · rw [bt_bit hbx] at w1; rw [bt_bit hbz] at w2; rw [hbx, hbz] at HS; simp only [Bool.toNat_true, Bool.toNat_false, if_true, if_false, Bool.false_eq_true, Int.natCast_zero, Int.natCast_one, Int.ofNat_zero, Int.ofNat_one] at w1 w2 HS; clear hbx hbz
              go_wp2_with fail
              refine AnyB.begin (S := (fun w' => w'.cell? ⟨w.heap.size, 2, none⟩ = some (.slice (some ⟨gb, offb, none⟩) n cB) ∧ w'.cell? ⟨gb, offb + k * 3, none⟩ = some (.int .i64 ((eb).p : Int)) ∧ w'.cell? ⟨gb, offb + k * 3 + 1, none⟩ = some (.int .i64 ((eb).x : Int)) ∧ w'.cell? ⟨gb, offb + k * 3 + 2, none⟩ = some (.int .i64 ((eb).z : Int)) ∧ w'.cell? ⟨w.heap.size + 1 + 1 + 1, 0, none⟩ = some (.int .i64 ((s).p : Int)) ∧ w'.cell? ⟨w.heap.size + 1 + 1 + 1, 1, none⟩ = some (.int .i64 ((s).x : Int)) ∧ w'.cell? ⟨w.heap.size + 1 + 1 + 1, 2, none⟩ = some (.int .i64 ((s).z : Int)))) [7] (by kernel_rfl) ?_ (fun hHeld0 => ?_)
              · ((try dsimp only); (first | exact ⟨t2, b0, b1, b2, c0, c1, c2⟩ | (go_split_ands; refine ⟨?_, ?_, ?_, ?_, ?_, ?_, ?_⟩ <;> (refine below_cell hb3 rfl ?_; assumption))))
              refine AnyB.tk (i := 0) (h := ?_)
              refine AnyB.tq (i := 1) (h := ?_)
              refine AnyB.tk (i := 2) (h := ?_)
              refine AnyB.tq (i := 3) (h := ?_)
              refine AnyB.tq (i := 4) (h := ?_)
              refine AnyB.tk (i := 5) (h := ?_)
              refine AnyB.each (rs := [6]) (by kernel_rfl) (by simp) ?_
              refine EachB.cons rfl (fun K hK hB => ?_) ?_
              · skip
                (go_simp; go_at_call 71; refine (impl_times_any (s) (eb) _ OS.out OB.out).mono ?_; rintro e x3 ⟨rfl, hb3⟩; have d0 := below_cell hb3 rfl (cell_drew c0); have d1 := below_cell hb3 rfl (cell_drew c1); have d2 := below_cell hb3 rfl (cell_drew c2); have f0 := below_frz hb3 rfl (World.block_lt_of_cell? _ _ c0) (frz_drew f0); have f1 := below_frz hb3 rfl (World.block_lt_of_cell? _ _ c0) (frz_drew f1); have f2 := below_frz hb3 rfl (World.block_lt_of_cell? _ _ c0) (frz_drew f2); dsimp only)
                refine hK.out _ _ ?_ (fun hHeld1 => ?_)
                · ((try dsimp only); (first | exact ⟨t2, b0, b1, b2, c0, c1, c2⟩ | (go_split_ands; refine ⟨?_, ?_, ?_, ?_, ?_, ?_, ?_⟩ <;> (refine below_cell hb3 rfl ?_; assumption))))
                clear hB hK K hHeld0
                refine AnyB.each (rs := [7]) (by kernel_rfl) (by simp) ?_
                refine EachB.cons rfl (fun K hK hB => ?_) ?_
                · skip
                  go_simp
                  refine hB.out _ _ rfl ?_
                  clear hB hK K
                  refine AnyB.none (by kernel_rfl) ?_ _
                  obtain ⟨x0, x1, x2⟩ := box_set3 (.int .i64 ((mulN (s) eb).p : Int)) (.int .i64 ((mulN (s) eb).x : Int)) (.int .i64 ((mulN (s) eb).z : Int)) d0 d1 d2
                  have y0 : (((x3.setCell ⟨w.heap.size + 1 + 1 + 1, 0, none⟩ (.int .i64 ((mulN (s) eb).p : Int))).setCell ⟨w.heap.size + 1 + 1 + 1, 1, none⟩ (.int .i64 ((mulN (s) eb).x : Int))).setCell ⟨w.heap.size + 1 + 1 + 1, 2, none⟩ (.int .i64 ((mulN (s) eb).z : Int))).frozen? ⟨w.heap.size + 1 + 1 + 1, 0, none⟩ = false := by rw [World.frozen?_setCell, World.frozen?_setCell, World.frozen?_setCell]; exact f0
                  have y1 : (((x3.setCell ⟨w.heap.size + 1 + 1 + 1, 0, none⟩ (.int .i64 ((mulN (s) eb).p : Int))).setCell ⟨w.heap.size + 1 + 1 + 1, 1, none⟩ (.int .i64 ((mulN (s) eb).x : Int))).setCell ⟨w.heap.size + 1 + 1 + 1, 2, none⟩ (.int .i64 ((mulN (s) eb).z : Int))).frozen? ⟨w.heap.size + 1 + 1 + 1, 1, none⟩ = false := by rw [World.frozen?_setCell, World.frozen?_setCell, World.frozen?_setCell]; exact f1
                  have y2 : (((x3.setCell ⟨w.heap.size + 1 + 1 + 1, 0, none⟩ (.int .i64 ((mulN (s) eb).p : Int))).setCell ⟨w.heap.size + 1 + 1 + 1, 1, none⟩ (.int .i64 ((mulN (s) eb).x : Int))).setCell ⟨w.heap.size + 1 + 1 + 1, 2, none⟩ (.int .i64 ((mulN (s) eb).z : Int))).frozen? ⟨w.heap.size + 1 + 1 + 1, 2, none⟩ = false := by rw [World.frozen?_setCell, World.frozen?_setCell, World.frozen?_setCell]; exact f2
                  have hbel2 := Lib.hid (show Below (w.heap.size + 3) W0 (((x3.setCell ⟨w.heap.size + 1 + 1 + 1, 0, none⟩ (.int .i64 ((mulN (s) eb).p : Int))).setCell ⟨w.heap.size + 1 + 1 + 1, 1, none⟩ (.int .i64 ((mulN (s) eb).x : Int))).setCell ⟨w.heap.size + 1 + 1 + 1, 2, none⟩ (.int .i64 ((mulN (s) eb).z : Int))) from Below.setCell (Below.setCell (Below.setCell (Below.trans hbel.out (Below.trans (show Below (w.heap.size + 3) wr wr.drew from belo) (hb3.mono (by simp; omega)))) (by simp) _) (by simp) _) (by simp) _)
                  have hsz2 : w.heap.size + 4 ≤ (((x3.setCell ⟨w.heap.size + 1 + 1 + 1, 0, none⟩ (.int .i64 ((mulN (s) eb).p : Int))).setCell ⟨w.heap.size + 1 + 1 + 1, 1, none⟩ (.int .i64 ((mulN (s) eb).x : Int))).setCell ⟨w.heap.size + 1 + 1 + 1, 2, none⟩ (.int .i64 ((mulN (s) eb).z : Int))).heap.size := by have := hb3.size; simp at this ⊢; omega
                  replace t1 := cell_set_far (nb := w.heap.size + 1 + 1 + 1) (o2 := 2) (v := .int .i64 ((mulN (s) eb).z : Int)) (by omega) (cell_set_far (nb := w.heap.size + 1 + 1 + 1) (o2 := 1) (v := .int .i64 ((mulN (s) eb).x : Int)) (by omega) (cell_set_far (nb := w.heap.size + 1 + 1 + 1) (o2 := 0) (v := .int .i64 ((mulN (s) eb).p : Int)) (by omega) (below_cell hb3 rfl (cell_drew t1))))
                  replace t2 := cell_set_far (nb := w.heap.size + 1 + 1 + 1) (o2 := 2) (v := .int .i64 ((mulN (s) eb).z : Int)) (by omega) (cell_set_far (nb := w.heap.size + 1 + 1 + 1) (o2 := 1) (v := .int .i64 ((mulN (s) eb).x : Int)) (by omega) (cell_set_far (nb := w.heap.size + 1 + 1 + 1) (o2 := 0) (v := .int .i64 ((mulN (s) eb).p : Int)) (by omega) (below_cell hb3 rfl (cell_drew t2))))
                  replace p1 := cell_set_far (nb := w.heap.size + 1 + 1 + 1) (o2 := 2) (v := .int .i64 ((mulN (s) eb).z : Int)) (by omega) (cell_set_far (nb := w.heap.size + 1 + 1 + 1) (o2 := 1) (v := .int .i64 ((mulN (s) eb).x : Int)) (by omega) (cell_set_far (nb := w.heap.size + 1 + 1 + 1) (o2 := 0) (v := .int .i64 ((mulN (s) eb).p : Int)) (by omega) (below_cell hb3 rfl (cell_drew p1))))
                  replace p2 := cell_set_far (nb := w.heap.size + 1 + 1 + 1) (o2 := 2) (v := .int .i64 ((mulN (s) eb).z : Int)) (by omega) (cell_set_far (nb := w.heap.size + 1 + 1 + 1) (o2 := 1) (v := .int .i64 ((mulN (s) eb).x : Int)) (by omega) (cell_set_far (nb := w.heap.size + 1 + 1 + 1) (o2 := 0) (v := .int .i64 ((mulN (s) eb).p : Int)) (by omega) (below_cell hb3 rfl (cell_drew p2))))
                  replace a0 := cell_set_far (nb := w.heap.size + 1 + 1 + 1) (o2 := 2) (v := .int .i64 ((mulN (s) eb).z : Int)) (by omega) (cell_set_far (nb := w.heap.size + 1 + 1 + 1) (o2 := 1) (v := .int .i64 ((mulN (s) eb).x : Int)) (by omega) (cell_set_far (nb := w.heap.size + 1 + 1 + 1) (o2 := 0) (v := .int .i64 ((mulN (s) eb).p : Int)) (by omega) (below_cell hb3 rfl (cell_drew a0))))
                  replace a1 := cell_set_far (nb := w.heap.size + 1 + 1 + 1) (o2 := 2) (v := .int .i64 ((mulN (s) eb).z : Int)) (by omega) (cell_set_far (nb := w.heap.size + 1 + 1 + 1) (o2 := 1) (v := .int .i64 ((mulN (s) eb).x : Int)) (by omega) (cell_set_far (nb := w.heap.size + 1 + 1 + 1) (o2 := 0) (v := .int .i64 ((mulN (s) eb).p : Int)) (by omega) (below_cell hb3 rfl (cell_drew a1))))
                  replace a2 := cell_set_far (nb := w.heap.size + 1 + 1 + 1) (o2 := 2) (v := .int .i64 ((mulN (s) eb).z : Int)) (by omega) (cell_set_far (nb := w.heap.size + 1 + 1 + 1) (o2 := 1) (v := .int .i64 ((mulN (s) eb).x : Int)) (by omega) (cell_set_far (nb := w.heap.size + 1 + 1 + 1) (o2 := 0) (v := .int .i64 ((mulN (s) eb).p : Int)) (by omega) (below_cell hb3 rfl (cell_drew a2))))
                  replace b0 := cell_set_far (nb := w.heap.size + 1 + 1 + 1) (o2 := 2) (v := .int .i64 ((mulN (s) eb).z : Int)) (by omega) (cell_set_far (nb := w.heap.size + 1 + 1 + 1) (o2 := 1) (v := .int .i64 ((mulN (s) eb).x : Int)) (by omega) (cell_set_far (nb := w.heap.size + 1 + 1 + 1) (o2 := 0) (v := .int .i64 ((mulN (s) eb).p : Int)) (by omega) (below_cell hb3 rfl (cell_drew b0))))
                  replace b1 := cell_set_far (nb := w.heap.size + 1 + 1 + 1) (o2 := 2) (v := .int .i64 ((mulN (s) eb).z : Int)) (by omega) (cell_set_far (nb := w.heap.size + 1 + 1 + 1) (o2 := 1) (v := .int .i64 ((mulN (s) eb).x : Int)) (by omega) (cell_set_far (nb := w.heap.size + 1 + 1 + 1) (o2 := 0) (v := .int .i64 ((mulN (s) eb).p : Int)) (by omega) (below_cell hb3 rfl (cell_drew b1))))
                  replace b2 := cell_set_far (nb := w.heap.size + 1 + 1 + 1) (o2 := 2) (v := .int .i64 ((mulN (s) eb).z : Int)) (by omega) (cell_set_far (nb := w.heap.size + 1 + 1 + 1) (o2 := 1) (v := .int .i64 ((mulN (s) eb).x : Int)) (by omega) (cell_set_far (nb := w.heap.size + 1 + 1 + 1) (o2 := 0) (v := .int .i64 ((mulN (s) eb).p : Int)) (by omega) (below_cell hb3 rfl (cell_drew b2))))
                  have OS3 := Lib.hid (mulN_ok OS.out OB.out)
                  clear c0 c1 c2 d0 d1 d2 f0 f1 f2 hbel hsz hb3
                  obtain ⟨W3, hW3⟩ : ∃ W, W = (((x3.setCell ⟨w.heap.size + 1 + 1 + 1, 0, none⟩ (.int .i64 ((mulN (s) eb).p : Int))).setCell ⟨w.heap.size + 1 + 1 + 1, 1, none⟩ (.int .i64 ((mulN (s) eb).x : Int))).setCell ⟨w.heap.size + 1 + 1 + 1, 2, none⟩ (.int .i64 ((mulN (s) eb).z : Int))) := ⟨_, rfl⟩
                  rw [← hW3] at x0 x1 x2 y0 y1 y2 hbel2 hsz2 t1 t2 p1 p2 a0 a1 a2 b0 b1 b2 ⊢
                  have HW3 := Lib.hid hW3; clear hW3
                  have c0 := x0; have c1 := x1; have c2 := x2; have f0 := y0; have f1 := y1; have f2 := y2; have hbel := hbel2; have hsz := hsz2; clear x0 x1 x2 y0 y1 y2 hbel2 hsz2
                  go_wp2_with fail
                  go_roundw
                  case rel => exact ⟨k + 1, by omega, by go_num, (by rw [HS.out]; exact c0), (by rw [HS.out]; exact c1), (by rw [HS.out]; exact c2), f0, f1, f2, hbel, hsz⟩
                  case measure => simp [intOf]; omega
                exact EachB.nil
              exact EachB.nil
            · rw [bt_bit hbx] at w1; rw [bt_bit hbz] at w2; rw [hbx, hbz] at HS; simp only [Bool.toNat_true, Bool.toNat_false, if_true, if_false, Bool.false_eq_true, Int.natCast_zero, Int.natCast_one, Int.ofNat_zero, Int.ofNat_one] at w1 w2 HS; clear hbx hbz
              go_wp2_with fail
              refine AnyB.begin (S := (fun w' => w'.cell? ⟨w.heap.size, 1, none⟩ = some (.slice (some ⟨ga, offa, none⟩) n cA) ∧ w'.cell? ⟨ga, offa + k * 3, none⟩ = some (.int .i64 ((ea).p : Int)) ∧ w'.cell? ⟨ga, offa + k * 3 + 1, none⟩ = some (.int .i64 ((ea).x : Int)) ∧ w'.cell? ⟨ga, offa + k * 3 + 2, none⟩ = some (.int .i64 ((ea).z : Int)) ∧ w'.cell? ⟨w.heap.size + 1 + 1 + 1, 0, none⟩ = some (.int .i64 ((s).p : Int)) ∧ w'.cell? ⟨w.heap.size + 1 + 1 + 1, 1, none⟩ = some (.int .i64 ((s).x : Int)) ∧ w'.cell? ⟨w.heap.size + 1 + 1 + 1, 2, none⟩ = some (.int .i64 ((s).z : Int)))) [7] (by kernel_rfl) ?_ (fun hHeld0 => ?_)
              · ((try dsimp only); (first | exact ⟨t1, a0, a1, a2, c0, c1, c2⟩ | (go_split_ands; refine ⟨?_, ?_, ?_, ?_, ?_, ?_, ?_⟩ <;> (refine below_cell hb3 rfl ?_; assumption))))
              refine AnyB.tk (i := 0) (h := ?_)
              refine AnyB.tq (i := 1) (h := ?_)
              refine AnyB.tk (i := 2) (h := ?_)
              refine AnyB.tq (i := 3) (h := ?_)
              refine AnyB.tq (i := 4) (h := ?_)
              refine AnyB.tk (i := 5) (h := ?_)
              refine AnyB.each (rs := [6]) (by kernel_rfl) (by simp) ?_
              refine EachB.cons rfl (fun K hK hB => ?_) ?_
              · skip
                (go_simp; go_at_call 71; refine (impl_times_any (s) (ea) _ OS.out OA.out).mono ?_; rintro e x3 ⟨rfl, hb3⟩; have d0 := below_cell hb3 rfl (cell_drew c0); have d1 := below_cell hb3 rfl (cell_drew c1); have d2 := below_cell hb3 rfl (cell_drew c2); have f0 := below_frz hb3 rfl (World.block_lt_of_cell? _ _ c0) (frz_drew f0); have f1 := below_frz hb3 rfl (World.block_lt_of_cell? _ _ c0) (frz_drew f1); have f2 := below_frz hb3 rfl (World.block_lt_of_cell? _ _ c0) (frz_drew f2); dsimp only)
                refine hK.out _ _ ?_ (fun hHeld1 => ?_)
                · ((try dsimp only); (first | exact ⟨t1, a0, a1, a2, c0, c1, c2⟩ | (go_split_ands; refine ⟨?_, ?_, ?_, ?_, ?_, ?_, ?_⟩ <;> (refine below_cell hb3 rfl ?_; assumption))))
                clear hB hK K hHeld0
                refine AnyB.each (rs := [7]) (by kernel_rfl) (by simp) ?_
                refine EachB.cons rfl (fun K hK hB => ?_) ?_
                · skip
                  go_simp
                  refine hB.out _ _ rfl ?_
                  clear hB hK K
                  refine AnyB.none (by kernel_rfl) ?_ _
                  obtain ⟨x0, x1, x2⟩ := box_set3 (.int .i64 ((mulN (s) ea).p : Int)) (.int .i64 ((mulN (s) ea).x : Int)) (.int .i64 ((mulN (s) ea).z : Int)) d0 d1 d2
                  have y0 : (((x3.setCell ⟨w.heap.size + 1 + 1 + 1, 0, none⟩ (.int .i64 ((mulN (s) ea).p : Int))).setCell ⟨w.heap.size + 1 + 1 + 1, 1, none⟩ (.int .i64 ((mulN (s) ea).x : Int))).setCell ⟨w.heap.size + 1 + 1 + 1, 2, none⟩ (.int .i64 ((mulN (s) ea).z : Int))).frozen? ⟨w.heap.size + 1 + 1 + 1, 0, none⟩ = false := by rw [World.frozen?_setCell, World.frozen?_setCell, World.frozen?_setCell]; exact f0
                  have y1 : (((x3.setCell ⟨w.heap.size + 1 + 1 + 1, 0, none⟩ (.int .i64 ((mulN (s) ea).p : Int))).setCell ⟨w.heap.size + 1 + 1 + 1, 1, none⟩ (.int .i64 ((mulN (s) ea).x : Int))).setCell ⟨w.heap.size + 1 + 1 + 1, 2, none⟩ (.int .i64 ((mulN (s) ea).z : Int))).frozen? ⟨w.heap.size + 1 + 1 + 1, 1, none⟩ = false := by rw [World.frozen?_setCell, World.frozen?_setCell, World.frozen?_setCell]; exact f1
                  have y2 : (((x3.setCell ⟨w.heap.size + 1 + 1 + 1, 0, none⟩ (.int .i64 ((mulN (s) ea).p : Int))).setCell ⟨w.heap.size + 1 + 1 + 1, 1, none⟩ (.int .i64 ((mulN (s) ea).x : Int))).setCell ⟨w.heap.size + 1 + 1 + 1, 2, none⟩ (.int .i64 ((mulN (s) ea).z : Int))).frozen? ⟨w.heap.size + 1 + 1 + 1, 2, none⟩ = false := by rw [World.frozen?_setCell, World.frozen?_setCell, World.frozen?_setCell]; exact f2
                  have hbel2 := Lib.hid (show Below (w.heap.size + 3) W0 (((x3.setCell ⟨w.heap.size + 1 + 1 + 1, 0, none⟩ (.int .i64 ((mulN (s) ea).p : Int))).setCell ⟨w.heap.size + 1 + 1 + 1, 1, none⟩ (.int .i64 ((mulN (s) ea).x : Int))).setCell ⟨w.heap.size + 1 + 1 + 1, 2, none⟩ (.int .i64 ((mulN (s) ea).z : Int))) from Below.setCell (Below.setCell (Below.setCell (Below.trans hbel.out (Below.trans (show Below (w.heap.size + 3) wr wr.drew from belo) (hb3.mono (by simp; omega)))) (by simp) _) (by simp) _) (by simp) _)
                  have hsz2 : w.heap.size + 4 ≤ (((x3.setCell ⟨w.heap.size + 1 + 1 + 1, 0, none⟩ (.int .i64 ((mulN (s) ea).p : Int))).setCell ⟨w.heap.size + 1 + 1 + 1, 1, none⟩ (.int .i64 ((mulN (s) ea).x : Int))).setCell ⟨w.heap.size + 1 + 1 + 1, 2, none⟩ (.int .i64 ((mulN (s) ea).z : Int))).heap.size := by have := hb3.size; simp at this ⊢; omega
                  replace t1 := cell_set_far (nb := w.heap.size + 1 + 1 + 1) (o2 := 2) (v := .int .i64 ((mulN (s) ea).z : Int)) (by omega) (cell_set_far (nb := w.heap.size + 1 + 1 + 1) (o2 := 1) (v := .int .i64 ((mulN (s) ea).x : Int)) (by omega) (cell_set_far (nb := w.heap.size + 1 + 1 + 1) (o2 := 0) (v := .int .i64 ((mulN (s) ea).p : Int)) (by omega) (below_cell hb3 rfl (cell_drew t1))))
                  replace t2 := cell_set_far (nb := w.heap.size + 1 + 1 + 1) (o2 := 2) (v := .int .i64 ((mulN (s) ea).z : Int)) (by omega) (cell_set_far (nb := w.heap.size + 1 + 1 + 1) (o2 := 1) (v := .int .i64 ((mulN (s) ea).x : Int)) (by omega) (cell_set_far (nb := w.heap.size + 1 + 1 + 1) (o2 := 0) (v := .int .i64 ((mulN (s) ea).p : Int)) (by omega) (below_cell hb3 rfl (cell_drew t2))))
                  replace p1 := cell_set_far (nb := w.heap.size + 1 + 1 + 1) (o2 := 2) (v := .int .i64 ((mulN (s) ea).z : Int)) (by omega) (cell_set_far (nb := w.heap.size + 1 + 1 + 1) (o2 := 1) (v := .int .i64 ((mulN (s) ea).x : Int)) (by omega) (cell_set_far (nb := w.heap.size + 1 + 1 + 1) (o2 := 0) (v := .int .i64 ((mulN (s) ea).p : Int)) (by omega) (below_cell hb3 rfl (cell_drew p1))))
                  replace p2 := cell_set_far (nb := w.heap.size + 1 + 1 + 1) (o2 := 2) (v := .int .i64 ((mulN (s) ea).z : Int)) (by omega) (cell_set_far (nb := w.heap.size + 1 + 1 + 1) (o2 := 1) (v := .int .i64 ((mulN (s) ea).x : Int)) (by omega) (cell_set_far (nb := w.heap.size + 1 + 1 + 1) (o2 := 0) (v := .int .i64 ((mulN (s) ea).p : Int)) (by omega) (below_cell hb3 rfl (cell_drew p2))))
                  replace a0 := cell_set_far (nb := w.heap.size + 1 + 1 + 1) (o2 := 2) (v := .int .i64 ((mulN (s) ea).z : Int)) (by omega) (cell_set_far (nb := w.heap.size + 1 + 1 + 1) (o2 := 1) (v := .int .i64 ((mulN (s) ea).x : Int)) (by omega) (cell_set_far (nb := w.heap.size + 1 + 1 + 1) (o2 := 0) (v := .int .i64 ((mulN (s) ea).p : Int)) (by omega) (below_cell hb3 rfl (cell_drew a0))))
                  replace a1 := cell_set_far (nb := w.heap.size + 1 + 1 + 1) (o2 := 2) (v := .int .i64 ((mulN (s) ea).z : Int)) (by omega) (cell_set_far (nb := w.heap.size + 1 + 1 + 1) (o2 := 1) (v := .int .i64 ((mulN (s) ea).x : Int)) (by omega) (cell_set_far (nb := w.heap.size + 1 + 1 + 1) (o2 := 0) (v := .int .i64 ((mulN (s) ea).p : Int)) (by omega) (below_cell hb3 rfl (cell_drew a1))))
                  replace a2 := cell_set_far (nb := w.heap.size + 1 + 1 + 1) (o2 := 2) (v := .int .i64 ((mulN (s) ea).z : Int)) (by omega) (cell_set_far (nb := w.heap.size + 1 + 1 + 1) (o2 := 1) (v := .int .i64 ((mulN (s) ea).x : Int)) (by omega) (cell_set_far (nb := w.heap.size + 1 + 1 + 1) (o2 := 0) (v := .int .i64 ((mulN (s) ea).p : Int)) (by omega) (below_cell hb3 rfl (cell_drew a2))))
                  replace b0 := cell_set_far (nb := w.heap.size + 1 + 1 + 1) (o2 := 2) (v := .int .i64 ((mulN (s) ea).z : Int)) (by omega) (cell_set_far (nb := w.heap.size + 1 + 1 + 1) (o2 := 1) (v := .int .i64 ((mulN (s) ea).x : Int)) (by omega) (cell_set_far (nb := w.heap.size + 1 + 1 + 1) (o2 := 0) (v := .int .i64 ((mulN (s) ea).p : Int)) (by omega) (below_cell hb3 rfl (cell_drew b0))))
                  replace b1 := cell_set_far (nb := w.heap.size + 1 + 1 + 1) (o2 := 2) (v := .int .i64 ((mulN (s) ea).z : Int)) (by omega) (cell_set_far (nb := w.heap.size + 1 + 1 + 1) (o2 := 1) (v := .int .i64 ((mulN (s) ea).x : Int)) (by omega) (cell_set_far (nb := w.heap.size + 1 + 1 + 1) (o2 := 0) (v := .int .i64 ((mulN (s) ea).p : Int)) (by omega) (below_cell hb3 rfl (cell_drew b1))))
                  replace b2 := cell_set_far (nb := w.heap.size + 1 + 1 + 1) (o2 := 2) (v := .int .i64 ((mulN (s) ea).z : Int)) (by omega) (cell_set_far (nb := w.heap.size + 1 + 1 + 1) (o2 := 1) (v := .int .i64 ((mulN (s) ea).x : Int)) (by omega) (cell_set_far (nb := w.heap.size + 1 + 1 + 1) (o2 := 0) (v := .int .i64 ((mulN (s) ea).p : Int)) (by omega) (below_cell hb3 rfl (cell_drew b2))))
                  have OS3 := Lib.hid (mulN_ok OS.out OA.out)
                  clear c0 c1 c2 d0 d1 d2 f0 f1 f2 hbel hsz hb3
                  obtain ⟨W3, hW3⟩ : ∃ W, W = (((x3.setCell ⟨w.heap.size + 1 + 1 + 1, 0, none⟩ (.int .i64 ((mulN (s) ea).p : Int))).setCell ⟨w.heap.size + 1 + 1 + 1, 1, none⟩ (.int .i64 ((mulN (s) ea).x : Int))).setCell ⟨w.heap.size + 1 + 1 + 1, 2, none⟩ (.int .i64 ((mulN (s) ea).z : Int))) := ⟨_, rfl⟩
                  rw [← hW3] at x0 x1 x2 y0 y1 y2 hbel2 hsz2 t1 t2 p1 p2 a0 a1 a2 b0 b1 b2 ⊢
                  have HW3 := Lib.hid hW3; clear hW3
                  have c0 := x0; have c1 := x1; have c2 := x2; have f0 := y0; have f1 := y1; have f2 := y2; have hbel := hbel2; have hsz := hsz2; clear x0 x1 x2 y0 y1 y2 hbel2 hsz2
                  go_wp2_with fail
                  go_roundw
                  case rel => exact ⟨k + 1, by omega, by go_num, (by rw [HS.out]; exact c0), (by rw [HS.out]; exact c1), (by rw [HS.out]; exact c2), f0, f1, f2, hbel, hsz⟩
                  case measure => simp [intOf]; omega
                exact EachB.nil
              exact EachB.nil
            · rw [bt_bit hbx] at w1; rw [bt_bit hbz] at w2; rw [hbx, hbz] at HS; simp only [Bool.toNat_true, Bool.toNat_false, if_true, if_false, Bool.false_eq_true, Int.natCast_zero, Int.natCast_one, Int.ofNat_zero, Int.ofNat_one] at w1 w2 HS; clear hbx hbz
              go_wp2_with fail
              refine AnyB.begin (S := (fun w' => w'.cell? ⟨w.heap.size, 1, none⟩ = some (.slice (some ⟨ga, offa, none⟩) n cA) ∧ w'.cell? ⟨ga, offa + k * 3, none⟩ = some (.int .i64 ((ea).p : Int)) ∧ w'.cell? ⟨ga, offa + k * 3 + 1, none⟩ = some (.int .i64 ((ea).x : Int)) ∧ w'.cell? ⟨ga, offa + k * 3 + 2, none⟩ = some (.int .i64 ((ea).z : Int)) ∧ w'.cell? ⟨w.heap.size + 1 + 1 + 1, 0, none⟩ = some (.int .i64 ((s).p : Int)) ∧ w'.cell? ⟨w.heap.size + 1 + 1 + 1, 1, none⟩ = some (.int .i64 ((s).x : Int)) ∧ w'.cell? ⟨w.heap.size + 1 + 1 + 1, 2, none⟩ = some (.int .i64 ((s).z : Int)))) [7] (by kernel_rfl) ?_ (fun hHeld0 => ?_)
              · ((try dsimp only); (first | exact ⟨t1, a0, a1, a2, c0, c1, c2⟩ | (go_split_ands; refine ⟨?_, ?_, ?_, ?_, ?_, ?_, ?_⟩ <;> (refine below_cell hb3 rfl ?_; assumption))))
              refine AnyB.tk (i := 0) (h := ?_)
              refine AnyB.tq (i := 1) (h := ?_)
              refine AnyB.tk (i := 2) (h := ?_)
              refine AnyB.tq (i := 3) (h := ?_)
              refine AnyB.tq (i := 4) (h := ?_)
              refine AnyB.tk (i := 5) (h := ?_)
              refine AnyB.each (rs := [6]) (by kernel_rfl) (by simp) ?_
              refine EachB.cons rfl (fun K hK hB => ?_) ?_
              · skip
                (go_simp; go_at_call 71; refine (impl_times_any (s) (ea) _ OS.out OA.out).mono ?_; rintro e x3 ⟨rfl, hb3⟩; have d0 := below_cell hb3 rfl (cell_drew c0); have d1 := below_cell hb3 rfl (cell_drew c1); have d2 := below_cell hb3 rfl (cell_drew c2); have f0 := below_frz hb3 rfl (World.block_lt_of_cell? _ _ c0) (frz_drew f0); have f1 := below_frz hb3 rfl (World.block_lt_of_cell? _ _ c0) (frz_drew f1); have f2 := below_frz hb3 rfl (World.block_lt_of_cell? _ _ c0) (frz_drew f2); dsimp only)
                refine hK.out _ _ ?_ (fun hHeld1 => ?_)
                · ((try dsimp only); (first | exact ⟨t1, a0, a1, a2, c0, c1, c2⟩ | (go_split_ands; refine ⟨?_, ?_, ?_, ?_, ?_, ?_, ?_⟩ <;> (refine below_cell hb3 rfl ?_; assumption))))
                clear hB hK K hHeld0
                refine AnyB.each (rs := [7]) (by kernel_rfl) (by simp) ?_
                refine EachB.cons rfl (fun K hK hB => ?_) ?_
                · skip
                  go_simp
                  refine hB.out _ _ rfl ?_
                  clear hB hK K
                  refine AnyB.none (by kernel_rfl) ?_ _
                  obtain ⟨x0, x1, x2⟩ := box_set3 (.int .i64 ((mulN (s) ea).p : Int)) (.int .i64 ((mulN (s) ea).x : Int)) (.int .i64 ((mulN (s) ea).z : Int)) d0 d1 d2
                  have y0 : (((x3.setCell ⟨w.heap.size + 1 + 1 + 1, 0, none⟩ (.int .i64 ((mulN (s) ea).p : Int))).setCell ⟨w.heap.size + 1 + 1 + 1, 1, none⟩ (.int .i64 ((mulN (s) ea).x : Int))).setCell ⟨w.heap.size + 1 + 1 + 1, 2, none⟩ (.int .i64 ((mulN (s) ea).z : Int))).frozen? ⟨w.heap.size + 1 + 1 + 1, 0, none⟩ = false := by rw [World.frozen?_setCell, World.frozen?_setCell, World.frozen?_setCell]; exact f0
                  have y1 : (((x3.setCell ⟨w.heap.size + 1 + 1 + 1, 0, none⟩ (.int .i64 ((mulN (s) ea).p : Int))).setCell ⟨w.heap.size + 1 + 1 + 1, 1, none⟩ (.int .i64 ((mulN (s) ea).x : Int))).setCell ⟨w.heap.size + 1 + 1 + 1, 2, none⟩ (.int .i64 ((mulN (s) ea).z : Int))).frozen? ⟨w.heap.size + 1 + 1 + 1, 1, none⟩ = false := by rw [World.frozen?_setCell, World.frozen?_setCell, World.frozen?_setCell]; exact f1
                  have y2 : (((x3.setCell ⟨w.heap.size + 1 + 1 + 1, 0, none⟩ (.int .i64 ((mulN (s) ea).p : Int))).setCell ⟨w.heap.size + 1 + 1 + 1, 1, none⟩ (.int .i64 ((mulN (s) ea).x : Int))).setCell ⟨w.heap.size + 1 + 1 + 1, 2, none⟩ (.int .i64 ((mulN (s) ea).z : Int))).frozen? ⟨w.heap.size + 1 + 1 + 1, 2, none⟩ = false := by rw [World.frozen?_setCell, World.frozen?_setCell, World.frozen?_setCell]; exact f2
                  have hbel2 := Lib.hid (show Below (w.heap.size + 3) W0 (((x3.setCell ⟨w.heap.size + 1 + 1 + 1, 0, none⟩ (.int .i64 ((mulN (s) ea).p : Int))).setCell ⟨w.heap.size + 1 + 1 + 1, 1, none⟩ (.int .i64 ((mulN (s) ea).x : Int))).setCell ⟨w.heap.size + 1 + 1 + 1, 2, none⟩ (.int .i64 ((mulN (s) ea).z : Int))) from Below.setCell (Below.setCell (Below.setCell (Below.trans hbel.out (Below.trans (show Below (w.heap.size + 3) wr wr.drew from belo) (hb3.mono (by simp; omega)))) (by simp) _) (by simp) _) (by simp) _)
                  have hsz2 : w.heap.size + 4 ≤ (((x3.setCell ⟨w.heap.size + 1 + 1 + 1, 0, none⟩ (.int .i64 ((mulN (s) ea).p : Int))).setCell ⟨w.heap.size + 1 + 1 + 1, 1, none⟩ (.int .i64 ((mulN (s) ea).x : Int))).setCell ⟨w.heap.size + 1 + 1 + 1, 2, none⟩ (.int .i64 ((mulN (s) ea).z : Int))).heap.size := by have := hb3.size; simp at this ⊢; omega
                  replace t1 := cell_set_far (nb := w.heap.size + 1 + 1 + 1) (o2 := 2) (v := .int .i64 ((mulN (s) ea).z : Int)) (by omega) (cell_set_far (nb := w.heap.size + 1 + 1 + 1) (o2 := 1) (v := .int .i64 ((mulN (s) ea).x : Int)) (by omega) (cell_set_far (nb := w.heap.size + 1 + 1 + 1) (o2 := 0) (v := .int .i64 ((mulN (s) ea).p : Int)) (by omega) (below_cell hb3 rfl (cell_drew t1))))
                  replace t2 := cell_set_far (nb := w.heap.size + 1 + 1 + 1) (o2 := 2) (v := .int .i64 ((mulN (s) ea).z : Int)) (by omega) (cell_set_far (nb := w.heap.size + 1 + 1 + 1) (o2 := 1) (v := .int .i64 ((mulN (s) ea).x : Int)) (by omega) (cell_set_far (nb := w.heap.size + 1 + 1 + 1) (o2 := 0) (v := .int .i64 ((mulN (s) ea).p : Int)) (by omega) (below_cell hb3 rfl (cell_drew t2))))
                  replace p1 := cell_set_far (nb := w.heap.size + 1 + 1 + 1) (o2 := 2) (v := .int .i64 ((mulN (s) ea).z : Int)) (by omega) (cell_set_far (nb := w.heap.size + 1 + 1 + 1) (o2 := 1) (v := .int .i64 ((mulN (s) ea).x : Int)) (by omega) (cell_set_far (nb := w.heap.size + 1 + 1 + 1) (o2 := 0) (v := .int .i64 ((mulN (s) ea).p : Int)) (by omega) (below_cell hb3 rfl (cell_drew p1))))
                  replace p2 := cell_set_far (nb := w.heap.size + 1 + 1 + 1) (o2 := 2) (v := .int .i64 ((mulN (s) ea).z : Int)) (by omega) (cell_set_far (nb := w.heap.size + 1 + 1 + 1) (o2 := 1) (v := .int .i64 ((mulN (s) ea).x : Int)) (by omega) (cell_set_far (nb := w.heap.size + 1 + 1 + 1) (o2 := 0) (v := .int .i64 ((mulN (s) ea).p : Int)) (by omega) (below_cell hb3 rfl (cell_drew p2))))
                  replace a0 := cell_set_far (nb := w.heap.size + 1 + 1 + 1) (o2 := 2) (v := .int .i64 ((mulN (s) ea).z : Int)) (by omega) (cell_set_far (nb := w.heap.size + 1 + 1 + 1) (o2 := 1) (v := .int .i64 ((mulN (s) ea).x : Int)) (by omega) (cell_set_far (nb := w.heap.size + 1 + 1 + 1) (o2 := 0) (v := .int .i64 ((mulN (s) ea).p : Int)) (by omega) (below_cell hb3 rfl (cell_drew a0))))
                  replace a1 := cell_set_far (nb := w.heap.size + 1 + 1 + 1) (o2 := 2) (v := .int .i64 ((mulN (s) ea).z : Int)) (by omega) (cell_set_far (nb := w.heap.size + 1 + 1 + 1) (o2 := 1) (v := .int .i64 ((mulN (s) ea).x : Int)) (by omega) (cell_set_far (nb := w.heap.size + 1 + 1 + 1) (o2 := 0) (v := .int .i64 ((mulN (s) ea).p : Int)) (by omega) (below_cell hb3 rfl (cell_drew a1))))
                  replace a2 := cell_set_far (nb := w.heap.size + 1 + 1 + 1) (o2 := 2) (v := .int .i64 ((mulN (s) ea).z : Int)) (by omega) (cell_set_far (nb := w.heap.size + 1 + 1 + 1) (o2 := 1) (v := .int .i64 ((mulN (s) ea).x : Int)) (by omega) (cell_set_far (nb := w.heap.size + 1 + 1 + 1) (o2 := 0) (v := .int .i64 ((mulN (s) ea).p : Int)) (by omega) (below_cell hb3 rfl (cell_drew a2))))
                  replace b0 := cell_set_far (nb := w.heap.size + 1 + 1 + 1) (o2 := 2) (v := .int .i64 ((mulN (s) ea).z : Int)) (by omega) (cell_set_far (nb := w.heap.size + 1 + 1 + 1) (o2 := 1) (v := .int .i64 ((mulN (s) ea).x : Int)) (by omega) (cell_set_far (nb := w.heap.size + 1 + 1 + 1) (o2 := 0) (v := .int .i64 ((mulN (s) ea).p : Int)) (by omega) (below_cell hb3 rfl (cell_drew b0))))
                  replace b1 := cell_set_far (nb := w.heap.size + 1 + 1 + 1) (o2 := 2) (v := .int .i64 ((mulN (s) ea).z : Int)) (by omega) (cell_set_far (nb := w.heap.size + 1 + 1 + 1) (o2 := 1) (v := .int .i64 ((mulN (s) ea).x : Int)) (by omega) (cell_set_far (nb := w.heap.size + 1 + 1 + 1) (o2 := 0) (v := .int .i64 ((mulN (s) ea).p : Int)) (by omega) (below_cell hb3 rfl (cell_drew b1))))
                  replace b2 := cell_set_far (nb := w.heap.size + 1 + 1 + 1) (o2 := 2) (v := .int .i64 ((mulN (s) ea).z : Int)) (by omega) (cell_set_far (nb := w.heap.size + 1 + 1 + 1) (o2 := 1) (v := .int .i64 ((mulN (s) ea).x : Int)) (by omega) (cell_set_far (nb := w.heap.size + 1 + 1 + 1) (o2 := 0) (v := .int .i64 ((mulN (s) ea).p : Int)) (by omega) (below_cell hb3 rfl (cell_drew b2))))
                  have OS3 := Lib.hid (mulN_ok OS.out OA.out)
                  clear c0 c1 c2 d0 d1 d2 f0 f1 f2 hbel hsz hb3
                  obtain ⟨W3, hW3⟩ : ∃ W, W = (((x3.setCell ⟨w.heap.size + 1 + 1 + 1, 0, none⟩ (.int .i64 ((mulN (s) ea).p : Int))).setCell ⟨w.heap.size + 1 + 1 + 1, 1, none⟩ (.int .i64 ((mulN (s) ea).x : Int))).setCell ⟨w.heap.size + 1 + 1 + 1, 2, none⟩ (.int .i64 ((mulN (s) ea).z : Int))) := ⟨_, rfl⟩
                  rw [← hW3] at x0 x1 x2 y0 y1 y2 hbel2 hsz2 t1 t2 p1 p2 a0 a1 a2 b0 b1 b2 ⊢
                  have HW3 := Lib.hid hW3; clear hW3
                  have c0 := x0; have c1 := x1; have c2 := x2; have f0 := y0; have f1 := y1; have f2 := y2; have hbel := hbel2; have hsz := hsz2; clear x0 x1 x2 y0 y1 y2 hbel2 hsz2
                  go_wp2_with fail
                  refine AnyB.begin (S := (fun w' => w'.cell? ⟨w.heap.size, 2, none⟩ = some (.slice (some ⟨gb, offb, none⟩) n cB) ∧ w'.cell? ⟨gb, offb + k * 3, none⟩ = some (.int .i64 ((eb).p : Int)) ∧ w'.cell? ⟨gb, offb + k * 3 + 1, none⟩ = some (.int .i64 ((eb).x : Int)) ∧ w'.cell? ⟨gb, offb + k * 3 + 2, none⟩ = some (.int .i64 ((eb).z : Int)) ∧ w'.cell? ⟨w.heap.size + 1 + 1 + 1, 0, none⟩ = some (.int .i64 ((mulN (s) ea).p : Int)) ∧ w'.cell? ⟨w.heap.size + 1 + 1 + 1, 1, none⟩ = some (.int .i64 ((mulN (s) ea).x : Int)) ∧ w'.cell? ⟨w.heap.size + 1 + 1 + 1, 2, none⟩ = some (.int .i64 ((mulN (s) ea).z : Int)))) [7] (by kernel_rfl) ?_ (fun hHeld0 => ?_)
                  · ((try dsimp only); (first | exact ⟨t2, b0, b1, b2, c0, c1, c2⟩ | (go_split_ands; refine ⟨?_, ?_, ?_, ?_, ?_, ?_, ?_⟩ <;> (refine below_cell hb4 rfl ?_; assumption))))
                  refine AnyB.tk (i := 0) (h := ?_)
                  refine AnyB.tq (i := 1) (h := ?_)
                  refine AnyB.tk (i := 2) (h := ?_)
                  refine AnyB.tq (i := 3) (h := ?_)
                  refine AnyB.tq (i := 4) (h := ?_)
                  refine AnyB.tk (i := 5) (h := ?_)
                  refine AnyB.each (rs := [6]) (by kernel_rfl) (by simp) ?_
                  refine EachB.cons rfl (fun K hK hB => ?_) ?_
                  · skip
                    (go_simp; go_at_call 71; refine (impl_times_any (mulN (s) ea) (eb) _ OS3.out OB.out).mono ?_; rintro e x4 ⟨rfl, hb4⟩; have d0 := below_cell hb4 rfl (cell_drew c0); have d1 := below_cell hb4 rfl (cell_drew c1); have d2 := below_cell hb4 rfl (cell_drew c2); have f0 := below_frz hb4 rfl (World.block_lt_of_cell? _ _ c0) (frz_drew f0); have f1 := below_frz hb4 rfl (World.block_lt_of_cell? _ _ c0) (frz_drew f1); have f2 := below_frz hb4 rfl (World.block_lt_of_cell? _ _ c0) (frz_drew f2); dsimp only)
                    refine hK.out _ _ ?_ (fun hHeld1 => ?_)
                    · ((try dsimp only); (first | exact ⟨t2, b0, b1, b2, c0, c1, c2⟩ | (go_split_ands; refine ⟨?_, ?_, ?_, ?_, ?_, ?_, ?_⟩ <;> (refine below_cell hb4 rfl ?_; assumption))))
                    clear hB hK K hHeld0
                    refine AnyB.each (rs := [7]) (by kernel_rfl) (by simp) ?_
                    refine EachB.cons rfl (fun K hK hB => ?_) ?_
                    · skip
                      go_simp
                      refine hB.out _ _ rfl ?_
                      clear hB hK K
                      refine AnyB.none (by kernel_rfl) ?_ _
                      obtain ⟨x0, x1, x2⟩ := box_set3 (.int .i64 ((mulN (mulN (s) ea) eb).p : Int)) (.int .i64 ((mulN (mulN (s) ea) eb).x : Int)) (.int .i64 ((mulN (mulN (s) ea) eb).z : Int)) d0 d1 d2
                      have y0 : (((x4.setCell ⟨w.heap.size + 1 + 1 + 1, 0, none⟩ (.int .i64 ((mulN (mulN (s) ea) eb).p : Int))).setCell ⟨w.heap.size + 1 + 1 + 1, 1, none⟩ (.int .i64 ((mulN (mulN (s) ea) eb).x : Int))).setCell ⟨w.heap.size + 1 + 1 + 1, 2, none⟩ (.int .i64 ((mulN (mulN (s) ea) eb).z : Int))).frozen? ⟨w.heap.size + 1 + 1 + 1, 0, none⟩ = false := by rw [World.frozen?_setCell, World.frozen?_setCell, World.frozen?_setCell]; exact f0
                      have y1 : (((x4.setCell ⟨w.heap.size + 1 + 1 + 1, 0, none⟩ (.int .i64 ((mulN (mulN (s) ea) eb).p : Int))).setCell ⟨w.heap.size + 1 + 1 + 1, 1, none⟩ (.int .i64 ((mulN (mulN (s) ea) eb).x : Int))).setCell ⟨w.heap.size + 1 + 1 + 1, 2, none⟩ (.int .i64 ((mulN (mulN (s) ea) eb).z : Int))).frozen? ⟨w.heap.size + 1 + 1 + 1, 1, none⟩ = false := by rw [World.frozen?_setCell, World.frozen?_setCell, World.frozen?_setCell]; exact f1
                      have y2 : (((x4.setCell ⟨w.heap.size + 1 + 1 + 1, 0, none⟩ (.int .i64 ((mulN (mulN (s) ea) eb).p : Int))).setCell ⟨w.heap.size + 1 + 1 + 1, 1, none⟩ (.int .i64 ((mulN (mulN (s) ea) eb).x : Int))).setCell ⟨w.heap.size + 1 + 1 + 1, 2, none⟩ (.int .i64 ((mulN (mulN (s) ea) eb).z : Int))).frozen? ⟨w.heap.size + 1 + 1 + 1, 2, none⟩ = false := by rw [World.frozen?_setCell, World.frozen?_setCell, World.frozen?_setCell]; exact f2
                      have hbel2 := Lib.hid (show Below (w.heap.size + 3) W0 (((x4.setCell ⟨w.heap.size + 1 + 1 + 1, 0, none⟩ (.int .i64 ((mulN (mulN (s) ea) eb).p : Int))).setCell ⟨w.heap.size + 1 + 1 + 1, 1, none⟩ (.int .i64 ((mulN (mulN (s) ea) eb).x : Int))).setCell ⟨w.heap.size + 1 + 1 + 1, 2, none⟩ (.int .i64 ((mulN (mulN (s) ea) eb).z : Int))) from Below.setCell (Below.setCell (Below.setCell (Below.trans hbel.out (Below.trans (show Below (w.heap.size + 3) W3 W3.drew from belo) (hb4.mono (by simp; omega)))) (by simp) _) (by simp) _) (by simp) _)
                      have hsz2 : w.heap.size + 4 ≤ (((x4.setCell ⟨w.heap.size + 1 + 1 + 1, 0, none⟩ (.int .i64 ((mulN (mulN (s) ea) eb).p : Int))).setCell ⟨w.heap.size + 1 + 1 + 1, 1, none⟩ (.int .i64 ((mulN (mulN (s) ea) eb).x : Int))).setCell ⟨w.heap.size + 1 + 1 + 1, 2, none⟩ (.int .i64 ((mulN (mulN (s) ea) eb).z : Int))).heap.size := by have := hb4.size; simp at this ⊢; omega
                      replace t1 := cell_set_far (nb := w.heap.size + 1 + 1 + 1) (o2 := 2) (v := .int .i64 ((mulN (mulN (s) ea) eb).z : Int)) (by omega) (cell_set_far (nb := w.heap.size + 1 + 1 + 1) (o2 := 1) (v := .int .i64 ((mulN (mulN (s) ea) eb).x : Int)) (by omega) (cell_set_far (nb := w.heap.size + 1 + 1 + 1) (o2 := 0) (v := .int .i64 ((mulN (mulN (s) ea) eb).p : Int)) (by omega) (below_cell hb4 rfl (cell_drew t1))))
                      replace t2 := cell_set_far (nb := w.heap.size + 1 + 1 + 1) (o2 := 2) (v := .int .i64 ((mulN (mulN (s) ea) eb).z : Int)) (by omega) (cell_set_far (nb := w.heap.size + 1 + 1 + 1) (o2 := 1) (v := .int .i64 ((mulN (mulN (s) ea) eb).x : Int)) (by omega) (cell_set_far (nb := w.heap.size + 1 + 1 + 1) (o2 := 0) (v := .int .i64 ((mulN (mulN (s) ea) eb).p : Int)) (by omega) (below_cell hb4 rfl (cell_drew t2))))
                      replace p1 := cell_set_far (nb := w.heap.size + 1 + 1 + 1) (o2 := 2) (v := .int .i64 ((mulN (mulN (s) ea) eb).z : Int)) (by omega) (cell_set_far (nb := w.heap.size + 1 + 1 + 1) (o2 := 1) (v := .int .i64 ((mulN (mulN (s) ea) eb).x : Int)) (by omega) (cell_set_far (nb := w.heap.size + 1 + 1 + 1) (o2 := 0) (v := .int .i64 ((mulN (mulN (s) ea) eb).p : Int)) (by omega) (below_cell hb4 rfl (cell_drew p1))))
                      replace p2 := cell_set_far (nb := w.heap.size + 1 + 1 + 1) (o2 := 2) (v := .int .i64 ((mulN (mulN (s) ea) eb).z : Int)) (by omega) (cell_set_far (nb := w.heap.size + 1 + 1 + 1) (o2 := 1) (v := .int .i64 ((mulN (mulN (s) ea) eb).x : Int)) (by omega) (cell_set_far (nb := w.heap.size + 1 + 1 + 1) (o2 := 0) (v := .int .i64 ((mulN (mulN (s) ea) eb).p : Int)) (by omega) (below_cell hb4 rfl (cell_drew p2))))
                      replace a0 := cell_set_far (nb := w.heap.size + 1 + 1 + 1) (o2 := 2) (v := .int .i64 ((mulN (mulN (s) ea) eb).z : Int)) (by omega) (cell_set_far (nb := w.heap.size + 1 + 1 + 1) (o2 := 1) (v := .int .i64 ((mulN (mulN (s) ea) eb).x : Int)) (by omega) (cell_set_far (nb := w.heap.size + 1 + 1 + 1) (o2 := 0) (v := .int .i64 ((mulN (mulN (s) ea) eb).p : Int)) (by omega) (below_cell hb4 rfl (cell_drew a0))))
                      replace a1 := cell_set_far (nb := w.heap.size + 1 + 1 + 1) (o2 := 2) (v := .int .i64 ((mulN (mulN (s) ea) eb).z : Int)) (by omega) (cell_set_far (nb := w.heap.size + 1 + 1 + 1) (o2 := 1) (v := .int .i64 ((mulN (mulN (s) ea) eb).x : Int)) (by omega) (cell_set_far (nb := w.heap.size + 1 + 1 + 1) (o2 := 0) (v := .int .i64 ((mulN (mulN (s) ea) eb).p : Int)) (by omega) (below_cell hb4 rfl (cell_drew a1))))
                      replace a2 := cell_set_far (nb := w.heap.size + 1 + 1 + 1) (o2 := 2) (v := .int .i64 ((mulN (mulN (s) ea) eb).z : Int)) (by omega) (cell_set_far (nb := w.heap.size + 1 + 1 + 1) (o2 := 1) (v := .int .i64 ((mulN (mulN (s) ea) eb).x : Int)) (by omega) (cell_set_far (nb := w.heap.size + 1 + 1 + 1) (o2 := 0) (v := .int .i64 ((mulN (mulN (s) ea) eb).p : Int)) (by omega) (below_cell hb4 rfl (cell_drew a2))))
                      replace b0 := cell_set_far (nb := w.heap.size + 1 + 1 + 1) (o2 := 2) (v := .int .i64 ((mulN (mulN (s) ea) eb).z : Int)) (by omega) (cell_set_far (nb := w.heap.size + 1 + 1 + 1) (o2 := 1) (v := .int .i64 ((mulN (mulN (s) ea) eb).x : Int)) (by omega) (cell_set_far (nb := w.heap.size + 1 + 1 + 1) (o2 := 0) (v := .int .i64 ((mulN (mulN (s) ea) eb).p : Int)) (by omega) (below_cell hb4 rfl (cell_drew b0))))
                      replace b1 := cell_set_far (nb := w.heap.size + 1 + 1 + 1) (o2 := 2) (v := .int .i64 ((mulN (mulN (s) ea) eb).z : Int)) (by omega) (cell_set_far (nb := w.heap.size + 1 + 1 + 1) (o2 := 1) (v := .int .i64 ((mulN (mulN (s) ea) eb).x : Int)) (by omega) (cell_set_far (nb := w.heap.size + 1 + 1 + 1) (o2 := 0) (v := .int .i64 ((mulN (mulN (s) ea) eb).p : Int)) (by omega) (below_cell hb4 rfl (cell_drew b1))))
                      replace b2 := cell_set_far (nb := w.heap.size + 1 + 1 + 1) (o2 := 2) (v := .int .i64 ((mulN (mulN (s) ea) eb).z : Int)) (by omega) (cell_set_far (nb := w.heap.size + 1 + 1 + 1) (o2 := 1) (v := .int .i64 ((mulN (mulN (s) ea) eb).x : Int)) (by omega) (cell_set_far (nb := w.heap.size + 1 + 1 + 1) (o2 := 0) (v := .int .i64 ((mulN (mulN (s) ea) eb).p : Int)) (by omega) (below_cell hb4 rfl (cell_drew b2))))
                      have OS4 := Lib.hid (mulN_ok OS3.out OB.out)
                      clear c0 c1 c2 d0 d1 d2 f0 f1 f2 hbel hsz hb4
                      obtain ⟨W4, hW4⟩ : ∃ W, W = (((x4.setCell ⟨w.heap.size + 1 + 1 + 1, 0, none⟩ (.int .i64 ((mulN (mulN (s) ea) eb).p : Int))).setCell ⟨w.heap.size + 1 + 1 + 1, 1, none⟩ (.int .i64 ((mulN (mulN (s) ea) eb).x : Int))).setCell ⟨w.heap.size + 1 + 1 + 1, 2, none⟩ (.int .i64 ((mulN (mulN (s) ea) eb).z : Int))) := ⟨_, rfl⟩
                      rw [← hW4] at x0 x1 x2 y0 y1 y2 hbel2 hsz2 t1 t2 p1 p2 a0 a1 a2 b0 b1 b2 ⊢
                      have HW4 := Lib.hid hW4; clear hW4
                      have c0 := x0; have c1 := x1; have c2 := x2; have f0 := y0; have f1 := y1; have f2 := y2; have hbel := hbel2; have hsz := hsz2; clear x0 x1 x2 y0 y1 y2 hbel2 hsz2
                      go_wp2_with fail
                      go_roundw
                      case rel => exact ⟨k + 1, by omega, by go_num, (by rw [HS.out]; exact c0), (by rw [HS.out]; exact c1), (by rw [HS.out]; exact c2), f0, f1, f2, hbel, hsz⟩
                      case measure => simp [intOf]; omega
                    exact EachB.nil
                  exact EachB.nil
                exact EachB.nil
              exact EachB.nil
          · have e : k = n := by omega
            subst e
            have r0 := (hbel.out.cell (p := ⟨w.heap.size + 1 + 1, 0, none⟩) (by simp)).trans R0.out; have q0 := (hbel.out.frozen (p := ⟨w.heap.size + 1 + 1, 0, none⟩) (by simp)).trans F0.out
            have r1 := (hbel.out.cell (p := ⟨w.heap.size + 1 + 1, 1, none⟩) (by simp)).trans R1.out; have q1 := (hbel.out.frozen (p := ⟨w.heap.size + 1 + 1, 1, none⟩) (by simp)).trans F1.out
            have r2 := (hbel.out.cell (p := ⟨w.heap.size + 1 + 1, 2, none⟩) (by simp)).trans R2.out; have q2 := (hbel.out.frozen (p := ⟨w.heap.size + 1 + 1, 2, none⟩) (by simp)).trans F2.out
            have bw := Lib.hid (show Below w.heap.size w wr from Below.trans BW.out (hbel.out.mono (by omega)))
            go_wp2_with fail
            have hZ := box_set3 (w3 := wr) (nb := w.heap.size + 1 + 1) (.int .i64 ((imgN X Z p k).p : Int)) (.int .i64 ((imgN X Z p k).x : Int)) (.int .i64 ((imgN X Z p k).z : Int)) r0 r1 r2
            refine bodyPost_ret (v := .agg #[.int .i64 ((imgN X Z p k).p : Int), .int .i64 ((imgN X Z p k).x : Int), .int .i64 ((imgN X Z p k).z : Int)]) (by simp [results, Tryz.results33, go_sem, hZ]) rfl ⟨rfl, ?_⟩
            have bq := bw.out
            exact belo
      exact EachB.nil
    exact EachB.nil
  refine EachB.cons rfl (fun K hK hB => ?_) ?_
  · skip
    go_simp
    refine hK.out _ _ ?_ (fun hHeld3 => ?_)
    · ((try dsimp only); (first | exact ⟨p0, p1, p2⟩ | assumption | (go_split_ands; refine ⟨?_, ?_, ?_⟩ <;> (refine cell_alloc_keep _ ?_; assumption))))
    clear hB hK K hHeld0
    refine AnyB.each (rs := [8]) (by kernel_rfl) (by simp) ?_
    refine EachB.cons rfl (fun K hK hB => ?_) ?_
    · skip
      (go_simp; go_at_call 70; refine (Q1.out _ (by omega)).mono ?_; rintro e x1 ⟨rfl, rfl⟩; dsimp only)
      refine hK.out _ _ ?_ (fun hHeld4 => ?_)
      · ((try dsimp only); (first | exact ⟨p0, p1, p2⟩ | assumption | (go_split_ands; refine ⟨?_, ?_, ?_⟩ <;> (refine cell_alloc_keep _ ?_; assumption))))
      clear hB hK K hHeld3
      refine AnyB.tq (i := 9) (h := ?_)
      refine AnyB.tq (i := 10) (h := ?_)
      refine AnyB.tq (i := 11) (h := ?_)
      refine AnyB.each (rs := [13]) (by kernel_rfl) (by simp) ?_
      refine EachB.cons rfl (fun K hK hB => ?_) ?_
      · skip
        go_simp
        refine hB.out _ _ rfl ?_
        clear hB hK K
        refine AnyB.none (by kernel_rfl) ?_ _
        go_wp2_with fail
        clear p0 p1 p2 e1 hu hs ht
        obtain ⟨W0, hW0⟩ : ∃ W0, W0 = (((w.alloc (.cells #[.int .i64 (n : Int), .slice A n cA, .slice A2 n cB] 29)).alloc (.cells #[.int .i64 ((p).p : Int), .int .i64 ((p).x : Int), .int .i64 ((p).z : Int)] 33)).alloc (.cells #[.int .i64 0, .int .i64 0, .int .i64 0] 33)) := ⟨_, rfl⟩
        have BW := Lib.hid (show Below w.heap.size w W0 from by rw [hW0]; exact belo)
        have T1 := Lib.hid (show W0.cell? ⟨w.heap.size, 1, none⟩ = some (.slice A n cA) from by rw [hW0]; exact cela)
        have T2 := Lib.hid (show W0.cell? ⟨w.heap.size, 2, none⟩ = some (.slice A2 n cB) from by rw [hW0]; exact cela)
        have P1 := Lib.hid (show W0.cell? ⟨w.heap.size + 1, 1, none⟩ = some (.int .i64 (p.x : Int)) from by rw [hW0]; exact cela)
        have P2 := Lib.hid (show W0.cell? ⟨w.heap.size + 1, 2, none⟩ = some (.int .i64 (p.z : Int)) from by rw [hW0]; exact cela)
        have R0 := Lib.hid (show W0.cell? ⟨w.heap.size + 1 + 1, 0, none⟩ = some (.int .i64 0) from by rw [hW0]; exact cela)
        have R1 := Lib.hid (show W0.cell? ⟨w.heap.size + 1 + 1, 1, none⟩ = some (.int .i64 0) from by rw [hW0]; exact cela)
        have R2 := Lib.hid (show W0.cell? ⟨w.heap.size + 1 + 1, 2, none⟩ = some (.int .i64 0) from by rw [hW0]; exact cela)
        have F0 := Lib.hid (show W0.frozen? ⟨w.heap.size + 1 + 1, 0, none⟩ = false from by rw [hW0]; exact froza)
        have F1 := Lib.hid (show W0.frozen? ⟨w.heap.size + 1 + 1, 1, none⟩ = false from by rw [hW0]; exact froza)
        have F2 := Lib.hid (show W0.frozen? ⟨w.heap.size + 1 + 1, 2, none⟩ = false from by rw [hW0]; exact froza)
        have HW0 := Lib.hid hW0; clear hW0
        go_loopw [21] (fun i wr => ∃ k : Nat, k ≤ n ∧ i = .int .i64 k ∧ wr.cell? ⟨w.heap.size + 1 + 1 + 1, 0, none⟩ = some (.int .i64 ((imgN X Z p k).p : Int)) ∧ wr.cell? ⟨w.heap.size + 1 + 1 + 1, 1, none⟩ = some (.int .i64 ((imgN X Z p k).x : Int)) ∧ wr.cell? ⟨w.heap.size + 1 + 1 + 1, 2, none⟩ = some (.int .i64 ((imgN X Z p k).z : Int)) ∧ wr.frozen? ⟨w.heap.size + 1 + 1 + 1, 0, none⟩ = false ∧ wr.frozen? ⟨w.heap.size + 1 + 1 + 1, 1, none⟩ = false ∧ wr.frozen? ⟨w.heap.size + 1 + 1 + 1, 2, none⟩ = false ∧ Hid (Below (w.heap.size + 3) W0 wr) ∧ w.heap.size + 4 ≤ wr.heap.size) (fun i _ => n - (intOf i).toNat)
        case atStart => exact ⟨0, by omega, rfl, (by rw [H0.out, show (((p.p + N) % 4 : Nat) : Int) = ((p.p : Int) + N) % 4 from by omega]; exact cela), (by rw [H0.out]; exact cela), (by rw [H0.out]; exact cela), froza, froza, froza, (show Below _ _ _ from by rw [HW0.out]; exact belo), by simp⟩
        case round =>
          obtain ⟨k, hk, rfl, c0, c1, c2, f0, f1, f2, hbel, hsz⟩ := hrel
          have OS := Lib.hid (imgN_ok (p := p) OX.out OZ.out k)
          by_cases hlt : k < n
          · skip
            have HS : Hid (imgN X Z p (k + 1) = (let s1 := if p.x.testBit k = true then mulN (imgN X Z p k) (X.getD k ⟨0, 0, 0⟩) else imgN X Z p k; if p.z.testBit k = true then mulN s1 (Z.getD k ⟨0, 0, 0⟩) else s1)) := rfl
            have bw := Lib.hid (show Below w.heap.size w wr from Below.trans BW.out (hbel.out.mono (by omega)))
            have t1 := (hbel.out.cell (p := ⟨w.heap.size, 1, none⟩) (by simp)).trans T1.out; have t2 := (hbel.out.cell (p := ⟨w.heap.size, 2, none⟩) (by simp)).trans T2.out; have p1 := (hbel.out.cell (p := ⟨w.heap.size + 1, 1, none⟩) (by simp)).trans P1.out; have p2 := (hbel.out.cell (p := ⟨w.heap.size + 1, 2, none⟩) (by simp)).trans P2.out
            obtain ⟨ga, offa, rfl, hga, a0, a1, a2⟩ := HA.out k hlt
            obtain ⟨gb, offb, rfl, hgb, b0, b1, b2⟩ := HB.out k hlt
            replace a0 := (bw.out.cell hga).trans a0
            replace a1 := (bw.out.cell hga).trans a1
            replace a2 := (bw.out.cell hga).trans a2
            replace b0 := (bw.out.cell hgb).trans b0
            replace b1 := (bw.out.cell hgb).trans b1
            replace b2 := (bw.out.cell hgb).trans b2
            have OA := Lib.hid (OX.out.get k); have OB := Lib.hid (OZ.out.get k)
            obtain ⟨s, hs⟩ : ∃ s, s = imgN X Z p k := ⟨_, rfl⟩
            obtain ⟨ea, hea⟩ : ∃ ea, ea = X.getD k ⟨0, 0, 0⟩ := ⟨_, rfl⟩
            obtain ⟨eb, heb⟩ : ∃ eb, eb = Z.getD k ⟨0, 0, 0⟩ := ⟨_, rfl⟩
            rw [← hs] at c0 c1 c2 OS HS; rw [← hea] at a0 a1 a2 OA HS; rw [← heb] at b0 b1 b2 OB HS
            have i1 : (k : Int) < (n : Int) := by omega
            have i2 : (0 : Int) ≤ (k : Int) := by omega
            have k5 : k ≤ 5 := by omega
            have w1 := bit_one p.x k (by omega)
            have w2 := bit_one p.z k (by omega)
            clear hs hea heb HA HB bw
            cases hbx : p.x.testBit k <;> cases hbz : p.z.testBit k
            · rw [bt_bit hbx] at w1; rw [bt_bit hbz] at w2; rw [hbx, hbz] at HS; simp only [Bool.toNat_true, Bool.toNat_false, if_true, if_false, Bool.false_eq_true, Int.natCast_zero, Int.natCast_one, Int.ofNat_zero, Int.ofNat_one] at w1 w2 HS; clear hbx hbz
              go_wp2_with fail
              go_roundw
              case rel => exact ⟨k + 1, by omega, by go_num, (by rw [HS.out]; exact c0), (by rw [HS.out]; exact c1), (by rw [HS.out]; exact c2), f0, f1, f2, hbel, hsz⟩
              case measure => simp [intOf]; omega
            · rw [bt_bit hbx] at w1; rw [bt_bit hbz] at w2; rw [hbx, hbz] at HS; simp only [Bool.toNat_true, Bool.toNat_false, if_true, if_false, Bool.false_eq_true, Int.natCast_zero, Int.natCast_one, Int.ofNat_zero, Int.ofNat_one] at w1 w2 HS; clear hbx hbz
              go_wp2_with fail
              refine AnyB.begin (S := (fun w' => w'.cell? ⟨w.heap.size, 2, none⟩ = some (.slice (some ⟨gb, offb, none⟩) n cB) ∧ w'.cell? ⟨gb, offb + k * 3, none⟩ = some (.int .i64 ((eb).p : Int)) ∧ w'.cell? ⟨gb, offb + k * 3 + 1, none⟩ = some (.int .i64 ((eb).x : Int)) ∧ w'.cell? ⟨gb, offb + k * 3 + 2, none⟩ = some (.int .i64 ((eb).z : Int)) ∧ w'.cell? ⟨w.heap.size + 1 + 1 + 1, 0, none⟩ = some (.int .i64 ((s).p : Int)) ∧ w'.cell? ⟨w.heap.size + 1 + 1 + 1, 1, none⟩ = some (.int .i64 ((s).x : Int)) ∧ w'.cell? ⟨w.heap.size + 1 + 1 + 1, 2, none⟩ = some (.int .i64 ((s).z : Int)))) [7] (by kernel_rfl) ?_ (fun hHeld0 => ?_)
              · ((try dsimp only); (first | exact ⟨t2, b0, b1, b2, c0, c1, c2⟩ | (go_split_ands; refine ⟨?_, ?_, ?_, ?_, ?_, ?_, ?_⟩ <;> (refine below_cell hb3 rfl ?_; assumption))))
              refine AnyB.tk (i := 0) (h := ?_)
              refine AnyB.tq (i := 1) (h := ?_)
              refine AnyB.tk (i := 2) (h := ?_)
              refine AnyB.tq (i := 3) (h := ?_)
              refine AnyB.tq (i := 4) (h := ?_)
              refine AnyB.tk (i := 5) (h := ?_)
              refine AnyB.each (rs := [6]) (by kernel_rfl) (by simp) ?_
              refine EachB.cons rfl (fun K hK hB => ?_) ?_
              · skip
                (go_simp; go_at_call 71; refine (impl_times_any (s) (eb) _ OS.out OB.out).mono ?_; rintro e x3 ⟨rfl, hb3⟩; have d0 := below_cell hb3 rfl (cell_drew c0); have d1 := below_cell hb3 rfl (cell_drew c1); have d2 := below_cell hb3 rfl (cell_drew c2); have f0 := below_frz hb3 rfl (World.block_lt_of_cell? _ _ c0) (frz_drew f0); have f1 := below_frz hb3 rfl (World.block_lt_of_cell? _ _ c0) (frz_drew f1); have f2 := below_frz hb3 rfl (World.block_lt_of_cell? _ _ c0) (frz_drew f2); dsimp only)
                refine hK.out _ _ ?_ (fun hHeld1 => ?_)
                · ((try dsimp only); (first | exact ⟨t2, b0, b1, b2, c0, c1, c2⟩ | (go_split_ands; refine ⟨?_, ?_, ?_, ?_, ?_, ?_, ?_⟩ <;> (refine below_cell hb3 rfl ?_; assumption))))
                clear hB hK K hHeld0
                refine AnyB.each (rs := [7]) (by kernel_rfl) (by simp) ?_
                refine EachB.cons rfl (fun K hK hB => ?_) ?_
                · skip
                  go_simp
                  refine hB.out _ _ rfl ?_
                  clear hB hK K
                  refine AnyB.none (by kernel_rfl) ?_ _
                  obtain ⟨x0, x1, x2⟩ := box_set3 (.int .i64 ((mulN (s) eb).p : Int)) (.int .i64 ((mulN (s) eb).x : Int)) (.int .i64 ((mulN (s) eb).z : Int)) d0 d1 d2
                  have y0 : (((x3.setCell ⟨w.heap.size + 1 + 1 + 1, 0, none⟩ (.int .i64 ((mulN (s) eb).p : Int))).setCell ⟨w.heap.size + 1 + 1 + 1, 1, none⟩ (.int .i64 ((mulN (s) eb).x : Int))).setCell ⟨w.heap.size + 1 + 1 + 1, 2, none⟩ (.int .i64 ((mulN (s) eb).z : Int))).frozen? ⟨w.heap.size + 1 + 1 + 1, 0, none⟩ = false := by rw [World.frozen?_setCell, World.frozen?_setCell, World.frozen?_setCell]; exact f0
                  have y1 : (((x3.setCell ⟨w.heap.size + 1 + 1 + 1, 0, none⟩ (.int .i64 ((mulN (s) eb).p : Int))).setCell ⟨w.heap.size + 1 + 1 + 1, 1, none⟩ (.int .i64 ((mulN (s) eb).x : Int))).setCell ⟨w.heap.size + 1 + 1 + 1, 2, none⟩ (.int .i64 ((mulN (s) eb).z : Int))).frozen? ⟨w.heap.size + 1 + 1 + 1, 1, none⟩ = false := by rw [World.frozen?_setCell, World.frozen?_setCell, World.frozen?_setCell]; exact f1
                  have y2 : (((x3.setCell ⟨w.heap.size + 1 + 1 + 1, 0, none⟩ (.int .i64 ((mulN (s) eb).p : Int))).setCell ⟨w.heap.size + 1 + 1 + 1, 1, none⟩ (.int .i64 ((mulN (s) eb).x : Int))).setCell ⟨w.heap.size + 1 + 1 + 1, 2, none⟩ (.int .i64 ((mulN (s) eb).z : Int))).frozen? ⟨w.heap.size + 1 + 1 + 1, 2, none⟩ = false := by rw [World.frozen?_setCell, World.frozen?_setCell, World.frozen?_setCell]; exact f2
                  have hbel2 := Lib.hid (show Below (w.heap.size + 3) W0 (((x3.setCell ⟨w.heap.size + 1 + 1 + 1, 0, none⟩ (.int .i64 ((mulN (s) eb).p : Int))).setCell ⟨w.heap.size + 1 + 1 + 1, 1, none⟩ (.int .i64 ((mulN (s) eb).x : Int))).setCell ⟨w.heap.size + 1 + 1 + 1, 2, none⟩ (.int .i64 ((mulN (s) eb).z : Int))) from Below.setCell (Below.setCell (Below.setCell (Below.trans hbel.out (Below.trans (show Below (w.heap.size + 3) wr wr.drew from belo) (hb3.mono (by simp; omega)))) (by simp) _) (by simp) _) (by simp) _)
                  have hsz2 : w.heap.size + 4 ≤ (((x3.setCell ⟨w.heap.size + 1 + 1 + 1, 0, none⟩ (.int .i64 ((mulN (s) eb).p : Int))).setCell ⟨w.heap.size + 1 + 1 + 1, 1, none⟩ (.int .i64 ((mulN (s) eb).x : Int))).setCell ⟨w.heap.size + 1 + 1 + 1, 2, none⟩ (.int .i64 ((mulN (s) eb).z : Int))).heap.size := by have := hb3.size; simp at this ⊢; omega
                  replace t1 := cell_set_far (nb := w.heap.size + 1 + 1 + 1) (o2 := 2) (v := .int .i64 ((mulN (s) eb).z : Int)) (by omega) (cell_set_far (nb := w.heap.size + 1 + 1 + 1) (o2 := 1) (v := .int .i64 ((mulN (s) eb).x : Int)) (by omega) (cell_set_far (nb := w.heap.size + 1 + 1 + 1) (o2 := 0) (v := .int .i64 ((mulN (s) eb).p : Int)) (by omega) (below_cell hb3 rfl (cell_drew t1))))
                  replace t2 := cell_set_far (nb := w.heap.size + 1 + 1 + 1) (o2 := 2) (v := .int .i64 ((mulN (s) eb).z : Int)) (by omega) (cell_set_far (nb := w.heap.size + 1 + 1 + 1) (o2 := 1) (v := .int .i64 ((mulN (s) eb).x : Int)) (by omega) (cell_set_far (nb := w.heap.size + 1 + 1 + 1) (o2 := 0) (v := .int .i64 ((mulN (s) eb).p : Int)) (by omega) (below_cell hb3 rfl (cell_drew t2))))
                  replace p1 := cell_set_far (nb := w.heap.size + 1 + 1 + 1) (o2 := 2) (v := .int .i64 ((mulN (s) eb).z : Int)) (by omega) (cell_set_far (nb := w.heap.size + 1 + 1 + 1) (o2 := 1) (v := .int .i64 ((mulN (s) eb).x : Int)) (by omega) (cell_set_far (nb := w.heap.size + 1 + 1 + 1) (o2 := 0) (v := .int .i64 ((mulN (s) eb).p : Int)) (by omega) (below_cell hb3 rfl (cell_drew p1))))
                  replace p2 := cell_set_far (nb := w.heap.size + 1 + 1 + 1) (o2 := 2) (v := .int .i64 ((mulN (s) eb).z : Int)) (by omega) (cell_set_far (nb := w.heap.size + 1 + 1 + 1) (o2 := 1) (v := .int .i64 ((mulN (s) eb).x : Int)) (by omega) (cell_set_far (nb := w.heap.size + 1 + 1 + 1) (o2 := 0) (v := .int .i64 ((mulN (s) eb).p : Int)) (by omega) (below_cell hb3 rfl (cell_drew p2))))
                  replace a0 := cell_set_far (nb := w.heap.size + 1 + 1 + 1) (o2 := 2) (v := .int .i64 ((mulN (s) eb).z : Int)) (by omega) (cell_set_far (nb := w.heap.size + 1 + 1 + 1) (o2 := 1) (v := .int .i64 ((mulN (s) eb).x : Int)) (by omega) (cell_set_far (nb := w.heap.size + 1 + 1 + 1) (o2 := 0) (v := .int .i64 ((mulN (s) eb).p : Int)) (by omega) (below_cell hb3 rfl (cell_drew a0))))
                  replace a1 := cell_set_far (nb := w.heap.size + 1 + 1 + 1) (o2 := 2) (v := .int .i64 ((mulN (s) eb).z : Int)) (by omega) (cell_set_far (nb := w.heap.size + 1 + 1 + 1) (o2 := 1) (v := .int .i64 ((mulN (s) eb).x : Int)) (by omega) (cell_set_far (nb := w.heap.size + 1 + 1 + 1) (o2 := 0) (v := .int .i64 ((mulN (s) eb).p : Int)) (by omega) (below_cell hb3 rfl (cell_drew a1))))
                  replace a2 := cell_set_far (nb := w.heap.size + 1 + 1 + 1) (o2 := 2) (v := .int .i64 ((mulN (s) eb).z : Int)) (by omega) (cell_set_far (nb := w.heap.size + 1 + 1 + 1) (o2 := 1) (v := .int .i64 ((mulN (s) eb).x : Int)) (by omega) (cell_set_far (nb := w.heap.size + 1 + 1 + 1) (o2 := 0) (v := .int .i64 ((mulN (s) eb).p : Int)) (by omega) (below_cell hb3 rfl (cell_drew a2))))
                  replace b0 := cell_set_far (nb := w.heap.size + 1 + 1 + 1) (o2 := 2) (v := .int .i64 ((mulN (s) eb).z : Int)) (by omega) (cell_set_far (nb := w.heap.size + 1 + 1 + 1) (o2 := 1) (v := .int .i64 ((mulN (s) eb).x : Int)) (by omega) (cell_set_far (nb := w.heap.size + 1 + 1 + 1) (o2 := 0) (v := .int .i64 ((mulN (s) eb).p : Int)) (by omega) (below_cell hb3 rfl (cell_drew b0))))
                  replace b1 := cell_set_far (nb := w.heap.size + 1 + 1 + 1) (o2 := 2) (v := .int .i64 ((mulN (s) eb).z : Int)) (by omega) (cell_set_far (nb := w.heap.size + 1 + 1 + 1) (o2 := 1) (v := .int .i64 ((mulN (s) eb).x : Int)) (by omega) (cell_set_far (nb := w.heap.size + 1 + 1 + 1) (o2 := 0) (v := .int .i64 ((mulN (s) eb).p : Int)) (by omega) (below_cell hb3 rfl (cell_drew b1))))
                  replace b2 := cell_set_far (nb := w.heap.size + 1 + 1 + 1) (o2 := 2) (v := .int .i64 ((mulN (s) eb).z : Int)) (by omega) (cell_set_far (nb := w.heap.size + 1 + 1 + 1) (o2 := 1) (v := .int .i64 ((mulN (s) eb).x : Int)) (by omega) (cell_set_far (nb := w.heap.size + 1 + 1 + 1) (o2 := 0) (v := .int .i64 ((mulN (s) eb).p : Int)) (by omega) (below_cell hb3 rfl (cell_drew b2))))
                  have OS3 := Lib.hid (mulN_ok OS.out OB.out)
                  clear c0 c1 c2 d0 d1 d2 f0 f1 f2 hbel hsz hb3
                  obtain ⟨W3, hW3⟩ : ∃ W, W = (((x3.setCell ⟨w.heap.size + 1 + 1 + 1, 0, none⟩ (.int .i64 ((mulN (s) eb).p : Int))).setCell ⟨w.heap.size + 1 + 1 + 1, 1, none⟩ (.int .i64 ((mulN (s) eb).x : Int))).setCell ⟨w.heap.size + 1 + 1 + 1, 2, none⟩ (.int .i64 ((mulN (s) eb).z : Int))) := ⟨_, rfl⟩
                  rw [← hW3] at x0 x1 x2 y0 y1 y2 hbel2 hsz2 t1 t2 p1 p2 a0 a1 a2 b0 b1 b2 ⊢
                  have HW3 := Lib.hid hW3; clear hW3
                  have c0 := x0; have c1 := x1; have c2 := x2; have f0 := y0; have f1 := y1; have f2 := y2; have hbel := hbel2; have hsz := hsz2; clear x0 x1 x2 y0 y1 y2 hbel2 hsz2
                  go_wp2_with fail
                  go_roundw
                  case rel => exact ⟨k + 1, by omega, by go_num, (by rw [HS.out]; exact c0), (by rw [HS.out]; exact c1), (by rw [HS.out]; exact c2), f0, f1, f2, hbel, hsz⟩
                  case measure => simp [intOf]; omega
                exact EachB.nil
              exact EachB.nil
            · rw [bt_bit hbx] at w1; rw [bt_bit hbz] at w2; rw [hbx, hbz] at HS; simp only [Bool.toNat_true, Bool.toNat_false, if_true, if_false, Bool.false_eq_true, Int.natCast_zero, Int.natCast_one, Int.ofNat_zero, Int.ofNat_one] at w1 w2 HS; clear hbx hbz
              go_wp2_with fail
              refine AnyB.begin (S := (fun w' => w'.cell? ⟨w.heap.size, 1, none⟩ = some (.slice (some ⟨ga, offa, none⟩) n cA) ∧ w'.cell? ⟨ga, offa + k * 3, none⟩ = some (.int .i64 ((ea).p : Int)) ∧ w'.cell? ⟨ga, offa + k * 3 + 1, none⟩ = some (.int .i64 ((ea).x : Int)) ∧ w'.cell? ⟨ga, offa + k * 3 + 2, none⟩ = some (.int .i64 ((ea).z : Int)) ∧ w'.cell? ⟨w.heap.size + 1 + 1 + 1, 0, none⟩ = some (.int .i64 ((s).p : Int)) ∧ w'.cell? ⟨w.heap.size + 1 + 1 + 1, 1, none⟩ = some (.int .i64 ((s).x : Int)) ∧ w'.cell? ⟨w.heap.size + 1 + 1 + 1, 2, none⟩ = some (.int .i64 ((s).z : Int)))) [7] (by kernel_rfl) ?_ (fun hHeld0 => ?_)
              · ((try dsimp only); (first | exact ⟨t1, a0, a1, a2, c0, c1, c2⟩ | (go_split_ands; refine ⟨?_, ?_, ?_, ?_, ?_, ?_, ?_⟩ <;> (refine below_cell hb3 rfl ?_; assumption))))
              refine AnyB.tk (i := 0) (h := ?_)
              refine AnyB.tq (i := 1) (h := ?_)
              refine AnyB.tk (i := 2) (h := ?_)
              refine AnyB.tq (i := 3) (h := ?_)
              refine AnyB.tq (i := 4) (h := ?_)
              refine AnyB.tk (i := 5) (h := ?_)
              refine AnyB.each (rs := [6]) (by kernel_rfl) (by simp) ?_
              refine EachB.cons rfl (fun K hK hB => ?_) ?_
              · skip
                (go_simp; go_at_call 71; refine (impl_times_any (s) (ea) _ OS.out OA.out).mono ?_; rintro e x3 ⟨rfl, hb3⟩; have d0 := below_cell hb3 rfl (cell_drew c0); have d1 := below_cell hb3 rfl (cell_drew c1); have d2 := below_cell hb3 rfl (cell_drew c2); have f0 := below_frz hb3 rfl (World.block_lt_of_cell? _ _ c0) (frz_drew f0); have f1 := below_frz hb3 rfl (World.block_lt_of_cell? _ _ c0) (frz_drew f1); have f2 := below_frz hb3 rfl (World.block_lt_of_cell? _ _ c0) (frz_drew f2); dsimp only)
                refine hK.out _ _ ?_ (fun hHeld1 => ?_)
                · ((try dsimp only); (first | exact ⟨t1, a0, a1, a2, c0, c1, c2⟩ | (go_split_ands; refine ⟨?_, ?_, ?_, ?_, ?_, ?_, ?_⟩ <;> (refine below_cell hb3 rfl ?_; assumption))))
                clear hB hK K hHeld0
                refine AnyB.each (rs := [7]) (by kernel_rfl) (by simp) ?_
                refine EachB.cons rfl (fun K hK hB => ?_) ?_
                · skip
                  go_simp
                  refine hB.out _ _ rfl ?_
                  clear hB hK K
                  refine AnyB.none (by kernel_rfl) ?_ _
                  obtain ⟨x0, x1, x2⟩ := box_set3 (.int .i64 ((mulN (s) ea).p : Int)) (.int .i64 ((mulN (s) ea).x : Int)) (.int .i64 ((mulN (s) ea).z : Int)) d0 d1 d2
                  have y0 : (((x3.setCell ⟨w.heap.size + 1 + 1 + 1, 0, none⟩ (.int .i64 ((mulN (s) ea).p : Int))).setCell ⟨w.heap.size + 1 + 1 + 1, 1, none⟩ (.int .i64 ((mulN (s) ea).x : Int))).setCell ⟨w.heap.size + 1 + 1 + 1, 2, none⟩ (.int .i64 ((mulN (s) ea).z : Int))).frozen? ⟨w.heap.size + 1 + 1 + 1, 0, none⟩ = false := by rw [World.frozen?_setCell, World.frozen?_setCell, World.frozen?_setCell]; exact f0
                  have y1 : (((x3.setCell ⟨w.heap.size + 1 + 1 + 1, 0, none⟩ (.int .i64 ((mulN (s) ea).p : Int))).setCell ⟨w.heap.size + 1 + 1 + 1, 1, none⟩ (.int .i64 ((mulN (s) ea).x : Int))).setCell ⟨w.heap.size + 1 + 1 + 1, 2, none⟩ (.int .i64 ((mulN (s) ea).z : Int))).frozen? ⟨w.heap.size + 1 + 1 + 1, 1, none⟩ = false := by rw [World.frozen?_setCell, World.frozen?_setCell, World.frozen?_setCell]; exact f1
                  have y2 : (((x3.setCell ⟨w.heap.size + 1 + 1 + 1, 0, none⟩ (.int .i64 ((mulN (s) ea).p : Int))).setCell ⟨w.heap.size + 1 + 1 + 1, 1, none⟩ (.int .i64 ((mulN (s) ea).x : Int))).setCell ⟨w.heap.size + 1 + 1 + 1, 2, none⟩ (.int .i64 ((mulN (s) ea).z : Int))).frozen? ⟨w.heap.size + 1 + 1 + 1, 2, none⟩ = false := by rw [World.frozen?_setCell, World.frozen?_setCell, World.frozen?_setCell]; exact f2
                  have hbel2 := Lib.hid (show Below (w.heap.size + 3) W0 (((x3.setCell ⟨w.heap.size + 1 + 1 + 1, 0, none⟩ (.int .i64 ((mulN (s) ea).p : Int))).setCell ⟨w.heap.size + 1 + 1 + 1, 1, none⟩ (.int .i64 ((mulN (s) ea).x : Int))).setCell ⟨w.heap.size + 1 + 1 + 1, 2, none⟩ (.int .i64 ((mulN (s) ea).z : Int))) from Below.setCell (Below.setCell (Below.setCell (Below.trans hbel.out (Below.trans (show Below (w.heap.size + 3) wr wr.drew from belo) (hb3.mono (by simp; omega)))) (by simp) _) (by simp) _) (by simp) _)
                  have hsz2 : w.heap.size + 4 ≤ (((x3.setCell ⟨w.heap.size + 1 + 1 + 1, 0, none⟩ (.int .i64 ((mulN (s) ea).p : Int))).setCell ⟨w.heap.size + 1 + 1 + 1, 1, none⟩ (.int .i64 ((mulN (s) ea).x : Int))).setCell ⟨w.heap.size + 1 + 1 + 1, 2, none⟩ (.int .i64 ((mulN (s) ea).z : Int))).heap.size := by have := hb3.size; simp at this ⊢; omega
                  replace t1 := cell_set_far (nb := w.heap.size + 1 + 1 + 1) (o2 := 2) (v := .int .i64 ((mulN (s) ea).z : Int)) (by omega) (cell_set_far (nb := w.heap.size + 1 + 1 + 1) (o2 := 1) (v := .int .i64 ((mulN (s) ea).x : Int)) (by omega) (cell_set_far (nb := w.heap.size + 1 + 1 + 1) (o2 := 0) (v := .int .i64 ((mulN (s) ea).p : Int)) (by omega) (below_cell hb3 rfl (cell_drew t1))))
                  replace t2 := cell_set_far (nb := w.heap.size + 1 + 1 + 1) (o2 := 2) (v := .int .i64 ((mulN (s) ea).z : Int)) (by omega) (cell_set_far (nb := w.heap.size + 1 + 1 + 1) (o2 := 1) (v := .int .i64 ((mulN (s) ea).x : Int)) (by omega) (cell_set_far (nb := w.heap.size + 1 + 1 + 1) (o2 := 0) (v := .int .i64 ((mulN (s) ea).p : Int)) (by omega) (below_cell hb3 rfl (cell_drew t2))))
                  replace p1 := cell_set_far (nb := w.heap.size + 1 + 1 + 1) (o2 := 2) (v := .int .i64 ((mulN (s) ea).z : Int)) (by omega) (cell_set_far (nb := w.heap.size + 1 + 1 + 1) (o2 := 1) (v := .int .i64 ((mulN (s) ea).x : Int)) (by omega) (cell_set_far (nb := w.heap.size + 1 + 1 + 1) (o2 := 0) (v := .int .i64 ((mulN (s) ea).p : Int)) (by omega) (below_cell hb3 rfl (cell_drew p1))))
                  replace p2 := cell_set_far (nb := w.heap.size + 1 + 1 + 1) (o2 := 2) (v := .int .i64 ((mulN (s) ea).z : Int)) (by omega) (cell_set_far (nb := w.heap.size + 1 + 1 + 1) (o2 := 1) (v := .int .i64 ((mulN (s) ea).x : Int)) (by omega) (cell_set_far (nb := w.heap.size + 1 + 1 + 1) (o2 := 0) (v := .int .i64 ((mulN (s) ea).p : Int)) (by omega) (below_cell hb3 rfl (cell_drew p2))))
                  replace a0 := cell_set_far (nb := w.heap.size + 1 + 1 + 1) (o2 := 2) (v := .int .i64 ((mulN (s) ea).z : Int)) (by omega) (cell_set_far (nb := w.heap.size + 1 + 1 + 1) (o2 := 1) (v := .int .i64 ((mulN (s) ea).x : Int)) (by omega) (cell_set_far (nb := w.heap.size + 1 + 1 + 1) (o2 := 0) (v := .int .i64 ((mulN (s) ea).p : Int)) (by omega) (below_cell hb3 rfl (cell_drew a0))))
                  replace a1 := cell_set_far (nb := w.heap.size + 1 + 1 + 1) (o2 := 2) (v := .int .i64 ((mulN (s) ea).z : Int)) (by omega) (cell_set_far (nb := w.heap.size + 1 + 1 + 1) (o2 := 1) (v := .int .i64 ((mulN (s) ea).x : Int)) (by omega) (cell_set_far (nb := w.heap.size + 1 + 1 + 1) (o2 := 0) (v := .int .i64 ((mulN (s) ea).p : Int)) (by omega) (below_cell hb3 rfl (cell_drew a1))))
                  replace a2 := cell_set_far (nb := w.heap.size + 1 + 1 + 1) (o2 := 2) (v := .int .i64 ((mulN (s) ea).z : Int)) (by omega) (cell_set_far (nb := w.heap.size + 1 + 1 + 1) (o2 := 1) (v := .int .i64 ((mulN (s) ea).x : Int)) (by omega) (cell_set_far (nb := w.heap.size + 1 + 1 + 1) (o2 := 0) (v := .int .i64 ((mulN (s) ea).p : Int)) (by omega) (below_cell hb3 rfl (cell_drew a2))))
                  replace b0 := cell_set_far (nb := w.heap.size + 1 + 1 + 1) (o2 := 2) (v := .int .i64 ((mulN (s) ea).z : Int)) (by omega) (cell_set_far (nb := w.heap.size + 1 + 1 + 1) (o2 := 1) (v := .int .i64 ((mulN (s) ea).x : Int)) (by omega) (cell_set_far (nb := w.heap.size + 1 + 1 + 1) (o2 := 0) (v := .int .i64 ((mulN (s) ea).p : Int)) (by omega) (below_cell hb3 rfl (cell_drew b0))))
                  replace b1 := cell_set_far (nb := w.heap.size + 1 + 1 + 1) (o2 := 2) (v := .int .i64 ((mulN (s) ea).z : Int)) (by omega) (cell_set_far (nb := w.heap.size + 1 + 1 + 1) (o2 := 1) (v := .int .i64 ((mulN (s) ea).x : Int)) (by omega) (cell_set_far (nb := w.heap.size + 1 + 1 + 1) (o2 := 0) (v := .int .i64 ((mulN (s) ea).p : Int)) (by omega) (below_cell hb3 rfl (cell_drew b1))))
                  replace b2 := cell_set_far (nb := w.heap.size + 1 + 1 + 1) (o2 := 2) (v := .int .i64 ((mulN (s) ea).z : Int)) (by omega) (cell_set_far (nb := w.heap.size + 1 + 1 + 1) (o2 := 1) (v := .int .i64 ((mulN (s) ea).x : Int)) (by omega) (cell_set_far (nb := w.heap.size + 1 + 1 + 1) (o2 := 0) (v := .int .i64 ((mulN (s) ea).p : Int)) (by omega) (below_cell hb3 rfl (cell_drew b2))))
                  have OS3 := Lib.hid (mulN_ok OS.out OA.out)
                  clear c0 c1 c2 d0 d1 d2 f0 f1 f2 hbel hsz hb3
                  obtain ⟨W3, hW3⟩ : ∃ W, W = (((x3.setCell ⟨w.heap.size + 1 + 1 + 1, 0, none⟩ (.int .i64 ((mulN (s) ea).p : Int))).setCell ⟨w.heap.size + 1 + 1 + 1, 1, none⟩ (.int .i64 ((mulN (s) ea).x : Int))).setCell ⟨w.heap.size + 1 + 1 + 1, 2, none⟩ (.int .i64 ((mulN (s) ea).z : Int))) := ⟨_, rfl⟩
                  rw [← hW3] at x0 x1 x2 y0 y1 y2 hbel2 hsz2 t1 t2 p1 p2 a0 a1 a2 b0 b1 b2 ⊢
                  have HW3 := Lib.hid hW3; clear hW3
                  have c0 := x0; have c1 := x1; have c2 := x2; have f0 := y0; have f1 := y1; have f2 := y2; have hbel := hbel2; have hsz := hsz2; clear x0 x1 x2 y0 y1 y2 hbel2 hsz2
                  go_wp2_with fail
                  go_roundw
                  case rel => exact ⟨k + 1, by omega, by go_num, (by rw [HS.out]; exact c0), (by rw [HS.out]; exact c1), (by rw [HS.out]; exact c2), f0, f1, f2, hbel, hsz⟩
                  case measure => simp [intOf]; omega
                exact EachB.nil
              exact EachB.nil
            · rw [bt_bit hbx] at w1; rw [bt_bit hbz] at w2; rw [hbx, hbz] at HS; simp only [Bool.toNat_true, Bool.toNat_false, if_true, if_false, Bool.false_eq_true, Int.natCast_zero, Int.natCast_one, Int.ofNat_zero, Int.ofNat_one] at w1 w2 HS; clear hbx hbz
              go_wp2_with fail
              refine AnyB.begin (S := (fun w' => w'.cell? ⟨w.heap.size, 1, none⟩ = some (.slice (some ⟨ga, offa, none⟩) n cA) ∧ w'.cell? ⟨ga, offa + k * 3, none⟩ = some (.int .i64 ((ea).p : Int)) ∧ w'.cell? ⟨ga, offa + k * 3 + 1, none⟩ = some (.int .i64 ((ea).x : Int)) ∧ w'.cell? ⟨ga, offa + k * 3 + 2, none⟩ = some (.int .i64 ((ea).z : Int)) ∧ w'.cell? ⟨w.heap.size + 1 + 1 + 1, 0, none⟩ = some (.int .i64 ((s).p : Int)) ∧ w'.cell? ⟨w.heap.size + 1 + 1 + 1, 1, none⟩ = some (.int .i64 ((s).x : Int)) ∧ w'.cell? ⟨w.heap.size + 1 + 1 + 1, 2, none⟩ = some (.int .i64 ((s).z : Int)))) [7] (by kernel_rfl) ?_ (fun hHeld0 => ?_)
              · ((try dsimp only); (first | exact ⟨t1, a0, a1, a2, c0, c1, c2⟩ | (go_split_ands; refine ⟨?_, ?_, ?_, ?_, ?_, ?_, ?_⟩ <;> (refine below_cell hb3 rfl ?_; assumption))))
              refine AnyB.tk (i := 0) (h := ?_)
              refine AnyB.tq (i := 1) (h := ?_)
              refine AnyB.tk (i := 2) (h := ?_)
              refine AnyB.tq (i := 3) (h := ?_)
              refine AnyB.tq (i := 4) (h := ?_)
              refine AnyB.tk (i := 5) (h := ?_)
              refine AnyB.each (rs := [6]) (by kernel_rfl) (by simp) ?_
              refine EachB.cons rfl (fun K hK hB => ?_) ?_
              · skip
                (go_simp; go_at_call 71; refine (impl_times_any (s) (ea) _ OS.out OA.out).mono ?_; rintro e x3 ⟨rfl, hb3⟩; have d0 := below_cell hb3 rfl (cell_drew c0); have d1 := below_cell hb3 rfl (cell_drew c1); have d2 := below_cell hb3 rfl (cell_drew c2); have f0 := below_frz hb3 rfl (World.block_lt_of_cell? _ _ c0) (frz_drew f0); have f1 := below_frz hb3 rfl (World.block_lt_of_cell? _ _ c0) (frz_drew f1); have f2 := below_frz hb3 rfl (World.block_lt_of_cell? _ _ c0) (frz_drew f2); dsimp only)
                refine hK.out _ _ ?_ (fun hHeld1 => ?_)
                · ((try dsimp only); (first | exact ⟨t1, a0, a1, a2, c0, c1, c2⟩ | (go_split_ands; refine ⟨?_, ?_, ?_, ?_, ?_, ?_, ?_⟩ <;> (refine below_cell hb3 rfl ?_; assumption))))
                clear hB hK K hHeld0
                refine AnyB.each (rs := [7]) (by kernel_rfl) (by simp) ?_
                refine EachB.cons rfl (fun K hK hB => ?_) ?_
                · skip
                  go_simp
                  refine hB.out _ _ rfl ?_
                  clear hB hK K
                  refine AnyB.none (by kernel_rfl) ?_ _
                  obtain ⟨x0, x1, x2⟩ := box_set3 (.int .i64 ((mulN (s) ea).p : Int)) (.int .i64 ((mulN (s) ea).x : Int)) (.int .i64 ((mulN (s) ea).z : Int)) d0 d1 d2
                  have y0 : (((x3.setCell ⟨w.heap.size + 1 + 1 + 1, 0, none⟩ (.int .i64 ((mulN (s) ea).p : Int))).setCell ⟨w.heap.size + 1 + 1 + 1, 1, none⟩ (.int .i64 ((mulN (s) ea).x : Int))).setCell ⟨w.heap.size + 1 + 1 + 1, 2, none⟩ (.int .i64 ((mulN (s) ea).z : Int))).frozen? ⟨w.heap.size + 1 + 1 + 1, 0, none⟩ = false := by rw [World.frozen?_setCell, World.frozen?_setCell, World.frozen?_setCell]; exact f0
                  have y1 : (((x3.setCell ⟨w.heap.size + 1 + 1 + 1, 0, none⟩ (.int .i64 ((mulN (s) ea).p : Int))).setCell ⟨w.heap.size + 1 + 1 + 1, 1, none⟩ (.int .i64 ((mulN (s) ea).x : Int))).setCell ⟨w.heap.size + 1 + 1 + 1, 2, none⟩ (.int .i64 ((mulN (s) ea).z : Int))).frozen? ⟨w.heap.size + 1 + 1 + 1, 1, none⟩ = false := by rw [World.frozen?_setCell, World.frozen?_setCell, World.frozen?_setCell]; exact f1
                  have y2 : (((x3.setCell ⟨w.heap.size + 1 + 1 + 1, 0, none⟩ (.int .i64 ((mulN (s) ea).p : Int))).setCell ⟨w.heap.size + 1 + 1 + 1, 1, none⟩ (.int .i64 ((mulN (s) ea).x : Int))).setCell ⟨w.heap.size + 1 + 1 + 1, 2, none⟩ (.int .i64 ((mulN (s) ea).z : Int))).frozen? ⟨w.heap.size + 1 + 1 + 1, 2, none⟩ = false := by rw [World.frozen?_setCell, World.frozen?_setCell, World.frozen?_setCell]; exact f2
                  have hbel2 := Lib.hid (show Below (w.heap.size + 3) W0 (((x3.setCell ⟨w.heap.size + 1 + 1 + 1, 0, none⟩ (.int .i64 ((mulN (s) ea).p : Int))).setCell ⟨w.heap.size + 1 + 1 + 1, 1, none⟩ (.int .i64 ((mulN (s) ea).x : Int))).setCell ⟨w.heap.size + 1 + 1 + 1, 2, none⟩ (.int .i64 ((mulN (s) ea).z : Int))) from Below.setCell (Below.setCell (Below.setCell (Below.trans hbel.out (Below.trans (show Below (w.heap.size + 3) wr wr.drew from belo) (hb3.mono (by simp; omega)))) (by simp) _) (by simp) _) (by simp) _)
                  have hsz2 : w.heap.size + 4 ≤ (((x3.setCell ⟨w.heap.size + 1 + 1 + 1, 0, none⟩ (.int .i64 ((mulN (s) ea).p : Int))).setCell ⟨w.heap.size + 1 + 1 + 1, 1, none⟩ (.int .i64 ((mulN (s) ea).x : Int))).setCell ⟨w.heap.size + 1 + 1 + 1, 2, none⟩ (.int .i64 ((mulN (s) ea).z : Int))).heap.size := by have := hb3.size; simp at this ⊢; omega
                  replace t1 := cell_set_far (nb := w.heap.size + 1 + 1 + 1) (o2 := 2) (v := .int .i64 ((mulN (s) ea).z : Int)) (by omega) (cell_set_far (nb := w.heap.size + 1 + 1 + 1) (o2 := 1) (v := .int .i64 ((mulN (s) ea).x : Int)) (by omega) (cell_set_far (nb := w.heap.size + 1 + 1 + 1) (o2 := 0) (v := .int .i64 ((mulN (s) ea).p : Int)) (by omega) (below_cell hb3 rfl (cell_drew t1))))
                  replace t2 := cell_set_far (nb := w.heap.size + 1 + 1 + 1) (o2 := 2) (v := .int .i64 ((mulN (s) ea).z : Int)) (by omega) (cell_set_far (nb := w.heap.size + 1 + 1 + 1) (o2 := 1) (v := .int .i64 ((mulN (s) ea).x : Int)) (by omega) (cell_set_far (nb := w.heap.size + 1 + 1 + 1) (o2 := 0) (v := .int .i64 ((mulN (s) ea).p : Int)) (by omega) (below_cell hb3 rfl (cell_drew t2))))
                  replace p1 := cell_set_far (nb := w.heap.size + 1 + 1 + 1) (o2 := 2) (v := .int .i64 ((mulN (s) ea).z : Int)) (by omega) (cell_set_far (nb := w.heap.size + 1 + 1 + 1) (o2 := 1) (v := .int .i64 ((mulN (s) ea).x : Int)) (by omega) (cell_set_far (nb := w.heap.size + 1 + 1 + 1) (o2 := 0) (v := .int .i64 ((mulN (s) ea).p : Int)) (by omega) (below_cell hb3 rfl (cell_drew p1))))
                  replace p2 := cell_set_far (nb := w.heap.size + 1 + 1 + 1) (o2 := 2) (v := .int .i64 ((mulN (s) ea).z : Int)) (by omega) (cell_set_far (nb := w.heap.size + 1 + 1 + 1) (o2 := 1) (v := .int .i64 ((mulN (s) ea).x : Int)) (by omega) (cell_set_far (nb := w.heap.size + 1 + 1 + 1) (o2 := 0) (v := .int .i64 ((mulN (s) ea).p : Int)) (by omega) (below_cell hb3 rfl (cell_drew p2))))
                  replace a0 := cell_set_far (nb := w.heap.size + 1 + 1 + 1) (o2 := 2) (v := .int .i64 ((mulN (s) ea).z : Int)) (by omega) (cell_set_far (nb := w.heap.size + 1 + 1 + 1) (o2 := 1) (v := .int .i64 ((mulN (s) ea).x : Int)) (by omega) (cell_set_far (nb := w.heap.size + 1 + 1 + 1) (o2 := 0) (v := .int .i64 ((mulN (s) ea).p : Int)) (by omega) (below_cell hb3 rfl (cell_drew a0))))
                  replace a1 := cell_set_far (nb := w.heap.size + 1 + 1 + 1) (o2 := 2) (v := .int .i64 ((mulN (s) ea).z : Int)) (by omega) (cell_set_far (nb := w.heap.size + 1 + 1 + 1) (o2 := 1) (v := .int .i64 ((mulN (s) ea).x : Int)) (by omega) (cell_set_far (nb := w.heap.size + 1 + 1 + 1) (o2 := 0) (v := .int .i64 ((mulN (s) ea).p : Int)) (by omega) (below_cell hb3 rfl (cell_drew a1))))
                  replace a2 := cell_set_far (nb := w.heap.size + 1 + 1 + 1) (o2 := 2) (v := .int .i64 ((mulN (s) ea).z : Int)) (by omega) (cell_set_far (nb := w.heap.size + 1 + 1 + 1) (o2 := 1) (v := .int .i64 ((mulN (s) ea).x : Int)) (by omega) (cell_set_far (nb := w.heap.size + 1 + 1 + 1) (o2 := 0) (v := .int .i64 ((mulN (s) ea).p : Int)) (by omega) (below_cell hb3 rfl (cell_drew a2))))
                  replace b0 := cell_set_far (nb := w.heap.size + 1 + 1 + 1) (o2 := 2) (v := .int .i64 ((mulN (s) ea).z : Int)) (by omega) (cell_set_far (nb := w.heap.size + 1 + 1 + 1) (o2 := 1) (v := .int .i64 ((mulN (s) ea).x : Int)) (by omega) (cell_set_far (nb := w.heap.size + 1 + 1 + 1) (o2 := 0) (v := .int .i64 ((mulN (s) ea).p : Int)) (by omega) (below_cell hb3 rfl (cell_drew b0))))
                  replace b1 := cell_set_far (nb := w.heap.size + 1 + 1 + 1) (o2 := 2) (v := .int .i64 ((mulN (s) ea).z : Int)) (by omega) (cell_set_far (nb := w.heap.size + 1 + 1 + 1) (o2 := 1) (v := .int .i64 ((mulN (s) ea).x : Int)) (by omega) (cell_set_far (nb := w.heap.size + 1 + 1 + 1) (o2 := 0) (v := .int .i64 ((mulN (s) ea).p : Int)) (by omega) (below_cell hb3 rfl (cell_drew b1))))
                  replace b2 := cell_set_far (nb := w.heap.size + 1 + 1 + 1) (o2 := 2) (v := .int .i64 ((mulN (s) ea).z : Int)) (by omega) (cell_set_far (nb := w.heap.size + 1 + 1 + 1) (o2 := 1) (v := .int .i64 ((mulN (s) ea).x : Int)) (by omega) (cell_set_far (nb := w.heap.size + 1 + 1 + 1) (o2 := 0) (v := .int .i64 ((mulN (s) ea).p : Int)) (by omega) (below_cell hb3 rfl (cell_drew b2))))
                  have OS3 := Lib.hid (mulN_ok OS.out OA.out)
                  clear c0 c1 c2 d0 d1 d2 f0 f1 f2 hbel hsz hb3
                  obtain ⟨W3, hW3⟩ : ∃ W, W = (((x3.setCell ⟨w.heap.size + 1 + 1 + 1, 0, none⟩ (.int .i64 ((mulN (s) ea).p : Int))).setCell ⟨w.heap.size + 1 + 1 + 1, 1, none⟩ (.int .i64 ((mulN (s) ea).x : Int))).setCell ⟨w.heap.size + 1 + 1 + 1, 2, none⟩ (.int .i64 ((mulN (s) ea).z : Int))) := ⟨_, rfl⟩
                  rw [← hW3] at x0 x1 x2 y0 y1 y2 hbel2 hsz2 t1 t2 p1 p2 a0 a1 a2 b0 b1 b2 ⊢
                  have HW3 := Lib.hid hW3; clear hW3
                  have c0 := x0; have c1 := x1; have c2 := x2; have f0 := y0; have f1 := y1; have f2 := y2; have hbel := hbel2; have hsz := hsz2; clear x0 x1 x2 y0 y1 y2 hbel2 hsz2
                  go_wp2_with fail
                  refine AnyB.begin (S := (fun w' => w'.cell? ⟨w.heap.size, 2, none⟩ = some (.slice (some ⟨gb, offb, none⟩) n cB) ∧ w'.cell? ⟨gb, offb + k * 3, none⟩ = some (.int .i64 ((eb).p : Int)) ∧ w'.cell? ⟨gb, offb + k * 3 + 1, none⟩ = some (.int .i64 ((eb).x : Int)) ∧ w'.cell? ⟨gb, offb + k * 3 + 2, none⟩ = some (.int .i64 ((eb).z : Int)) ∧ w'.cell? ⟨w.heap.size + 1 + 1 + 1, 0, none⟩ = some (.int .i64 ((mulN (s) ea).p : Int)) ∧ w'.cell? ⟨w.heap.size + 1 + 1 + 1, 1, none⟩ = some (.int .i64 ((mulN (s) ea).x : Int)) ∧ w'.cell? ⟨w.heap.size + 1 + 1 + 1, 2, none⟩ = some (.int .i64 ((mulN (s) ea).z : Int)))) [7] (by kernel_rfl) ?_ (fun hHeld0 => ?_)
                  · ((try dsimp only); (first | exact ⟨t2, b0, b1, b2, c0, c1, c2⟩ | (go_split_ands; refine ⟨?_, ?_, ?_, ?_, ?_, ?_, ?_⟩ <;> (refine below_cell hb4 rfl ?_; assumption))))
                  refine AnyB.tk (i := 0) (h := ?_)
                  refine AnyB.tq (i := 1) (h := ?_)
                  refine AnyB.tk (i := 2) (h := ?_)
                  refine AnyB.tq (i := 3) (h := ?_)
                  refine AnyB.tq (i := 4) (h := ?_)
                  refine AnyB.tk (i := 5) (h := ?_)
                  refine AnyB.each (rs := [6]) (by kernel_rfl) (by simp) ?_
                  refine EachB.cons rfl (fun K hK hB => ?_) ?_
                  · skip
                    (go_simp; go_at_call 71; refine (impl_times_any (mulN (s) ea) (eb) _ OS3.out OB.out).mono ?_; rintro e x4 ⟨rfl, hb4⟩; have d0 := below_cell hb4 rfl (cell_drew c0); have d1 := below_cell hb4 rfl (cell_drew c1); have d2 := below_cell hb4 rfl (cell_drew c2); have f0 := below_frz hb4 rfl (World.block_lt_of_cell? _ _ c0) (frz_drew f0); have f1 := below_frz hb4 rfl (World.block_lt_of_cell? _ _ c0) (frz_drew f1); have f2 := below_frz hb4 rfl (World.block_lt_of_cell? _ _ c0) (frz_drew f2); dsimp only)
                    refine hK.out _ _ ?_ (fun hHeld1 => ?_)
                    · ((try dsimp only); (first | exact ⟨t2, b0, b1, b2, c0, c1, c2⟩ | (go_split_ands; refine ⟨?_, ?_, ?_, ?_, ?_, ?_, ?_⟩ <;> (refine below_cell hb4 rfl ?_; assumption))))
                    clear hB hK K hHeld0
                    refine AnyB.each (rs := [7]) (by kernel_rfl) (by simp) ?_
                    refine EachB.cons rfl (fun K hK hB => ?_) ?_
                    · skip
                      go_simp
                      refine hB.out _ _ rfl ?_
                      clear hB hK K
                      refine AnyB.none (by kernel_rfl) ?_ _
                      obtain ⟨x0, x1, x2⟩ := box_set3 (.int .i64 ((mulN (mulN (s) ea) eb).p : Int)) (.int .i64 ((mulN (mulN (s) ea) eb).x : Int)) (.int .i64 ((mulN (mulN (s) ea) eb).z : Int)) d0 d1 d2
                      have y0 : (((x4.setCell ⟨w.heap.size + 1 + 1 + 1, 0, none⟩ (.int .i64 ((mulN (mulN (s) ea) eb).p : Int))).setCell ⟨w.heap.size + 1 + 1 + 1, 1, none⟩ (.int .i64 ((mulN (mulN (s) ea) eb).x : Int))).setCell ⟨w.heap.size + 1 + 1 + 1, 2, none⟩ (.int .i64 ((mulN (mulN (s) ea) eb).z : Int))).frozen? ⟨w.heap.size + 1 + 1 + 1, 0, none⟩ = false := by rw [World.frozen?_setCell, World.frozen?_setCell, World.frozen?_setCell]; exact f0
                      have y1 : (((x4.setCell ⟨w.heap.size + 1 + 1 + 1, 0, none⟩ (.int .i64 ((mulN (mulN (s) ea) eb).p : Int))).setCell ⟨w.heap.size + 1 + 1 + 1, 1, none⟩ (.int .i64 ((mulN (mulN (s) ea) eb).x : Int))).setCell ⟨w.heap.size + 1 + 1 + 1, 2, none⟩ (.int .i64 ((mulN (mulN (s) ea) eb).z : Int))).frozen? ⟨w.heap.size + 1 + 1 + 1, 1, none⟩ = false := by rw [World.frozen?_setCell, World.frozen?_setCell, World.frozen?_setCell]; exact f1
                      have y2 : (((x4.setCell ⟨w.heap.size + 1 + 1 + 1, 0, none⟩ (.int .i64 ((mulN (mulN (s) ea) eb).p : Int))).setCell ⟨w.heap.size + 1 + 1 + 1, 1, none⟩ (.int .i64 ((mulN (mulN (s) ea) eb).x : Int))).setCell ⟨w.heap.size + 1 + 1 + 1, 2, none⟩ (.int .i64 ((mulN (mulN (s) ea) eb).z : Int))).frozen? ⟨w.heap.size + 1 + 1 + 1, 2, none⟩ = false := by rw [World.frozen?_setCell, World.frozen?_setCell, World.frozen?_setCell]; exact f2
                      have hbel2 := Lib.hid (show Below (w.heap.size + 3) W0 (((x4.setCell ⟨w.heap.size + 1 + 1 + 1, 0, none⟩ (.int .i64 ((mulN (mulN (s) ea) eb).p : Int))).setCell ⟨w.heap.size + 1 + 1 + 1, 1, none⟩ (.int .i64 ((mulN (mulN (s) ea) eb).x : Int))).setCell ⟨w.heap.size + 1 + 1 + 1, 2, none⟩ (.int .i64 ((mulN (mulN (s) ea) eb).z : Int))) from Below.setCell (Below.setCell (Below.setCell (Below.trans hbel.out (Below.trans (show Below (w.heap.size + 3) W3 W3.drew from belo) (hb4.mono (by simp; omega)))) (by simp) _) (by simp) _) (by simp) _)
                      have hsz2 : w.heap.size + 4 ≤ (((x4.setCell ⟨w.heap.size + 1 + 1 + 1, 0, none⟩ (.int .i64 ((mulN (mulN (s) ea) eb).p : Int))).setCell ⟨w.heap.size + 1 + 1 + 1, 1, none⟩ (.int .i64 ((mulN (mulN (s) ea) eb).x : Int))).setCell ⟨w.heap.size + 1 + 1 + 1, 2, none⟩ (.int .i64 ((mulN (mulN (s) ea) eb).z : Int))).heap.size := by have := hb4.size; simp at this ⊢; omega
                      replace t1 := cell_set_far (nb := w.heap.size + 1 + 1 + 1) (o2 := 2) (v := .int .i64 ((mulN (mulN (s) ea) eb).z : Int)) (by omega) (cell_set_far (nb := w.heap.size + 1 + 1 + 1) (o2 := 1) (v := .int .i64 ((mulN (mulN (s) ea) eb).x : Int)) (by omega) (cell_set_far (nb := w.heap.size + 1 + 1 + 1) (o2 := 0) (v := .int .i64 ((mulN (mulN (s) ea) eb).p : Int)) (by omega) (below_cell hb4 rfl (cell_drew t1))))
                      replace t2 := cell_set_far (nb := w.heap.size + 1 + 1 + 1) (o2 := 2) (v := .int .i64 ((mulN (mulN (s) ea) eb).z : Int)) (by omega) (cell_set_far (nb := w.heap.size + 1 + 1 + 1) (o2 := 1) (v := .int .i64 ((mulN (mulN (s) ea) eb).x : Int)) (by omega) (cell_set_far (nb := w.heap.size + 1 + 1 + 1) (o2 := 0) (v := .int .i64 ((mulN (mulN (s) ea) eb).p : Int)) (by omega) (below_cell hb4 rfl (cell_drew t2))))
                      replace p1 := cell_set_far (nb := w.heap.size + 1 + 1 + 1) (o2 := 2) (v := .int .i64 ((mulN (mulN (s) ea) eb).z : Int)) (by omega) (cell_set_far (nb := w.heap.size + 1 + 1 + 1) (o2 := 1) (v := .int .i64 ((mulN (mulN (s) ea) eb).x : Int)) (by omega) (cell_set_far (nb := w.heap.size + 1 + 1 + 1) (o2 := 0) (v := .int .i64 ((mulN (mulN (s) ea) eb).p : Int)) (by omega) (below_cell hb4 rfl (cell_drew p1))))
                      replace p2 := cell_set_far (nb := w.heap.size + 1 + 1 + 1) (o2 := 2) (v := .int .i64 ((mulN (mulN (s) ea) eb).z : Int)) (by omega) (cell_set_far (nb := w.heap.size + 1 + 1 + 1) (o2 := 1) (v := .int .i64 ((mulN (mulN (s) ea) eb).x : Int)) (by omega) (cell_set_far (nb := w.heap.size + 1 + 1 + 1) (o2 := 0) (v := .int .i64 ((mulN (mulN (s) ea) eb).p : Int)) (by omega) (below_cell hb4 rfl (cell_drew p2))))
                      replace a0 := cell_set_far (nb := w.heap.size + 1 + 1 + 1) (o2 := 2) (v := .int .i64 ((mulN (mulN (s) ea) eb).z : Int)) (by omega) (cell_set_far (nb := w.heap.size + 1 + 1 + 1) (o2 := 1) (v := .int .i64 ((mulN (mulN (s) ea) eb).x : Int)) (by omega) (cell_set_far (nb := w.heap.size + 1 + 1 + 1) (o2 := 0) (v := .int .i64 ((mulN (mulN (s) ea) eb).p : Int)) (by omega) (below_cell hb4 rfl (cell_drew a0))))
                      replace a1 := cell_set_far (nb := w.heap.size + 1 + 1 + 1) (o2 := 2) (v := .int .i64 ((mulN (mulN (s) ea) eb).z : Int)) (by omega) (cell_set_far (nb := w.heap.size + 1 + 1 + 1) (o2 := 1) (v := .int .i64 ((mulN (mulN (s) ea) eb).x : Int)) (by omega) (cell_set_far (nb := w.heap.size + 1 + 1 + 1) (o2 := 0) (v := .int .i64 ((mulN (mulN (s) ea) eb).p : Int)) (by omega) (below_cell hb4 rfl (cell_drew a1))))
                      replace a2 := cell_set_far (nb := w.heap.size + 1 + 1 + 1) (o2 := 2) (v := .int .i64 ((mulN (mulN (s) ea) eb).z : Int)) (by omega) (cell_set_far (nb := w.heap.size + 1 + 1 + 1) (o2 := 1) (v := .int .i64 ((mulN (mulN (s) ea) eb).x : Int)) (by omega) (cell_set_far (nb := w.heap.size + 1 + 1 + 1) (o2 := 0) (v := .int .i64 ((mulN (mulN (s) ea) eb).p : Int)) (by omega) (below_cell hb4 rfl (cell_drew a2))))
                      replace b0 := cell_set_far (nb := w.heap.size + 1 + 1 + 1) (o2 := 2) (v := .int .i64 ((mulN (mulN (s) ea) eb).z : Int)) (by omega) (cell_set_far (nb := w.heap.size + 1 + 1 + 1) (o2 := 1) (v := .int .i64 ((mulN (mulN (s) ea) eb).x : Int)) (by omega) (cell_set_far (nb := w.heap.size + 1 + 1 + 1) (o2 := 0) (v := .int .i64 ((mulN (mulN (s) ea) eb).p : Int)) (by omega) (below_cell hb4 rfl (cell_drew b0))))
                      replace b1 := cell_set_far (nb := w.heap.size + 1 + 1 + 1) (o2 := 2) (v := .int .i64 ((mulN (mulN (s) ea) eb).z : Int)) (by omega) (cell_set_far (nb := w.heap.size + 1 + 1 + 1) (o2 := 1) (v := .int .i64 ((mulN (mulN (s) ea) eb).x : Int)) (by omega) (cell_set_far (nb := w.heap.size + 1 + 1 + 1) (o2 := 0) (v := .int .i64 ((mulN (mulN (s) ea) eb).p : Int)) (by omega) (below_cell hb4 rfl (cell_drew b1))))
                      replace b2 := cell_set_far (nb := w.heap.size + 1 + 1 + 1) (o2 := 2) (v := .int .i64 ((mulN (mulN (s) ea) eb).z : Int)) (by omega) (cell_set_far (nb := w.heap.size + 1 + 1 + 1) (o2 := 1) (v := .int .i64 ((mulN (mulN (s) ea) eb).x : Int)) (by omega) (cell_set_far (nb := w.heap.size + 1 + 1 + 1) (o2 := 0) (v := .int .i64 ((mulN (mulN (s) ea) eb).p : Int)) (by omega) (below_cell hb4 rfl (cell_drew b2))))
                      have OS4 := Lib.hid (mulN_ok OS3.out OB.out)
                      clear c0 c1 c2 d0 d1 d2 f0 f1 f2 hbel hsz hb4
                      obtain ⟨W4, hW4⟩ : ∃ W, W = (((x4.setCell ⟨w.heap.size + 1 + 1 + 1, 0, none⟩ (.int .i64 ((mulN (mulN (s) ea) eb).p : Int))).setCell ⟨w.heap.size + 1 + 1 + 1, 1, none⟩ (.int .i64 ((mulN (mulN (s) ea) eb).x : Int))).setCell ⟨w.heap.size + 1 + 1 + 1, 2, none⟩ (.int .i64 ((mulN (mulN (s) ea) eb).z : Int))) := ⟨_, rfl⟩
                      rw [← hW4] at x0 x1 x2 y0 y1 y2 hbel2 hsz2 t1 t2 p1 p2 a0 a1 a2 b0 b1 b2 ⊢
                      have HW4 := Lib.hid hW4; clear hW4
                      have c0 := x0; have c1 := x1; have c2 := x2; have f0 := y0; have f1 := y1; have f2 := y2; have hbel := hbel2; have hsz := hsz2; clear x0 x1 x2 y0 y1 y2 hbel2 hsz2
                      go_wp2_with fail
                      go_roundw
                      case rel => exact ⟨k + 1, by omega, by go_num, (by rw [HS.out]; exact c0), (by rw [HS.out]; exact c1), (by rw [HS.out]; exact c2), f0, f1, f2, hbel, hsz⟩
                      case measure => simp [intOf]; omega
                    exact EachB.nil
                  exact EachB.nil
                exact EachB.nil
              exact EachB.nil
          · have e : k = n := by omega
            subst e
            have r0 := (hbel.out.cell (p := ⟨w.heap.size + 1 + 1, 0, none⟩) (by simp)).trans R0.out; have q0 := (hbel.out.frozen (p := ⟨w.heap.size + 1 + 1, 0, none⟩) (by simp)).trans F0.out
            have r1 := (hbel.out.cell (p := ⟨w.heap.size + 1 + 1, 1, none⟩) (by simp)).trans R1.out; have q1 := (hbel.out.frozen (p := ⟨w.heap.size + 1 + 1, 1, none⟩) (by simp)).trans F1.out
            have r2 := (hbel.out.cell (p := ⟨w.heap.size + 1 + 1, 2, none⟩) (by simp)).trans R2.out; have q2 := (hbel.out.frozen (p := ⟨w.heap.size + 1 + 1, 2, none⟩) (by simp)).trans F2.out
            have bw := Lib.hid (show Below w.heap.size w wr from Below.trans BW.out (hbel.out.mono (by omega)))
            go_wp2_with fail
            have hZ := box_set3 (w3 := wr) (nb := w.heap.size + 1 + 1) (.int .i64 ((imgN X Z p k).p : Int)) (.int .i64 ((imgN X Z p k).x : Int)) (.int .i64 ((imgN X Z p k).z : Int)) r0 r1 r2
            refine bodyPost_ret (v := .agg #[.int .i64 ((imgN X Z p k).p : Int), .int .i64 ((imgN X Z p k).x : Int), .int .i64 ((imgN X Z p k).z : Int)]) (by simp [results, Tryz.results33, go_sem, hZ]) rfl ⟨rfl, ?_⟩
            have bq := bw.out
            exact belo
      exact EachB.nil
    exact EachB.nil
  exact EachB.nil
end Go.Proofs.YtnckabohlakbgaaGreat
