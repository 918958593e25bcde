/- Two tableaux, one after the other: the program's compose. -/
import Derived.Test.YtnckabohlakbgaaGreatZ16Img2
import Derived.Test.YtnckabohlakbgaaGreatZ06Brk
import Derived.Test.YtnckabohlakbgaaGreatZ03M
import Derived.Test.YtnckabohlakbgaaGreatZ17M
import Derived.Deep.RegionLaw
import Derived.Test.YtnckabohlakbgaaGreatZ14M
import Derived.Deep.LoopGhost
import Derived.Shelf.Abstract
namespace Go.Proofs.YtnckabohlakbgaaGreat
set_option linter.unusedSimpArgs false
set_option linter.unusedVariables false
set_option linter.unnecessarySimpa false
set_option maxRecDepth 200000
open Go.ChangeShapes Go.WideShapes Go.ChangeAt Go.RowKit

def compL (f : List PN → List PN → PN → Nat → PN) (X Z : List PN) (n : Nat) (L : List PN) : List PN := L.map fun p => f X Z p n
theorem comp_succ (f : List PN → List PN → PN → Nat → PN) (X Z : List PN) (n : Nat) {L : List PN} {k : Nat} (h : k < L.length) : (pes (compL f X Z n (L.take (k + 1)))).flatMap E3.cs = (pes (compL f X Z n (L.take k))).flatMap E3.cs ++ (f X Z (L.getD k ⟨0, 0, 0⟩) n).e.cs := by
  have e : L.getD k ⟨0, 0, 0⟩ = L[k] := by simp [List.getD, h]
  rw [List.take_succ_eq_append_getElem h, e]
  unfold compL pes
  rw [List.map_append, List.map_append, List.flatMap_append]
  congr 1
theorem grown_lo {w w' : World} {v u : Value} {base sz n b o : Nat} {e : TypeId} {xs : List Value} (hown : w.ownsRow base e sz v n xs) (hg : w.grownBy w' v.ownBlock) (hlt : b < base) (hc : w.cell? ⟨b, o, none⟩ = some u) : w'.cell? ⟨b, o, none⟩ = some u :=
  (grown_old hown hg hlt (World.block_lt_of_cell? w ⟨b, o, none⟩ hc)).1.trans hc
set_option maxHeartbeats 16000000 in
theorem impl_compose_any (n : Nat) (X1 Z1 X2 Z2 : List PN) (v0 v1 u0 u1 : Value) (w : World) (hn : n ≤ 5) (lX1 : X1.length = n) (lZ1 : Z1.length = n) (lX2 : X2.length = n) (lZ2 : Z2.length = n) (okX1 : PLok X1) (okZ1 : PLok Z1) (okX2 : PLok X2) (okZ2 : PLok Z2) (h0 : RdE w v0 E3.cs 3 (pes X1)) (h1 : RdE w v1 E3.cs 3 (pes Z1)) (k0 : RdE w u0 E3.cs 3 (pes X2)) (k1 : RdE w u1 E3.cs 3 (pes Z2)) :
    Calls Tryz.prog 26 #[.agg #[.int .i64 (n : Int), v0, v1], .agg #[.int .i64 (n : Int), u0, u1]] w fun e w' => ∃ r0 r1, e = .returned (.agg #[.int .i64 (n : Int), r0, r1]) ∧ OwnE w' w.heap.size 33 r0 E3.cs 3 (pes (compL imgN X2 Z2 n X1)) ∧ OwnE w' w.heap.size 33 r1 E3.cs 3 (pes (compL imgN X2 Z2 n Z1)) ∧ Apart r0 r1 ∧ Below w.heap.size w w' := by
  obtain ⟨i0, hi, hz0, hz1, hz2⟩ := info_parts info_Pauli
  have HK0 := Lib.hid k0; have HK1 := Lib.hid k1
  obtain ⟨A, cA, rfl, HA⟩ := pes_at h0
  obtain ⟨A2, cB, rfl, HB⟩ := pes_at h1
  obtain ⟨C, cC, rfl, _⟩ := pes_at k0
  obtain ⟨C2, cD, rfl, _⟩ := pes_at k1
  rw [lX1] at HA ⊢; rw [lZ1] at HB ⊢; rw [lX2] at HK0 ⊢; rw [lZ2] at HK1 ⊢
  have LX2 := Lib.hid lX2; have LZ2 := Lib.hid lZ2; have OX2 := Lib.hid okX2; have OZ2 := Lib.hid okZ2; have OX1 := Lib.hid okX1; have OZ1 := Lib.hid okZ1
  have LX1 := Lib.hid lX1; have LZ1 := Lib.hid lZ1
  clear h0 h1 k0 k1 lX1 lZ1 lX2 lZ2 okX1 okZ1 okX2 okZ2
  go_enter Tryz.func26, Tryz.ntmps26
  go_wp2_with fail
  obtain ⟨W0, hW0⟩ : ∃ W0, W0 = (((w.alloc (.cells #[.int .i64 (n : Int), .slice A n cA, .slice A2 n cB] 29)).alloc (.cells #[.int .i64 (n : Int), .slice C n cC, .slice C2 n cD] 29)).alloc (.cells #[.int .i64 0, .slice none 0 0, .slice none 0 0] 29)) := ⟨_, rfl⟩
  have BW := Lib.hid (show Below w.heap.size w W0 from by rw [hW0]; exact belo)
  have SW := Lib.hid (show W0.heap.size = w.heap.size + 3 from by rw [hW0]; simp)
  have T0 := Lib.hid (show W0.cell? ⟨w.heap.size, 0, none⟩ = some (.int .i64 (n : Int)) from by rw [hW0]; exact cela)
  have T1 := Lib.hid (show W0.cell? ⟨w.heap.size, 1, none⟩ = some (.slice A n cA) from by rw [hW0]; exact cela)
  have T2 := Lib.hid (show W0.cell? ⟨w.heap.size, 2, none⟩ = some (.slice A2 n cB) from by rw [hW0]; exact cela)
  have S0 := Lib.hid (show W0.cell? ⟨w.heap.size + 1, 0, none⟩ = some (.int .i64 (n : Int)) from by rw [hW0]; exact cela)
  have S1 := Lib.hid (show W0.cell? ⟨w.heap.size + 1, 1, none⟩ = some (.slice C n cC) from by rw [hW0]; exact cela)
  have S2 := Lib.hid (show W0.cell? ⟨w.heap.size + 1, 2, none⟩ = some (.slice C2 n cD) from by rw [hW0]; exact cela)
  have R0 := Lib.hid (show W0.cell? ⟨w.heap.size + 1 + 1, 0, none⟩ = some (.int .i64 0) from by rw [hW0]; exact cela)
  have R1 := Lib.hid (show W0.cell? ⟨w.heap.size + 1 + 1, 1, none⟩ = some (.slice none 0 0) from by rw [hW0]; exact cela)
  have R2 := Lib.hid (show W0.cell? ⟨w.heap.size + 1 + 1, 2, none⟩ = some (.slice none 0 0) from by rw [hW0]; exact cela)
  have Q0 := Lib.hid (show W0.frozen? ⟨w.heap.size + 1 + 1, 0, none⟩ = false from by rw [hW0]; exact froza)
  have Q1 := Lib.hid (show W0.frozen? ⟨w.heap.size + 1 + 1, 1, none⟩ = false from by rw [hW0]; exact froza)
  have Q2 := Lib.hid (show W0.frozen? ⟨w.heap.size + 1 + 1, 2, none⟩ = false from by rw [hW0]; exact froza)
  have HW0 := Lib.hid hW0; clear hW0
  go_loopw [12] (fun i wr => ∃ (k : Nat) (vx vz : Value), k ≤ n ∧ i = .int .i64 k ∧ wr.cell? ⟨w.heap.size + 1 + 1 + 1, 0, none⟩ = some (.int .i64 (n : Int)) ∧ wr.cell? ⟨w.heap.size + 1 + 1 + 1, 1, none⟩ = some vx ∧ wr.cell? ⟨w.heap.size + 1 + 1 + 1, 2, none⟩ = some vz ∧ wr.frozen? ⟨w.heap.size + 1 + 1 + 1, 1, none⟩ = false ∧ wr.frozen? ⟨w.heap.size + 1 + 1 + 1, 2, none⟩ = false ∧ Hid (wr.ownsRow (w.heap.size + 1 + 1 + 1 + 1) 33 3 vx k ((pes (compL imgN X2 Z2 n (X1.take k))).flatMap E3.cs)) ∧ Hid (wr.ownsRow (w.heap.size + 1 + 1 + 1 + 1) 33 3 vz k ((pes (compL imgN X2 Z2 n (Z1.take k))).flatMap E3.cs)) ∧ Hid (Apart vx vz) ∧ Hid (Below (w.heap.size + 1 + 1 + 1) W0 wr) ∧ w.heap.size + 4 ≤ wr.heap.size) (fun i _ => n - (intOf i).toNat)
  case atStart => exact ⟨0, .slice none 0 0, .slice none 0 0, Nat.zero_le _, rfl, cela, cela, cela, froza, froza, World.ownsRow_nil _ _ _ _, World.ownsRow_nil _ _ _ _, apart_nil _, (show Below _ _ _ from by rw [HW0.out]; exact belo), by simp⟩
  case round =>
    obtain ⟨k, vx, vz, hk, rfl, c0, c1, c2, f1, f2, hox, hoz, hap, hbel, hsz⟩ := hrel
    by_cases hlt : k < n
    · skip
      have bw := Lib.hid (show Below w.heap.size w wr from Below.trans BW.out (hbel.out.mono (by omega)))
      have t0 := (hbel.out.cell (p := ⟨w.heap.size, 0, none⟩) (by dsimp only; omega)).trans T0.out
      have t1 := (hbel.out.cell (p := ⟨w.heap.size, 1, none⟩) (by dsimp only; omega)).trans T1.out
      have t2 := (hbel.out.cell (p := ⟨w.heap.size, 2, none⟩) (by dsimp only; omega)).trans T2.out
      have s0 := (hbel.out.cell (p := ⟨w.heap.size + 1, 0, none⟩) (by dsimp only; omega)).trans S0.out
      have s1 := (hbel.out.cell (p := ⟨w.heap.size + 1, 1, none⟩) (by dsimp only; omega)).trans S1.out
      have s2 := (hbel.out.cell (p := ⟨w.heap.size + 1, 2, none⟩) (by dsimp only; omega)).trans S2.out
      obtain ⟨ga, offa, rfl, hga, a0, a1, a2⟩ := HA.out k hlt
      obtain ⟨gb, offb, rfl, hgb, b0, b1, b2⟩ := HB.out k hlt
      replace a0 := (bw.out.cell hga).trans a0
      replace a1 := (bw.out.cell hga).trans a1
      replace a2 := (bw.out.cell hga).trans a2
      replace b0 := (bw.out.cell hgb).trans b0
      replace b1 := (bw.out.cell hgb).trans b1
      replace b2 := (bw.out.cell hgb).trans b2
      have OA := Lib.hid (OX1.out.get k); have OB := Lib.hid (OZ1.out.get k)
      have NX := Lib.hid (comp_succ imgN X2 Z2 n (L := X1) (k := k) (by have := LX1.out; omega)); have NZ := Lib.hid (comp_succ imgN X2 Z2 n (L := Z1) (k := k) (by have := LZ1.out; omega))
      obtain ⟨ea, hea⟩ : ∃ ea, ea = X1.getD k ⟨0, 0, 0⟩ := ⟨_, rfl⟩
      obtain ⟨eb, heb⟩ : ∃ eb, eb = Z1.getD k ⟨0, 0, 0⟩ := ⟨_, rfl⟩
      rw [← hea] at a0 a1 a2 OA NX; rw [← heb] at b0 b1 b2 OB NZ
      obtain ⟨Ra, hRa⟩ : ∃ R, R = imgN X2 Z2 ea n := ⟨_, rfl⟩
      obtain ⟨Rb, hRb⟩ : ∃ R, R = imgN X2 Z2 eb n := ⟨_, rfl⟩
      rw [← hRa] at NX; rw [← hRb] at NZ
      have HRa := Lib.hid hRa; have HRb := Lib.hid hRb
      have i1 : (k : Int) < (n : Int) := by omega
      have i2 : (0 : Int) ≤ (k : Int) := by omega
      have zga : ga < wr.heap.size := World.block_lt_of_cell? _ _ a0; have zgb : gb < wr.heap.size := World.block_lt_of_cell? _ _ b0
      clear hea heb hRa hRb HA HB
      go_wp2_with fail
      refine AnyB.begin (S := (fun w' => w'.cell? ⟨w.heap.size + 1 + 1 + 1, 1, none⟩ = some (vx) ∧ w'.cell? ⟨w.heap.size + 1 + 1 + 1, 2, none⟩ = some (vz) ∧ w'.cell? ⟨w.heap.size, 0, none⟩ = some (.int .i64 (n : Int)) ∧ w'.cell? ⟨w.heap.size, 1, none⟩ = some (.slice (some ⟨ga, offa, none⟩) n cA) ∧ w'.cell? ⟨w.heap.size, 2, none⟩ = some (.slice (some ⟨gb, offb, none⟩) n cB) ∧ w'.cell? ⟨w.heap.size + 1, 0, none⟩ = some (.int .i64 (n : Int)) ∧ w'.cell? ⟨w.heap.size + 1, 1, none⟩ = some (.slice C n cC) ∧ w'.cell? ⟨w.heap.size + 1, 2, none⟩ = some (.slice C2 n cD) ∧ w'.cell? ⟨ga, offa + k * 3, none⟩ = some (.int .i64 ((ea).p : Int)) ∧ w'.cell? ⟨ga, offa + k * 3 + 1, none⟩ = some (.int .i64 ((ea).x : Int)) ∧ w'.cell? ⟨ga, offa + k * 3 + 2, none⟩ = some (.int .i64 ((ea).z : Int)) ∧ w'.cell? ⟨gb, offb + k * 3, none⟩ = some (.int .i64 ((eb).p : Int)) ∧ w'.cell? ⟨gb, offb + k * 3 + 1, none⟩ = some (.int .i64 ((eb).x : Int)) ∧ w'.cell? ⟨gb, offb + k * 3 + 2, none⟩ = some (.int .i64 ((eb).z : Int)))) [23, 25] (by kernel_rfl) ?_ (fun hHeld0 => ?_)
      · ((try dsimp only); (first | exact ⟨c1, c2, t0, t1, t2, s0, s1, s2, a0, a1, a2, b0, b1, b2⟩ | exact ⟨cell_alloc_keep _ c1, cell_alloc_keep _ c2, cell_alloc_keep _ t0, cell_alloc_keep _ t1, cell_alloc_keep _ t2, cell_alloc_keep _ s0, cell_alloc_keep _ s1, cell_alloc_keep _ s2, cell_alloc_keep _ a0, cell_alloc_keep _ a1, cell_alloc_keep _ a2, cell_alloc_keep _ b0, cell_alloc_keep _ b1, cell_alloc_keep _ b2⟩))
      refine AnyB.tq (i := 0) (h := ?_)
      refine AnyB.tk (i := 1) (h := ?_)
      refine AnyB.tk (i := 2) (h := ?_)
      refine AnyB.tq (i := 3) (h := ?_)
      refine AnyB.tk (i := 4) (h := ?_)
      refine AnyB.tq (i := 5) (h := ?_)
      refine AnyB.tq (i := 6) (h := ?_)
      refine AnyB.tk (i := 7) (h := ?_)
      refine AnyB.tq (i := 11) (h := ?_)
      refine AnyB.tk (i := 12) (h := ?_)
      refine AnyB.tk (i := 13) (h := ?_)
      refine AnyB.tq (i := 14) (h := ?_)
      refine AnyB.tk (i := 15) (h := ?_)
      refine AnyB.tq (i := 16) (h := ?_)
      refine AnyB.tq (i := 17) (h := ?_)
      refine AnyB.tk (i := 18) (h := ?_)
      refine AnyB.each (rs := [8]) (by kernel_rfl) (by simp) ?_
      refine EachB.cons rfl (fun K hK hB => ?_) ?_
      · skip
        (go_simp; go_at_call 33; refine (impl_image_any n X2 Z2 ea _ _ _ hn LX2.out LZ2.out OX2.out OZ2.out OA.out (Rd.below HK0.out (show Below w.heap.size w wr.drew from Below.trans BW.out ((show Below (w.heap.size + 1 + 1 + 1) W0 wr.drew from Below.drew hbel.out).mono (by omega))) rfl) (Rd.below HK1.out (show Below w.heap.size w wr.drew from Below.trans BW.out ((show Below (w.heap.size + 1 + 1 + 1) W0 wr.drew from Below.drew hbel.out).mono (by omega))) rfl)).mono ?_; rw [← HRa.out]; rintro e xA ⟨rfl, hxA⟩; have yA := hxA.size; (simp at yA); replace c0 := below_cell hxA rfl (cell_drew c0); replace c1 := below_cell hxA rfl (cell_drew c1); replace c2 := below_cell hxA rfl (cell_drew c2); replace t0 := below_cell hxA rfl (cell_drew t0); replace t1 := below_cell hxA rfl (cell_drew t1); replace t2 := below_cell hxA rfl (cell_drew t2); replace s0 := below_cell hxA rfl (cell_drew s0); replace s1 := below_cell hxA rfl (cell_drew s1); replace s2 := below_cell hxA rfl (cell_drew s2); replace a0 := below_cell hxA rfl (cell_drew a0); replace a1 := below_cell hxA rfl (cell_drew a1); replace a2 := below_cell hxA rfl (cell_drew a2); replace b0 := below_cell hxA rfl (cell_drew b0); replace b1 := below_cell hxA rfl (cell_drew b1); replace b2 := below_cell hxA rfl (cell_drew b2); replace f1 := below_frz hxA rfl (by first | omega | (simp; omega)) (frz_drew f1); replace f2 := below_frz hxA rfl (by first | omega | (simp; omega)) (frz_drew f2); replace hox := Lib.hid (own_below hox.out (show Below wr.heap.size wr xA from Below.trans (show Below wr.heap.size wr wr.drew from belo) (hxA.mono (by first | omega | (simp)))) rfl); replace hoz := Lib.hid (own_below hoz.out (show Below wr.heap.size wr xA from Below.trans (show Below wr.heap.size wr wr.drew from belo) (hxA.mono (by first | omega | (simp)))) rfl); replace hbel := Lib.hid (show Below (w.heap.size + 1 + 1 + 1) W0 xA from Below.trans (Below.drew hbel.out) (hxA.mono (by first | omega | (simp; omega)))); clear hxA; dsimp only)
        refine hK.out _ _ ?_ (fun hHeld1 => ?_)
        · ((try dsimp only); (first | exact ⟨c1, c2, t0, t1, t2, s0, s1, s2, a0, a1, a2, b0, b1, b2⟩ | exact ⟨cell_alloc_keep _ c1, cell_alloc_keep _ c2, cell_alloc_keep _ t0, cell_alloc_keep _ t1, cell_alloc_keep _ t2, cell_alloc_keep _ s0, cell_alloc_keep _ s1, cell_alloc_keep _ s2, cell_alloc_keep _ a0, cell_alloc_keep _ a1, cell_alloc_keep _ a2, cell_alloc_keep _ b0, cell_alloc_keep _ b1, cell_alloc_keep _ b2⟩))
        clear hB hK K hHeld0
        refine AnyB.each (rs := [9]) (by kernel_rfl) (by simp) ?_
        refine EachB.cons rfl (fun K hK hB => ?_) ?_
        · skip
          go_simp
          refine hK.out _ _ ?_ (fun hHeld2 => ?_)
          · ((try dsimp only); (first | exact ⟨c1, c2, t0, t1, t2, s0, s1, s2, a0, a1, a2, b0, b1, b2⟩ | exact ⟨cell_alloc_keep _ c1, cell_alloc_keep _ c2, cell_alloc_keep _ t0, cell_alloc_keep _ t1, cell_alloc_keep _ t2, cell_alloc_keep _ s0, cell_alloc_keep _ s1, cell_alloc_keep _ s2, cell_alloc_keep _ a0, cell_alloc_keep _ a1, cell_alloc_keep _ a2, cell_alloc_keep _ b0, cell_alloc_keep _ b1, cell_alloc_keep _ b2⟩))
          clear hB hK K hHeld1
          refine AnyB.each (rs := [10]) (by kernel_rfl) (by simp) ?_
          refine EachB.cons rfl (fun K hK hB => ?_) ?_
          · skip
            (refine step_append_lies _ (by rfl) (.tmp 16) (.tmp 24) 27 (by rfl) (w.heap.size + 1 + 1 + 1 + 1) 33 i0 (.agg #[.int .i64 0, .int .i64 0, .int .i64 0]) 3 24 Tryz.underlying27 hi hz0 hz1 hz2 rfl (by omega) vx k _ (by rfl) (hox.out.alloc _) _ 1 1 [.int .i64 ((Ra).p : Int), .int .i64 ((Ra).x : Int), .int .i64 ((Ra).z : Int)] (by rfl) (by rfl) (news_cells xA [.int .i64 ((Ra).p : Int), .int .i64 ((Ra).x : Int), .int .i64 ((Ra).z : Int)] 33) (E3.one (Ra).e) (by omega) (by unfold maxLen; omega) (by omega) (by simp; omega) _ rfl ?_; intro g1 cp1 w1 hown1 hgr1 hat1 hlt1; have zz1 := hgr1.size; (simp at zz1); replace c0 := grown_lo (hox.out.alloc _) hgr1 (by first | omega | (simp; omega)) (cell_alloc_keep _ c0); replace c1 := grown_lo (hox.out.alloc _) hgr1 (by first | omega | (simp; omega)) (cell_alloc_keep _ c1); replace c2 := grown_lo (hox.out.alloc _) hgr1 (by first | omega | (simp; omega)) (cell_alloc_keep _ c2); replace t0 := grown_lo (hox.out.alloc _) hgr1 (by first | omega | (simp; omega)) (cell_alloc_keep _ t0); replace t1 := grown_lo (hox.out.alloc _) hgr1 (by first | omega | (simp; omega)) (cell_alloc_keep _ t1); replace t2 := grown_lo (hox.out.alloc _) hgr1 (by first | omega | (simp; omega)) (cell_alloc_keep _ t2); replace s0 := grown_lo (hox.out.alloc _) hgr1 (by first | omega | (simp; omega)) (cell_alloc_keep _ s0); replace s1 := grown_lo (hox.out.alloc _) hgr1 (by first | omega | (simp; omega)) (cell_alloc_keep _ s1); replace s2 := grown_lo (hox.out.alloc _) hgr1 (by first | omega | (simp; omega)) (cell_alloc_keep _ s2); replace a0 := grown_lo (hox.out.alloc _) hgr1 (by first | omega | (simp; omega)) (cell_alloc_keep _ a0); replace a1 := grown_lo (hox.out.alloc _) hgr1 (by first | omega | (simp; omega)) (cell_alloc_keep _ a1); replace a2 := grown_lo (hox.out.alloc _) hgr1 (by first | omega | (simp; omega)) (cell_alloc_keep _ a2); replace b0 := grown_lo (hox.out.alloc _) hgr1 (by first | omega | (simp; omega)) (cell_alloc_keep _ b0); replace b1 := grown_lo (hox.out.alloc _) hgr1 (by first | omega | (simp; omega)) (cell_alloc_keep _ b1); replace b2 := grown_lo (hox.out.alloc _) hgr1 (by first | omega | (simp; omega)) (cell_alloc_keep _ b2); replace f1 := frz_grown hgr1 (by simp; omega) (frozen_alloc_lt _ (by omega) f1) (fun h => by have := (hox.out.lt _ h).1; omega); replace f2 := frz_grown hgr1 (by simp; omega) (frozen_alloc_lt _ (by omega) f2) (fun h => by have := (hox.out.lt _ h).1; omega); have hq1 := Lib.hid (own_other hgr1 (hoz.out.alloc _) (fun g a b => hap.out g b a)); have hp1 := Lib.hid (apart_app (n := k + 1) (c := cp1) hap.out.symm (fun g hg => Nat.lt_of_lt_of_le (hoz.out.lt g hg).2 (Nat.le_succ _)) (by simpa using hat1)); replace hbel := Lib.hid (show Below (w.heap.size + 1 + 1 + 1) W0 w1 from (hbel.out.alloc (by omega) _).grown hgr1 (by simp; omega) (fun b hb => by have := (hox.out.lt b hb).1; omega)); replace hox := Lib.hid hown1; replace hoz := hq1; replace hap := Lib.hid (show Apart _ _ from hp1.out.symm); clear hown1 hgr1 hat1 hq1 hp1)
            refine hK.out _ _ ?_ (fun hHeld3 => ?_)
            · ((try dsimp only); (first | exact ⟨c1, c2, t0, t1, t2, s0, s1, s2, a0, a1, a2, b0, b1, b2⟩ | exact ⟨cell_alloc_keep _ c1, cell_alloc_keep _ c2, cell_alloc_keep _ t0, cell_alloc_keep _ t1, cell_alloc_keep _ t2, cell_alloc_keep _ s0, cell_alloc_keep _ s1, cell_alloc_keep _ s2, cell_alloc_keep _ a0, cell_alloc_keep _ a1, cell_alloc_keep _ a2, cell_alloc_keep _ b0, cell_alloc_keep _ b1, cell_alloc_keep _ b2⟩))
            clear hB hK K hHeld2
            refine AnyB.tq (i := 22) (h := ?_)
            refine AnyB.each (rs := [19]) (by kernel_rfl) (by simp) ?_
            refine EachB.cons rfl (fun K hK hB => ?_) ?_
            · skip
              (go_simp; go_at_call 33; refine (impl_image_any n X2 Z2 eb _ _ _ hn LX2.out LZ2.out OX2.out OZ2.out OB.out (Rd.below HK0.out (show Below w.heap.size w w1 from Below.trans BW.out ((show Below (w.heap.size + 1 + 1 + 1) W0 w1 from hbel.out).mono (by omega))) rfl) (Rd.below HK1.out (show Below w.heap.size w w1 from Below.trans BW.out ((show Below (w.heap.size + 1 + 1 + 1) W0 w1 from hbel.out).mono (by omega))) rfl)).mono ?_; rw [← HRb.out]; rintro e xB ⟨rfl, hxB⟩; have yB := hxB.size; replace c0 := below_cell hxB rfl c0; replace c1 := below_cell hxB rfl c1; replace c2 := below_cell hxB rfl c2; replace t0 := below_cell hxB rfl t0; replace t1 := below_cell hxB rfl t1; replace t2 := below_cell hxB rfl t2; replace s0 := below_cell hxB rfl s0; replace s1 := below_cell hxB rfl s1; replace s2 := below_cell hxB rfl s2; replace a0 := below_cell hxB rfl a0; replace a1 := below_cell hxB rfl a1; replace a2 := below_cell hxB rfl a2; replace b0 := below_cell hxB rfl b0; replace b1 := below_cell hxB rfl b1; replace b2 := below_cell hxB rfl b2; replace f1 := below_frz hxB rfl (by first | omega | (simp; omega)) f1; replace f2 := below_frz hxB rfl (by first | omega | (simp; omega)) f2; replace hox := Lib.hid (own_below hox.out (show Below w1.heap.size w1 xB from Below.trans (show Below w1.heap.size w1 w1 from belo) (hxB.mono (by first | omega | (simp)))) rfl); replace hoz := Lib.hid (own_below hoz.out (show Below w1.heap.size w1 xB from Below.trans (show Below w1.heap.size w1 w1 from belo) (hxB.mono (by first | omega | (simp)))) rfl); replace hbel := Lib.hid (show Below (w.heap.size + 1 + 1 + 1) W0 xB from Below.trans hbel.out (hxB.mono (by first | omega | (simp; omega)))); clear hxB; dsimp only)
              refine hK.out _ _ ?_ (fun hHeld4 => ?_)
              · ((try dsimp only); (first | exact ⟨c1, c2, t0, t1, t2, s0, s1, s2, a0, a1, a2, b0, b1, b2⟩ | exact ⟨cell_alloc_keep _ c1, cell_alloc_keep _ c2, cell_alloc_keep _ t0, cell_alloc_keep _ t1, cell_alloc_keep _ t2, cell_alloc_keep _ s0, cell_alloc_keep _ s1, cell_alloc_keep _ s2, cell_alloc_keep _ a0, cell_alloc_keep _ a1, cell_alloc_keep _ a2, cell_alloc_keep _ b0, cell_alloc_keep _ b1, cell_alloc_keep _ b2⟩))
              clear hB hK K hHeld3
              refine AnyB.each (rs := [20]) (by kernel_rfl) (by simp) ?_
              refine EachB.cons rfl (fun K hK hB => ?_) ?_
              · skip
                go_simp
                refine hK.out _ _ ?_ (fun hHeld5 => ?_)
                · ((try dsimp only); (first | exact ⟨c1, c2, t0, t1, t2, s0, s1, s2, a0, a1, a2, b0, b1, b2⟩ | exact ⟨cell_alloc_keep _ c1, cell_alloc_keep _ c2, cell_alloc_keep _ t0, cell_alloc_keep _ t1, cell_alloc_keep _ t2, cell_alloc_keep _ s0, cell_alloc_keep _ s1, cell_alloc_keep _ s2, cell_alloc_keep _ a0, cell_alloc_keep _ a1, cell_alloc_keep _ a2, cell_alloc_keep _ b0, cell_alloc_keep _ b1, cell_alloc_keep _ b2⟩))
                clear hB hK K hHeld4
                refine AnyB.each (rs := [21]) (by kernel_rfl) (by simp) ?_
                refine EachB.cons rfl (fun K hK hB => ?_) ?_
                · skip
                  (refine step_append_lies _ (by rfl) (.tmp 27) (.tmp 35) 27 (by rfl) (w.heap.size + 1 + 1 + 1 + 1) 33 i0 (.agg #[.int .i64 0, .int .i64 0, .int .i64 0]) 3 24 Tryz.underlying27 hi hz0 hz1 hz2 rfl (by omega) vz k _ (by rfl) (hoz.out.alloc _) _ 1 1 [.int .i64 ((Rb).p : Int), .int .i64 ((Rb).x : Int), .int .i64 ((Rb).z : Int)] (by rfl) (by rfl) (news_cells xB [.int .i64 ((Rb).p : Int), .int .i64 ((Rb).x : Int), .int .i64 ((Rb).z : Int)] 33) (E3.one (Rb).e) (by omega) (by unfold maxLen; omega) (by omega) (by simp; omega) _ rfl ?_; intro g2 cp2 w2 hown2 hgr2 hat2 hlt2; have zz2 := hgr2.size; (simp at zz2); replace c0 := grown_lo (hoz.out.alloc _) hgr2 (by first | omega | (simp; omega)) (cell_alloc_keep _ c0); replace c1 := grown_lo (hoz.out.alloc _) hgr2 (by first | omega | (simp; omega)) (cell_alloc_keep _ c1); replace c2 := grown_lo (hoz.out.alloc _) hgr2 (by first | omega | (simp; omega)) (cell_alloc_keep _ c2); replace t0 := grown_lo (hoz.out.alloc _) hgr2 (by first | omega | (simp; omega)) (cell_alloc_keep _ t0); replace t1 := grown_lo (hoz.out.alloc _) hgr2 (by first | omega | (simp; omega)) (cell_alloc_keep _ t1); replace t2 := grown_lo (hoz.out.alloc _) hgr2 (by first | omega | (simp; omega)) (cell_alloc_keep _ t2); replace s0 := grown_lo (hoz.out.alloc _) hgr2 (by first | omega | (simp; omega)) (cell_alloc_keep _ s0); replace s1 := grown_lo (hoz.out.alloc _) hgr2 (by first | omega | (simp; omega)) (cell_alloc_keep _ s1); replace s2 := grown_lo (hoz.out.alloc _) hgr2 (by first | omega | (simp; omega)) (cell_alloc_keep _ s2); replace a0 := grown_lo (hoz.out.alloc _) hgr2 (by first | omega | (simp; omega)) (cell_alloc_keep _ a0); replace a1 := grown_lo (hoz.out.alloc _) hgr2 (by first | omega | (simp; omega)) (cell_alloc_keep _ a1); replace a2 := grown_lo (hoz.out.alloc _) hgr2 (by first | omega | (simp; omega)) (cell_alloc_keep _ a2); replace b0 := grown_lo (hoz.out.alloc _) hgr2 (by first | omega | (simp; omega)) (cell_alloc_keep _ b0); replace b1 := grown_lo (hoz.out.alloc _) hgr2 (by first | omega | (simp; omega)) (cell_alloc_keep _ b1); replace b2 := grown_lo (hoz.out.alloc _) hgr2 (by first | omega | (simp; omega)) (cell_alloc_keep _ b2); replace f1 := frz_grown hgr2 (by simp; omega) (frozen_alloc_lt _ (by omega) f1) (fun h => by have := (hoz.out.lt _ h).1; omega); replace f2 := frz_grown hgr2 (by simp; omega) (frozen_alloc_lt _ (by omega) f2) (fun h => by have := (hoz.out.lt _ h).1; omega); have hq2 := Lib.hid (own_other hgr2 (hox.out.alloc _) (fun g a b => hap.out g a b)); have hp2 := Lib.hid (apart_app (n := k + 1) (c := cp2) hap.out (fun g hg => Nat.lt_of_lt_of_le (hox.out.lt g hg).2 (Nat.le_succ _)) (by simpa using hat2)); replace hbel := Lib.hid (show Below (w.heap.size + 1 + 1 + 1) W0 w2 from (hbel.out.alloc (by omega) _).grown hgr2 (by simp; omega) (fun b hb => by have := (hoz.out.lt b hb).1; omega)); replace hoz := Lib.hid hown2; replace hox := hq2; replace hap := Lib.hid (show Apart _ _ from hp2.out); clear hown2 hgr2 hat2 hq2 hp2)
                  refine hK.out _ _ ?_ (fun hHeld6 => ?_)
                  · ((try dsimp only); (first | exact ⟨c1, c2, t0, t1, t2, s0, s1, s2, a0, a1, a2, b0, b1, b2⟩ | exact ⟨cell_alloc_keep _ c1, cell_alloc_keep _ c2, cell_alloc_keep _ t0, cell_alloc_keep _ t1, cell_alloc_keep _ t2, cell_alloc_keep _ s0, cell_alloc_keep _ s1, cell_alloc_keep _ s2, cell_alloc_keep _ a0, cell_alloc_keep _ a1, cell_alloc_keep _ a2, cell_alloc_keep _ b0, cell_alloc_keep _ b1, cell_alloc_keep _ b2⟩))
                  clear hB hK K hHeld5
                  refine AnyB.each (rs := [23]) (by kernel_rfl) (by simp) ?_
                  refine EachB.cons rfl (fun K hK hB => ?_) ?_
                  · skip
                    go_simp
                    refine hB.out _ _ rfl ?_
                    clear hB hK K
                    refine AnyB.tq (i := 24) (h := ?_)
                    refine AnyB.each (rs := [25]) (by kernel_rfl) (by simp) ?_
                    refine EachB.cons rfl (fun K hK hB => ?_) ?_
                    · skip
                      go_simp
                      refine hB.out _ _ rfl ?_
                      clear hB hK K
                      refine AnyB.none (by kernel_rfl) ?_ _
                      go_wp2_with fail
                      go_roundw
                      case rel => exact ⟨k + 1, (.slice (some ⟨g1, 0, none⟩) (k + 1) cp1), (.slice (some ⟨g2, 0, none⟩) (k + 1) cp2), by omega, by go_num, cell_set_other (cell_set_other c0), cell_set_other (World.cell?_setCell_same _ _ _ c1), World.cell?_setCell_same _ _ _ (cell_set_other c2), by rw [World.frozen?_setCell, World.frozen?_setCell]; exact f1, by rw [World.frozen?_setCell, World.frozen?_setCell]; exact f2, (show World.ownsRow _ _ _ _ _ _ _ from by rw [NX.out]; exact ownsRow_setCell_below (ownsRow_setCell_below hox.out (by simp) _) (by simp) _), (show World.ownsRow _ _ _ _ _ _ _ from by rw [NZ.out]; exact ownsRow_setCell_below (ownsRow_setCell_below hoz.out (by simp) _) (by simp) _), hap, (show Below _ _ _ from Below.setCell (Below.setCell hbel.out (by simp) _) (by simp) _), by simp; omega⟩
                      case measure => simp [intOf]; omega
                    exact EachB.nil
                  exact EachB.nil
                exact EachB.nil
              exact EachB.nil
            exact EachB.nil
          exact EachB.nil
        exact EachB.nil
      exact EachB.nil
    · have e : k = n := by omega
      subst e
      have r0 := (hbel.out.cell (p := ⟨w.heap.size + 1 + 1, 0, none⟩) (by dsimp only; omega)).trans R0.out; have q0 := (hbel.out.frozen (p := ⟨w.heap.size + 1 + 1, 0, none⟩) (by dsimp only; omega)).trans Q0.out
      have r1 := (hbel.out.cell (p := ⟨w.heap.size + 1 + 1, 1, none⟩) (by dsimp only; omega)).trans R1.out; have q1 := (hbel.out.frozen (p := ⟨w.heap.size + 1 + 1, 1, none⟩) (by dsimp only; omega)).trans Q1.out
      have r2 := (hbel.out.cell (p := ⟨w.heap.size + 1 + 1, 2, none⟩) (by dsimp only; omega)).trans R2.out; have q2 := (hbel.out.frozen (p := ⟨w.heap.size + 1 + 1, 2, none⟩) (by dsimp only; omega)).trans Q2.out
      have bw := Lib.hid (show Below w.heap.size w wr from Below.trans BW.out (hbel.out.mono (by omega)))
      obtain ⟨a9, cp9, rfl⟩ := own_form hox.out
      obtain ⟨b9, cq9, rfl⟩ := own_form hoz.out
      have hZ := box_set3 (w3 := wr) (nb := w.heap.size + 1 + 1) (.int .i64 (k : Int)) (.slice a9 k cp9) (.slice b9 k cq9) r0 r1 r2
      have hlx := LX1.out; have hlz := LZ1.out
      have HX := Lib.hid (show (pes (compL imgN X2 Z2 k X1)).length = k from by rw [pes_len]; unfold compL; simpa using hlx); have HZ := Lib.hid (show (pes (compL imgN X2 Z2 k Z1)).length = k from by rw [pes_len]; unfold compL; simpa using hlz)
      rw [List.take_of_length_le (by omega)] at hox hoz
      clear hlx hlz
      go_wp2_with fail
      refine bodyPost_ret (v := .agg #[.int .i64 (k : Int), .slice a9 k cp9, .slice b9 k cq9]) (by simp [results, Tryz.results26, go_sem, hZ]) rfl ⟨_, _, rfl, ?_, ?_, hap.out, ?_⟩
      · unfold OwnE; rw [HX.out]; exact own_le (ownsRow_setCell_below (ownsRow_setCell_below (ownsRow_setCell_below hox.out (by simp) _) (by simp) _) (by simp) _) (by omega)
      · unfold OwnE; rw [HZ.out]; exact own_le (ownsRow_setCell_below (ownsRow_setCell_below (ownsRow_setCell_below hoz.out (by simp) _) (by simp) _) (by simp) _) (by omega)
      · have bq := bw.out; exact belo
end Go.Proofs.YtnckabohlakbgaaGreat
namespace Go.Proofs.YtnckabohlakbgaaGreat
set_option linter.unusedSimpArgs false
set_option linter.unusedVariables false
set_option linter.unnecessarySimpa false
set_option maxRecDepth 200000
open Go.ChangeShapes Go.WideShapes Go.ChangeAt Go.RowKit

set_option maxHeartbeats 16000000 in
theorem spec_l7Then_any (n : Nat) (X1 Z1 X2 Z2 : List PN) (v0 v1 u0 u1 : Value) (w : World) (hn : n ≤ 5) (lX1 : X1.length = n) (lZ1 : Z1.length = n) (lX2 : X2.length = n) (lZ2 : Z2.length = n) (okX1 : PLok X1) (okZ1 : PLok Z1) (okX2 : PLok X2) (okZ2 : PLok Z2) (h0 : RdE w v0 E3.cs 3 (pes X1)) (h1 : RdE w v1 E3.cs 3 (pes Z1)) (k0 : RdE w u0 E3.cs 3 (pes X2)) (k1 : RdE w u1 E3.cs 3 (pes Z2)) :
    Calls Tryz.prog 67 #[.agg #[.int .i64 (n : Int), v0, v1], .agg #[.int .i64 (n : Int), u0, u1]] w fun e w' => ∃ r0 r1, e = .returned (.agg #[.int .i64 (n : Int), r0, r1]) ∧ OwnE w' w.heap.size 33 r0 E3.cs 3 (pes (compL imgS X2 Z2 n X1)) ∧ OwnE w' w.heap.size 33 r1 E3.cs 3 (pes (compL imgS X2 Z2 n Z1)) ∧ Apart r0 r1 ∧ Below w.heap.size w w' := by
  obtain ⟨i0, hi, hz0, hz1, hz2⟩ := info_parts info_Pauli
  have HK0 := Lib.hid k0; have HK1 := Lib.hid k1
  obtain ⟨A, cA, rfl, HA⟩ := pes_at h0
  obtain ⟨A2, cB, rfl, HB⟩ := pes_at h1
  obtain ⟨C, cC, rfl, _⟩ := pes_at k0
  obtain ⟨C2, cD, rfl, _⟩ := pes_at k1
  rw [lX1] at HA ⊢; rw [lZ1] at HB ⊢; rw [lX2] at HK0 ⊢; rw [lZ2] at HK1 ⊢
  have LX2 := Lib.hid lX2; have LZ2 := Lib.hid lZ2; have OX2 := Lib.hid okX2; have OZ2 := Lib.hid okZ2; have OX1 := Lib.hid okX1; have OZ1 := Lib.hid okZ1
  have LX1 := Lib.hid lX1; have LZ1 := Lib.hid lZ1
  clear h0 h1 k0 k1 lX1 lZ1 lX2 lZ2 okX1 okZ1 okX2 okZ2
  go_enter Tryz.func67, Tryz.ntmps67
  go_wp2_with fail
  obtain ⟨W0, hW0⟩ : ∃ W0, W0 = (((w.alloc (.cells #[.int .i64 (n : Int), .slice A n cA, .slice A2 n cB] 29)).alloc (.cells #[.int .i64 (n : Int), .slice C n cC, .slice C2 n cD] 29)).alloc (.cells #[.int .i64 0, .slice none 0 0, .slice none 0 0] 29)) := ⟨_, rfl⟩
  have BW := Lib.hid (show Below w.heap.size w W0 from by rw [hW0]; exact belo)
  have SW := Lib.hid (show W0.heap.size = w.heap.size + 3 from by rw [hW0]; simp)
  have T0 := Lib.hid (show W0.cell? ⟨w.heap.size, 0, none⟩ = some (.int .i64 (n : Int)) from by rw [hW0]; exact cela)
  have T1 := Lib.hid (show W0.cell? ⟨w.heap.size, 1, none⟩ = some (.slice A n cA) from by rw [hW0]; exact cela)
  have T2 := Lib.hid (show W0.cell? ⟨w.heap.size, 2, none⟩ = some (.slice A2 n cB) from by rw [hW0]; exact cela)
  have S0 := Lib.hid (show W0.cell? ⟨w.heap.size + 1, 0, none⟩ = some (.int .i64 (n : Int)) from by rw [hW0]; exact cela)
  have S1 := Lib.hid (show W0.cell? ⟨w.heap.size + 1, 1, none⟩ = some (.slice C n cC) from by rw [hW0]; exact cela)
  have S2 := Lib.hid (show W0.cell? ⟨w.heap.size + 1, 2, none⟩ = some (.slice C2 n cD) from by rw [hW0]; exact cela)
  have R0 := Lib.hid (show W0.cell? ⟨w.heap.size + 1 + 1, 0, none⟩ = some (.int .i64 0) from by rw [hW0]; exact cela)
  have R1 := Lib.hid (show W0.cell? ⟨w.heap.size + 1 + 1, 1, none⟩ = some (.slice none 0 0) from by rw [hW0]; exact cela)
  have R2 := Lib.hid (show W0.cell? ⟨w.heap.size + 1 + 1, 2, none⟩ = some (.slice none 0 0) from by rw [hW0]; exact cela)
  have Q0 := Lib.hid (show W0.frozen? ⟨w.heap.size + 1 + 1, 0, none⟩ = false from by rw [hW0]; exact froza)
  have Q1 := Lib.hid (show W0.frozen? ⟨w.heap.size + 1 + 1, 1, none⟩ = false from by rw [hW0]; exact froza)
  have Q2 := Lib.hid (show W0.frozen? ⟨w.heap.size + 1 + 1, 2, none⟩ = false from by rw [hW0]; exact froza)
  have HW0 := Lib.hid hW0; clear hW0
  go_loopw [6] (fun i wr => ∃ (k : Nat) (vx vz : Value), k ≤ n ∧ i = .int .i64 k ∧ wr.cell? ⟨w.heap.size + 1 + 1 + 1, 0, none⟩ = some (.int .i64 (n : Int)) ∧ wr.cell? ⟨w.heap.size + 1 + 1 + 1, 1, none⟩ = some vx ∧ wr.cell? ⟨w.heap.size + 1 + 1 + 1, 2, none⟩ = some vz ∧ wr.frozen? ⟨w.heap.size + 1 + 1 + 1, 1, none⟩ = false ∧ wr.frozen? ⟨w.heap.size + 1 + 1 + 1, 2, none⟩ = false ∧ Hid (wr.ownsRow (w.heap.size + 1 + 1 + 1 + 1) 33 3 vx k ((pes (compL imgS X2 Z2 n (X1.take k))).flatMap E3.cs)) ∧ Hid (wr.ownsRow (w.heap.size + 1 + 1 + 1 + 1) 33 3 vz k ((pes (compL imgS X2 Z2 n (Z1.take k))).flatMap E3.cs)) ∧ Hid (Apart vx vz) ∧ Hid (Below (w.heap.size + 1 + 1 + 1) W0 wr) ∧ w.heap.size + 4 ≤ wr.heap.size) (fun i _ => n - (intOf i).toNat)
  case atStart => exact ⟨0, .slice none 0 0, .slice none 0 0, Nat.zero_le _, rfl, cela, cela, cela, froza, froza, World.ownsRow_nil _ _ _ _, World.ownsRow_nil _ _ _ _, apart_nil _, (show Below _ _ _ from by rw [HW0.out]; exact belo), by simp⟩
  case round =>
    obtain ⟨k, vx, vz, hk, rfl, c0, c1, c2, f1, f2, hox, hoz, hap, hbel, hsz⟩ := hrel
    by_cases hlt : k < n
    · skip
      have bw := Lib.hid (show Below w.heap.size w wr from Below.trans BW.out (hbel.out.mono (by omega)))
      have t0 := (hbel.out.cell (p := ⟨w.heap.size, 0, none⟩) (by dsimp only; omega)).trans T0.out
      have t1 := (hbel.out.cell (p := ⟨w.heap.size, 1, none⟩) (by dsimp only; omega)).trans T1.out
      have t2 := (hbel.out.cell (p := ⟨w.heap.size, 2, none⟩) (by dsimp only; omega)).trans T2.out
      have s0 := (hbel.out.cell (p := ⟨w.heap.size + 1, 0, none⟩) (by dsimp only; omega)).trans S0.out
      have s1 := (hbel.out.cell (p := ⟨w.heap.size + 1, 1, none⟩) (by dsimp only; omega)).trans S1.out
      have s2 := (hbel.out.cell (p := ⟨w.heap.size + 1, 2, none⟩) (by dsimp only; omega)).trans S2.out
      obtain ⟨ga, offa, rfl, hga, a0, a1, a2⟩ := HA.out k hlt
      obtain ⟨gb, offb, rfl, hgb, b0, b1, b2⟩ := HB.out k hlt
      replace a0 := (bw.out.cell hga).trans a0
      replace a1 := (bw.out.cell hga).trans a1
      replace a2 := (bw.out.cell hga).trans a2
      replace b0 := (bw.out.cell hgb).trans b0
      replace b1 := (bw.out.cell hgb).trans b1
      replace b2 := (bw.out.cell hgb).trans b2
      have OA := Lib.hid (OX1.out.get k); have OB := Lib.hid (OZ1.out.get k)
      have NX := Lib.hid (comp_succ imgS X2 Z2 n (L := X1) (k := k) (by have := LX1.out; omega)); have NZ := Lib.hid (comp_succ imgS X2 Z2 n (L := Z1) (k := k) (by have := LZ1.out; omega))
      obtain ⟨ea, hea⟩ : ∃ ea, ea = X1.getD k ⟨0, 0, 0⟩ := ⟨_, rfl⟩
      obtain ⟨eb, heb⟩ : ∃ eb, eb = Z1.getD k ⟨0, 0, 0⟩ := ⟨_, rfl⟩
      rw [← hea] at a0 a1 a2 OA NX; rw [← heb] at b0 b1 b2 OB NZ
      obtain ⟨Ra, hRa⟩ : ∃ R, R = imgS X2 Z2 ea n := ⟨_, rfl⟩
      obtain ⟨Rb, hRb⟩ : ∃ R, R = imgS X2 Z2 eb n := ⟨_, rfl⟩
      rw [← hRa] at NX; rw [← hRb] at NZ
      have HRa := Lib.hid hRa; have HRb := Lib.hid hRb
      have i1 : (k : Int) < (n : Int) := by omega
      have i2 : (0 : Int) ≤ (k : Int) := by omega
      have zga : ga < wr.heap.size := World.block_lt_of_cell? _ _ a0; have zgb : gb < wr.heap.size := World.block_lt_of_cell? _ _ b0
      clear hea heb hRa hRb HA HB
      go_wp2_with fail
      refine AnyB.begin (S := (fun w' => w'.cell? ⟨w.heap.size + 1 + 1 + 1, 1, none⟩ = some (vx) ∧ w'.cell? ⟨w.heap.size, 0, none⟩ = some (.int .i64 (n : Int)) ∧ w'.cell? ⟨w.heap.size, 1, none⟩ = some (.slice (some ⟨ga, offa, none⟩) n cA) ∧ w'.cell? ⟨w.heap.size, 2, none⟩ = some (.slice (some ⟨gb, offb, none⟩) n cB) ∧ w'.cell? ⟨w.heap.size + 1, 0, none⟩ = some (.int .i64 (n : Int)) ∧ w'.cell? ⟨w.heap.size + 1, 1, none⟩ = some (.slice C n cC) ∧ w'.cell? ⟨w.heap.size + 1, 2, none⟩ = some (.slice C2 n cD) ∧ w'.cell? ⟨ga, offa + k * 3, none⟩ = some (.int .i64 ((ea).p : Int)) ∧ w'.cell? ⟨ga, offa + k * 3 + 1, none⟩ = some (.int .i64 ((ea).x : Int)) ∧ w'.cell? ⟨ga, offa + k * 3 + 2, none⟩ = some (.int .i64 ((ea).z : Int)))) [12] (by kernel_rfl) ?_ (fun hHeld0 => ?_)
      · ((try dsimp only); (first | exact ⟨c1, t0, t1, t2, s0, s1, s2, a0, a1, a2⟩ | exact ⟨cell_alloc_keep _ c1, cell_alloc_keep _ t0, cell_alloc_keep _ t1, cell_alloc_keep _ t2, cell_alloc_keep _ s0, cell_alloc_keep _ s1, cell_alloc_keep _ s2, cell_alloc_keep _ a0, cell_alloc_keep _ a1, cell_alloc_keep _ a2⟩))
      refine AnyB.tq (i := 0) (h := ?_)
      refine AnyB.tk (i := 1) (h := ?_)
      refine AnyB.tk (i := 2) (h := ?_)
      refine AnyB.tq (i := 3) (h := ?_)
      refine AnyB.tk (i := 4) (h := ?_)
      refine AnyB.tq (i := 5) (h := ?_)
      refine AnyB.tq (i := 6) (h := ?_)
      refine AnyB.tk (i := 7) (h := ?_)
      refine AnyB.each (rs := [8]) (by kernel_rfl) (by simp) ?_
      refine EachB.cons rfl (fun K hK hB => ?_) ?_
      · skip
        (go_simp; go_at_call 36; refine (spec_l7Image_any n X2 Z2 ea _ _ _ hn LX2.out LZ2.out OX2.out OZ2.out OA.out (Rd.below HK0.out (show Below w.heap.size w wr.drew from Below.trans BW.out ((show Below (w.heap.size + 1 + 1 + 1) W0 wr.drew from Below.drew hbel.out).mono (by omega))) rfl) (Rd.below HK1.out (show Below w.heap.size w wr.drew from Below.trans BW.out ((show Below (w.heap.size + 1 + 1 + 1) W0 wr.drew from Below.drew hbel.out).mono (by omega))) rfl)).mono ?_; rw [← HRa.out]; rintro e xA ⟨rfl, hxA⟩; have yA := hxA.size; (simp at yA); replace c0 := below_cell hxA rfl (cell_drew c0); replace c1 := below_cell hxA rfl (cell_drew c1); replace c2 := below_cell hxA rfl (cell_drew c2); replace t0 := below_cell hxA rfl (cell_drew t0); replace t1 := below_cell hxA rfl (cell_drew t1); replace t2 := below_cell hxA rfl (cell_drew t2); replace s0 := below_cell hxA rfl (cell_drew s0); replace s1 := below_cell hxA rfl (cell_drew s1); replace s2 := below_cell hxA rfl (cell_drew s2); replace a0 := below_cell hxA rfl (cell_drew a0); replace a1 := below_cell hxA rfl (cell_drew a1); replace a2 := below_cell hxA rfl (cell_drew a2); replace b0 := below_cell hxA rfl (cell_drew b0); replace b1 := below_cell hxA rfl (cell_drew b1); replace b2 := below_cell hxA rfl (cell_drew b2); replace f1 := below_frz hxA rfl (by first | omega | (simp; omega)) (frz_drew f1); replace f2 := below_frz hxA rfl (by first | omega | (simp; omega)) (frz_drew f2); replace hox := Lib.hid (own_below hox.out (show Below wr.heap.size wr xA from Below.trans (show Below wr.heap.size wr wr.drew from belo) (hxA.mono (by first | omega | (simp)))) rfl); replace hoz := Lib.hid (own_below hoz.out (show Below wr.heap.size wr xA from Below.trans (show Below wr.heap.size wr wr.drew from belo) (hxA.mono (by first | omega | (simp)))) rfl); replace hbel := Lib.hid (show Below (w.heap.size + 1 + 1 + 1) W0 xA from Below.trans (Below.drew hbel.out) (hxA.mono (by first | omega | (simp; omega)))); clear hxA; dsimp only)
        refine hK.out _ _ ?_ (fun hHeld1 => ?_)
        · ((try dsimp only); (first | exact ⟨c1, t0, t1, t2, s0, s1, s2, a0, a1, a2⟩ | exact ⟨cell_alloc_keep _ c1, cell_alloc_keep _ t0, cell_alloc_keep _ t1, cell_alloc_keep _ t2, cell_alloc_keep _ s0, cell_alloc_keep _ s1, cell_alloc_keep _ s2, cell_alloc_keep _ a0, cell_alloc_keep _ a1, cell_alloc_keep _ a2⟩))
        clear hB hK K hHeld0
        refine AnyB.each (rs := [9]) (by kernel_rfl) (by simp) ?_
        refine EachB.cons rfl (fun K hK hB => ?_) ?_
        · skip
          go_simp
          refine hK.out _ _ ?_ (fun hHeld2 => ?_)
          · ((try dsimp only); (first | exact ⟨c1, t0, t1, t2, s0, s1, s2, a0, a1, a2⟩ | exact ⟨cell_alloc_keep _ c1, cell_alloc_keep _ t0, cell_alloc_keep _ t1, cell_alloc_keep _ t2, cell_alloc_keep _ s0, cell_alloc_keep _ s1, cell_alloc_keep _ s2, cell_alloc_keep _ a0, cell_alloc_keep _ a1, cell_alloc_keep _ a2⟩))
          clear hB hK K hHeld1
          refine AnyB.each (rs := [10]) (by kernel_rfl) (by simp) ?_
          refine EachB.cons rfl (fun K hK hB => ?_) ?_
          · skip
            (refine step_append_lies _ (by rfl) (.tmp 17) (.tmp 25) 27 (by rfl) (w.heap.size + 1 + 1 + 1 + 1) 33 i0 (.agg #[.int .i64 0, .int .i64 0, .int .i64 0]) 3 24 Tryz.underlying27 hi hz0 hz1 hz2 rfl (by omega) vx k _ (by rfl) (hox.out.alloc _) _ 1 1 [.int .i64 ((Ra).p : Int), .int .i64 ((Ra).x : Int), .int .i64 ((Ra).z : Int)] (by rfl) (by rfl) (news_cells xA [.int .i64 ((Ra).p : Int), .int .i64 ((Ra).x : Int), .int .i64 ((Ra).z : Int)] 33) (E3.one (Ra).e) (by omega) (by unfold maxLen; omega) (by omega) (by simp; omega) _ rfl ?_; intro g1 cp1 w1 hown1 hgr1 hat1 hlt1; have zz1 := hgr1.size; (simp at zz1); replace c0 := grown_lo (hox.out.alloc _) hgr1 (by first | omega | (simp; omega)) (cell_alloc_keep _ c0); replace c1 := grown_lo (hox.out.alloc _) hgr1 (by first | omega | (simp; omega)) (cell_alloc_keep _ c1); replace c2 := grown_lo (hox.out.alloc _) hgr1 (by first | omega | (simp; omega)) (cell_alloc_keep _ c2); replace t0 := grown_lo (hox.out.alloc _) hgr1 (by first | omega | (simp; omega)) (cell_alloc_keep _ t0); replace t1 := grown_lo (hox.out.alloc _) hgr1 (by first | omega | (simp; omega)) (cell_alloc_keep _ t1); replace t2 := grown_lo (hox.out.alloc _) hgr1 (by first | omega | (simp; omega)) (cell_alloc_keep _ t2); replace s0 := grown_lo (hox.out.alloc _) hgr1 (by first | omega | (simp; omega)) (cell_alloc_keep _ s0); replace s1 := grown_lo (hox.out.alloc _) hgr1 (by first | omega | (simp; omega)) (cell_alloc_keep _ s1); replace s2 := grown_lo (hox.out.alloc _) hgr1 (by first | omega | (simp; omega)) (cell_alloc_keep _ s2); replace a0 := grown_lo (hox.out.alloc _) hgr1 (by first | omega | (simp; omega)) (cell_alloc_keep _ a0); replace a1 := grown_lo (hox.out.alloc _) hgr1 (by first | omega | (simp; omega)) (cell_alloc_keep _ a1); replace a2 := grown_lo (hox.out.alloc _) hgr1 (by first | omega | (simp; omega)) (cell_alloc_keep _ a2); replace b0 := grown_lo (hox.out.alloc _) hgr1 (by first | omega | (simp; omega)) (cell_alloc_keep _ b0); replace b1 := grown_lo (hox.out.alloc _) hgr1 (by first | omega | (simp; omega)) (cell_alloc_keep _ b1); replace b2 := grown_lo (hox.out.alloc _) hgr1 (by first | omega | (simp; omega)) (cell_alloc_keep _ b2); replace f1 := frz_grown hgr1 (by simp; omega) (frozen_alloc_lt _ (by omega) f1) (fun h => by have := (hox.out.lt _ h).1; omega); replace f2 := frz_grown hgr1 (by simp; omega) (frozen_alloc_lt _ (by omega) f2) (fun h => by have := (hox.out.lt _ h).1; omega); have hq1 := Lib.hid (own_other hgr1 (hoz.out.alloc _) (fun g a b => hap.out g b a)); have hp1 := Lib.hid (apart_app (n := k + 1) (c := cp1) hap.out.symm (fun g hg => Nat.lt_of_lt_of_le (hoz.out.lt g hg).2 (Nat.le_succ _)) (by simpa using hat1)); replace hbel := Lib.hid (show Below (w.heap.size + 1 + 1 + 1) W0 w1 from (hbel.out.alloc (by omega) _).grown hgr1 (by simp; omega) (fun b hb => by have := (hox.out.lt b hb).1; omega)); replace hox := Lib.hid hown1; replace hoz := hq1; replace hap := Lib.hid (show Apart _ _ from hp1.out.symm); clear hown1 hgr1 hat1 hq1 hp1)
            refine hK.out _ _ ?_ (fun hHeld3 => ?_)
            · ((try dsimp only); (first | exact ⟨c1, t0, t1, t2, s0, s1, s2, a0, a1, a2⟩ | exact ⟨cell_alloc_keep _ c1, cell_alloc_keep _ t0, cell_alloc_keep _ t1, cell_alloc_keep _ t2, cell_alloc_keep _ s0, cell_alloc_keep _ s1, cell_alloc_keep _ s2, cell_alloc_keep _ a0, cell_alloc_keep _ a1, cell_alloc_keep _ a2⟩))
            clear hB hK K hHeld2
            refine AnyB.tq (i := 11) (h := ?_)
            refine AnyB.each (rs := [12]) (by kernel_rfl) (by simp) ?_
            refine EachB.cons rfl (fun K hK hB => ?_) ?_
            · skip
              go_simp
              refine hB.out _ _ rfl ?_
              clear hB hK K
              refine AnyB.none (by kernel_rfl) ?_ _
              replace c0 := cell_set_other (o2 := 1) (v := (.slice (some ⟨g1, 0, none⟩) (k + 1) cp1)) c0
              replace c1 := World.cell?_setCell_same w1 ⟨w.heap.size + 1 + 1 + 1, 1, none⟩ (.slice (some ⟨g1, 0, none⟩) (k + 1) cp1) c1
              replace c2 := cell_set_other (o2 := 1) (v := (.slice (some ⟨g1, 0, none⟩) (k + 1) cp1)) c2
              replace t0 := cell_set_far (nb := w.heap.size + 1 + 1 + 1) (o2 := 1) (v := (.slice (some ⟨g1, 0, none⟩) (k + 1) cp1)) (by omega) t0
              replace t1 := cell_set_far (nb := w.heap.size + 1 + 1 + 1) (o2 := 1) (v := (.slice (some ⟨g1, 0, none⟩) (k + 1) cp1)) (by omega) t1
              replace t2 := cell_set_far (nb := w.heap.size + 1 + 1 + 1) (o2 := 1) (v := (.slice (some ⟨g1, 0, none⟩) (k + 1) cp1)) (by omega) t2
              replace s0 := cell_set_far (nb := w.heap.size + 1 + 1 + 1) (o2 := 1) (v := (.slice (some ⟨g1, 0, none⟩) (k + 1) cp1)) (by omega) s0
              replace s1 := cell_set_far (nb := w.heap.size + 1 + 1 + 1) (o2 := 1) (v := (.slice (some ⟨g1, 0, none⟩) (k + 1) cp1)) (by omega) s1
              replace s2 := cell_set_far (nb := w.heap.size + 1 + 1 + 1) (o2 := 1) (v := (.slice (some ⟨g1, 0, none⟩) (k + 1) cp1)) (by omega) s2
              replace a0 := cell_set_far (nb := w.heap.size + 1 + 1 + 1) (o2 := 1) (v := (.slice (some ⟨g1, 0, none⟩) (k + 1) cp1)) (by omega) a0
              replace a1 := cell_set_far (nb := w.heap.size + 1 + 1 + 1) (o2 := 1) (v := (.slice (some ⟨g1, 0, none⟩) (k + 1) cp1)) (by omega) a1
              replace a2 := cell_set_far (nb := w.heap.size + 1 + 1 + 1) (o2 := 1) (v := (.slice (some ⟨g1, 0, none⟩) (k + 1) cp1)) (by omega) a2
              replace b0 := cell_set_far (nb := w.heap.size + 1 + 1 + 1) (o2 := 1) (v := (.slice (some ⟨g1, 0, none⟩) (k + 1) cp1)) (by omega) b0
              replace b1 := cell_set_far (nb := w.heap.size + 1 + 1 + 1) (o2 := 1) (v := (.slice (some ⟨g1, 0, none⟩) (k + 1) cp1)) (by omega) b1
              replace b2 := cell_set_far (nb := w.heap.size + 1 + 1 + 1) (o2 := 1) (v := (.slice (some ⟨g1, 0, none⟩) (k + 1) cp1)) (by omega) b2
              replace f1 : (w1.setCell ⟨w.heap.size + 1 + 1 + 1, 1, none⟩ (.slice (some ⟨g1, 0, none⟩) (k + 1) cp1)).frozen? ⟨w.heap.size + 1 + 1 + 1, 1, none⟩ = false := by rw [World.frozen?_setCell]; exact f1
              replace f2 : (w1.setCell ⟨w.heap.size + 1 + 1 + 1, 1, none⟩ (.slice (some ⟨g1, 0, none⟩) (k + 1) cp1)).frozen? ⟨w.heap.size + 1 + 1 + 1, 2, none⟩ = false := by rw [World.frozen?_setCell]; exact f2
              replace hox := Lib.hid (ownsRow_setCell_below hox.out (show (⟨w.heap.size + 1 + 1 + 1, 1, none⟩ : Addr).block < w.heap.size + 1 + 1 + 1 + 1 from by simp) (.slice (some ⟨g1, 0, none⟩) (k + 1) cp1))
              replace hoz := Lib.hid (ownsRow_setCell_below hoz.out (show (⟨w.heap.size + 1 + 1 + 1, 1, none⟩ : Addr).block < w.heap.size + 1 + 1 + 1 + 1 from by simp) (.slice (some ⟨g1, 0, none⟩) (k + 1) cp1))
              replace hbel := Lib.hid (show Below (w.heap.size + 1 + 1 + 1) W0 (w1.setCell ⟨w.heap.size + 1 + 1 + 1, 1, none⟩ (.slice (some ⟨g1, 0, none⟩) (k + 1) cp1)) from Below.setCell hbel.out (by simp) _)
              have sz1 : w1.heap.size = (w1.setCell ⟨w.heap.size + 1 + 1 + 1, 1, none⟩ (.slice (some ⟨g1, 0, none⟩) (k + 1) cp1)).heap.size := by simp
              obtain ⟨W1, hW1⟩ : ∃ W, W = w1.setCell ⟨w.heap.size + 1 + 1 + 1, 1, none⟩ (.slice (some ⟨g1, 0, none⟩) (k + 1) cp1) := ⟨_, rfl⟩
              go_wp2_with fail
              rw [← hW1] at c0 c1 c2 t0 t1 t2 s0 s1 s2 a0 a1 a2 b0 b1 b2 f1 f2 hox hoz hbel sz1 ⊢
              have HW1 := Lib.hid hW1; clear hW1
              refine AnyB.begin (S := (fun w' => w'.cell? ⟨w.heap.size + 1 + 1 + 1, 2, none⟩ = some (vz) ∧ w'.cell? ⟨w.heap.size, 0, none⟩ = some (.int .i64 (n : Int)) ∧ w'.cell? ⟨w.heap.size, 1, none⟩ = some (.slice (some ⟨ga, offa, none⟩) n cA) ∧ w'.cell? ⟨w.heap.size, 2, none⟩ = some (.slice (some ⟨gb, offb, none⟩) n cB) ∧ w'.cell? ⟨w.heap.size + 1, 0, none⟩ = some (.int .i64 (n : Int)) ∧ w'.cell? ⟨w.heap.size + 1, 1, none⟩ = some (.slice C n cC) ∧ w'.cell? ⟨w.heap.size + 1, 2, none⟩ = some (.slice C2 n cD) ∧ w'.cell? ⟨gb, offb + k * 3, none⟩ = some (.int .i64 ((eb).p : Int)) ∧ w'.cell? ⟨gb, offb + k * 3 + 1, none⟩ = some (.int .i64 ((eb).x : Int)) ∧ w'.cell? ⟨gb, offb + k * 3 + 2, none⟩ = some (.int .i64 ((eb).z : Int)))) [12] (by kernel_rfl) ?_ (fun hHeld0 => ?_)
              · ((try dsimp only); (first | exact ⟨c2, t0, t1, t2, s0, s1, s2, b0, b1, b2⟩ | exact ⟨cell_alloc_keep _ c2, cell_alloc_keep _ t0, cell_alloc_keep _ t1, cell_alloc_keep _ t2, cell_alloc_keep _ s0, cell_alloc_keep _ s1, cell_alloc_keep _ s2, cell_alloc_keep _ b0, cell_alloc_keep _ b1, cell_alloc_keep _ b2⟩))
              refine AnyB.tq (i := 0) (h := ?_)
              refine AnyB.tk (i := 1) (h := ?_)
              refine AnyB.tk (i := 2) (h := ?_)
              refine AnyB.tq (i := 3) (h := ?_)
              refine AnyB.tk (i := 4) (h := ?_)
              refine AnyB.tq (i := 5) (h := ?_)
              refine AnyB.tq (i := 6) (h := ?_)
              refine AnyB.tk (i := 7) (h := ?_)
              refine AnyB.each (rs := [8]) (by kernel_rfl) (by simp) ?_
              refine EachB.cons rfl (fun K hK hB => ?_) ?_
              · skip
                (go_simp; go_at_call 36; refine (spec_l7Image_any n X2 Z2 eb _ _ _ hn LX2.out LZ2.out OX2.out OZ2.out OB.out (Rd.below HK0.out (show Below w.heap.size w W1.drew from Below.trans BW.out ((show Below (w.heap.size + 1 + 1 + 1) W0 W1.drew from Below.drew hbel.out).mono (by omega))) rfl) (Rd.below HK1.out (show Below w.heap.size w W1.drew from Below.trans BW.out ((show Below (w.heap.size + 1 + 1 + 1) W0 W1.drew from Below.drew hbel.out).mono (by omega))) rfl)).mono ?_; rw [← HRb.out]; rintro e xB ⟨rfl, hxB⟩; have yB := hxB.size; (simp at yB); replace c0 := below_cell hxB rfl (cell_drew c0); replace c1 := below_cell hxB rfl (cell_drew c1); replace c2 := below_cell hxB rfl (cell_drew c2); replace t0 := below_cell hxB rfl (cell_drew t0); replace t1 := below_cell hxB rfl (cell_drew t1); replace t2 := below_cell hxB rfl (cell_drew t2); replace s0 := below_cell hxB rfl (cell_drew s0); replace s1 := below_cell hxB rfl (cell_drew s1); replace s2 := below_cell hxB rfl (cell_drew s2); replace a0 := below_cell hxB rfl (cell_drew a0); replace a1 := below_cell hxB rfl (cell_drew a1); replace a2 := below_cell hxB rfl (cell_drew a2); replace b0 := below_cell hxB rfl (cell_drew b0); replace b1 := below_cell hxB rfl (cell_drew b1); replace b2 := below_cell hxB rfl (cell_drew b2); replace f1 := below_frz hxB rfl (by first | omega | (simp; omega)) (frz_drew f1); replace f2 := below_frz hxB rfl (by first | omega | (simp; omega)) (frz_drew f2); replace hox := Lib.hid (own_below hox.out (show Below W1.heap.size W1 xB from Below.trans (show Below W1.heap.size W1 W1.drew from belo) (hxB.mono (by first | omega | (simp)))) rfl); replace hoz := Lib.hid (own_below hoz.out (show Below W1.heap.size W1 xB from Below.trans (show Below W1.heap.size W1 W1.drew from belo) (hxB.mono (by first | omega | (simp)))) rfl); replace hbel := Lib.hid (show Below (w.heap.size + 1 + 1 + 1) W0 xB from Below.trans (Below.drew hbel.out) (hxB.mono (by first | omega | (simp; omega)))); clear hxB; dsimp only)
                refine hK.out _ _ ?_ (fun hHeld1 => ?_)
                · ((try dsimp only); (first | exact ⟨c2, t0, t1, t2, s0, s1, s2, b0, b1, b2⟩ | exact ⟨cell_alloc_keep _ c2, cell_alloc_keep _ t0, cell_alloc_keep _ t1, cell_alloc_keep _ t2, cell_alloc_keep _ s0, cell_alloc_keep _ s1, cell_alloc_keep _ s2, cell_alloc_keep _ b0, cell_alloc_keep _ b1, cell_alloc_keep _ b2⟩))
                clear hB hK K hHeld0
                refine AnyB.each (rs := [9]) (by kernel_rfl) (by simp) ?_
                refine EachB.cons rfl (fun K hK hB => ?_) ?_
                · skip
                  go_simp
                  refine hK.out _ _ ?_ (fun hHeld2 => ?_)
                  · ((try dsimp only); (first | exact ⟨c2, t0, t1, t2, s0, s1, s2, b0, b1, b2⟩ | exact ⟨cell_alloc_keep _ c2, cell_alloc_keep _ t0, cell_alloc_keep _ t1, cell_alloc_keep _ t2, cell_alloc_keep _ s0, cell_alloc_keep _ s1, cell_alloc_keep _ s2, cell_alloc_keep _ b0, cell_alloc_keep _ b1, cell_alloc_keep _ b2⟩))
                  clear hB hK K hHeld1
                  refine AnyB.each (rs := [10]) (by kernel_rfl) (by simp) ?_
                  refine EachB.cons rfl (fun K hK hB => ?_) ?_
                  · skip
                    (refine step_append_lies _ (by rfl) (.tmp 29) (.tmp 37) 27 (by rfl) (w.heap.size + 1 + 1 + 1 + 1) 33 i0 (.agg #[.int .i64 0, .int .i64 0, .int .i64 0]) 3 24 Tryz.underlying27 hi hz0 hz1 hz2 rfl (by omega) vz k _ (by rfl) (hoz.out.alloc _) _ 1 1 [.int .i64 ((Rb).p : Int), .int .i64 ((Rb).x : Int), .int .i64 ((Rb).z : Int)] (by rfl) (by rfl) (news_cells xB [.int .i64 ((Rb).p : Int), .int .i64 ((Rb).x : Int), .int .i64 ((Rb).z : Int)] 33) (E3.one (Rb).e) (by omega) (by unfold maxLen; omega) (by omega) (by simp; omega) _ rfl ?_; intro g2 cp2 w2 hown2 hgr2 hat2 hlt2; have zz2 := hgr2.size; (simp at zz2); replace c0 := grown_lo (hoz.out.alloc _) hgr2 (by first | omega | (simp; omega)) (cell_alloc_keep _ c0); replace c1 := grown_lo (hoz.out.alloc _) hgr2 (by first | omega | (simp; omega)) (cell_alloc_keep _ c1); replace c2 := grown_lo (hoz.out.alloc _) hgr2 (by first | omega | (simp; omega)) (cell_alloc_keep _ c2); replace t0 := grown_lo (hoz.out.alloc _) hgr2 (by first | omega | (simp; omega)) (cell_alloc_keep _ t0); replace t1 := grown_lo (hoz.out.alloc _) hgr2 (by first | omega | (simp; omega)) (cell_alloc_keep _ t1); replace t2 := grown_lo (hoz.out.alloc _) hgr2 (by first | omega | (simp; omega)) (cell_alloc_keep _ t2); replace s0 := grown_lo (hoz.out.alloc _) hgr2 (by first | omega | (simp; omega)) (cell_alloc_keep _ s0); replace s1 := grown_lo (hoz.out.alloc _) hgr2 (by first | omega | (simp; omega)) (cell_alloc_keep _ s1); replace s2 := grown_lo (hoz.out.alloc _) hgr2 (by first | omega | (simp; omega)) (cell_alloc_keep _ s2); replace a0 := grown_lo (hoz.out.alloc _) hgr2 (by first | omega | (simp; omega)) (cell_alloc_keep _ a0); replace a1 := grown_lo (hoz.out.alloc _) hgr2 (by first | omega | (simp; omega)) (cell_alloc_keep _ a1); replace a2 := grown_lo (hoz.out.alloc _) hgr2 (by first | omega | (simp; omega)) (cell_alloc_keep _ a2); replace b0 := grown_lo (hoz.out.alloc _) hgr2 (by first | omega | (simp; omega)) (cell_alloc_keep _ b0); replace b1 := grown_lo (hoz.out.alloc _) hgr2 (by first | omega | (simp; omega)) (cell_alloc_keep _ b1); replace b2 := grown_lo (hoz.out.alloc _) hgr2 (by first | omega | (simp; omega)) (cell_alloc_keep _ b2); replace f1 := frz_grown hgr2 (by simp; omega) (frozen_alloc_lt _ (by omega) f1) (fun h => by have := (hoz.out.lt _ h).1; omega); replace f2 := frz_grown hgr2 (by simp; omega) (frozen_alloc_lt _ (by omega) f2) (fun h => by have := (hoz.out.lt _ h).1; omega); have hq2 := Lib.hid (own_other hgr2 (hox.out.alloc _) (fun g a b => hap.out g a b)); have hp2 := Lib.hid (apart_app (n := k + 1) (c := cp2) hap.out (fun g hg => Nat.lt_of_lt_of_le (hox.out.lt g hg).2 (Nat.le_succ _)) (by simpa using hat2)); replace hbel := Lib.hid (show Below (w.heap.size + 1 + 1 + 1) W0 w2 from (hbel.out.alloc (by omega) _).grown hgr2 (by simp; omega) (fun b hb => by have := (hoz.out.lt b hb).1; omega)); replace hoz := Lib.hid hown2; replace hox := hq2; replace hap := Lib.hid (show Apart _ _ from hp2.out); clear hown2 hgr2 hat2 hq2 hp2)
                    refine hK.out _ _ ?_ (fun hHeld3 => ?_)
                    · ((try dsimp only); (first | exact ⟨c2, t0, t1, t2, s0, s1, s2, b0, b1, b2⟩ | exact ⟨cell_alloc_keep _ c2, cell_alloc_keep _ t0, cell_alloc_keep _ t1, cell_alloc_keep _ t2, cell_alloc_keep _ s0, cell_alloc_keep _ s1, cell_alloc_keep _ s2, cell_alloc_keep _ b0, cell_alloc_keep _ b1, cell_alloc_keep _ b2⟩))
                    clear hB hK K hHeld2
                    refine AnyB.tq (i := 11) (h := ?_)
                    refine AnyB.each (rs := [12]) (by kernel_rfl) (by simp) ?_
                    refine EachB.cons rfl (fun K hK hB => ?_) ?_
                    · skip
                      go_simp
                      refine hB.out _ _ rfl ?_
                      clear hB hK K
                      refine AnyB.none (by kernel_rfl) ?_ _
                      go_wp2_with fail
                      go_roundw
                      case rel => exact ⟨k + 1, (.slice (some ⟨g1, 0, none⟩) (k + 1) cp1), (.slice (some ⟨g2, 0, none⟩) (k + 1) cp2), by omega, by go_num, cell_set_other c0, cell_set_other c1, World.cell?_setCell_same _ _ _ c2, by rw [World.frozen?_setCell]; exact f1, by rw [World.frozen?_setCell]; exact f2, (show World.ownsRow _ _ _ _ _ _ _ from by rw [NX.out]; exact ownsRow_setCell_below hox.out (by simp) _), (show World.ownsRow _ _ _ _ _ _ _ from by rw [NZ.out]; exact ownsRow_setCell_below hoz.out (by simp) _), hap, (show Below _ _ _ from Below.setCell hbel.out (by simp) _), by simp; omega⟩
                      case measure => simp [intOf]; omega
                    exact EachB.nil
                  exact EachB.nil
                exact EachB.nil
              exact EachB.nil
            exact EachB.nil
          exact EachB.nil
        exact EachB.nil
      exact EachB.nil
    · have e : k = n := by omega
      subst e
      have r0 := (hbel.out.cell (p := ⟨w.heap.size + 1 + 1, 0, none⟩) (by dsimp only; omega)).trans R0.out; have q0 := (hbel.out.frozen (p := ⟨w.heap.size + 1 + 1, 0, none⟩) (by dsimp only; omega)).trans Q0.out
      have r1 := (hbel.out.cell (p := ⟨w.heap.size + 1 + 1, 1, none⟩) (by dsimp only; omega)).trans R1.out; have q1 := (hbel.out.frozen (p := ⟨w.heap.size + 1 + 1, 1, none⟩) (by dsimp only; omega)).trans Q1.out
      have r2 := (hbel.out.cell (p := ⟨w.heap.size + 1 + 1, 2, none⟩) (by dsimp only; omega)).trans R2.out; have q2 := (hbel.out.frozen (p := ⟨w.heap.size + 1 + 1, 2, none⟩) (by dsimp only; omega)).trans Q2.out
      have bw := Lib.hid (show Below w.heap.size w wr from Below.trans BW.out (hbel.out.mono (by omega)))
      have t0 := (hbel.out.cell (p := ⟨w.heap.size, 0, none⟩) (by dsimp only; omega)).trans T0.out
      obtain ⟨a9, cp9, rfl⟩ := own_form hox.out
      obtain ⟨b9, cq9, rfl⟩ := own_form hoz.out
      have hZ := box_set3 (w3 := wr) (nb := w.heap.size + 1 + 1) (.int .i64 (k : Int)) (.slice a9 k cp9) (.slice b9 k cq9) r0 r1 r2
      have hlx := LX1.out; have hlz := LZ1.out
      have HX := Lib.hid (show (pes (compL imgS X2 Z2 k X1)).length = k from by rw [pes_len]; unfold compL; simpa using hlx); have HZ := Lib.hid (show (pes (compL imgS X2 Z2 k Z1)).length = k from by rw [pes_len]; unfold compL; simpa using hlz)
      rw [List.take_of_length_le (by omega)] at hox hoz
      clear hlx hlz
      go_wp2_with fail
      refine bodyPost_ret (v := .agg #[.int .i64 (k : Int), .slice a9 k cp9, .slice b9 k cq9]) (by simp [results, Tryz.results67, go_sem, hZ]) rfl ⟨_, _, rfl, ?_, ?_, hap.out, ?_⟩
      · unfold OwnE; rw [HX.out]; exact own_le (ownsRow_setCell_below (ownsRow_setCell_below (ownsRow_setCell_below hox.out (by simp) _) (by simp) _) (by simp) _) (by omega)
      · unfold OwnE; rw [HZ.out]; exact own_le (ownsRow_setCell_below (ownsRow_setCell_below (ownsRow_setCell_below hoz.out (by simp) _) (by simp) _) (by simp) _) (by omega)
      · have bq := bw.out; exact belo
end Go.Proofs.YtnckabohlakbgaaGreat
namespace Go.Proofs.YtnckabohlakbgaaGreat
set_option linter.unusedSimpArgs false
set_option linter.unusedVariables false
set_option linter.unnecessarySimpa false
set_option maxRecDepth 200000
open Go.ChangeShapes Go.WideShapes Go.ChangeAt Go.RowKit

def encPauli (x : E3) : Value := .agg #[.int .i64 x.a, .int .i64 x.b, .int .i64 x.c]
set_option maxHeartbeats 2000000 in
theorem slices_IndexFunc_Pauli (g : Nat) (lb : Array Value) (p : E3 → Bool) (eg : ∀ args w, (callFunc g args).run Tryz.prog w = .ok (.enter g args) w) (v : Value) (zs : List E3) (w : World) (h : RdE w v E3.cs 3 zs) (hp : PredB g lb encPauli p zs w) :
    Calls Tryz.prog 77 #[v, .func (.func g) #[] lb] w fun e w' => e = .returned (.int .i64 (idxI p zs)) ∧ Below w.heap.size w w' := by
  rcases h.cases0 E3.len with ⟨rfl, a0, c0, rfl⟩ | ⟨h0, b, off, cap, rfl, hb, hl, hm, hc⟩
  · go_enter Tryz.func77, Tryz.ntmps77
    go_wp2_with fail
    refine wp_loop_rounds 1 ?_
    rw [rounds_succ]
    go_wp2_with fail
    go_ret
    exact ⟨rfl, belo⟩
  · clear h
    have Hp := Lib.hid hp; clear hp
    go_enter Tryz.func77, Tryz.ntmps77
    go_wp2_with fail
    go_loopg [5, 8] zs.length (fun gg _ i wr => ∃ k : Nat, k ≤ zs.length ∧ zs.length - k ≤ gg ∧ i = .int .i64 k ∧ Hid (∀ j (h : j < zs.length), j < k → p zs[j] = false) ∧ Below w.heap.size w wr)
    case atStart => exact ⟨0, Nat.zero_le _, by omega, rfl, (show ∀ j (h : j < zs.length), j < 0 → p zs[j] = false from fun j h hj => absurd hj (Nat.not_lt_zero _)), Below.refl _ _⟩
    case round =>
      obtain ⟨k, hk, hg, rfl, hpre, hbel⟩ := hrel
      by_cases hlt : k < zs.length
      · obtain ⟨y, hy⟩ : ∃ y, zs[k] = y := ⟨_, rfl⟩
        have q0 : wr.cell? ⟨b, off + k * 3, none⟩ = some (.int .i64 y.a) := (hbel.cell hb).trans (by rw [← hy]; exact hc k hlt 0 _ (by omega) rfl)
        have q1 : wr.cell? ⟨b, off + k * 3 + 1, none⟩ = some (.int .i64 y.b) := (hbel.cell hb).trans (by rw [← hy]; exact hc k hlt 1 _ (by omega) rfl)
        have q2 : wr.cell? ⟨b, off + k * 3 + 2, none⟩ = some (.int .i64 y.c) := (hbel.cell hb).trans (by rw [← hy]; exact hc k hlt 2 _ (by omega) rfl)
        have hcall := Hp.out wr y (by rw [← hy]; exact List.getElem_mem hlt) hbel
        unfold encPauli at hcall
        have i1 : (k : Int) < (zs.length : Int) := by omega
        have Hy := Lib.hid hy; clear hy hc
        cases hq : p y with
        | true =>
          rw [hq] at hcall
          have Hq := Lib.hid hq; clear hq
          go_wp2_with (go_at_fn g; refine hcall.mono ?_; rintro e w2 ⟨rfl, hb2⟩)
          go_ret
          exact ⟨ret_int (idx_hit hlt hpre (by rw [Hy.out]; exact Hq.out)), below_step hbel hb2⟩
        | false =>
          rw [hq] at hcall
          have Hq := Lib.hid hq; clear hq
          go_wp2_with (go_at_fn g; refine hcall.mono ?_; rintro e w2 ⟨rfl, hb2⟩)
          go_roundg (zs.length - (k + 1))
          case measure => omega
          case rel => exact ⟨k + 1, by omega, by omega, by go_num, idx_next hlt hpre (by rw [Hy.out]; exact Hq.out), below_step hbel hb2⟩
      · clear hc
        go_wp2_with fail
        go_ret
        exact ⟨ret_int (idx_miss (by omega) hpre), hbel⟩
theorem slices_ContainsFunc_Pauli (g : Nat) (lb : Array Value) (p : E3 → Bool) (eg : ∀ args w, (callFunc g args).run Tryz.prog w = .ok (.enter g args) w) (v : Value) (zs : List E3) (w : World) (h : RdE w v E3.cs 3 zs) (hp : PredB g lb encPauli p zs w) :
    Calls Tryz.prog 41 #[v, .func (.func g) #[] lb] w fun e w' => e = .returned (.bool (zs.any p)) ∧ Below w.heap.size w w' := by
  have Hh := Lib.hid h; have Hp := Lib.hid hp
  obtain ⟨A, c, rfl, _⟩ := h.form
  clear h hp
  go_enter Tryz.func41, Tryz.ntmps41
  go_wp2_with fail
  refine (slices_IndexFunc_Pauli g lb p eg _ zs _ Hh.out Hp.out).mono ?_; rintro e w1 ⟨rfl, hb1⟩
  go_wp2_with fail
  go_ret
  exact ⟨ret_bool (by rw [Bool.eq_iff_iff, ← idxI_ge]; simp), hb1⟩
end Go.Proofs.YtnckabohlakbgaaGreat
