/- TableauOf in the reference. -/
import Derived.Test.YtnckabohlakbgaaGreatZ21M
import Derived.Test.YtnckabohlakbgaaGreatZ22M
import Derived.Test.YtnckabohlakbgaaGreatZ23Tab2
import Derived.Test.YtnckabohlakbgaaGreatZ24M
import Derived.Test.YtnckabohlakbgaaGreatZ40M
import Derived.Test.YtnckabohlakbgaaGreatZ42Gu2
import Derived.Test.YtnckabohlakbgaaGreatZ06Brk
import Derived.Test.YtnckabohlakbgaaGreatZ18M
namespace Go.Proofs.YtnckabohlakbgaaGreat
set_option linter.unusedSimpArgs false
set_option linter.unusedVariables false
set_option linter.unnecessarySimpa false
set_option maxRecDepth 200000
open Go.ChangeShapes Go.WideShapes Go.ChangeAt Go.RowKit

theorem own_far3 {w : World} {base n cap g q : Nat} {xs : List E3} (h : OwnE w base 33 (.slice (some ⟨g, 0, none⟩) n cap) E3.cs 3 xs) (hl : xs.length = n) (hne : g ≠ q) (x y z : Value) : OwnE (set3 w q x y z) base 33 (.slice (some ⟨g, 0, none⟩) n cap) E3.cs 3 xs := ((OwnG.of h hl).farF (Far.set3 w q x y z) hne).own
set_option maxHeartbeats 16000000 in
theorem spec_l7Of_any (v : Value) (d : Circ) (n : Nat) (w : World) (h : RdE w v E3.cs 3 d.gs) (hn : d.n = (n : Int)) (hok : clifB d = true) :
    Calls Tryz.prog 29 #[.agg #[.int .i64 d.n, v]] w fun e w' => ∃ r0 r1, e = .returned (.agg #[.int .i64 (n : Int), r0, r1]) ∧ OwnE w' w.heap.size 33 r0 E3.cs 3 (pes (tofX n d.gs d.gs.length)) ∧ OwnE w' w.heap.size 33 r1 E3.cs 3 (pes (tofZ n d.gs d.gs.length)) ∧ Apart r0 r1 ∧ Below w.heap.size w w' := by
  obtain ⟨A, cA, rfl, Hc⟩ := gate_at h
  clear h
  have HOK := Lib.hid hok
  obtain ⟨n1, n5⟩ := clif_n hok hn
  have hdl : d.gs.length ≤ 400 := (clif_parts hok).1.2.1
  clear hok
  rw [hn]
  have HN := Lib.hid hn; clear hn
  go_enter Tryz.func29, Tryz.ntmps29
  go_wp2_with fail
  refine (spec_l7Identity_any (n : Int) _ (by omega) (by omega)).mono ?_; rintro e w1 ⟨q0, q1, rfl, ho0, ho1, hap, hb1⟩
  rw [Int.toNat_natCast] at ho0 ho1
  have t0 := below_cell hb1 rfl (show ((w.alloc (.cells #[.int .i64 (n : Int), .slice A d.gs.length cA] 25)).alloc (.cells #[.int .i64 0, .slice none 0 0, .slice none 0 0] 29)).cell? ⟨w.heap.size, 0, none⟩ = some (.int .i64 (n : Int)) from cela)
  have t1 := below_cell hb1 rfl (show ((w.alloc (.cells #[.int .i64 (n : Int), .slice A d.gs.length cA] 25)).alloc (.cells #[.int .i64 0, .slice none 0 0, .slice none 0 0] 29)).cell? ⟨w.heap.size, 1, none⟩ = some (.slice A d.gs.length cA) from cela)
  have r0 := below_cell hb1 rfl (show ((w.alloc (.cells #[.int .i64 (n : Int), .slice A d.gs.length cA] 25)).alloc (.cells #[.int .i64 0, .slice none 0 0, .slice none 0 0] 29)).cell? ⟨w.heap.size + 1, 0, none⟩ = some (.int .i64 0) from cela)
  have u0 := below_frz hb1 rfl (by simp) (show ((w.alloc (.cells #[.int .i64 (n : Int), .slice A d.gs.length cA] 25)).alloc (.cells #[.int .i64 0, .slice none 0 0, .slice none 0 0] 29)).frozen? ⟨w.heap.size + 1, 0, none⟩ = false from froza)
  have r1 := below_cell hb1 rfl (show ((w.alloc (.cells #[.int .i64 (n : Int), .slice A d.gs.length cA] 25)).alloc (.cells #[.int .i64 0, .slice none 0 0, .slice none 0 0] 29)).cell? ⟨w.heap.size + 1, 1, none⟩ = some (.slice none 0 0) from cela)
  have u1 := below_frz hb1 rfl (by simp) (show ((w.alloc (.cells #[.int .i64 (n : Int), .slice A d.gs.length cA] 25)).alloc (.cells #[.int .i64 0, .slice none 0 0, .slice none 0 0] 29)).frozen? ⟨w.heap.size + 1, 1, none⟩ = false from froza)
  have r2 := below_cell hb1 rfl (show ((w.alloc (.cells #[.int .i64 (n : Int), .slice A d.gs.length cA] 25)).alloc (.cells #[.int .i64 0, .slice none 0 0, .slice none 0 0] 29)).cell? ⟨w.heap.size + 1, 2, none⟩ = some (.slice none 0 0) from cela)
  have u2 := below_frz hb1 rfl (by simp) (show ((w.alloc (.cells #[.int .i64 (n : Int), .slice A d.gs.length cA] 25)).alloc (.cells #[.int .i64 0, .slice none 0 0, .slice none 0 0] 29)).frozen? ⟨w.heap.size + 1, 2, none⟩ = false from froza)
  have z1 := hb1.size; (simp at z1)
  have bw1 := Lib.hid (show Below w.heap.size w w1 from belo)
  clear hb1
  obtain ⟨g0, cp0, rfl, hg0, hg0'⟩ := own_E3 ho0 (idX_len n) (by omega)
  obtain ⟨g1, cp1, rfl, hg1, hg1'⟩ := own_E3 ho1 (idZ_len n) (by omega)
  (simp at hg0 hg1)
  have O0 := Lib.hid (OwnE.le ho0 (base' := w.heap.size + 2) (by first | omega | (simp; done) | (simp; omega))); have O1 := Lib.hid (OwnE.le ho1 (base' := w.heap.size + 2) (by first | omega | (simp; done) | (simp; omega)))
  have AP := Lib.hid hap
  clear ho0 ho1 hap
  have T0 := Lib.hid t0
  have T1 := Lib.hid t1
  have R0 := Lib.hid r0
  have R1 := Lib.hid r1
  have R2 := Lib.hid r2
  have U0 := Lib.hid u0
  have U1 := Lib.hid u1
  have U2 := Lib.hid u2
  have BX := World.block_lt_of_cell? _ _ t0
  have A0 := Lib.hid (show OwnE (w1.alloc (.cells #[.int .i64 (n : Int), .slice (some ⟨g0, 0, none⟩) n cp0, .slice (some ⟨g1, 0, none⟩) n cp1] 29)) (w.heap.size + 2) 33 (.slice (some ⟨g0, 0, none⟩) n cp0) E3.cs 3 (pes (tofX n d.gs 0)) from OwnE.below (by rw [tofX_0, ← idX_pes]; exact O0.out) (show Below w1.heap.size w1 _ from belo) rfl)
  have A1 := Lib.hid (show OwnE (w1.alloc (.cells #[.int .i64 (n : Int), .slice (some ⟨g0, 0, none⟩) n cp0, .slice (some ⟨g1, 0, none⟩) n cp1] 29)) (w.heap.size + 2) 33 (.slice (some ⟨g1, 0, none⟩) n cp1) E3.cs 3 (pes (tofZ n d.gs 0)) from OwnE.below (by rw [tofZ_0, ← idZ_pes]; exact O1.out) (show Below w1.heap.size w1 _ from belo) rfl)
  clear O0 O1 r0 r1 r2 u0 u1 u2
  go_wp2_with fail
  clear t0 t1
  go_loopw [12] (fun i wr => ∃ (k g0 cp0 g1 cp1 : Nat), k ≤ d.gs.length ∧ i = .int .i64 k ∧ wr.cell? ⟨w1.heap.size, 0, none⟩ = some (.int .i64 (n : Int)) ∧ wr.cell? ⟨w1.heap.size, 1, none⟩ = some (.slice (some ⟨g0, 0, none⟩) n cp0) ∧ wr.cell? ⟨w1.heap.size, 2, none⟩ = some (.slice (some ⟨g1, 0, none⟩) n cp1) ∧ wr.frozen? ⟨w1.heap.size, 0, none⟩ = false ∧ wr.frozen? ⟨w1.heap.size, 1, none⟩ = false ∧ wr.frozen? ⟨w1.heap.size, 2, none⟩ = false ∧ Hid (OwnE wr (w.heap.size + 2) 33 (.slice (some ⟨g0, 0, none⟩) n cp0) E3.cs 3 (pes (tofX n d.gs k))) ∧ Hid (OwnE wr (w.heap.size + 2) 33 (.slice (some ⟨g1, 0, none⟩) n cp1) E3.cs 3 (pes (tofZ n d.gs k))) ∧ Hid (Apart (.slice (some ⟨g0, 0, none⟩) n cp0) (.slice (some ⟨g1, 0, none⟩) n cp1)) ∧ g0 ≠ w1.heap.size ∧ g1 ≠ w1.heap.size ∧ Hid (Below w1.heap.size w1 wr)) (fun i _ => d.gs.length - (intOf i).toNat)
  case atStart => exact ⟨0, g0, cp0, g1, cp1, Nat.zero_le _, rfl, cela, cela, cela, froza, froza, froza, A0, A1, AP, by omega, by omega, (show Below _ _ _ from belo)⟩
  case round =>
    clear A0 A1 AP hg0 hg1 hg0' hg1'
    obtain ⟨k, g0, cp0, g1, cp1, hk, rfl, c0, c1, c2, f0, f1, f2, O0, O1, AP, e0, e1, hbel⟩ := hrel
    have L1 : w1.heap.size < wr.heap.size := World.block_lt_of_cell? _ _ c0
    have bw := Lib.hid (show Below w.heap.size w wr from Below.trans bw1.out (hbel.out.mono bw1.out.size))
    have t0 := below_cell hbel.out rfl T0.out; have t1 := below_cell hbel.out rfl T1.out
    by_cases hlt : k < d.gs.length
    · have i1 : (k : Int) < (d.gs.length : Int) := by omega
      obtain ⟨b0, off, rfl, hb0, q0, q1, q2⟩ := Hc.out k hlt
      replace q0 := (bw.out.cell hb0).trans q0; replace q1 := (bw.out.cell hb0).trans q1; replace q2 := (bw.out.cell hb0).trans q2
      obtain ⟨kk, a, b, hg, hgt⟩ := clif_gate HOK.out HN.out hlt
      have SX := Lib.hid (tofX_succ n hlt hg); have SZ := Lib.hid (tofZ_succ n hlt hg)
      rw [hg] at q0 q1 q2
      have HGT := Lib.hid hgt; clear hgt hg
      have LX := Lib.hid (tof_lt HOK.out HN.out k hk).1; have LZ := Lib.hid (tof_lt HOK.out HN.out k hk).2
      have KX := Lib.hid (tofX_len n d.gs k); have KZ := Lib.hid (tofZ_len n d.gs k)
      obtain ⟨X, hX⟩ : ∃ X, X = tofX n d.gs k := ⟨_, rfl⟩
      obtain ⟨Z, hZ⟩ : ∃ Z, Z = tofZ n d.gs k := ⟨_, rfl⟩
      rw [← hX] at O0 SX LX KX; rw [← hZ] at O1 SZ LZ KZ
      clear hX hZ
      have gx0 : (wr.alloc (.cells #[.int .i64 (kk : Int), .int .i64 (a : Int), .int .i64 (b : Int)] 66)).cell? ⟨wr.heap.size, 0, none⟩ = some (.int .i64 (kk : Int)) := cela
      have gx1 : (wr.alloc (.cells #[.int .i64 (kk : Int), .int .i64 (a : Int), .int .i64 (b : Int)] 66)).cell? ⟨wr.heap.size, 1, none⟩ = some (.int .i64 (a : Int)) := cela
      have gx2 : (wr.alloc (.cells #[.int .i64 (kk : Int), .int .i64 (a : Int), .int .i64 (b : Int)] 66)).cell? ⟨wr.heap.size, 2, none⟩ = some (.int .i64 (b : Int)) := cela
      replace c0 := cell_alloc_keep (.cells #[.int .i64 (kk : Int), .int .i64 (a : Int), .int .i64 (b : Int)] 66) c0
      replace c1 := cell_alloc_keep (.cells #[.int .i64 (kk : Int), .int .i64 (a : Int), .int .i64 (b : Int)] 66) c1
      replace c2 := cell_alloc_keep (.cells #[.int .i64 (kk : Int), .int .i64 (a : Int), .int .i64 (b : Int)] 66) c2
      replace t0 := cell_alloc_keep (.cells #[.int .i64 (kk : Int), .int .i64 (a : Int), .int .i64 (b : Int)] 66) t0
      replace t1 := cell_alloc_keep (.cells #[.int .i64 (kk : Int), .int .i64 (a : Int), .int .i64 (b : Int)] 66) t1
      replace f0 := frozen_alloc_lt (.cells #[.int .i64 (kk : Int), .int .i64 (a : Int), .int .i64 (b : Int)] 66) L1 f0
      replace f1 := frozen_alloc_lt (.cells #[.int .i64 (kk : Int), .int .i64 (a : Int), .int .i64 (b : Int)] 66) L1 f1
      replace f2 := frozen_alloc_lt (.cells #[.int .i64 (kk : Int), .int .i64 (a : Int), .int .i64 (b : Int)] 66) L1 f2
      replace O0 := Lib.hid (OwnE.below O0.out (show Below wr.heap.size wr (wr.alloc (.cells #[.int .i64 (kk : Int), .int .i64 (a : Int), .int .i64 (b : Int)] 66)) from belo) rfl); replace O1 := Lib.hid (OwnE.below O1.out (show Below wr.heap.size wr (wr.alloc (.cells #[.int .i64 (kk : Int), .int .i64 (a : Int), .int .i64 (b : Int)] 66)) from belo) rfl)
      replace hbel := Lib.hid (show Below w1.heap.size w1 (wr.alloc (.cells #[.int .i64 (kk : Int), .int .i64 (a : Int), .int .i64 (b : Int)] 66)) from Below.alloc hbel.out (by omega) _)
      have zw : wr.heap.size < (wr.alloc (.cells #[.int .i64 (kk : Int), .int .i64 (a : Int), .int .i64 (b : Int)] 66)).heap.size := by simp
      go_wp2_with fail
      generalize wr.alloc (.cells #[.int .i64 (kk : Int), .int .i64 (a : Int), .int .i64 (b : Int)] 66) = W at *
      clear q0 q1 q2 bw
      obtain ⟨gw, hgw⟩ : ∃ gw, gw = wr.heap.size := ⟨_, rfl⟩
      rw [← hgw] at gx0 gx1 gx2 zw L1 ⊢
      clear hgw
      refine AnyB.begin (S := (fun w' => w'.cell? ⟨w1.heap.size, 0, none⟩ = some (.int .i64 (n : Int)) ∧ w'.cell? ⟨w1.heap.size, 1, none⟩ = some (.slice (some ⟨g0, 0, none⟩) n cp0) ∧ w'.cell? ⟨w1.heap.size, 2, none⟩ = some (.slice (some ⟨g1, 0, none⟩) n cp1) ∧ w'.cell? ⟨w.heap.size, 0, none⟩ = some (.int .i64 (n : Int)) ∧ w'.cell? ⟨gw, 0, none⟩ = some (.int .i64 (kk : Int)) ∧ w'.cell? ⟨gw, 1, none⟩ = some (.int .i64 (a : Int)) ∧ w'.cell? ⟨gw, 2, none⟩ = some (.int .i64 (b : Int)))) [6] (by kernel_rfl) ?_ (fun hHeld0 => ?_)
      · ((try dsimp only); (first | exact ⟨c0, c1, c2, t0, gx0, gx1, gx2⟩))
      refine AnyB.tk (i := 0) (h := ?_)
      refine AnyB.tq (i := 1) (h := ?_)
      refine AnyB.tk (i := 2) (h := ?_)
      refine AnyB.tk (i := 3) (h := ?_)
      refine AnyB.each (rs := [4]) (by kernel_rfl) (by simp) ?_
      refine EachB.cons rfl (fun K hK hB => ?_) ?_
      · skip
        (go_simp; go_at_call 68; refine (spec_l7Gate_any n kk a b _ HGT.out n1 n5).mono ?_; rintro e w2 ⟨p0, p1, rfl, hp0, hp1, hpp, hb2⟩; obtain ⟨h0, ch0, rfl, hh0, hh0'⟩ := own_E3 hp0 ((pes_len _).trans (gtX_len n kk a b)) (by omega); obtain ⟨h1, ch1, rfl, hh1, hh1'⟩ := own_E3 hp1 ((pes_len _).trans (gtZ_len n kk a b)) (by omega); have P0 := Lib.hid (OwnE.rd hp0); have P1 := Lib.hid (OwnE.rd hp1); clear hp0 hp1 hpp; have y2 := hb2.size; (try simp at y2); replace c0 := below_cell hb2 rfl (cell_drew c0); replace c1 := below_cell hb2 rfl (cell_drew c1); replace c2 := below_cell hb2 rfl (cell_drew c2); replace t0 := below_cell hb2 rfl (cell_drew t0); replace t1 := below_cell hb2 rfl (cell_drew t1); replace gx0 := below_cell hb2 rfl (cell_drew gx0); replace gx1 := below_cell hb2 rfl (cell_drew gx1); replace gx2 := below_cell hb2 rfl (cell_drew gx2); replace f0 := below_frz hb2 rfl (by first | omega | (simp; done) | (simp; omega)) (frz_drew f0); replace f1 := below_frz hb2 rfl (by first | omega | (simp; done) | (simp; omega)) (frz_drew f1); replace f2 := below_frz hb2 rfl (by first | omega | (simp; done) | (simp; omega)) (frz_drew f2); replace O0 := Lib.hid (OwnE.below (OwnE.below O0.out (show Below W.heap.size W W.drew from belo) rfl) hb2 rfl); replace O1 := Lib.hid (OwnE.below (OwnE.below O1.out (show Below W.heap.size W W.drew from belo) rfl) hb2 rfl); replace hbel := Lib.hid (show Below w1.heap.size w1 w2 from Below.trans (Below.drew hbel.out) (hb2.mono (by first | omega | (simp; done) | (simp; omega)))); clear hb2; dsimp only)
        refine hK.out _ _ ?_ (fun hHeld1 => ?_)
        · ((try dsimp only); (first | exact ⟨c0, c1, c2, t0, gx0, gx1, gx2⟩))
        clear hB hK K hHeld0
        refine AnyB.each (rs := [5]) (by kernel_rfl) (by simp) ?_
        refine EachB.cons rfl (fun K hK hB => ?_) ?_
        · skip
          (go_simp; go_at_call 67; refine (spec_l7Then_any n X Z (gtX n kk a b) (gtZ n kk a b) _ _ _ _ _ n5 KX.out KZ.out (gtX_len n kk a b) (gtZ_len n kk a b) LX.out.ok LZ.out.ok (gtX_lt n5 HGT.out).ok (gtZ_lt n5 HGT.out).ok O0.out.rd O1.out.rd P0.out P1.out).mono ?_; rintro e w3 ⟨p2, p3, rfl, ho2, ho3, hap2, hb3⟩; rw [compL_samet n5 LX.out] at ho2; rw [compL_samet n5 LZ.out] at ho3; rw [← SX.out] at ho2; rw [← SZ.out] at ho3; obtain ⟨g2, cp2, rfl, hg2, hg2'⟩ := own_E3 ho2 ((pes_len _).trans (tofX_len n d.gs (k + 1))) (by omega); obtain ⟨g3, cp3, rfl, hg3, hg3'⟩ := own_E3 ho3 ((pes_len _).trans (tofZ_len n d.gs (k + 1))) (by omega); have N0 := Lib.hid (OwnE.le ho2 (base' := w.heap.size + 2) (by omega)); have N1 := Lib.hid (OwnE.le ho3 (base' := w.heap.size + 2) (by omega)); have NA := Lib.hid hap2; clear ho2 ho3 hap2; have y3 := hb3.size; replace c0 := below_cell hb3 rfl c0; replace c1 := below_cell hb3 rfl c1; replace c2 := below_cell hb3 rfl c2; replace t0 := below_cell hb3 rfl t0; replace t1 := below_cell hb3 rfl t1; replace gx0 := below_cell hb3 rfl gx0; replace gx1 := below_cell hb3 rfl gx1; replace gx2 := below_cell hb3 rfl gx2; replace f0 := below_frz hb3 rfl (by first | omega | (simp; done) | (simp; omega)) f0; replace f1 := below_frz hb3 rfl (by first | omega | (simp; done) | (simp; omega)) f1; replace f2 := below_frz hb3 rfl (by first | omega | (simp; done) | (simp; omega)) f2; replace hbel := Lib.hid (show Below w1.heap.size w1 w3 from Below.trans hbel.out (hb3.mono (by omega))); clear hb3; dsimp only)
          refine hK.out _ _ ?_ (fun hHeld2 => ?_)
          · ((try dsimp only); (first | exact ⟨c0, c1, c2, t0, gx0, gx1, gx2⟩))
          clear hB hK K hHeld1
          refine AnyB.each (rs := [6]) (by kernel_rfl) (by simp) ?_
          refine EachB.cons rfl (fun K hK hB => ?_) ?_
          · skip
            go_simp
            refine hB.out _ _ rfl ?_
            clear hB hK K
            refine AnyB.none (by kernel_rfl) ?_ _
            have hB := Lib.hid (box_set3 (nb := w1.heap.size) (.int .i64 (n : Int)) (.slice (some ⟨g2, 0, none⟩) n cp2) (.slice (some ⟨g3, 0, none⟩) n cp3) c0 c1 c2)
            go_wp2_with fail
            go_roundw
            case rel => exact ⟨k + 1, g2, cp2, g3, cp3, by omega, by go_num, hB.out.1, hB.out.2.1, hB.out.2.2, by simp only [World.frozen?_setCell]; exact f0, by simp only [World.frozen?_setCell]; exact f1, by simp only [World.frozen?_setCell]; exact f2, (show OwnE _ _ _ _ _ _ _ from own_far3 N0.out ((pes_len _).trans (tofX_len n d.gs (k + 1))) (by omega) _ _ _), (show OwnE _ _ _ _ _ _ _ from own_far3 N1.out ((pes_len _).trans (tofZ_len n d.gs (k + 1))) (by omega) _ _ _), NA.out, by omega, by omega, (show Below _ _ _ from Below.setCell (Below.setCell (Below.setCell hbel.out (by dsimp only; omega) _) (by dsimp only; omega) _) (by dsimp only; omega) _)⟩
            case measure => simp [intOf]; omega
          exact EachB.nil
        exact EachB.nil
      exact EachB.nil
    · have e9 : k = d.gs.length := by omega
      rw [e9] at O0 O1
      have r0 := below_cell hbel.out rfl R0.out; have u0 := below_frz hbel.out rfl (by omega) U0.out
      have r1 := below_cell hbel.out rfl R1.out; have u1 := below_frz hbel.out rfl (by omega) U1.out
      have r2 := below_cell hbel.out rfl R2.out; have u2 := below_frz hbel.out rfl (by omega) U2.out
      have hZ := box_set3 (nb := w.heap.size + 1) (.int .i64 (n : Int)) (.slice (some ⟨g0, 0, none⟩) n cp0) (.slice (some ⟨g1, 0, none⟩) n cp1) r0 r1 r2
      have i1 : ¬ (k : Int) < (d.gs.length : Int) := by omega
      have bq := bw.out
      have hx2 : w.heap.size + 1 ≠ w1.heap.size := by omega
      clear e9
      go_wp2_with fail
      exact bodyPost_ret (v := .agg #[.int .i64 (n : Int), .slice (some ⟨g0, 0, none⟩) n cp0, .slice (some ⟨g1, 0, none⟩) n cp1]) (by simp [results, Tryz.results29, go_sem, hZ]) rfl ⟨_, _, rfl, (OwnE.le (OwnE.set (OwnE.set (OwnE.set O0.out (by simp) _) (by simp) _) (by simp) _) (by omega)), (OwnE.le (OwnE.set (OwnE.set (OwnE.set O1.out (by simp) _) (by simp) _) (by simp) _) (by omega)), AP.out, belo⟩
theorem spec_TableauOf_any (v : Value) (d : Circ) (w : World) (h : RdE w v E3.cs 3 d.gs) (hl : d.gs.length ≤ 1048576) :
    Calls Tryz.prog 6 #[.agg #[.int .i64 d.n, v]] w (TabPost w (tofG d)) := by
  have H := Lib.hid h
  obtain ⟨A, cA, rfl, _⟩ := h.form
  clear h
  cases hok : clifB d with
  | true =>
    obtain ⟨n, hn, n1, n5⟩ := clif_nat hok
    have HOK := Lib.hid hok
    have HG := Lib.hid (show tofG d = some ⟨d.n, pes (tofX n d.gs d.gs.length), pes (tofZ n d.gs d.gs.length)⟩ from by unfold tofG; rw [hok, hn]; rfl)
    have HN := Lib.hid hn
    rw [hn] at HG
    clear hok hn
    go_enter Tryz.func6, Tryz.ntmps6
    go_wp2_with fail
    refine (spec_l7Clifford_any _ d _ (Rd.below H.out (show Below w.heap.size w _ from belo) rfl) hl).mono ?_; rintro e w1 ⟨rfl, hb1⟩; rw [HOK.out]
    have r0 : w1.cell? ⟨w.heap.size + 1, 0, none⟩ = some (.int .i64 0) := below_cell hb1 rfl cela
    have r1 : w1.cell? ⟨w.heap.size + 1, 1, none⟩ = some (.slice none 0 0) := below_cell hb1 rfl cela
    have r2 : w1.cell? ⟨w.heap.size + 1, 2, none⟩ = some (.slice none 0 0) := below_cell hb1 rfl cela
    obtain ⟨hc_hb1, hf_hb1⟩ := bcell hb1; have hz_hb1 := hb1.size; (try simp at hz_hb1); have hs0_hb1 : w.heap.size < w1.heap.size := (by omega); have hs1_hb1 : w.heap.size + 1 < w1.heap.size := (by omega)
    go_wp2_with fail
    refine (spec_l7Of_any _ d n _ (Rd.below H.out (show Below w.heap.size w w1 from belo) rfl) HN.out HOK.out).mono ?_; rintro e w3 ⟨r3, r4, rfl, ho0, ho1, hap, hb3⟩
    obtain ⟨a3, p3, rfl⟩ := own_form ho0
    obtain ⟨a4, p4, rfl⟩ := own_form ho1
    have HO0 := Lib.hid (OwnE.le ho0 (base' := w.heap.size + 2) (by omega)); have HO1 := Lib.hid (OwnE.le ho1 (base' := w.heap.size + 2) (by omega)); have HAP := Lib.hid hap
    clear ho0 ho1 hap
    replace r0 := below_cell hb3 rfl r0; replace r1 := below_cell hb3 rfl r1; replace r2 := below_cell hb3 rfl r2
    obtain ⟨hc_hb3, hf_hb3⟩ := bcell hb3; have hz_hb3 := hb3.size; (try simp at hz_hb3); have hs0_hb3 : w.heap.size < w3.heap.size := (by omega); have hs1_hb3 : w.heap.size + 1 < w3.heap.size := (by omega)
    generalize pes (tofX n d.gs d.gs.length) = PX at *
    generalize pes (tofZ n d.gs d.gs.length) = PZ at *
    go_wp2_with fail
    have hZ := box_set3 (nb := w.heap.size + 1) (.int .i64 (n : Int)) (.slice a3 PX.length p3) (.slice a4 PZ.length p4) r0 r1 r2
    exact bodyPost_ret (v := .tuple #[.agg #[.int .i64 (n : Int), .slice a3 PX.length p3, .slice a4 PZ.length p4], .bool true]) (by simp [results, Tryz.results6, go_sem, hZ]) rfl (TabPost.some (t := ⟨(n : Int), PX, PZ⟩) HG.out (OwnE.le (OwnE.set (OwnE.set (OwnE.set HO0.out (by simp) _) (by simp) _) (by simp) _) (by omega)) (OwnE.le (OwnE.set (OwnE.set (OwnE.set HO1.out (by simp) _) (by simp) _) (by simp) _) (by omega)) HAP.out belo)
  | false =>
    have HOK := Lib.hid hok
    have HG := Lib.hid (show tofG d = none from by unfold tofG; rw [hok]; rfl)
    clear hok
    go_enter Tryz.func6, Tryz.ntmps6
    go_wp2_with fail
    refine (spec_l7Clifford_any _ d _ (Rd.below H.out (show Below w.heap.size w _ from belo) rfl) hl).mono ?_; rintro e w1 ⟨rfl, hb1⟩; rw [HOK.out]
    have r0 : w1.cell? ⟨w.heap.size + 1, 0, none⟩ = some (.int .i64 0) := below_cell hb1 rfl cela
    have r1 : w1.cell? ⟨w.heap.size + 1, 1, none⟩ = some (.slice none 0 0) := below_cell hb1 rfl cela
    have r2 : w1.cell? ⟨w.heap.size + 1, 2, none⟩ = some (.slice none 0 0) := below_cell hb1 rfl cela
    obtain ⟨hc_hb1, hf_hb1⟩ := bcell hb1; have hz_hb1 := hb1.size; (try simp at hz_hb1); have hs0_hb1 : w.heap.size < w1.heap.size := (by omega); have hs1_hb1 : w.heap.size + 1 < w1.heap.size := (by omega)
    go_wp2_with fail
    have hZ := box_set3 (nb := w.heap.size + 1) (.int .i64 0) (.slice none 0 0) (.slice none 0 0) r0 r1 r2
    exact bodyPost_ret (v := .tuple #[.agg #[.int .i64 0, .slice none 0 0, .slice none 0 0], .bool false]) (by simp [results, Tryz.results6, go_sem, hZ]) rfl (TabPost.none HG.out belo)
end Go.Proofs.YtnckabohlakbgaaGreat
