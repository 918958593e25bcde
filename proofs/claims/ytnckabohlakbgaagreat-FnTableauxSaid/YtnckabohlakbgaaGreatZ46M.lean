/- TableauOf in the program. -/
import Derived.Test.YtnckabohlakbgaaGreatZ43Tog3
import Derived.Test.YtnckabohlakbgaaGreatZ41Gu1
import Derived.Test.YtnckabohlakbgaaGreatZ06Brk
import Derived.Test.YtnckabohlakbgaaGreatZ21M
import Derived.Test.YtnckabohlakbgaaGreatZ22M
import Derived.Test.YtnckabohlakbgaaGreatZ23Tab2
import Derived.Test.YtnckabohlakbgaaGreatZ24M
import Derived.Test.YtnckabohlakbgaaGreatZ40M
import Derived.Test.YtnckabohlakbgaaGreatZ18M
import Derived.BigQuiet
import Derived.Deep.QuietTactic
import Derived.Test.YtnckabohlakbgaaGreatZ16Img2
import Derived.Test.YtnckabohlakbgaaGreatZ05M
import Derived.Test.YtnckabohlakbgaaGreatZ08M
import Derived.BigRegion
import Derived.Deep.DeepMust
import Derived.Deep.RegionHeld3
import Derived.Test.YtnckabohlakbgaaGreatZ03M
import Derived.Test.YtnckabohlakbgaaGreatZ17M
import Derived.Test.YtnckabohlakbgaaGreatZ20M
import Derived.Deep.RegionLaw
namespace Go.Proofs.YtnckabohlakbgaaGreat
set_option linter.unusedSimpArgs false
set_option linter.unusedVariables false
set_option linter.unnecessarySimpa false
set_option maxRecDepth 200000
open Go.ChangeShapes Go.WideShapes Go.ChangeAt Go.RowKit

set_option maxHeartbeats 16000000 in
theorem impl_TableauOf_any (v : Value) (d : Circ) (w : World) (h : RdE w v E3.cs 3 d.gs) (hl : d.gs.length ≤ 1048576) :
    Calls Tryz.prog 5 #[.agg #[.int .i64 d.n, v]] w (TabPost w (tofG d)) := by
  have H := Lib.hid h
  obtain ⟨A, cA, rfl, Hc⟩ := gate_at h
  clear h
  have HC := Lib.hid (clif_def d)
  cases hok : clifB d with
  | true =>
    obtain ⟨n, hn, n1, n5⟩ := clif_nat hok
    have hdl : d.gs.length ≤ 400 := (clif_parts hok).1.2.1
    have HOK := Lib.hid hok
    have HG := Lib.hid (show tofG d = some ⟨d.n, pes (tofX n d.gs d.gs.length), pes (tofZ n d.gs d.gs.length)⟩ from by unfold tofG; rw [hok, hn]; rfl)
    rw [hok] at HC
    have HB := Lib.hid (show circB d = true from by have h9 := HC.out; revert h9; cases circB d <;> simp)
    have HT := Lib.hid (show tCount d = 0 from by have h9 := HC.out; rw [HB.out, Bool.true_and] at h9; exact (beq_iff_eq.1 h9.symm))
    have HN := Lib.hid hn
    rw [hn] at HG
    clear hok hn HC
    go_enter Tryz.func5, Tryz.ntmps5
    go_wp2_with fail
    refine (impl_CountT_any _ d _ (Rd.below H.out (show Below w.heap.size w _ from belo) rfl) hl).mono ?_; rw [HB.out, HT.out]; rintro e w0 ⟨rfl, hb0⟩
    have t0 := below_cell hb0 rfl (show ((w.alloc (.cells #[.int .i64 d.n, .slice A d.gs.length cA] 25)).alloc (.cells #[.int .i64 0, .slice none 0 0, .slice none 0 0] 29)).cell? ⟨w.heap.size, 0, none⟩ = some (.int .i64 d.n) from cela)
    have t1 := below_cell hb0 rfl (show ((w.alloc (.cells #[.int .i64 d.n, .slice A d.gs.length cA] 25)).alloc (.cells #[.int .i64 0, .slice none 0 0, .slice none 0 0] 29)).cell? ⟨w.heap.size, 1, none⟩ = some (.slice A d.gs.length cA) from cela)
    have r0 := below_cell hb0 rfl (show ((w.alloc (.cells #[.int .i64 d.n, .slice A d.gs.length cA] 25)).alloc (.cells #[.int .i64 0, .slice none 0 0, .slice none 0 0] 29)).cell? ⟨w.heap.size + 1, 0, none⟩ = some (.int .i64 0) from cela)
    have u0 := below_frz hb0 rfl (by simp) (show ((w.alloc (.cells #[.int .i64 d.n, .slice A d.gs.length cA] 25)).alloc (.cells #[.int .i64 0, .slice none 0 0, .slice none 0 0] 29)).frozen? ⟨w.heap.size + 1, 0, none⟩ = false from froza)
    have r1 := below_cell hb0 rfl (show ((w.alloc (.cells #[.int .i64 d.n, .slice A d.gs.length cA] 25)).alloc (.cells #[.int .i64 0, .slice none 0 0, .slice none 0 0] 29)).cell? ⟨w.heap.size + 1, 1, none⟩ = some (.slice none 0 0) from cela)
    have u1 := below_frz hb0 rfl (by simp) (show ((w.alloc (.cells #[.int .i64 d.n, .slice A d.gs.length cA] 25)).alloc (.cells #[.int .i64 0, .slice none 0 0, .slice none 0 0] 29)).frozen? ⟨w.heap.size + 1, 1, none⟩ = false from froza)
    have r2 := below_cell hb0 rfl (show ((w.alloc (.cells #[.int .i64 d.n, .slice A d.gs.length cA] 25)).alloc (.cells #[.int .i64 0, .slice none 0 0, .slice none 0 0] 29)).cell? ⟨w.heap.size + 1, 2, none⟩ = some (.slice none 0 0) from cela)
    have u2 := below_frz hb0 rfl (by simp) (show ((w.alloc (.cells #[.int .i64 d.n, .slice A d.gs.length cA] 25)).alloc (.cells #[.int .i64 0, .slice none 0 0, .slice none 0 0] 29)).frozen? ⟨w.heap.size + 1, 2, none⟩ = false from froza)
    rw [HN.out] at t0
    have z0 := hb0.size; (simp at z0)
    have bw0 := Lib.hid (show Below w.heap.size w w0 from belo)
    clear hb0
    go_wp2_with fail
    refine (impl_identity_any (n : Int) _ (by omega) (by omega)).mono ?_; rintro e w1 ⟨q0, q1, rfl, ho0, ho1, hap, hb1⟩
    rw [Int.toNat_natCast] at ho0 ho1
    replace t0 := below_cell hb1 rfl t0
    replace t1 := below_cell hb1 rfl t1
    replace r0 := below_cell hb1 rfl r0
    replace r1 := below_cell hb1 rfl r1
    replace r2 := below_cell hb1 rfl r2
    replace u0 := below_frz hb1 rfl (by omega) u0
    replace u1 := below_frz hb1 rfl (by omega) u1
    replace u2 := below_frz hb1 rfl (by omega) u2
    have z1 := hb1.size
    have bw1 := Lib.hid (show Below w.heap.size w w1 from Below.trans bw0.out (hb1.mono (by omega)))
    clear hb1
    obtain ⟨g0, cp0, rfl, hg0, hg0'⟩ := own_E3 ho0 (idX_len n) (by omega)
    obtain ⟨g1, cp1, rfl, hg1, hg1'⟩ := own_E3 ho1 (idZ_len n) (by omega)
    have O0 := Lib.hid (OwnE.le ho0 (base' := w.heap.size + 2) (by first | omega | (simp; done) | (simp; omega))); have O1 := Lib.hid (OwnE.le ho1 (base' := w.heap.size + 2) (by first | omega | (simp; done) | (simp; omega)))
    have AP := Lib.hid hap
    clear ho0 ho1 hap
    have T0 := Lib.hid t0
    have T1 := Lib.hid t1
    have R0 := Lib.hid r0
    have R1 := Lib.hid r1
    have R2 := Lib.hid r2
    have U0 := Lib.hid u0
    have U1 := Lib.hid u1
    have U2 := Lib.hid u2
    have BX := World.block_lt_of_cell? _ _ t0
    have A0 := Lib.hid (show OwnE (w1.alloc (.cells #[.int .i64 (n : Int), .slice (some ⟨g0, 0, none⟩) n cp0, .slice (some ⟨g1, 0, none⟩) n cp1] 29)) (w.heap.size + 2) 33 (.slice (some ⟨g0, 0, none⟩) n cp0) E3.cs 3 (pes (tofX n d.gs 0)) from OwnE.below (by rw [tofX_0, ← idX_pes]; exact O0.out) (show Below w1.heap.size w1 _ from belo) rfl)
    have A1 := Lib.hid (show OwnE (w1.alloc (.cells #[.int .i64 (n : Int), .slice (some ⟨g0, 0, none⟩) n cp0, .slice (some ⟨g1, 0, none⟩) n cp1] 29)) (w.heap.size + 2) 33 (.slice (some ⟨g1, 0, none⟩) n cp1) E3.cs 3 (pes (tofZ n d.gs 0)) from OwnE.below (by rw [tofZ_0, ← idZ_pes]; exact O1.out) (show Below w1.heap.size w1 _ from belo) rfl)
    clear O0 O1 r0 r1 r2 u0 u1 u2
    go_wp2_with fail
    clear t0 t1
    go_loopw [27] (fun i wr => ∃ (k g0 cp0 g1 cp1 : Nat), k ≤ d.gs.length ∧ i = .int .i64 k ∧ wr.cell? ⟨w1.heap.size, 0, none⟩ = some (.int .i64 (n : Int)) ∧ wr.cell? ⟨w1.heap.size, 1, none⟩ = some (.slice (some ⟨g0, 0, none⟩) n cp0) ∧ wr.cell? ⟨w1.heap.size, 2, none⟩ = some (.slice (some ⟨g1, 0, none⟩) n cp1) ∧ wr.frozen? ⟨w1.heap.size, 0, none⟩ = false ∧ wr.frozen? ⟨w1.heap.size, 1, none⟩ = false ∧ wr.frozen? ⟨w1.heap.size, 2, none⟩ = false ∧ Hid (OwnE wr (w.heap.size + 2) 33 (.slice (some ⟨g0, 0, none⟩) n cp0) E3.cs 3 (pes (tofX n d.gs k))) ∧ Hid (OwnE wr (w.heap.size + 2) 33 (.slice (some ⟨g1, 0, none⟩) n cp1) E3.cs 3 (pes (tofZ n d.gs k))) ∧ Hid (Apart (.slice (some ⟨g0, 0, none⟩) n cp0) (.slice (some ⟨g1, 0, none⟩) n cp1)) ∧ g0 ≠ w1.heap.size ∧ g1 ≠ w1.heap.size ∧ Hid (Below w1.heap.size w1 wr)) (fun i _ => d.gs.length - (intOf i).toNat)
    case atStart => exact ⟨0, g0, cp0, g1, cp1, Nat.zero_le _, rfl, cela, cela, cela, froza, froza, froza, A0, A1, AP, by omega, by omega, (show Below _ _ _ from belo)⟩
    case round =>
      clear A0 A1 AP hg0 hg1 hg0' hg1'
      obtain ⟨k, g0, cp0, g1, cp1, hk, rfl, c0, c1, c2, f0, f1, f2, O0, O1, AP, e0, e1, hbel⟩ := hrel
      have L1 : w1.heap.size < wr.heap.size := World.block_lt_of_cell? _ _ c0
      have bw := Lib.hid (show Below w.heap.size w wr from Below.trans bw1.out (hbel.out.mono bw1.out.size))
      have t0 := below_cell hbel.out rfl T0.out; have t1 := below_cell hbel.out rfl T1.out
      by_cases hlt : k < d.gs.length
      · have i1 : (k : Int) < (d.gs.length : Int) := by omega
        obtain ⟨b0, off, rfl, hb0, q0, q1, q2⟩ := Hc.out k hlt
        replace q0 := (bw.out.cell hb0).trans q0; replace q1 := (bw.out.cell hb0).trans q1; replace q2 := (bw.out.cell hb0).trans q2
        obtain ⟨kk, a, b, hg, hgt⟩ := clif_gate HOK.out HN.out hlt
        have SX := Lib.hid (tofX_succ n hlt hg); have SZ := Lib.hid (tofZ_succ n hlt hg)
        rw [hg] at q0 q1 q2
        have HGT := Lib.hid hgt; clear hgt hg
        have LX := Lib.hid (tof_lt HOK.out HN.out k hk).1; have LZ := Lib.hid (tof_lt HOK.out HN.out k hk).2
        have KX := Lib.hid (tofX_len n d.gs k); have KZ := Lib.hid (tofZ_len n d.gs k)
        obtain ⟨X, hX⟩ : ∃ X, X = tofX n d.gs k := ⟨_, rfl⟩
        obtain ⟨Z, hZ⟩ : ∃ Z, Z = tofZ n d.gs k := ⟨_, rfl⟩
        rw [← hX] at O0 SX LX KX; rw [← hZ] at O1 SZ LZ KZ
        clear hX hZ
        have gx0 : (wr.alloc (.cells #[.int .i64 (kk : Int), .int .i64 (a : Int), .int .i64 (b : Int)] 66)).cell? ⟨wr.heap.size, 0, none⟩ = some (.int .i64 (kk : Int)) := cela
        have gx1 : (wr.alloc (.cells #[.int .i64 (kk : Int), .int .i64 (a : Int), .int .i64 (b : Int)] 66)).cell? ⟨wr.heap.size, 1, none⟩ = some (.int .i64 (a : Int)) := cela
        have gx2 : (wr.alloc (.cells #[.int .i64 (kk : Int), .int .i64 (a : Int), .int .i64 (b : Int)] 66)).cell? ⟨wr.heap.size, 2, none⟩ = some (.int .i64 (b : Int)) := cela
        replace c0 := cell_alloc_keep (.cells #[.int .i64 (kk : Int), .int .i64 (a : Int), .int .i64 (b : Int)] 66) c0
        replace c1 := cell_alloc_keep (.cells #[.int .i64 (kk : Int), .int .i64 (a : Int), .int .i64 (b : Int)] 66) c1
        replace c2 := cell_alloc_keep (.cells #[.int .i64 (kk : Int), .int .i64 (a : Int), .int .i64 (b : Int)] 66) c2
        replace t0 := cell_alloc_keep (.cells #[.int .i64 (kk : Int), .int .i64 (a : Int), .int .i64 (b : Int)] 66) t0
        replace t1 := cell_alloc_keep (.cells #[.int .i64 (kk : Int), .int .i64 (a : Int), .int .i64 (b : Int)] 66) t1
        replace f0 := frozen_alloc_lt (.cells #[.int .i64 (kk : Int), .int .i64 (a : Int), .int .i64 (b : Int)] 66) L1 f0
        replace f1 := frozen_alloc_lt (.cells #[.int .i64 (kk : Int), .int .i64 (a : Int), .int .i64 (b : Int)] 66) L1 f1
        replace f2 := frozen_alloc_lt (.cells #[.int .i64 (kk : Int), .int .i64 (a : Int), .int .i64 (b : Int)] 66) L1 f2
        replace O0 := Lib.hid (OwnE.below O0.out (show Below wr.heap.size wr (wr.alloc (.cells #[.int .i64 (kk : Int), .int .i64 (a : Int), .int .i64 (b : Int)] 66)) from belo) rfl); replace O1 := Lib.hid (OwnE.below O1.out (show Below wr.heap.size wr (wr.alloc (.cells #[.int .i64 (kk : Int), .int .i64 (a : Int), .int .i64 (b : Int)] 66)) from belo) rfl)
        replace hbel := Lib.hid (show Below w1.heap.size w1 (wr.alloc (.cells #[.int .i64 (kk : Int), .int .i64 (a : Int), .int .i64 (b : Int)] 66)) from Below.alloc hbel.out (by omega) _)
        have zw : wr.heap.size < (wr.alloc (.cells #[.int .i64 (kk : Int), .int .i64 (a : Int), .int .i64 (b : Int)] 66)).heap.size := by simp
        go_wp2_with fail
        generalize wr.alloc (.cells #[.int .i64 (kk : Int), .int .i64 (a : Int), .int .i64 (b : Int)] 66) = W at *
        clear q0 q1 q2 bw
        obtain ⟨gw, hgw⟩ : ∃ gw, gw = wr.heap.size := ⟨_, rfl⟩
        rw [← hgw] at gx0 gx1 gx2 zw L1 ⊢
        clear hgw
        refine AnyB.begin (S := (fun w' => w'.cell? ⟨w1.heap.size, 0, none⟩ = some (.int .i64 (n : Int)) ∧ w'.cell? ⟨w1.heap.size, 1, none⟩ = some (.slice (some ⟨g0, 0, none⟩) n cp0) ∧ w'.cell? ⟨w1.heap.size, 2, none⟩ = some (.slice (some ⟨g1, 0, none⟩) n cp1) ∧ w'.cell? ⟨w.heap.size, 0, none⟩ = some (.int .i64 (n : Int)) ∧ w'.cell? ⟨gw, 0, none⟩ = some (.int .i64 (kk : Int)) ∧ w'.cell? ⟨gw, 1, none⟩ = some (.int .i64 (a : Int)) ∧ w'.cell? ⟨gw, 2, none⟩ = some (.int .i64 (b : Int)))) [6] (by kernel_rfl) ?_ (fun hHeld0 => ?_)
        · ((try dsimp only); (first | exact ⟨c0, c1, c2, t0, gx0, gx1, gx2⟩))
        refine AnyB.tk (i := 0) (h := ?_)
        refine AnyB.tq (i := 1) (h := ?_)
        refine AnyB.tk (i := 2) (h := ?_)
        refine AnyB.tk (i := 3) (h := ?_)
        refine AnyB.each (rs := [4]) (by kernel_rfl) (by simp) ?_
        refine EachB.cons rfl (fun K hK hB => ?_) ?_
        · skip
          (go_simp; go_at_call 27; refine (impl_gateTableau_any n kk a b _ HGT.out n1 n5).mono ?_; rintro e w2 ⟨p0, p1, rfl, hp0, hp1, hpp, hb2⟩; obtain ⟨h0, ch0, rfl, hh0, hh0'⟩ := own_E3 hp0 ((pes_len _).trans (gtX_len n kk a b)) (by omega); obtain ⟨h1, ch1, rfl, hh1, hh1'⟩ := own_E3 hp1 ((pes_len _).trans (gtZ_len n kk a b)) (by omega); have P0 := Lib.hid (OwnE.rd hp0); have P1 := Lib.hid (OwnE.rd hp1); clear hp0 hp1 hpp; have y2 := hb2.size; (try simp at y2); replace c0 := below_cell hb2 rfl (cell_drew c0); replace c1 := below_cell hb2 rfl (cell_drew c1); replace c2 := below_cell hb2 rfl (cell_drew c2); replace t0 := below_cell hb2 rfl (cell_drew t0); replace t1 := below_cell hb2 rfl (cell_drew t1); replace gx0 := below_cell hb2 rfl (cell_drew gx0); replace gx1 := below_cell hb2 rfl (cell_drew gx1); replace gx2 := below_cell hb2 rfl (cell_drew gx2); replace f0 := below_frz hb2 rfl (by first | omega | (simp; done) | (simp; omega)) (frz_drew f0); replace f1 := below_frz hb2 rfl (by first | omega | (simp; done) | (simp; omega)) (frz_drew f1); replace f2 := below_frz hb2 rfl (by first | omega | (simp; done) | (simp; omega)) (frz_drew f2); replace O0 := Lib.hid (OwnE.below (OwnE.below O0.out (show Below W.heap.size W W.drew from belo) rfl) hb2 rfl); replace O1 := Lib.hid (OwnE.below (OwnE.below O1.out (show Below W.heap.size W W.drew from belo) rfl) hb2 rfl); replace hbel := Lib.hid (show Below w1.heap.size w1 w2 from Below.trans (Below.drew hbel.out) (hb2.mono (by first | omega | (simp; done) | (simp; omega)))); clear hb2; dsimp only)
          refine hK.out _ _ ?_ (fun hHeld1 => ?_)
          · ((try dsimp only); (first | exact ⟨c0, c1, c2, t0, gx0, gx1, gx2⟩))
          clear hB hK K hHeld0
          refine AnyB.each (rs := [5]) (by kernel_rfl) (by simp) ?_
          refine EachB.cons rfl (fun K hK hB => ?_) ?_
          · skip
            (go_simp; go_at_call 26; refine (impl_compose_any n X Z (gtX n kk a b) (gtZ n kk a b) _ _ _ _ _ n5 KX.out KZ.out (gtX_len n kk a b) (gtZ_len n kk a b) LX.out.ok LZ.out.ok (gtX_lt n5 HGT.out).ok (gtZ_lt n5 HGT.out).ok O0.out.rd O1.out.rd P0.out P1.out).mono ?_; rintro e w3 ⟨p2, p3, rfl, ho2, ho3, hap2, hb3⟩; rw [← SX.out] at ho2; rw [← SZ.out] at ho3; obtain ⟨g2, cp2, rfl, hg2, hg2'⟩ := own_E3 ho2 ((pes_len _).trans (tofX_len n d.gs (k + 1))) (by omega); obtain ⟨g3, cp3, rfl, hg3, hg3'⟩ := own_E3 ho3 ((pes_len _).trans (tofZ_len n d.gs (k + 1))) (by omega); have N0 := Lib.hid (OwnE.le ho2 (base' := w.heap.size + 2) (by omega)); have N1 := Lib.hid (OwnE.le ho3 (base' := w.heap.size + 2) (by omega)); have NA := Lib.hid hap2; clear ho2 ho3 hap2; have y3 := hb3.size; replace c0 := below_cell hb3 rfl c0; replace c1 := below_cell hb3 rfl c1; replace c2 := below_cell hb3 rfl c2; replace t0 := below_cell hb3 rfl t0; replace t1 := below_cell hb3 rfl t1; replace gx0 := below_cell hb3 rfl gx0; replace gx1 := below_cell hb3 rfl gx1; replace gx2 := below_cell hb3 rfl gx2; replace f0 := below_frz hb3 rfl (by first | omega | (simp; done) | (simp; omega)) f0; replace f1 := below_frz hb3 rfl (by first | omega | (simp; done) | (simp; omega)) f1; replace f2 := below_frz hb3 rfl (by first | omega | (simp; done) | (simp; omega)) f2; replace hbel := Lib.hid (show Below w1.heap.size w1 w3 from Below.trans hbel.out (hb3.mono (by omega))); clear hb3; dsimp only)
            refine hK.out _ _ ?_ (fun hHeld2 => ?_)
            · ((try dsimp only); (first | exact ⟨c0, c1, c2, t0, gx0, gx1, gx2⟩))
            clear hB hK K hHeld1
            refine AnyB.each (rs := [6]) (by kernel_rfl) (by simp) ?_
            refine EachB.cons rfl (fun K hK hB => ?_) ?_
            · skip
              go_simp
              refine hB.out _ _ rfl ?_
              clear hB hK K
              refine AnyB.none (by kernel_rfl) ?_ _
              have hB := Lib.hid (box_set3 (nb := w1.heap.size) (.int .i64 (n : Int)) (.slice (some ⟨g2, 0, none⟩) n cp2) (.slice (some ⟨g3, 0, none⟩) n cp3) c0 c1 c2)
              go_wp2_with fail
              go_roundw
              case rel => exact ⟨k + 1, g2, cp2, g3, cp3, by omega, by go_num, hB.out.1, hB.out.2.1, hB.out.2.2, by simp only [World.frozen?_setCell]; exact f0, by simp only [World.frozen?_setCell]; exact f1, by simp only [World.frozen?_setCell]; exact f2, (show OwnE _ _ _ _ _ _ _ from own_far3 N0.out ((pes_len _).trans (tofX_len n d.gs (k + 1))) (by omega) _ _ _), (show OwnE _ _ _ _ _ _ _ from own_far3 N1.out ((pes_len _).trans (tofZ_len n d.gs (k + 1))) (by omega) _ _ _), NA.out, by omega, by omega, (show Below _ _ _ from Below.setCell (Below.setCell (Below.setCell hbel.out (by dsimp only; omega) _) (by dsimp only; omega) _) (by dsimp only; omega) _)⟩
              case measure => simp [intOf]; omega
            exact EachB.nil
          exact EachB.nil
        exact EachB.nil
      · have e9 : k = d.gs.length := by omega
        rw [e9] at O0 O1
        have r0 := below_cell hbel.out rfl R0.out; have u0 := below_frz hbel.out rfl (by omega) U0.out
        have r1 := below_cell hbel.out rfl R1.out; have u1 := below_frz hbel.out rfl (by omega) U1.out
        have r2 := below_cell hbel.out rfl R2.out; have u2 := below_frz hbel.out rfl (by omega) U2.out
        have hZ := box_set3 (nb := w.heap.size + 1) (.int .i64 (n : Int)) (.slice (some ⟨g0, 0, none⟩) n cp0) (.slice (some ⟨g1, 0, none⟩) n cp1) r0 r1 r2
        have i1 : ¬ (k : Int) < (d.gs.length : Int) := by omega
        have bq := bw.out
        have hx2 : w.heap.size + 1 ≠ w1.heap.size := by omega
        clear e9
        go_wp2_with fail
        exact bodyPost_ret (v := .tuple #[.agg #[.int .i64 (n : Int), .slice (some ⟨g0, 0, none⟩) n cp0, .slice (some ⟨g1, 0, none⟩) n cp1], .bool true]) (by simp [results, Tryz.results5, go_sem, hZ]) rfl (TabPost.some (t := ⟨(n : Int), pes (tofX n d.gs d.gs.length), pes (tofZ n d.gs d.gs.length)⟩) HG.out (OwnE.le (OwnE.set (OwnE.set (OwnE.set O0.out (by simp) _) (by simp) _) (by simp) _) (by omega)) (OwnE.le (OwnE.set (OwnE.set (OwnE.set O1.out (by simp) _) (by simp) _) (by simp) _) (by omega)) AP.out belo)
  | false =>
    have HG := Lib.hid (show tofG d = none from by unfold tofG; rw [hok]; rfl)
    rw [hok] at HC
    clear hok
    cases hb : circB d with
    | false =>
      have HB := Lib.hid hb; clear hb
      have hN := tCount_no HB.out
      have HT := Lib.hid hN; clear hN
      go_enter Tryz.func5, Tryz.ntmps5
      go_wp2_with fail
      refine (impl_CountT_any _ d _ (Rd.below H.out (show Below w.heap.size w _ from belo) rfl) hl).mono ?_; rw [HB.out, HT.out]; rintro e w0 ⟨rfl, hb0⟩
      have r0 := below_cell hb0 rfl (show ((w.alloc (.cells #[.int .i64 d.n, .slice A d.gs.length cA] 25)).alloc (.cells #[.int .i64 0, .slice none 0 0, .slice none 0 0] 29)).cell? ⟨w.heap.size + 1, 0, none⟩ = some (.int .i64 0) from cela)
      have r1 := below_cell hb0 rfl (show ((w.alloc (.cells #[.int .i64 d.n, .slice A d.gs.length cA] 25)).alloc (.cells #[.int .i64 0, .slice none 0 0, .slice none 0 0] 29)).cell? ⟨w.heap.size + 1, 1, none⟩ = some (.slice none 0 0) from cela)
      have r2 := below_cell hb0 rfl (show ((w.alloc (.cells #[.int .i64 d.n, .slice A d.gs.length cA] 25)).alloc (.cells #[.int .i64 0, .slice none 0 0, .slice none 0 0] 29)).cell? ⟨w.heap.size + 1, 2, none⟩ = some (.slice none 0 0) from cela)
      obtain ⟨hc_hb0, hf_hb0⟩ := bcell hb0; have hz_hb0 := hb0.size; (try simp at hz_hb0); have hs0_hb0 : w.heap.size < w0.heap.size := (by omega); have hs1_hb0 : w.heap.size + 1 < w0.heap.size := (by omega)
      go_wp2_with fail
      have hZ := box_set3 (nb := w.heap.size + 1) (.int .i64 0) (.slice none 0 0) (.slice none 0 0) r0 r1 r2
      exact bodyPost_ret (v := .tuple #[.agg #[.int .i64 0, .slice none 0 0, .slice none 0 0], .bool false]) (by simp [results, Tryz.results5, go_sem, hZ]) rfl (TabPost.none HG.out belo)
    | true =>
      have HB := Lib.hid hb
      have hpos : 0 < tCount d := by have h9 := HC.out; rw [hb, Bool.true_and] at h9; exact tCount_pos h9.symm
      have HT := Lib.hid (show tCount d = tCount d from rfl)
      obtain ⟨N, hN⟩ : ∃ N, N = tCount d := ⟨_, rfl⟩
      rw [← hN] at hpos
      replace HT := Lib.hid hN.symm
      clear hN hb
      go_enter Tryz.func5, Tryz.ntmps5
      go_wp2_with fail
      refine (impl_CountT_any _ d _ (Rd.below H.out (show Below w.heap.size w _ from belo) rfl) hl).mono ?_; rw [HB.out, HT.out]; rintro e w0 ⟨rfl, hb0⟩
      have r0 := below_cell hb0 rfl (show ((w.alloc (.cells #[.int .i64 d.n, .slice A d.gs.length cA] 25)).alloc (.cells #[.int .i64 0, .slice none 0 0, .slice none 0 0] 29)).cell? ⟨w.heap.size + 1, 0, none⟩ = some (.int .i64 0) from cela)
      have r1 := below_cell hb0 rfl (show ((w.alloc (.cells #[.int .i64 d.n, .slice A d.gs.length cA] 25)).alloc (.cells #[.int .i64 0, .slice none 0 0, .slice none 0 0] 29)).cell? ⟨w.heap.size + 1, 1, none⟩ = some (.slice none 0 0) from cela)
      have r2 := below_cell hb0 rfl (show ((w.alloc (.cells #[.int .i64 d.n, .slice A d.gs.length cA] 25)).alloc (.cells #[.int .i64 0, .slice none 0 0, .slice none 0 0] 29)).cell? ⟨w.heap.size + 1, 2, none⟩ = some (.slice none 0 0) from cela)
      obtain ⟨hc_hb0, hf_hb0⟩ := bcell hb0; have hz_hb0 := hb0.size; (try simp at hz_hb0); have hs0_hb0 : w.heap.size < w0.heap.size := (by omega); have hs1_hb0 : w.heap.size + 1 < w0.heap.size := (by omega)
      go_wp2_with fail
      have hZ := box_set3 (nb := w.heap.size + 1) (.int .i64 0) (.slice none 0 0) (.slice none 0 0) r0 r1 r2
      exact bodyPost_ret (v := .tuple #[.agg #[.int .i64 0, .slice none 0 0, .slice none 0 0], .bool false]) (by simp [results, Tryz.results5, go_sem, hZ]) rfl (TabPost.none HG.out belo)
end Go.Proofs.YtnckabohlakbgaaGreat
namespace Go.Proofs.YtnckabohlakbgaaGreat
set_option linter.unusedSimpArgs false
set_option linter.unusedVariables false
set_option linter.unnecessarySimpa false
set_option maxRecDepth 200000
open Go.ChangeShapes Go.WideShapes Go.ChangeAt Go.RowKit

end Go.Proofs.YtnckabohlakbgaaGreat
namespace Go.Proofs.YtnckabohlakbgaaGreat
set_option linter.unusedSimpArgs false
set_option linter.unusedVariables false
set_option linter.unnecessarySimpa false
set_option maxRecDepth 200000
open Go.ChangeShapes Go.WideShapes Go.ChangeAt Go.RowKit

set_option maxHeartbeats 16000000 in
theorem impl_preimage_any (m : Nat) (X Z : List PN) (P : PN) (p0 px pz : Int) (v0 v1 : Value) (w : World) (S : Sym m X Z) (hP : P.x < 2 ^ m ∧ P.z < 2 ^ m) (hp : P.p = 0) (e0 : p0 = (P.p : Int)) (ex : px = (P.x : Int)) (ez : pz = (P.z : Int)) (h0 : RdE w v0 E3.cs 3 (pes X)) (h1 : RdE w v1 E3.cs 3 (pes Z)) :
    Calls Tryz.prog 38 #[.agg #[.int .i64 (m : Int), v0, v1], .agg #[.int .i64 p0, .int .i64 px, .int .i64 pz]] w fun e w' => e = .returned (.agg #[.int .i64 ((invN X Z m P).p : Int), .int .i64 ((invN X Z m P).x : Int), .int .i64 ((invN X Z m P).z : Int)]) ∧ Below w.heap.size w w' := by
  subst e0 ex ez
  have HK0 := Lib.hid h0; have HK1 := Lib.hid h1
  obtain ⟨A, cA, rfl, HA⟩ := pes_at h0
  obtain ⟨A2, cB, rfl, HB⟩ := pes_at h1
  rw [S.lx] at HA HK0 ⊢; rw [S.lz] at HB HK1 ⊢
  have m5 := S.m5
  have m1 := S.m1
  have HS := Lib.hid S
  have p31 : P.x ≤ 31 ∧ P.z ≤ 31 := by
    have : 2 ^ m ≤ 2 ^ 5 := Nat.pow_le_pow_right (by omega) m5
    omega
  have HP := Lib.hid (show PNok P from ⟨by omega, p31.1, p31.2⟩)
  clear h0 h1 S hP hp p31
  go_enter Tryz.func38, Tryz.ntmps38
  go_wp2_with fail
  obtain ⟨W0, hW0⟩ : ∃ W0, W0 = (((w.alloc (.cells #[.int .i64 (m : Int), .slice A m cA, .slice A2 m cB] 29)).alloc (.cells #[.int .i64 ((P).p : Int), .int .i64 ((P).x : Int), .int .i64 ((P).z : Int)] 33)).alloc (.cells #[.int .i64 0, .int .i64 0, .int .i64 0] 33)) := ⟨_, rfl⟩
  have BW := Lib.hid (show Below w.heap.size w W0 from by rw [hW0]; exact belo)
  have SW := Lib.hid (show W0.heap.size = w.heap.size + 3 from by rw [hW0]; simp)
  have T0 := Lib.hid (show W0.cell? ⟨w.heap.size, 0, none⟩ = some (.int .i64 (m : Int)) from by rw [hW0]; exact cela)
  have T1 := Lib.hid (show W0.cell? ⟨w.heap.size, 1, none⟩ = some (.slice A m cA) from by rw [hW0]; exact cela)
  have T2 := Lib.hid (show W0.cell? ⟨w.heap.size, 2, none⟩ = some (.slice A2 m cB) from by rw [hW0]; exact cela)
  have S0 := Lib.hid (show W0.cell? ⟨w.heap.size + 1, 0, none⟩ = some (.int .i64 (P.p : Int)) from by rw [hW0]; exact cela)
  have S1 := Lib.hid (show W0.cell? ⟨w.heap.size + 1, 1, none⟩ = some (.int .i64 (P.x : Int)) from by rw [hW0]; exact cela)
  have S2 := Lib.hid (show W0.cell? ⟨w.heap.size + 1, 2, none⟩ = some (.int .i64 (P.z : Int)) from by rw [hW0]; exact cela)
  have R0 := Lib.hid (show W0.cell? ⟨w.heap.size + 1 + 1, 0, none⟩ = some (.int .i64 0) from by rw [hW0]; exact cela)
  have R1 := Lib.hid (show W0.cell? ⟨w.heap.size + 1 + 1, 1, none⟩ = some (.int .i64 0) from by rw [hW0]; exact cela)
  have R2 := Lib.hid (show W0.cell? ⟨w.heap.size + 1 + 1, 2, none⟩ = some (.int .i64 0) from by rw [hW0]; exact cela)
  have Q0 := Lib.hid (show W0.frozen? ⟨w.heap.size + 1 + 1, 0, none⟩ = false from by rw [hW0]; exact froza)
  have Q1 := Lib.hid (show W0.frozen? ⟨w.heap.size + 1 + 1, 1, none⟩ = false from by rw [hW0]; exact froza)
  have Q2 := Lib.hid (show W0.frozen? ⟨w.heap.size + 1 + 1, 2, none⟩ = false from by rw [hW0]; exact froza)
  have HW0 := Lib.hid hW0; clear hW0
  go_loopw [10] (fun i wr => ∃ k : Nat, k ≤ m ∧ i = .int .i64 k ∧ wr.cell? ⟨w.heap.size + 1 + 1 + 1, 0, none⟩ = some (.int .i64 0) ∧ wr.cell? ⟨w.heap.size + 1 + 1 + 1, 1, none⟩ = some (.int .i64 (preB Z P k : Int)) ∧ wr.cell? ⟨w.heap.size + 1 + 1 + 1, 2, none⟩ = some (.int .i64 (preB X P k : Int)) ∧ wr.frozen? ⟨w.heap.size + 1 + 1 + 1, 0, none⟩ = false ∧ wr.frozen? ⟨w.heap.size + 1 + 1 + 1, 1, none⟩ = false ∧ wr.frozen? ⟨w.heap.size + 1 + 1 + 1, 2, none⟩ = false ∧ Hid (Below (w.heap.size + 1 + 1 + 1) W0 wr)) (fun i _ => m - (intOf i).toNat)
  case atStart => exact ⟨0, Nat.zero_le _, rfl, cela, cela, cela, froza, froza, froza, (show Below _ _ _ from by rw [HW0.out]; exact belo)⟩
  case round =>
    obtain ⟨k, hk, rfl, c0, c1, c2, f0, f1, f2, hbel⟩ := hrel
    have swo : w.heap.size + 3 ≤ W0.heap.size := by have := SW.out; omega
    have L0 := World.block_lt_of_cell? _ _ c0
    have bw := Lib.hid (show Below w.heap.size w wr from Below.trans BW.out (hbel.out.mono (by omega)))
    have t0 := (hbel.out.cell (p := ⟨w.heap.size, 0, none⟩) (by dsimp only; omega)).trans T0.out
    have t1 := (hbel.out.cell (p := ⟨w.heap.size, 1, none⟩) (by dsimp only; omega)).trans T1.out
    have t2 := (hbel.out.cell (p := ⟨w.heap.size, 2, none⟩) (by dsimp only; omega)).trans T2.out
    have s0 := (hbel.out.cell (p := ⟨w.heap.size + 1, 0, none⟩) (by dsimp only; omega)).trans S0.out
    have s1 := (hbel.out.cell (p := ⟨w.heap.size + 1, 1, none⟩) (by dsimp only; omega)).trans S1.out
    have s2 := (hbel.out.cell (p := ⟨w.heap.size + 1, 2, none⟩) (by dsimp only; omega)).trans S2.out
    by_cases hlt : k < m
    · have i1 : (k : Int) < (m : Int) := by omega
      have i2 : (0 : Int) ≤ (k : Int) := by omega
      obtain ⟨ga, offa, rfl, hga, a0, a1, a2⟩ := HA.out k hlt
      obtain ⟨gb, offb, rfl, hgb, b0, b1, b2⟩ := HB.out k hlt
      replace a0 := (bw.out.cell hga).trans a0; replace a1 := (bw.out.cell hga).trans a1; replace a2 := (bw.out.cell hga).trans a2
      replace b0 := (bw.out.cell hgb).trans b0; replace b1 := (bw.out.cell hgb).trans b1; replace b2 := (bw.out.cell hgb).trans b2
      have hga2 : ga < w.heap.size := hga
      have hgb2 : gb < w.heap.size := hgb
      have OA := Lib.hid (HS.out.ltx.ok.get k); have OB := Lib.hid (HS.out.ltz.ok.get k)
      have NX : Hid (preB X P (k + 1) = if commN P (X.getD k ⟨0, 0, 0⟩) = true then preB X P k else preB X P k ||| 2 ^ k) := rfl
      have NZ : Hid (preB Z P (k + 1) = if commN P (Z.getD k ⟨0, 0, 0⟩) = true then preB Z P k else preB Z P k ||| 2 ^ k) := rfl
      obtain ⟨ea, hea⟩ : ∃ ea, ea = X.getD k ⟨0, 0, 0⟩ := ⟨_, rfl⟩
      obtain ⟨eb, heb⟩ : ∃ eb, eb = Z.getD k ⟨0, 0, 0⟩ := ⟨_, rfl⟩
      rw [← hea] at a0 a1 a2 OA NX; rw [← heb] at b0 b1 b2 OB NZ
      clear hea heb HA HB
      have ux := preB_31 X P (show k ≤ 5 by omega); have uz := preB_31 Z P (show k ≤ 5 by omega)
      have p5 : 2 ^ k ≤ 2 ^ 5 := Nat.pow_le_pow_right (by omega) (by omega)
      have ox := bits_or (preB X P k) (2 ^ k) (by omega) (by omega)
      have oz := bits_or (preB Z P k) (2 ^ k) (by omega) (by omega)
      rw [show ((2 ^ k : Nat) : Int) = (2 : Int) ^ k from by simp] at ox oz
      obtain ⟨q1, q2⟩ := pow_small5 (show k ≤ 5 by omega)
      have hw : IntKind.i64.wrap ((2 : Int) ^ k) = (2 : Int) ^ k := IntWalk.i64_in _ (by omega)
      clear p5
      clear bw
      cases hcz : commN P eb
      · have CZ := Lib.hid hcz
        rw [hcz] at NZ
        clear hcz
        go_wp2_with fail
        go_region_held3 (fun w' => w'.cell? ⟨w.heap.size + 1, 0, none⟩ = some (.int .i64 (P.p : Int)) ∧ w'.cell? ⟨w.heap.size + 1, 1, none⟩ = some (.int .i64 (P.x : Int)) ∧ w'.cell? ⟨w.heap.size + 1, 2, none⟩ = some (.int .i64 (P.z : Int)) ∧ w'.cell? ⟨w.heap.size, 2, none⟩ = some (.slice (some ⟨gb, offb, none⟩) m cB) ∧ w'.cell? ⟨gb, offb + k * 3, none⟩ = some (.int .i64 (eb.p : Int)) ∧ w'.cell? ⟨gb, offb + k * 3 + 1, none⟩ = some (.int .i64 (eb.x : Int)) ∧ w'.cell? ⟨gb, offb + k * 3 + 2, none⟩ = some (.int .i64 (eb.z : Int))) (first | go_keep | (go_split_ands; refine ⟨?_, ?_, ?_, ?_, ?_, ?_, ?_⟩ <;> first | assumption | (simp [*]; done))) (first | (go_at_call 44; go_must ((refine (impl_commute_any P eb _ HP.out OB.out).mono ?_; rintro e w2 ⟨rfl, hb2⟩); (rw [CZ.out]); (have y2 := hb2.size); (simp at y2); (replace c0 := below_cell hb2 rfl (cell_drew c0)); (replace c1 := below_cell hb2 rfl (cell_drew c1)); (replace c2 := below_cell hb2 rfl (cell_drew c2)); (replace t0 := below_cell hb2 rfl (cell_drew t0)); (replace t1 := below_cell hb2 rfl (cell_drew t1)); (replace t2 := below_cell hb2 rfl (cell_drew t2)); (replace s0 := below_cell hb2 rfl (cell_drew s0)); (replace s1 := below_cell hb2 rfl (cell_drew s1)); (replace s2 := below_cell hb2 rfl (cell_drew s2)); (replace a0 := below_cell hb2 rfl (cell_drew a0)); (replace a1 := below_cell hb2 rfl (cell_drew a1)); (replace a2 := below_cell hb2 rfl (cell_drew a2)); (replace b0 := below_cell hb2 rfl (cell_drew b0)); (replace b1 := below_cell hb2 rfl (cell_drew b1)); (replace b2 := below_cell hb2 rfl (cell_drew b2)); (replace f0 := below_frz hb2 rfl (by first | omega | (simp; omega)) (frz_drew f0)); (replace f1 := below_frz hb2 rfl (by first | omega | (simp; omega)) (frz_drew f1)); (replace f2 := below_frz hb2 rfl (by first | omega | (simp; omega)) (frz_drew f2)); (replace hbel := Lib.hid (show Below (w.heap.size + 1 + 1 + 1) W0 w2 from Below.trans (Below.drew hbel.out) (hb2.mono (by first | omega | (simp; omega))))); (replace L0 := World.block_lt_of_cell? _ _ c0); (clear hb2 y2))))
        go_wp2_with fail
        rw [if_neg (by simp)] at NZ
        rw [← NZ.out] at oz
        go_region
        replace c0 := cell_drew (cell_set_other (o2 := 1) (v := (.int .i64 (preB Z P (k + 1) : Int))) c0)
        replace c1 := cell_drew (World.cell?_setCell_same w2 ⟨w.heap.size + 1 + 1 + 1, 1, none⟩ (.int .i64 (preB Z P (k + 1) : Int)) c1)
        replace c2 := cell_drew (cell_set_other (o2 := 1) (v := (.int .i64 (preB Z P (k + 1) : Int))) c2)
        replace t0 := cell_drew (cell_set_far (nb := w.heap.size + 1 + 1 + 1) (o2 := 1) (v := (.int .i64 (preB Z P (k + 1) : Int))) (by omega) t0)
        replace t1 := cell_drew (cell_set_far (nb := w.heap.size + 1 + 1 + 1) (o2 := 1) (v := (.int .i64 (preB Z P (k + 1) : Int))) (by omega) t1)
        replace t2 := cell_drew (cell_set_far (nb := w.heap.size + 1 + 1 + 1) (o2 := 1) (v := (.int .i64 (preB Z P (k + 1) : Int))) (by omega) t2)
        replace s0 := cell_drew (cell_set_far (nb := w.heap.size + 1 + 1 + 1) (o2 := 1) (v := (.int .i64 (preB Z P (k + 1) : Int))) (by omega) s0)
        replace s1 := cell_drew (cell_set_far (nb := w.heap.size + 1 + 1 + 1) (o2 := 1) (v := (.int .i64 (preB Z P (k + 1) : Int))) (by omega) s1)
        replace s2 := cell_drew (cell_set_far (nb := w.heap.size + 1 + 1 + 1) (o2 := 1) (v := (.int .i64 (preB Z P (k + 1) : Int))) (by omega) s2)
        replace a0 := cell_drew (cell_set_far (nb := w.heap.size + 1 + 1 + 1) (o2 := 1) (v := (.int .i64 (preB Z P (k + 1) : Int))) (by omega) a0)
        replace a1 := cell_drew (cell_set_far (nb := w.heap.size + 1 + 1 + 1) (o2 := 1) (v := (.int .i64 (preB Z P (k + 1) : Int))) (by omega) a1)
        replace a2 := cell_drew (cell_set_far (nb := w.heap.size + 1 + 1 + 1) (o2 := 1) (v := (.int .i64 (preB Z P (k + 1) : Int))) (by omega) a2)
        replace b0 := cell_drew (cell_set_far (nb := w.heap.size + 1 + 1 + 1) (o2 := 1) (v := (.int .i64 (preB Z P (k + 1) : Int))) (by omega) b0)
        replace b1 := cell_drew (cell_set_far (nb := w.heap.size + 1 + 1 + 1) (o2 := 1) (v := (.int .i64 (preB Z P (k + 1) : Int))) (by omega) b1)
        replace b2 := cell_drew (cell_set_far (nb := w.heap.size + 1 + 1 + 1) (o2 := 1) (v := (.int .i64 (preB Z P (k + 1) : Int))) (by omega) b2)
        replace f0 : ((w2.setCell ⟨w.heap.size + 1 + 1 + 1, 1, none⟩ (.int .i64 (preB Z P (k + 1) : Int))).drew).frozen? ⟨w.heap.size + 1 + 1 + 1, 0, none⟩ = false := frz_drew (by rw [World.frozen?_setCell]; exact f0)
        replace f1 : ((w2.setCell ⟨w.heap.size + 1 + 1 + 1, 1, none⟩ (.int .i64 (preB Z P (k + 1) : Int))).drew).frozen? ⟨w.heap.size + 1 + 1 + 1, 1, none⟩ = false := frz_drew (by rw [World.frozen?_setCell]; exact f1)
        replace f2 : ((w2.setCell ⟨w.heap.size + 1 + 1 + 1, 1, none⟩ (.int .i64 (preB Z P (k + 1) : Int))).drew).frozen? ⟨w.heap.size + 1 + 1 + 1, 2, none⟩ = false := frz_drew (by rw [World.frozen?_setCell]; exact f2)
        replace hbel := Lib.hid (show Below (w.heap.size + 1 + 1 + 1) W0 ((w2.setCell ⟨w.heap.size + 1 + 1 + 1, 1, none⟩ (.int .i64 (preB Z P (k + 1) : Int))).drew) from Below.drew (Below.setCell hbel.out (by dsimp only; omega) _))
        generalize (w2.setCell ⟨w.heap.size + 1 + 1 + 1, 1, none⟩ (.int .i64 (preB Z P (k + 1) : Int))).drew = w3 at *
        replace L0 : w.heap.size + 1 + 1 + 1 < w3.heap.size := World.block_lt_of_cell? _ _ c0
        go_wp2_with fail
        cases hcx : commN P ea
        · have CX := Lib.hid hcx
          rw [hcx] at NX
          clear hcx
          go_region_held3 (fun w' => w'.cell? ⟨w.heap.size + 1, 0, none⟩ = some (.int .i64 (P.p : Int)) ∧ w'.cell? ⟨w.heap.size + 1, 1, none⟩ = some (.int .i64 (P.x : Int)) ∧ w'.cell? ⟨w.heap.size + 1, 2, none⟩ = some (.int .i64 (P.z : Int)) ∧ w'.cell? ⟨w.heap.size, 1, none⟩ = some (.slice (some ⟨ga, offa, none⟩) m cA) ∧ w'.cell? ⟨ga, offa + k * 3, none⟩ = some (.int .i64 (ea.p : Int)) ∧ w'.cell? ⟨ga, offa + k * 3 + 1, none⟩ = some (.int .i64 (ea.x : Int)) ∧ w'.cell? ⟨ga, offa + k * 3 + 2, none⟩ = some (.int .i64 (ea.z : Int))) (first | go_keep | (go_split_ands; refine ⟨?_, ?_, ?_, ?_, ?_, ?_, ?_⟩ <;> first | assumption | (simp [*]; done))) (first | (go_at_call 44; go_must ((refine (impl_commute_any P ea _ HP.out OA.out).mono ?_; rintro e w4 ⟨rfl, hb2⟩); (rw [CX.out]); (have y2 := hb2.size); (simp at y2); (replace c0 := below_cell hb2 rfl (cell_drew c0)); (replace c1 := below_cell hb2 rfl (cell_drew c1)); (replace c2 := below_cell hb2 rfl (cell_drew c2)); (replace t0 := below_cell hb2 rfl (cell_drew t0)); (replace t1 := below_cell hb2 rfl (cell_drew t1)); (replace t2 := below_cell hb2 rfl (cell_drew t2)); (replace s0 := below_cell hb2 rfl (cell_drew s0)); (replace s1 := below_cell hb2 rfl (cell_drew s1)); (replace s2 := below_cell hb2 rfl (cell_drew s2)); (replace a0 := below_cell hb2 rfl (cell_drew a0)); (replace a1 := below_cell hb2 rfl (cell_drew a1)); (replace a2 := below_cell hb2 rfl (cell_drew a2)); (replace b0 := below_cell hb2 rfl (cell_drew b0)); (replace b1 := below_cell hb2 rfl (cell_drew b1)); (replace b2 := below_cell hb2 rfl (cell_drew b2)); (replace f0 := below_frz hb2 rfl (by first | omega | (simp; omega)) (frz_drew f0)); (replace f1 := below_frz hb2 rfl (by first | omega | (simp; omega)) (frz_drew f1)); (replace f2 := below_frz hb2 rfl (by first | omega | (simp; omega)) (frz_drew f2)); (replace hbel := Lib.hid (show Below (w.heap.size + 1 + 1 + 1) W0 w4 from Below.trans (Below.drew hbel.out) (hb2.mono (by first | omega | (simp; omega))))); (replace L0 := World.block_lt_of_cell? _ _ c0); (clear hb2 y2))))
          go_wp2_with fail
          rw [if_neg (by simp)] at NX
          rw [← NX.out] at ox
          go_region
          replace c0 := cell_drew (cell_set_other (o2 := 2) (v := (.int .i64 (preB X P (k + 1) : Int))) c0)
          replace c1 := cell_drew (cell_set_other (o2 := 2) (v := (.int .i64 (preB X P (k + 1) : Int))) c1)
          replace c2 := cell_drew (World.cell?_setCell_same w4 ⟨w.heap.size + 1 + 1 + 1, 2, none⟩ (.int .i64 (preB X P (k + 1) : Int)) c2)
          replace t0 := cell_drew (cell_set_far (nb := w.heap.size + 1 + 1 + 1) (o2 := 2) (v := (.int .i64 (preB X P (k + 1) : Int))) (by omega) t0)
          replace t1 := cell_drew (cell_set_far (nb := w.heap.size + 1 + 1 + 1) (o2 := 2) (v := (.int .i64 (preB X P (k + 1) : Int))) (by omega) t1)
          replace t2 := cell_drew (cell_set_far (nb := w.heap.size + 1 + 1 + 1) (o2 := 2) (v := (.int .i64 (preB X P (k + 1) : Int))) (by omega) t2)
          replace s0 := cell_drew (cell_set_far (nb := w.heap.size + 1 + 1 + 1) (o2 := 2) (v := (.int .i64 (preB X P (k + 1) : Int))) (by omega) s0)
          replace s1 := cell_drew (cell_set_far (nb := w.heap.size + 1 + 1 + 1) (o2 := 2) (v := (.int .i64 (preB X P (k + 1) : Int))) (by omega) s1)
          replace s2 := cell_drew (cell_set_far (nb := w.heap.size + 1 + 1 + 1) (o2 := 2) (v := (.int .i64 (preB X P (k + 1) : Int))) (by omega) s2)
          replace a0 := cell_drew (cell_set_far (nb := w.heap.size + 1 + 1 + 1) (o2 := 2) (v := (.int .i64 (preB X P (k + 1) : Int))) (by omega) a0)
          replace a1 := cell_drew (cell_set_far (nb := w.heap.size + 1 + 1 + 1) (o2 := 2) (v := (.int .i64 (preB X P (k + 1) : Int))) (by omega) a1)
          replace a2 := cell_drew (cell_set_far (nb := w.heap.size + 1 + 1 + 1) (o2 := 2) (v := (.int .i64 (preB X P (k + 1) : Int))) (by omega) a2)
          replace b0 := cell_drew (cell_set_far (nb := w.heap.size + 1 + 1 + 1) (o2 := 2) (v := (.int .i64 (preB X P (k + 1) : Int))) (by omega) b0)
          replace b1 := cell_drew (cell_set_far (nb := w.heap.size + 1 + 1 + 1) (o2 := 2) (v := (.int .i64 (preB X P (k + 1) : Int))) (by omega) b1)
          replace b2 := cell_drew (cell_set_far (nb := w.heap.size + 1 + 1 + 1) (o2 := 2) (v := (.int .i64 (preB X P (k + 1) : Int))) (by omega) b2)
          replace f0 : ((w4.setCell ⟨w.heap.size + 1 + 1 + 1, 2, none⟩ (.int .i64 (preB X P (k + 1) : Int))).drew).frozen? ⟨w.heap.size + 1 + 1 + 1, 0, none⟩ = false := frz_drew (by rw [World.frozen?_setCell]; exact f0)
          replace f1 : ((w4.setCell ⟨w.heap.size + 1 + 1 + 1, 2, none⟩ (.int .i64 (preB X P (k + 1) : Int))).drew).frozen? ⟨w.heap.size + 1 + 1 + 1, 1, none⟩ = false := frz_drew (by rw [World.frozen?_setCell]; exact f1)
          replace f2 : ((w4.setCell ⟨w.heap.size + 1 + 1 + 1, 2, none⟩ (.int .i64 (preB X P (k + 1) : Int))).drew).frozen? ⟨w.heap.size + 1 + 1 + 1, 2, none⟩ = false := frz_drew (by rw [World.frozen?_setCell]; exact f2)
          replace hbel := Lib.hid (show Below (w.heap.size + 1 + 1 + 1) W0 ((w4.setCell ⟨w.heap.size + 1 + 1 + 1, 2, none⟩ (.int .i64 (preB X P (k + 1) : Int))).drew) from Below.drew (Below.setCell hbel.out (by dsimp only; omega) _))
          generalize (w4.setCell ⟨w.heap.size + 1 + 1 + 1, 2, none⟩ (.int .i64 (preB X P (k + 1) : Int))).drew = w5 at *
          replace L0 : w.heap.size + 1 + 1 + 1 < w5.heap.size := World.block_lt_of_cell? _ _ c0
          go_wp2_with fail
          go_roundw
          case rel => exact ⟨k + 1, by omega, by go_num, c0, c1, c2, f0, f1, f2, hbel⟩
          case measure => simp [intOf]; omega
        · have CX := Lib.hid hcx
          rw [hcx] at NX
          clear hcx
          go_region_held3 (fun w' => w'.cell? ⟨w.heap.size + 1, 0, none⟩ = some (.int .i64 (P.p : Int)) ∧ w'.cell? ⟨w.heap.size + 1, 1, none⟩ = some (.int .i64 (P.x : Int)) ∧ w'.cell? ⟨w.heap.size + 1, 2, none⟩ = some (.int .i64 (P.z : Int)) ∧ w'.cell? ⟨w.heap.size, 1, none⟩ = some (.slice (some ⟨ga, offa, none⟩) m cA) ∧ w'.cell? ⟨ga, offa + k * 3, none⟩ = some (.int .i64 (ea.p : Int)) ∧ w'.cell? ⟨ga, offa + k * 3 + 1, none⟩ = some (.int .i64 (ea.x : Int)) ∧ w'.cell? ⟨ga, offa + k * 3 + 2, none⟩ = some (.int .i64 (ea.z : Int))) (first | go_keep | (go_split_ands; refine ⟨?_, ?_, ?_, ?_, ?_, ?_, ?_⟩ <;> first | assumption | (simp [*]; done))) (first | (go_at_call 44; go_must ((refine (impl_commute_any P ea _ HP.out OA.out).mono ?_; rintro e w4 ⟨rfl, hb2⟩); (rw [CX.out]); (have y2 := hb2.size); (simp at y2); (replace c0 := below_cell hb2 rfl (cell_drew c0)); (replace c1 := below_cell hb2 rfl (cell_drew c1)); (replace c2 := below_cell hb2 rfl (cell_drew c2)); (replace t0 := below_cell hb2 rfl (cell_drew t0)); (replace t1 := below_cell hb2 rfl (cell_drew t1)); (replace t2 := below_cell hb2 rfl (cell_drew t2)); (replace s0 := below_cell hb2 rfl (cell_drew s0)); (replace s1 := below_cell hb2 rfl (cell_drew s1)); (replace s2 := below_cell hb2 rfl (cell_drew s2)); (replace a0 := below_cell hb2 rfl (cell_drew a0)); (replace a1 := below_cell hb2 rfl (cell_drew a1)); (replace a2 := below_cell hb2 rfl (cell_drew a2)); (replace b0 := below_cell hb2 rfl (cell_drew b0)); (replace b1 := below_cell hb2 rfl (cell_drew b1)); (replace b2 := below_cell hb2 rfl (cell_drew b2)); (replace f0 := below_frz hb2 rfl (by first | omega | (simp; omega)) (frz_drew f0)); (replace f1 := below_frz hb2 rfl (by first | omega | (simp; omega)) (frz_drew f1)); (replace f2 := below_frz hb2 rfl (by first | omega | (simp; omega)) (frz_drew f2)); (replace hbel := Lib.hid (show Below (w.heap.size + 1 + 1 + 1) W0 w4 from Below.trans (Below.drew hbel.out) (hb2.mono (by first | omega | (simp; omega))))); (replace L0 := World.block_lt_of_cell? _ _ c0); (clear hb2 y2))))
          go_wp2_with fail
          rw [if_pos (by simp)] at NX
          rw [← NX.out] at c2
          generalize w4 = w5 at *
          go_roundw
          case rel => exact ⟨k + 1, by omega, by go_num, c0, c1, c2, f0, f1, f2, hbel⟩
          case measure => simp [intOf]; omega
      · have CZ := Lib.hid hcz
        rw [hcz] at NZ
        clear hcz
        go_wp2_with fail
        go_region_held3 (fun w' => w'.cell? ⟨w.heap.size + 1, 0, none⟩ = some (.int .i64 (P.p : Int)) ∧ w'.cell? ⟨w.heap.size + 1, 1, none⟩ = some (.int .i64 (P.x : Int)) ∧ w'.cell? ⟨w.heap.size + 1, 2, none⟩ = some (.int .i64 (P.z : Int)) ∧ w'.cell? ⟨w.heap.size, 2, none⟩ = some (.slice (some ⟨gb, offb, none⟩) m cB) ∧ w'.cell? ⟨gb, offb + k * 3, none⟩ = some (.int .i64 (eb.p : Int)) ∧ w'.cell? ⟨gb, offb + k * 3 + 1, none⟩ = some (.int .i64 (eb.x : Int)) ∧ w'.cell? ⟨gb, offb + k * 3 + 2, none⟩ = some (.int .i64 (eb.z : Int))) (first | go_keep | (go_split_ands; refine ⟨?_, ?_, ?_, ?_, ?_, ?_, ?_⟩ <;> first | assumption | (simp [*]; done))) (first | (go_at_call 44; go_must ((refine (impl_commute_any P eb _ HP.out OB.out).mono ?_; rintro e w2 ⟨rfl, hb2⟩); (rw [CZ.out]); (have y2 := hb2.size); (simp at y2); (replace c0 := below_cell hb2 rfl (cell_drew c0)); (replace c1 := below_cell hb2 rfl (cell_drew c1)); (replace c2 := below_cell hb2 rfl (cell_drew c2)); (replace t0 := below_cell hb2 rfl (cell_drew t0)); (replace t1 := below_cell hb2 rfl (cell_drew t1)); (replace t2 := below_cell hb2 rfl (cell_drew t2)); (replace s0 := below_cell hb2 rfl (cell_drew s0)); (replace s1 := below_cell hb2 rfl (cell_drew s1)); (replace s2 := below_cell hb2 rfl (cell_drew s2)); (replace a0 := below_cell hb2 rfl (cell_drew a0)); (replace a1 := below_cell hb2 rfl (cell_drew a1)); (replace a2 := below_cell hb2 rfl (cell_drew a2)); (replace b0 := below_cell hb2 rfl (cell_drew b0)); (replace b1 := below_cell hb2 rfl (cell_drew b1)); (replace b2 := below_cell hb2 rfl (cell_drew b2)); (replace f0 := below_frz hb2 rfl (by first | omega | (simp; omega)) (frz_drew f0)); (replace f1 := below_frz hb2 rfl (by first | omega | (simp; omega)) (frz_drew f1)); (replace f2 := below_frz hb2 rfl (by first | omega | (simp; omega)) (frz_drew f2)); (replace hbel := Lib.hid (show Below (w.heap.size + 1 + 1 + 1) W0 w2 from Below.trans (Below.drew hbel.out) (hb2.mono (by first | omega | (simp; omega))))); (replace L0 := World.block_lt_of_cell? _ _ c0); (clear hb2 y2))))
        go_wp2_with fail
        rw [if_pos (by simp)] at NZ
        rw [← NZ.out] at c1
        generalize w2 = w3 at *
        cases hcx : commN P ea
        · have CX := Lib.hid hcx
          rw [hcx] at NX
          clear hcx
          go_region_held3 (fun w' => w'.cell? ⟨w.heap.size + 1, 0, none⟩ = some (.int .i64 (P.p : Int)) ∧ w'.cell? ⟨w.heap.size + 1, 1, none⟩ = some (.int .i64 (P.x : Int)) ∧ w'.cell? ⟨w.heap.size + 1, 2, none⟩ = some (.int .i64 (P.z : Int)) ∧ w'.cell? ⟨w.heap.size, 1, none⟩ = some (.slice (some ⟨ga, offa, none⟩) m cA) ∧ w'.cell? ⟨ga, offa + k * 3, none⟩ = some (.int .i64 (ea.p : Int)) ∧ w'.cell? ⟨ga, offa + k * 3 + 1, none⟩ = some (.int .i64 (ea.x : Int)) ∧ w'.cell? ⟨ga, offa + k * 3 + 2, none⟩ = some (.int .i64 (ea.z : Int))) (first | go_keep | (go_split_ands; refine ⟨?_, ?_, ?_, ?_, ?_, ?_, ?_⟩ <;> first | assumption | (simp [*]; done))) (first | (go_at_call 44; go_must ((refine (impl_commute_any P ea _ HP.out OA.out).mono ?_; rintro e w4 ⟨rfl, hb2⟩); (rw [CX.out]); (have y2 := hb2.size); (simp at y2); (replace c0 := below_cell hb2 rfl (cell_drew c0)); (replace c1 := below_cell hb2 rfl (cell_drew c1)); (replace c2 := below_cell hb2 rfl (cell_drew c2)); (replace t0 := below_cell hb2 rfl (cell_drew t0)); (replace t1 := below_cell hb2 rfl (cell_drew t1)); (replace t2 := below_cell hb2 rfl (cell_drew t2)); (replace s0 := below_cell hb2 rfl (cell_drew s0)); (replace s1 := below_cell hb2 rfl (cell_drew s1)); (replace s2 := below_cell hb2 rfl (cell_drew s2)); (replace a0 := below_cell hb2 rfl (cell_drew a0)); (replace a1 := below_cell hb2 rfl (cell_drew a1)); (replace a2 := below_cell hb2 rfl (cell_drew a2)); (replace b0 := below_cell hb2 rfl (cell_drew b0)); (replace b1 := below_cell hb2 rfl (cell_drew b1)); (replace b2 := below_cell hb2 rfl (cell_drew b2)); (replace f0 := below_frz hb2 rfl (by first | omega | (simp; omega)) (frz_drew f0)); (replace f1 := below_frz hb2 rfl (by first | omega | (simp; omega)) (frz_drew f1)); (replace f2 := below_frz hb2 rfl (by first | omega | (simp; omega)) (frz_drew f2)); (replace hbel := Lib.hid (show Below (w.heap.size + 1 + 1 + 1) W0 w4 from Below.trans (Below.drew hbel.out) (hb2.mono (by first | omega | (simp; omega))))); (replace L0 := World.block_lt_of_cell? _ _ c0); (clear hb2 y2))))
          go_wp2_with fail
          rw [if_neg (by simp)] at NX
          rw [← NX.out] at ox
          go_region
          replace c0 := cell_drew (cell_set_other (o2 := 2) (v := (.int .i64 (preB X P (k + 1) : Int))) c0)
          replace c1 := cell_drew (cell_set_other (o2 := 2) (v := (.int .i64 (preB X P (k + 1) : Int))) c1)
          replace c2 := cell_drew (World.cell?_setCell_same w4 ⟨w.heap.size + 1 + 1 + 1, 2, none⟩ (.int .i64 (preB X P (k + 1) : Int)) c2)
          replace t0 := cell_drew (cell_set_far (nb := w.heap.size + 1 + 1 + 1) (o2 := 2) (v := (.int .i64 (preB X P (k + 1) : Int))) (by omega) t0)
          replace t1 := cell_drew (cell_set_far (nb := w.heap.size + 1 + 1 + 1) (o2 := 2) (v := (.int .i64 (preB X P (k + 1) : Int))) (by omega) t1)
          replace t2 := cell_drew (cell_set_far (nb := w.heap.size + 1 + 1 + 1) (o2 := 2) (v := (.int .i64 (preB X P (k + 1) : Int))) (by omega) t2)
          replace s0 := cell_drew (cell_set_far (nb := w.heap.size + 1 + 1 + 1) (o2 := 2) (v := (.int .i64 (preB X P (k + 1) : Int))) (by omega) s0)
          replace s1 := cell_drew (cell_set_far (nb := w.heap.size + 1 + 1 + 1) (o2 := 2) (v := (.int .i64 (preB X P (k + 1) : Int))) (by omega) s1)
          replace s2 := cell_drew (cell_set_far (nb := w.heap.size + 1 + 1 + 1) (o2 := 2) (v := (.int .i64 (preB X P (k + 1) : Int))) (by omega) s2)
          replace a0 := cell_drew (cell_set_far (nb := w.heap.size + 1 + 1 + 1) (o2 := 2) (v := (.int .i64 (preB X P (k + 1) : Int))) (by omega) a0)
          replace a1 := cell_drew (cell_set_far (nb := w.heap.size + 1 + 1 + 1) (o2 := 2) (v := (.int .i64 (preB X P (k + 1) : Int))) (by omega) a1)
          replace a2 := cell_drew (cell_set_far (nb := w.heap.size + 1 + 1 + 1) (o2 := 2) (v := (.int .i64 (preB X P (k + 1) : Int))) (by omega) a2)
          replace b0 := cell_drew (cell_set_far (nb := w.heap.size + 1 + 1 + 1) (o2 := 2) (v := (.int .i64 (preB X P (k + 1) : Int))) (by omega) b0)
          replace b1 := cell_drew (cell_set_far (nb := w.heap.size + 1 + 1 + 1) (o2 := 2) (v := (.int .i64 (preB X P (k + 1) : Int))) (by omega) b1)
          replace b2 := cell_drew (cell_set_far (nb := w.heap.size + 1 + 1 + 1) (o2 := 2) (v := (.int .i64 (preB X P (k + 1) : Int))) (by omega) b2)
          replace f0 : ((w4.setCell ⟨w.heap.size + 1 + 1 + 1, 2, none⟩ (.int .i64 (preB X P (k + 1) : Int))).drew).frozen? ⟨w.heap.size + 1 + 1 + 1, 0, none⟩ = false := frz_drew (by rw [World.frozen?_setCell]; exact f0)
          replace f1 : ((w4.setCell ⟨w.heap.size + 1 + 1 + 1, 2, none⟩ (.int .i64 (preB X P (k + 1) : Int))).drew).frozen? ⟨w.heap.size + 1 + 1 + 1, 1, none⟩ = false := frz_drew (by rw [World.frozen?_setCell]; exact f1)
          replace f2 : ((w4.setCell ⟨w.heap.size + 1 + 1 + 1, 2, none⟩ (.int .i64 (preB X P (k + 1) : Int))).drew).frozen? ⟨w.heap.size + 1 + 1 + 1, 2, none⟩ = false := frz_drew (by rw [World.frozen?_setCell]; exact f2)
          replace hbel := Lib.hid (show Below (w.heap.size + 1 + 1 + 1) W0 ((w4.setCell ⟨w.heap.size + 1 + 1 + 1, 2, none⟩ (.int .i64 (preB X P (k + 1) : Int))).drew) from Below.drew (Below.setCell hbel.out (by dsimp only; omega) _))
          generalize (w4.setCell ⟨w.heap.size + 1 + 1 + 1, 2, none⟩ (.int .i64 (preB X P (k + 1) : Int))).drew = w5 at *
          replace L0 : w.heap.size + 1 + 1 + 1 < w5.heap.size := World.block_lt_of_cell? _ _ c0
          go_wp2_with fail
          go_roundw
          case rel => exact ⟨k + 1, by omega, by go_num, c0, c1, c2, f0, f1, f2, hbel⟩
          case measure => simp [intOf]; omega
        · have CX := Lib.hid hcx
          rw [hcx] at NX
          clear hcx
          go_region_held3 (fun w' => w'.cell? ⟨w.heap.size + 1, 0, none⟩ = some (.int .i64 (P.p : Int)) ∧ w'.cell? ⟨w.heap.size + 1, 1, none⟩ = some (.int .i64 (P.x : Int)) ∧ w'.cell? ⟨w.heap.size + 1, 2, none⟩ = some (.int .i64 (P.z : Int)) ∧ w'.cell? ⟨w.heap.size, 1, none⟩ = some (.slice (some ⟨ga, offa, none⟩) m cA) ∧ w'.cell? ⟨ga, offa + k * 3, none⟩ = some (.int .i64 (ea.p : Int)) ∧ w'.cell? ⟨ga, offa + k * 3 + 1, none⟩ = some (.int .i64 (ea.x : Int)) ∧ w'.cell? ⟨ga, offa + k * 3 + 2, none⟩ = some (.int .i64 (ea.z : Int))) (first | go_keep | (go_split_ands; refine ⟨?_, ?_, ?_, ?_, ?_, ?_, ?_⟩ <;> first | assumption | (simp [*]; done))) (first | (go_at_call 44; go_must ((refine (impl_commute_any P ea _ HP.out OA.out).mono ?_; rintro e w4 ⟨rfl, hb2⟩); (rw [CX.out]); (have y2 := hb2.size); (simp at y2); (replace c0 := below_cell hb2 rfl (cell_drew c0)); (replace c1 := below_cell hb2 rfl (cell_drew c1)); (replace c2 := below_cell hb2 rfl (cell_drew c2)); (replace t0 := below_cell hb2 rfl (cell_drew t0)); (replace t1 := below_cell hb2 rfl (cell_drew t1)); (replace t2 := below_cell hb2 rfl (cell_drew t2)); (replace s0 := below_cell hb2 rfl (cell_drew s0)); (replace s1 := below_cell hb2 rfl (cell_drew s1)); (replace s2 := below_cell hb2 rfl (cell_drew s2)); (replace a0 := below_cell hb2 rfl (cell_drew a0)); (replace a1 := below_cell hb2 rfl (cell_drew a1)); (replace a2 := below_cell hb2 rfl (cell_drew a2)); (replace b0 := below_cell hb2 rfl (cell_drew b0)); (replace b1 := below_cell hb2 rfl (cell_drew b1)); (replace b2 := below_cell hb2 rfl (cell_drew b2)); (replace f0 := below_frz hb2 rfl (by first | omega | (simp; omega)) (frz_drew f0)); (replace f1 := below_frz hb2 rfl (by first | omega | (simp; omega)) (frz_drew f1)); (replace f2 := below_frz hb2 rfl (by first | omega | (simp; omega)) (frz_drew f2)); (replace hbel := Lib.hid (show Below (w.heap.size + 1 + 1 + 1) W0 w4 from Below.trans (Below.drew hbel.out) (hb2.mono (by first | omega | (simp; omega))))); (replace L0 := World.block_lt_of_cell? _ _ c0); (clear hb2 y2))))
          go_wp2_with fail
          rw [if_pos (by simp)] at NX
          rw [← NX.out] at c2
          generalize w4 = w5 at *
          go_roundw
          case rel => exact ⟨k + 1, by omega, by go_num, c0, c1, c2, f0, f1, f2, hbel⟩
          case measure => simp [intOf]; omega
    · have e : k = m := by omega
      have HR : Hid (invN X Z m P = ⟨(imgN X Z ⟨0, preB Z P m, preB X P m⟩ m).p, preB Z P m, preB X P m⟩) := rfl
      have OO := Lib.hid (show PNok ⟨0, preB Z P m, preB X P m⟩ from ⟨by simp, preB_31 _ _ m5, preB_31 _ _ m5⟩)
      have RA := Lib.hid (Rd.below HK0.out bw.out rfl); have RB := Lib.hid (Rd.below HK1.out bw.out rfl)
      have r0 := (hbel.out.cell (p := ⟨w.heap.size + 1 + 1, 0, none⟩) (by dsimp only; omega)).trans R0.out; have u0 := (hbel.out.frozen (p := ⟨w.heap.size + 1 + 1, 0, none⟩) (by dsimp only; omega)).trans Q0.out
      have r1 := (hbel.out.cell (p := ⟨w.heap.size + 1 + 1, 1, none⟩) (by dsimp only; omega)).trans R1.out; have u1 := (hbel.out.frozen (p := ⟨w.heap.size + 1 + 1, 1, none⟩) (by dsimp only; omega)).trans Q1.out
      have r2 := (hbel.out.cell (p := ⟨w.heap.size + 1 + 1, 2, none⟩) (by dsimp only; omega)).trans R2.out; have u2 := (hbel.out.frozen (p := ⟨w.heap.size + 1 + 1, 2, none⟩) (by dsimp only; omega)).trans Q2.out
      rw [e] at c1 c2
      obtain ⟨bx, hbx⟩ : ∃ t, t = preB Z P m := ⟨_, rfl⟩
      obtain ⟨bz, hbz⟩ : ∃ t, t = preB X P m := ⟨_, rfl⟩
      rw [← hbx] at c1 HR OO; rw [← hbz] at c2 HR OO
      have i1 : ¬ (k : Int) < (m : Int) := by omega
      clear e hbx hbz HA HB
      go_wp2_with fail
      refine (impl_image_any m X Z ⟨0, bx, bz⟩ _ _ _ m5 HS.out.lx HS.out.lz HS.out.ltx.ok HS.out.ltz.ok OO.out RA.out RB.out).mono ?_; rintro e w2 ⟨rfl, hb2⟩
      obtain ⟨R, hR⟩ : ∃ R, R = imgN X Z ⟨0, bx, bz⟩ m := ⟨_, rfl⟩
      rw [← hR] at HR ⊢
      clear hR
      have hfd : ∀ w : World, (Instr.field 33 (.agg #[.int .i64 ((R).p : Int), .int .i64 ((R).x : Int), .int .i64 ((R).z : Int)]) 0).run Tryz.prog w = .ok (.int .i64 (R.p : Int)) w := fun _ => by kernel_rfl
      replace c0 := below_cell hb2 rfl c0; replace c1 := below_cell hb2 rfl c1; replace c2 := below_cell hb2 rfl c2
      replace r0 := below_cell hb2 rfl r0; replace r1 := below_cell hb2 rfl r1; replace r2 := below_cell hb2 rfl r2
      replace f0 := below_frz hb2 rfl L0 f0; replace f1 := below_frz hb2 rfl L0 f1; replace f2 := below_frz hb2 rfl L0 f2
      replace u0 := below_frz hb2 rfl (by omega) u0; replace u1 := below_frz hb2 rfl (by omega) u1; replace u2 := below_frz hb2 rfl (by omega) u2
      have b2' := Lib.hid (show Below w.heap.size w w2 from Below.trans bw.out (hb2.mono (by have := bw.out.size; omega)))
      clear hb2 bw t0 t1 t2 s0 s1 s2
      have hne : w.heap.size + 1 + 1 ≠ w.heap.size + 1 + 1 + 1 := by omega
      have d0 := World.cell?_setCell_same w2 ⟨w.heap.size + 1 + 1 + 1, 0, none⟩ (.int .i64 (R.p : Int)) c0
      have d1 := cell_set_other (o2 := 0) (v := (.int .i64 (R.p : Int))) c1
      have d2 := cell_set_other (o2 := 0) (v := (.int .i64 (R.p : Int))) c2
      have v0 := cell_set_far (nb := w.heap.size + 1 + 1 + 1) (o2 := 0) (v := (.int .i64 (R.p : Int))) hne r0
      have v1 := cell_set_far (nb := w.heap.size + 1 + 1 + 1) (o2 := 0) (v := (.int .i64 (R.p : Int))) hne r1
      have v2 := cell_set_far (nb := w.heap.size + 1 + 1 + 1) (o2 := 0) (v := (.int .i64 (R.p : Int))) hne r2
      have hZ := box_set3 (nb := w.heap.size + 1 + 1) (.int .i64 (R.p : Int)) (.int .i64 (bx : Int)) (.int .i64 (bz : Int)) v0 v1 v2
      have bq := b2'.out
      go_wp2_with fail
      refine bodyPost_ret (v := .agg #[.int .i64 (((⟨R.p, bx, bz⟩ : PN)).p : Int), .int .i64 (((⟨R.p, bx, bz⟩ : PN)).x : Int), .int .i64 (((⟨R.p, bx, bz⟩ : PN)).z : Int)]) (by simp [results, Tryz.results38, go_sem, hZ]) rfl ⟨by rw [HR.out], belo⟩
end Go.Proofs.YtnckabohlakbgaaGreat
namespace Go.Proofs.YtnckabohlakbgaaGreat
set_option linter.unusedSimpArgs false
set_option linter.unusedVariables false
set_option linter.unnecessarySimpa false
set_option maxRecDepth 200000
open Go.ChangeShapes Go.WideShapes Go.ChangeAt Go.RowKit

end Go.Proofs.YtnckabohlakbgaaGreat
namespace Go.Proofs.YtnckabohlakbgaaGreat
set_option linter.unusedSimpArgs false
set_option linter.unusedVariables false
set_option linter.unnecessarySimpa false
set_option maxRecDepth 200000
open Go.ChangeShapes Go.WideShapes Go.ChangeAt Go.RowKit

set_option maxHeartbeats 16000000 in
theorem impl_InvertTableau_any (d : Tab) (v0 v1 : Value) (w : World) (h0 : RdE w v0 E3.cs 3 d.xs) (h1 : RdE w v1 E3.cs 3 d.zs) (n0 : d.xs.length ≤ 1048576) (n1 : d.zs.length ≤ 1048576) :
    Calls Tryz.prog 11 #[.agg #[.int .i64 d.n, v0, v1]] w (TabPost w (invG d)) := by
  obtain ⟨i0, hi, hz0, hz1, hz2⟩ := info_parts info_Pauli
  have H0 := Lib.hid h0; have H1 := Lib.hid h1
  obtain ⟨A, cA, rfl, _⟩ := h0.form
  obtain ⟨A2, cB, rfl, _⟩ := h1.form
  clear h0 h1
  by_cases ht : TabOk d
  · have HT := Lib.hid (show tabB d = true from decide_eq_true ht)
    obtain ⟨n, hm, m1, hn, ex, ez, lx, lz, okx, okz⟩ := ht.parts
    have HG := Lib.hid (show invG d = some ⟨d.n, pes (invXs (d.xs.map tn) (d.zs.map tn) n n), pes (invZs (d.xs.map tn) (d.zs.map tn) n n)⟩ from by unfold invG; rw [if_pos ht, hm, Int.toNat_natCast])
    have HS := Lib.hid (ht.sym hm)
    have HK0 := Lib.hid (show RdE w (.slice A d.xs.length cA) E3.cs 3 (pes (d.xs.map tn)) from by rw [← ex]; exact H0.out)
    have HK1 := Lib.hid (show RdE w (.slice A2 d.zs.length cB) E3.cs 3 (pes (d.zs.map tn)) from by rw [← ez]; exact H1.out)
    have hlx : d.xs.length = n := by simpa using lx
    have hlz : d.zs.length = n := by simpa using lz
    rw [hm] at HG; rw [hlx] at HK0; rw [hlz] at HK1
    have HM := Lib.hid hm; have HLX := Lib.hid hlx; have HLZ := Lib.hid hlz
    generalize d.xs.map tn = X at *
    generalize d.zs.map tn = Z at *
    clear ht hm ex ez lx lz okx okz hlx hlz
    go_enter Tryz.func11, Tryz.ntmps11
    go_wp2_with fail
    refine (impl_IsValidTableau_any d _ _ _ (Rd.below H0.out (show Below w.heap.size w _ from belo) rfl) (Rd.below H1.out (show Below w.heap.size w _ from belo) rfl) n0 n1).mono ?_; rintro e w1 ⟨rfl, hb1⟩; rw [HT.out]
    have t0 := below_cell hb1 rfl (show ((w.alloc (.cells #[.int .i64 d.n, .slice A d.xs.length cA, .slice A2 d.zs.length cB] 29)).alloc (.cells #[.int .i64 0, .slice none 0 0, .slice none 0 0] 29)).cell? ⟨w.heap.size, 0, none⟩ = some (.int .i64 d.n) from cela)
    have t1 := below_cell hb1 rfl (show ((w.alloc (.cells #[.int .i64 d.n, .slice A d.xs.length cA, .slice A2 d.zs.length cB] 29)).alloc (.cells #[.int .i64 0, .slice none 0 0, .slice none 0 0] 29)).cell? ⟨w.heap.size, 1, none⟩ = some (.slice A d.xs.length cA) from cela)
    have t2 := below_cell hb1 rfl (show ((w.alloc (.cells #[.int .i64 d.n, .slice A d.xs.length cA, .slice A2 d.zs.length cB] 29)).alloc (.cells #[.int .i64 0, .slice none 0 0, .slice none 0 0] 29)).cell? ⟨w.heap.size, 2, none⟩ = some (.slice A2 d.zs.length cB) from cela)
    have r0 := below_cell hb1 rfl (show ((w.alloc (.cells #[.int .i64 d.n, .slice A d.xs.length cA, .slice A2 d.zs.length cB] 29)).alloc (.cells #[.int .i64 0, .slice none 0 0, .slice none 0 0] 29)).cell? ⟨w.heap.size + 1, 0, none⟩ = some (.int .i64 0) from cela)
    have r1 := below_cell hb1 rfl (show ((w.alloc (.cells #[.int .i64 d.n, .slice A d.xs.length cA, .slice A2 d.zs.length cB] 29)).alloc (.cells #[.int .i64 0, .slice none 0 0, .slice none 0 0] 29)).cell? ⟨w.heap.size + 1, 1, none⟩ = some (.slice none 0 0) from cela)
    have r2 := below_cell hb1 rfl (show ((w.alloc (.cells #[.int .i64 d.n, .slice A d.xs.length cA, .slice A2 d.zs.length cB] 29)).alloc (.cells #[.int .i64 0, .slice none 0 0, .slice none 0 0] 29)).cell? ⟨w.heap.size + 1, 2, none⟩ = some (.slice none 0 0) from cela)
    have Q0 := Lib.hid (below_frz hb1 rfl (by simp) (show ((w.alloc (.cells #[.int .i64 d.n, .slice A d.xs.length cA, .slice A2 d.zs.length cB] 29)).alloc (.cells #[.int .i64 0, .slice none 0 0, .slice none 0 0] 29)).frozen? ⟨w.heap.size + 1, 0, none⟩ = false from froza))
    have Q1 := Lib.hid (below_frz hb1 rfl (by simp) (show ((w.alloc (.cells #[.int .i64 d.n, .slice A d.xs.length cA, .slice A2 d.zs.length cB] 29)).alloc (.cells #[.int .i64 0, .slice none 0 0, .slice none 0 0] 29)).frozen? ⟨w.heap.size + 1, 1, none⟩ = false from froza))
    have Q2 := Lib.hid (below_frz hb1 rfl (by simp) (show ((w.alloc (.cells #[.int .i64 d.n, .slice A d.xs.length cA, .slice A2 d.zs.length cB] 29)).alloc (.cells #[.int .i64 0, .slice none 0 0, .slice none 0 0] 29)).frozen? ⟨w.heap.size + 1, 2, none⟩ = false from froza))
    have z1 := hb1.size; (simp at z1)
    have BW := Lib.hid (show Below w.heap.size w w1 from belo); clear hb1
    rw [HM.out] at t0; rw [HLX.out] at t1; rw [HLZ.out] at t2
    have T0 := Lib.hid t0
    have T1 := Lib.hid t1
    have T2 := Lib.hid t2
    have R0 := Lib.hid r0
    have R1 := Lib.hid r1
    have R2 := Lib.hid r2
    rw [HM.out, HLX.out, HLZ.out]
    have L0 := World.block_lt_of_cell? _ _ t0; clear r0 r1 r2 t1 t2
    go_wp2_with fail
    clear t0
    go_loopw [15] (fun i wr => ∃ (k : Nat) (vx vz : Value), k ≤ n ∧ i = .int .i64 k ∧ wr.cell? ⟨w1.heap.size, 0, none⟩ = some (.int .i64 (n : Int)) ∧ wr.cell? ⟨w1.heap.size, 1, none⟩ = some vx ∧ wr.cell? ⟨w1.heap.size, 2, none⟩ = some vz ∧ wr.frozen? ⟨w1.heap.size, 1, none⟩ = false ∧ wr.frozen? ⟨w1.heap.size, 2, none⟩ = false ∧ Hid (wr.ownsRow (w1.heap.size + 1) 33 3 vx k ((pes (invXs X Z n k)).flatMap E3.cs)) ∧ Hid (wr.ownsRow (w1.heap.size + 1) 33 3 vz k ((pes (invZs X Z n k)).flatMap E3.cs)) ∧ Hid (Apart vx vz) ∧ Hid (Below (w1.heap.size) w1 wr) ∧ w1.heap.size + 1 ≤ wr.heap.size) (fun i _ => n - (intOf i).toNat)
    case atStart => exact ⟨0, .slice none 0 0, .slice none 0 0, Nat.zero_le _, rfl, cela, cela, cela, froza, froza, World.ownsRow_nil _ _ _ _, World.ownsRow_nil _ _ _ _, apart_nil _, (show Below _ _ _ from belo), by simp⟩
    case round =>
      obtain ⟨k, vx, vz, hk, rfl, c0, c1, c2, f1, f2, hox, hoz, hap, hbel, hsz⟩ := hrel
      by_cases hlt : k < n
      · skip
        have bw := Lib.hid (show Below w.heap.size w wr from Below.trans BW.out (hbel.out.mono (by omega)))
        have t0 := (hbel.out.cell (p := ⟨w.heap.size, 0, none⟩) (by dsimp only; omega)).trans T0.out
        have t1 := (hbel.out.cell (p := ⟨w.heap.size, 1, none⟩) (by dsimp only; omega)).trans T1.out
        have t2 := (hbel.out.cell (p := ⟨w.heap.size, 2, none⟩) (by dsimp only; omega)).trans T2.out
        have NX := Lib.hid (invXs_succ X Z n k); have NZ := Lib.hid (invZs_succ X Z n k)
        obtain ⟨p1, p2⟩ := pow_small5 (show k ≤ 5 by omega)
        have hw : IntKind.i64.wrap ((2 : Int) ^ k) = (2 : Int) ^ k := IntWalk.i64_in _ (by omega)
        have hwu : IntKind.u64.wrap (k : Int) = (k : Int) := IntWalk.u64_in _ (by omega)
        have hmk : min k 64 = k := by omega
        have PB := Lib.hid (show (2 : Nat) ^ k < 2 ^ n from Nat.pow_lt_pow_right (by omega) hlt)
        have PC := Lib.hid (show (2 : Int) ^ k = (((2 : Nat) ^ k : Nat) : Int) from by simp)
        obtain ⟨Ra, hRa⟩ : ∃ R, R = invN X Z n ⟨0, 2 ^ k, 0⟩ := ⟨_, rfl⟩
        obtain ⟨Rb, hRb⟩ : ∃ R, R = invN X Z n ⟨0, 0, 2 ^ k⟩ := ⟨_, rfl⟩
        rw [← hRa] at NX; rw [← hRb] at NZ
        have HRa := Lib.hid hRa; have HRb := Lib.hid hRb
        have i1 : (k : Int) < (n : Int) := by omega
        have i2 : (0 : Int) ≤ (k : Int) := by omega
        clear hRa hRb
        go_wp2_with fail
        refine AnyB.begin (S := (fun w' => w'.cell? ⟨w1.heap.size, 1, none⟩ = some (vx) ∧ w'.cell? ⟨w1.heap.size, 2, none⟩ = some (vz) ∧ w'.cell? ⟨w.heap.size, 0, none⟩ = some (.int .i64 (n : Int)) ∧ w'.cell? ⟨w.heap.size, 1, none⟩ = some (.slice A n cA) ∧ w'.cell? ⟨w.heap.size, 2, none⟩ = some (.slice A2 n cB))) [19, 21] (by kernel_rfl) ?_ (fun hHeld0 => ?_)
        · ((try dsimp only); (first | exact ⟨c1, c2, t0, t1, t2⟩ | exact ⟨cell_alloc_keep _ c1, cell_alloc_keep _ c2, cell_alloc_keep _ t0, cell_alloc_keep _ t1, cell_alloc_keep _ t2⟩))
        refine AnyB.tq (i := 0) (h := ?_)
        refine AnyB.tk (i := 1) (h := ?_)
        refine AnyB.tk (i := 2) (h := ?_)
        refine AnyB.tq (i := 3) (h := ?_)
        refine AnyB.tq (i := 4) (h := ?_)
        refine AnyB.tq (i := 5) (h := ?_)
        refine AnyB.tq (i := 9) (h := ?_)
        refine AnyB.tk (i := 10) (h := ?_)
        refine AnyB.tk (i := 11) (h := ?_)
        refine AnyB.tq (i := 12) (h := ?_)
        refine AnyB.tq (i := 13) (h := ?_)
        refine AnyB.tq (i := 14) (h := ?_)
        refine AnyB.each (rs := [6]) (by kernel_rfl) (by simp) ?_
        refine EachB.cons rfl (fun K hK hB => ?_) ?_
        · skip
          (go_simp; go_at_call 38; refine (impl_preimage_any n X Z ⟨0, 2 ^ k, 0⟩ _ _ _ _ _ _ HS.out ⟨PB.out, Nat.two_pow_pos n⟩ rfl (by simp) PC.out (by simp) (Rd.below HK0.out (show Below w.heap.size w wr.drew from Below.trans BW.out ((show Below (w1.heap.size) w1 wr.drew from Below.drew hbel.out).mono (by omega))) rfl) (Rd.below HK1.out (show Below w.heap.size w wr.drew from Below.trans BW.out ((show Below (w1.heap.size) w1 wr.drew from Below.drew hbel.out).mono (by omega))) rfl)).mono ?_; rw [← HRa.out]; rintro e xA ⟨rfl, hxA⟩; have yA := hxA.size; (simp at yA); replace c0 := below_cell hxA rfl (cell_drew c0); replace c1 := below_cell hxA rfl (cell_drew c1); replace c2 := below_cell hxA rfl (cell_drew c2); replace t0 := below_cell hxA rfl (cell_drew t0); replace t1 := below_cell hxA rfl (cell_drew t1); replace t2 := below_cell hxA rfl (cell_drew t2); replace f1 := below_frz hxA rfl (by first | omega | (simp; omega)) (frz_drew f1); replace f2 := below_frz hxA rfl (by first | omega | (simp; omega)) (frz_drew f2); replace hox := Lib.hid (own_below hox.out (show Below wr.heap.size wr xA from Below.trans (show Below wr.heap.size wr wr.drew from belo) (hxA.mono (by first | omega | (simp)))) rfl); replace hoz := Lib.hid (own_below hoz.out (show Below wr.heap.size wr xA from Below.trans (show Below wr.heap.size wr wr.drew from belo) (hxA.mono (by first | omega | (simp)))) rfl); replace hbel := Lib.hid (show Below (w1.heap.size) w1 xA from Below.trans (Below.drew hbel.out) (hxA.mono (by first | omega | (simp; omega)))); clear hxA; dsimp only)
          refine hK.out _ _ ?_ (fun hHeld1 => ?_)
          · ((try dsimp only); (first | exact ⟨c1, c2, t0, t1, t2⟩ | exact ⟨cell_alloc_keep _ c1, cell_alloc_keep _ c2, cell_alloc_keep _ t0, cell_alloc_keep _ t1, cell_alloc_keep _ t2⟩))
          clear hB hK K hHeld0
          refine AnyB.each (rs := [7]) (by kernel_rfl) (by simp) ?_
          refine EachB.cons rfl (fun K hK hB => ?_) ?_
          · skip
            go_simp
            refine hK.out _ _ ?_ (fun hHeld2 => ?_)
            · ((try dsimp only); (first | exact ⟨c1, c2, t0, t1, t2⟩ | exact ⟨cell_alloc_keep _ c1, cell_alloc_keep _ c2, cell_alloc_keep _ t0, cell_alloc_keep _ t1, cell_alloc_keep _ t2⟩))
            clear hB hK K hHeld1
            refine AnyB.each (rs := [8]) (by kernel_rfl) (by simp) ?_
            refine EachB.cons rfl (fun K hK hB => ?_) ?_
            · skip
              (refine step_append_lies _ (by rfl) (.tmp 19) (.tmp 25) 27 (by rfl) (w1.heap.size + 1) 33 i0 (.agg #[.int .i64 0, .int .i64 0, .int .i64 0]) 3 24 Tryz.underlying27 hi hz0 hz1 hz2 rfl (by omega) vx k _ (by rfl) (hox.out.alloc _) _ 1 1 [.int .i64 ((Ra).p : Int), .int .i64 ((Ra).x : Int), .int .i64 ((Ra).z : Int)] (by rfl) (by rfl) (news_cells xA [.int .i64 ((Ra).p : Int), .int .i64 ((Ra).x : Int), .int .i64 ((Ra).z : Int)] 33) (E3.one (Ra).e) (by omega) (by unfold maxLen; omega) (by omega) (by simp; omega) _ rfl ?_; intro g1 cp1 w9 hown1 hgr1 hat1 hlt1; have zz1 := hgr1.size; (simp at zz1); replace c0 := grown_lo (hox.out.alloc _) hgr1 (by first | omega | (simp; omega)) (cell_alloc_keep _ c0); replace c1 := grown_lo (hox.out.alloc _) hgr1 (by first | omega | (simp; omega)) (cell_alloc_keep _ c1); replace c2 := grown_lo (hox.out.alloc _) hgr1 (by first | omega | (simp; omega)) (cell_alloc_keep _ c2); replace t0 := grown_lo (hox.out.alloc _) hgr1 (by first | omega | (simp; omega)) (cell_alloc_keep _ t0); replace t1 := grown_lo (hox.out.alloc _) hgr1 (by first | omega | (simp; omega)) (cell_alloc_keep _ t1); replace t2 := grown_lo (hox.out.alloc _) hgr1 (by first | omega | (simp; omega)) (cell_alloc_keep _ t2); replace f1 := frz_grown hgr1 (by simp; omega) (frozen_alloc_lt _ (by omega) f1) (fun h => by have := (hox.out.lt _ h).1; omega); replace f2 := frz_grown hgr1 (by simp; omega) (frozen_alloc_lt _ (by omega) f2) (fun h => by have := (hox.out.lt _ h).1; omega); have hq1 := Lib.hid (own_other hgr1 (hoz.out.alloc _) (fun g a b => hap.out g b a)); have hp1 := Lib.hid (apart_app (n := k + 1) (c := cp1) hap.out.symm (fun g hg => Nat.lt_of_lt_of_le (hoz.out.lt g hg).2 (Nat.le_succ _)) (by simpa using hat1)); replace hbel := Lib.hid (show Below (w1.heap.size) w1 w9 from (hbel.out.alloc (by omega) _).grown hgr1 (by simp; omega) (fun b hb => by have := (hox.out.lt b hb).1; omega)); replace hox := Lib.hid hown1; replace hoz := hq1; replace hap := Lib.hid (show Apart _ _ from hp1.out.symm); clear hown1 hgr1 hat1 hq1 hp1)
              refine hK.out _ _ ?_ (fun hHeld3 => ?_)
              · ((try dsimp only); (first | exact ⟨c1, c2, t0, t1, t2⟩ | exact ⟨cell_alloc_keep _ c1, cell_alloc_keep _ c2, cell_alloc_keep _ t0, cell_alloc_keep _ t1, cell_alloc_keep _ t2⟩))
              clear hB hK K hHeld2
              refine AnyB.tq (i := 18) (h := ?_)
              refine AnyB.each (rs := [15]) (by kernel_rfl) (by simp) ?_
              refine EachB.cons rfl (fun K hK hB => ?_) ?_
              · skip
                (go_simp; go_at_call 38; refine (impl_preimage_any n X Z ⟨0, 0, 2 ^ k⟩ _ _ _ _ _ _ HS.out ⟨Nat.two_pow_pos n, PB.out⟩ rfl (by simp) (by simp) PC.out (Rd.below HK0.out (show Below w.heap.size w w9 from Below.trans BW.out ((show Below (w1.heap.size) w1 w9 from hbel.out).mono (by omega))) rfl) (Rd.below HK1.out (show Below w.heap.size w w9 from Below.trans BW.out ((show Below (w1.heap.size) w1 w9 from hbel.out).mono (by omega))) rfl)).mono ?_; rw [← HRb.out]; rintro e xB ⟨rfl, hxB⟩; have yB := hxB.size; replace c0 := below_cell hxB rfl c0; replace c1 := below_cell hxB rfl c1; replace c2 := below_cell hxB rfl c2; replace t0 := below_cell hxB rfl t0; replace t1 := below_cell hxB rfl t1; replace t2 := below_cell hxB rfl t2; replace f1 := below_frz hxB rfl (by first | omega | (simp; omega)) f1; replace f2 := below_frz hxB rfl (by first | omega | (simp; omega)) f2; replace hox := Lib.hid (own_below hox.out (show Below w9.heap.size w9 xB from Below.trans (show Below w9.heap.size w9 w9 from belo) (hxB.mono (by first | omega | (simp)))) rfl); replace hoz := Lib.hid (own_below hoz.out (show Below w9.heap.size w9 xB from Below.trans (show Below w9.heap.size w9 w9 from belo) (hxB.mono (by first | omega | (simp)))) rfl); replace hbel := Lib.hid (show Below (w1.heap.size) w1 xB from Below.trans hbel.out (hxB.mono (by first | omega | (simp; omega)))); clear hxB; dsimp only)
                refine hK.out _ _ ?_ (fun hHeld4 => ?_)
                · ((try dsimp only); (first | exact ⟨c1, c2, t0, t1, t2⟩ | exact ⟨cell_alloc_keep _ c1, cell_alloc_keep _ c2, cell_alloc_keep _ t0, cell_alloc_keep _ t1, cell_alloc_keep _ t2⟩))
                clear hB hK K hHeld3
                refine AnyB.each (rs := [16]) (by kernel_rfl) (by simp) ?_
                refine EachB.cons rfl (fun K hK hB => ?_) ?_
                · skip
                  go_simp
                  refine hK.out _ _ ?_ (fun hHeld5 => ?_)
                  · ((try dsimp only); (first | exact ⟨c1, c2, t0, t1, t2⟩ | exact ⟨cell_alloc_keep _ c1, cell_alloc_keep _ c2, cell_alloc_keep _ t0, cell_alloc_keep _ t1, cell_alloc_keep _ t2⟩))
                  clear hB hK K hHeld4
                  refine AnyB.each (rs := [17]) (by kernel_rfl) (by simp) ?_
                  refine EachB.cons rfl (fun K hK hB => ?_) ?_
                  · skip
                    (refine step_append_lies _ (by rfl) (.tmp 28) (.tmp 34) 27 (by rfl) (w1.heap.size + 1) 33 i0 (.agg #[.int .i64 0, .int .i64 0, .int .i64 0]) 3 24 Tryz.underlying27 hi hz0 hz1 hz2 rfl (by omega) vz k _ (by rfl) (hoz.out.alloc _) _ 1 1 [.int .i64 ((Rb).p : Int), .int .i64 ((Rb).x : Int), .int .i64 ((Rb).z : Int)] (by rfl) (by rfl) (news_cells xB [.int .i64 ((Rb).p : Int), .int .i64 ((Rb).x : Int), .int .i64 ((Rb).z : Int)] 33) (E3.one (Rb).e) (by omega) (by unfold maxLen; omega) (by omega) (by simp; omega) _ rfl ?_; intro g2 cp2 w8 hown2 hgr2 hat2 hlt2; have zz2 := hgr2.size; (simp at zz2); replace c0 := grown_lo (hoz.out.alloc _) hgr2 (by first | omega | (simp; omega)) (cell_alloc_keep _ c0); replace c1 := grown_lo (hoz.out.alloc _) hgr2 (by first | omega | (simp; omega)) (cell_alloc_keep _ c1); replace c2 := grown_lo (hoz.out.alloc _) hgr2 (by first | omega | (simp; omega)) (cell_alloc_keep _ c2); replace t0 := grown_lo (hoz.out.alloc _) hgr2 (by first | omega | (simp; omega)) (cell_alloc_keep _ t0); replace t1 := grown_lo (hoz.out.alloc _) hgr2 (by first | omega | (simp; omega)) (cell_alloc_keep _ t1); replace t2 := grown_lo (hoz.out.alloc _) hgr2 (by first | omega | (simp; omega)) (cell_alloc_keep _ t2); replace f1 := frz_grown hgr2 (by simp; omega) (frozen_alloc_lt _ (by omega) f1) (fun h => by have := (hoz.out.lt _ h).1; omega); replace f2 := frz_grown hgr2 (by simp; omega) (frozen_alloc_lt _ (by omega) f2) (fun h => by have := (hoz.out.lt _ h).1; omega); have hq2 := Lib.hid (own_other hgr2 (hox.out.alloc _) (fun g a b => hap.out g a b)); have hp2 := Lib.hid (apart_app (n := k + 1) (c := cp2) hap.out (fun g hg => Nat.lt_of_lt_of_le (hox.out.lt g hg).2 (Nat.le_succ _)) (by simpa using hat2)); replace hbel := Lib.hid (show Below (w1.heap.size) w1 w8 from (hbel.out.alloc (by omega) _).grown hgr2 (by simp; omega) (fun b hb => by have := (hoz.out.lt b hb).1; omega)); replace hoz := Lib.hid hown2; replace hox := hq2; replace hap := Lib.hid (show Apart _ _ from hp2.out); clear hown2 hgr2 hat2 hq2 hp2)
                    refine hK.out _ _ ?_ (fun hHeld6 => ?_)
                    · ((try dsimp only); (first | exact ⟨c1, c2, t0, t1, t2⟩ | exact ⟨cell_alloc_keep _ c1, cell_alloc_keep _ c2, cell_alloc_keep _ t0, cell_alloc_keep _ t1, cell_alloc_keep _ t2⟩))
                    clear hB hK K hHeld5
                    refine AnyB.each (rs := [19]) (by kernel_rfl) (by simp) ?_
                    refine EachB.cons rfl (fun K hK hB => ?_) ?_
                    · skip
                      go_simp
                      refine hB.out _ _ rfl ?_
                      clear hB hK K
                      refine AnyB.tq (i := 20) (h := ?_)
                      refine AnyB.each (rs := [21]) (by kernel_rfl) (by simp) ?_
                      refine EachB.cons rfl (fun K hK hB => ?_) ?_
                      · skip
                        go_simp
                        refine hB.out _ _ rfl ?_
                        clear hB hK K
                        refine AnyB.none (by kernel_rfl) ?_ _
                        go_wp2_with fail
                        go_roundw
                        case rel => exact ⟨k + 1, (.slice (some ⟨g1, 0, none⟩) (k + 1) cp1), (.slice (some ⟨g2, 0, none⟩) (k + 1) cp2), by omega, by go_num, cell_set_other (cell_set_other c0), cell_set_other (World.cell?_setCell_same _ _ _ c1), World.cell?_setCell_same _ _ _ (cell_set_other c2), by rw [World.frozen?_setCell, World.frozen?_setCell]; exact f1, by rw [World.frozen?_setCell, World.frozen?_setCell]; exact f2, (show World.ownsRow _ _ _ _ _ _ _ from by rw [NX.out]; exact ownsRow_setCell_below (ownsRow_setCell_below hox.out (by simp) _) (by simp) _), (show World.ownsRow _ _ _ _ _ _ _ from by rw [NZ.out]; exact ownsRow_setCell_below (ownsRow_setCell_below hoz.out (by simp) _) (by simp) _), hap, (show Below _ _ _ from Below.setCell (Below.setCell hbel.out (by simp) _) (by simp) _), by simp; omega⟩
                        case measure => simp [intOf]; omega
                      exact EachB.nil
                    exact EachB.nil
                  exact EachB.nil
                exact EachB.nil
              exact EachB.nil
            exact EachB.nil
          exact EachB.nil
        exact EachB.nil
      · have e : k = n := by omega
        subst e
        have r0 := (hbel.out.cell (p := ⟨w.heap.size + 1, 0, none⟩) (by dsimp only; omega)).trans R0.out; have q0 := (hbel.out.frozen (p := ⟨w.heap.size + 1, 0, none⟩) (by dsimp only; omega)).trans Q0.out
        have r1 := (hbel.out.cell (p := ⟨w.heap.size + 1, 1, none⟩) (by dsimp only; omega)).trans R1.out; have q1 := (hbel.out.frozen (p := ⟨w.heap.size + 1, 1, none⟩) (by dsimp only; omega)).trans Q1.out
        have r2 := (hbel.out.cell (p := ⟨w.heap.size + 1, 2, none⟩) (by dsimp only; omega)).trans R2.out; have q2 := (hbel.out.frozen (p := ⟨w.heap.size + 1, 2, none⟩) (by dsimp only; omega)).trans Q2.out
        have bw := Lib.hid (show Below w.heap.size w wr from Below.trans BW.out (hbel.out.mono (by omega)))
        obtain ⟨a9, cp9, rfl⟩ := own_form hox.out
        obtain ⟨b9, cq9, rfl⟩ := own_form hoz.out
        have hZ := box_set3 (w3 := wr) (nb := w.heap.size + 1) (.int .i64 (k : Int)) (.slice a9 k cp9) (.slice b9 k cq9) r0 r1 r2
        have HX := Lib.hid (show (pes (invXs X Z k k)).length = k from by rw [pes_len, invXs_len]); have HZ := Lib.hid (show (pes (invZs X Z k k)).length = k from by rw [pes_len, invZs_len])
        have KX := Lib.hid (show OwnE wr (w1.heap.size + 1) 33 (.slice a9 k cp9) E3.cs 3 (pes (invXs X Z k k)) from by unfold OwnE; rw [HX.out]; exact hox.out); have KZ := Lib.hid (show OwnE wr (w1.heap.size + 1) 33 (.slice b9 k cq9) E3.cs 3 (pes (invZs X Z k k)) from by unfold OwnE; rw [HZ.out]; exact hoz.out)
        have bq := bw.out
        go_wp2_with fail
        refine bodyPost_ret (v := .tuple #[.agg #[.int .i64 (k : Int), .slice a9 k cp9, .slice b9 k cq9], .bool true]) (by simp [results, Tryz.results11, go_sem, hZ]) rfl (TabPost.some (t := ⟨(k : Int), pes (invXs X Z k k), pes (invZs X Z k k)⟩) HG.out ?_ ?_ hap.out belo)
        · exact OwnE.le (OwnE.set (OwnE.set (OwnE.set KX.out (by dsimp only; omega) _) (by dsimp only; omega) _) (by dsimp only; omega) _) (by omega)
        · exact OwnE.le (OwnE.set (OwnE.set (OwnE.set KZ.out (by dsimp only; omega) _) (by dsimp only; omega) _) (by dsimp only; omega) _) (by omega)
  · have HT := Lib.hid (show tabB d = false from decide_eq_false ht)
    have HG := Lib.hid (show invG d = none from if_neg ht)
    clear ht
    go_enter Tryz.func11, Tryz.ntmps11
    go_wp2_with fail
    refine (impl_IsValidTableau_any d _ _ _ (Rd.below H0.out (show Below w.heap.size w _ from belo) rfl) (Rd.below H1.out (show Below w.heap.size w _ from belo) rfl) n0 n1).mono ?_; rintro e w1 ⟨rfl, hb1⟩; rw [HT.out]
    have r0 := below_cell hb1 rfl (show ((w.alloc (.cells #[.int .i64 d.n, .slice A d.xs.length cA, .slice A2 d.zs.length cB] 29)).alloc (.cells #[.int .i64 0, .slice none 0 0, .slice none 0 0] 29)).cell? ⟨w.heap.size + 1, 0, none⟩ = some (.int .i64 0) from cela)
    have r1 := below_cell hb1 rfl (show ((w.alloc (.cells #[.int .i64 d.n, .slice A d.xs.length cA, .slice A2 d.zs.length cB] 29)).alloc (.cells #[.int .i64 0, .slice none 0 0, .slice none 0 0] 29)).cell? ⟨w.heap.size + 1, 1, none⟩ = some (.slice none 0 0) from cela)
    have r2 := below_cell hb1 rfl (show ((w.alloc (.cells #[.int .i64 d.n, .slice A d.xs.length cA, .slice A2 d.zs.length cB] 29)).alloc (.cells #[.int .i64 0, .slice none 0 0, .slice none 0 0] 29)).cell? ⟨w.heap.size + 1, 2, none⟩ = some (.slice none 0 0) from cela)
    obtain ⟨hc_hb1, hf_hb1⟩ := bcell hb1; have hz_hb1 := hb1.size; (try simp at hz_hb1); have hs0_hb1 : w.heap.size < w1.heap.size := (by omega); have hs1_hb1 : w.heap.size + 1 < w1.heap.size := (by omega)
    go_wp2_with fail
    have hZ := box_set3 (nb := w.heap.size + 1) (.int .i64 0) (.slice none 0 0) (.slice none 0 0) r0 r1 r2
    exact bodyPost_ret (v := .tuple #[.agg #[.int .i64 0, .slice none 0 0, .slice none 0 0], .bool false]) (by simp [results, Tryz.results11, go_sem, hZ]) rfl (TabPost.none HG.out belo)
end Go.Proofs.YtnckabohlakbgaaGreat
namespace Go.Proofs.YtnckabohlakbgaaGreat
set_option linter.unusedSimpArgs false
set_option linter.unusedVariables false
set_option linter.unnecessarySimpa false
set_option maxRecDepth 200000
open Go.ChangeShapes Go.WideShapes Go.ChangeAt Go.RowKit

theorem impl_IdentityTableau_any (n : Int) (w : World) :
    Calls Tryz.prog 13 #[.int .i64 n] w (TabPost w (idTab n)) := by
  cases hb : inB n 1 5
  · have HG := Lib.hid (show idTab n = none by simp [idTab, hb])
    have Hb := Lib.hid hb; clear hb
    go_enter Tryz.func13, Tryz.ntmps13
    go_wp2_with fail
    refine (within_any _ _ _ _).mono ?_; rintro e w' ⟨rfl, rfl⟩
    rw [Hb.out]
    go_wp2_with fail
    exact bodyPost_ret (v := .tuple #[.agg #[.int .i64 0, .slice none 0 0, .slice none 0 0], .bool false]) (by simp [results, Tryz.results13, go_sem]) rfl (TabPost.none HG.out belo)
  · have HG := Lib.hid (show idTab n = some (idT n) by simp [idTab, hb])
    have hn : 1 ≤ n ∧ n ≤ 5 := by simpa [inB] using hb
    obtain ⟨hn1, hn2⟩ := hn
    have Hb := Lib.hid hb; clear hb
    go_enter Tryz.func13, Tryz.ntmps13
    go_wp2_with fail
    refine (within_any _ _ _ _).mono ?_; rintro e w' ⟨rfl, rfl⟩
    rw [Hb.out]
    go_wp2_with fail
    refine (impl_identity_any _ _ (by omega) (by omega)).mono ?_; rintro e w1 ⟨u0, u1, rfl, ho0, ho1, hap, hb1⟩
    obtain ⟨a0, cap0, rfl⟩ := ho0.forms
    obtain ⟨a1, cap1, rfl⟩ := ho1.forms
    rw [idX_len] at *; rw [idZ_len] at *
    have Ho0 := Lib.hid ho0; have Ho1 := Lib.hid ho1; have Hap := Lib.hid hap; clear ho0 ho1 hap
    have r0 : w1.cell? ⟨w.heap.size, 0, none⟩ = some (.int .i64 0) := below_cell hb1 rfl cela
    have r1 : w1.cell? ⟨w.heap.size, 1, none⟩ = some (.slice none 0 0) := below_cell hb1 rfl cela
    have r2 : w1.cell? ⟨w.heap.size, 2, none⟩ = some (.slice none 0 0) := below_cell hb1 rfl cela
    have hZ := box_set3 (.int .i64 n) (.slice a0 n.toNat cap0) (.slice a1 n.toNat cap1) r0 r1 r2
    obtain ⟨hc_hb1, hf_hb1⟩ := bcell hb1; have hz_hb1 := hb1.size; (try simp at hz_hb1); have hs0_hb1 : w.heap.size < w1.heap.size := (by omega)
    go_wp2_with fail
    exact bodyPost_ret (v := .tuple #[.agg #[.int .i64 n, .slice a0 n.toNat cap0, .slice a1 n.toNat cap1], .bool true]) (by simp [results, Tryz.results13, go_sem, hZ]) rfl (TabPost.some HG.out (OwnE.le (OwnE.set (OwnE.set (OwnE.set Ho0.out (by simp) _) (by simp) _) (by simp) _) (by simp)) (OwnE.le (OwnE.set (OwnE.set (OwnE.set Ho1.out (by simp) _) (by simp) _) (by simp) _) (by simp)) Hap.out belo)
end Go.Proofs.YtnckabohlakbgaaGreat
