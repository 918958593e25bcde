/- The tableau of a gate in the program. -/
import Derived.Test.YtnckabohlakbgaaGreatZ40M
import Derived.Test.YtnckabohlakbgaaGreatZ24M
import Derived.Test.YtnckabohlakbgaaGreatZ06Brk
import Derived.BigRegion
import Derived.BigQuiet
import Derived.Deep.QuietTactic
import Derived.Deep.DeepCutAuto
namespace Go.Proofs.YtnckabohlakbgaaGreat
set_option linter.unusedSimpArgs false
set_option linter.unusedVariables false
set_option linter.unnecessarySimpa false
set_option maxRecDepth 200000
open Go.ChangeShapes Go.WideShapes Go.ChangeAt Go.RowKit

set_option maxHeartbeats 64000000 in
theorem impl_gateTableau_any (n k a b : Nat) (w : World) (hk : GtOk n k a b) (n1 : 1 ≤ n) (n5 : n ≤ 5) :
    Calls Tryz.prog 27 #[.int .i64 (n : Int), .agg #[.int .i64 (k : Int), .int .i64 (a : Int), .int .i64 (b : Int)]] w (GPost n w (pes (gtX n k a b)) (pes (gtZ n k a b))) := by
  have ha := hk.la; have hb := hk.lb
  have HK := Lib.hid hk; clear hk
  go_enter Tryz.func27, Tryz.ntmps27
  go_wp2_with fail
  refine (impl_identity_any (n : Int) _ (by omega) (by omega)).mono ?_; rintro e w1 ⟨q0, q1, rfl, ho0, ho1, hap, hb1⟩
  rw [Int.toNat_natCast] at ho0 ho1
  obtain ⟨g0, p0, rfl, hg0, hg0'⟩ := own_E3 ho0 (idX_len n) (by omega)
  obtain ⟨g1, p1, rfl, hg1, hg1'⟩ := own_E3 ho1 (idZ_len n) (by omega)
  have h01 : g0 ≠ g1 := fun e => hap g0 rfl (by rw [e]; rfl)
  (simp at hg0 hg1)
  have z1 := hb1.size; (simp at z1)
  have bP := ((Box3.new w (.int .i64 (k : Int)) (.int .i64 (a : Int)) (.int .i64 (b : Int)) 66).alloc (.cells #[.int .i64 0, .slice none 0 0, .slice none 0 0] 29)).call hb1
  have bR : Box3 w1 (w.heap.size + 1) (.int .i64 0) (.slice none 0 0) (.slice none 0 0) := by
    have h := (Box3.new (w.alloc (.cells #[.int .i64 (k : Int), .int .i64 (a : Int), .int .i64 (b : Int)] 66)) (.int .i64 0) (.slice none 0 0) (.slice none 0 0) 29).call hb1
    simpa using h
  have bw := Lib.hid (show Below w.heap.size w w1 from belo)
  have O0 := OwnG.of (OwnE.le ho0 (base' := w.heap.size + 2) (by simp)) (idX_len n); have O1 := OwnG.of (OwnE.le ho1 (base' := w.heap.size + 2) (by simp)) (idZ_len n)
  clear ho0 ho1 hap
  have G : GSt w (w1.alloc (.cells #[.int .i64 (n : Int), .slice (some ⟨g0, 0, none⟩) n p0, .slice (some ⟨g1, 0, none⟩) n p1] 29)) w.heap.size n k a b w1.heap.size g0 p0 g1 p1 (idX n) (idZ n) :=
    have f := Far.alloc w1 (.cells #[.int .i64 (n : Int), .slice (some ⟨g0, 0, none⟩) n p0, .slice (some ⟨g1, 0, none⟩) n p1] 29)
    ⟨bP.alloc _, bR.alloc _, Box3.new w1 _ _ _ _, O0.farF f (by omega), O1.farF f (by omega), Below.alloc bw.out (by omega) _, ⟨h01, by omega, by omega⟩, by omega⟩
  clear bP bR bw O0 O1 hb1 hg0 hg0' hg1 hg1' z1
  obtain ⟨xA, hxA⟩ : ∃ x : Nat, x = 2 ^ a := ⟨_, rfl⟩
  obtain ⟨xB, hxB⟩ : ∃ x : Nat, x = 2 ^ b := ⟨_, rfl⟩
  have hpa : (2 : Int) ^ a = (xA : Int) := by rw [hxA]; simp
  have hpb : (2 : Int) ^ b = (xB : Int) := by rw [hxB]; simp
  have sA : xA ≤ 32 := by rw [hxA]; exact Nat.pow_le_pow_right (n := 2) (by omega) (show a ≤ 5 by omega)
  have sB : xB ≤ 32 := by rw [hxB]; exact Nat.pow_le_pow_right (n := 2) (by omega) (show b ≤ 5 by omega)
  have HA := Lib.hid hxA; have HB := Lib.hid hxB; clear hxA hxB
  have hwa : IntKind.i64.wrap (xA : Int) = (xA : Int) := IntWalk.i64_in _ (by omega)
  have hwb : IntKind.i64.wrap (xB : Int) = (xB : Int) := IntWalk.i64_in _ (by omega)
  have hw3 : IntKind.i64.wrap 1 = 1 := IntWalk.i64_in _ (by omega)
  have hua : IntKind.u64.wrap (a : Int) = (a : Int) := IntWalk.u64_in _ (by omega)
  have hub : IntKind.u64.wrap (b : Int) = (b : Int) := IntWalk.u64_in _ (by omega)
  have hma : min a 64 = a := by omega
  have hmb : min b 64 = b := by omega
  have j1 : (a : Int) < (n : Int) := by omega
  have j2 : (0 : Int) ≤ (a : Int) := by omega
  have j3 : (b : Int) < (n : Int) := by omega
  have j4 : (0 : Int) ≤ (b : Int) := by omega
  go_wp2_with fail
  generalize w1.alloc (.cells #[.int .i64 (n : Int), .slice (some ⟨g0, 0, none⟩) n p0, .slice (some ⟨g1, 0, none⟩) n p1] 29) = W at *
  generalize w1.heap.size = gT at *
  have x0 := G.P.c0; have x1 := G.P.c1; have x2 := G.P.c2
  go_quiet (fail)
  clear x0 x1 x2
  replace G := G.drewN nq
  generalize W.drewN nq = wc at *
  have HNE := Lib.hid (show 9 ≤ k → k ≤ 11 → a ≠ b from fun h1 h2 => by have := HK.out.kind; omega)
  have hkd : k = 1 ∨ k = 2 ∨ k = 3 ∨ k = 4 ∨ k = 5 ∨ k = 6 ∨ k = 9 ∨ k = 10 ∨ k = 11 ∨ k = 12 := by have := HK.out.kind; omega
  clear HK
  rcases hkd with rfl | rfl | rfl | rfl | rfl | rfl | rfl | rfl | rfl | rfl
  · clear HNE
    have x0 := G.P.c0; have x1 := G.P.c1; have x2 := G.P.c2; have t0 := G.T.c0; have t1 := G.T.c1; have t2 := G.T.c2
    go_upto_region 5 with fail
    clear x0 x1 x2 t0 t1 t2
    replace G := G.drew
    refine AnyB.begin (S := (fun w' => w'.cell? ⟨gT, 1, none⟩ = some (.slice (some ⟨g0, 0, none⟩) n p0) ∧ w'.cell? ⟨gT, 2, none⟩ = some (.slice (some ⟨g1, 0, none⟩) n p1) ∧ w'.cell? ⟨w.heap.size, 1, none⟩ = some (.int .i64 (a : Int)) ∧ w'.cell? ⟨w.heap.size, 2, none⟩ = some (.int .i64 (b : Int)))) [] (by kernel_rfl) ?_ (fun hHeld0 => ?_)
    · ((try dsimp only); (first | exact ⟨G.T.c1, G.T.c2, G.P.c1, G.P.c2⟩))
    refine AnyB.tq (i := 0) (h := ?_)
    refine AnyB.tk (i := 1) (h := ?_)
    refine AnyB.tq (i := 2) (h := ?_)
    refine AnyB.tk (i := 3) (h := ?_)
    refine AnyB.tq (i := 4) (h := ?_)
    refine AnyB.tk (i := 5) (h := ?_)
    refine AnyB.tq (i := 6) (h := ?_)
    refine AnyB.tk (i := 7) (h := ?_)
    refine AnyB.tq (i := 8) (h := ?_)
    refine AnyB.tq (i := 9) (h := ?_)
    refine AnyB.tq (i := 10) (h := ?_)
    refine AnyB.tq (i := 11) (h := ?_)
    refine AnyB.tq (i := 12) (h := ?_)
    refine AnyB.each (rs := [13]) (by kernel_rfl) (by simp) ?_
    refine EachB.cons rfl (fun K hK hB => ?_) ?_
    · skip
      ((try (have P0 : GSt w wc.drew w.heap.size n 1 a b gT g0 p0 g1 p1 (idX n) (idZ n) := G; clear P0; generalize wc.drew = wz at *)); obtain ⟨y0, y1, y2⟩ := G.O0.cell a ha; have z0 := G.O0.frz (a * 3); have z1 := G.O0.frz (a * 3 + 1); have z2 := G.O0.frz (a * 3 + 2); go_simp; clear y0 y1 y2 z0 z1 z2; have G2 := G.setX a ha (⟨0, 0, (xA : Int)⟩ : E3); clear G; rw [show (((wz.setCell ⟨g0, a * 3, none⟩ (.int .i64 0)).setCell ⟨g0, a * 3 + 1, none⟩ (.int .i64 0)).setCell ⟨g0, a * 3 + 2, none⟩ (.int .i64 (xA : Int))) = put3 wz g0 a (⟨0, 0, (xA : Int)⟩ : E3) from rfl]; generalize put3 wz g0 a (⟨0, 0, (xA : Int)⟩ : E3) = wy at *; obtain ⟨wz, rfl⟩ : ∃ x : World, x = wy := ⟨_, rfl⟩; have G := G2; clear G2)
      refine hK.out _ _ ?_ (fun hHeld1 => ?_)
      · ((try dsimp only); (first | exact ⟨G.T.c1, G.T.c2, G.P.c1, G.P.c2⟩))
      clear hB hK K hHeld0
      refine AnyB.tq (i := 14) (h := ?_)
      refine AnyB.each (rs := [15]) (by kernel_rfl) (by simp) ?_
      refine EachB.cons rfl (fun K hK hB => ?_) ?_
      · skip
        ((try (have P0 : GSt w wc.drew w.heap.size n 1 a b gT g0 p0 g1 p1 ((idX n).set a (⟨0, 0, (xA : Int)⟩ : E3)) (idZ n) := G; clear P0; generalize wc.drew = wz at *)); obtain ⟨y0, y1, y2⟩ := G.O1.cell a ha; have z0 := G.O1.frz (a * 3); have z1 := G.O1.frz (a * 3 + 1); have z2 := G.O1.frz (a * 3 + 2); go_simp; clear y0 y1 y2 z0 z1 z2; have G2 := G.setZ a ha (⟨0, (xA : Int), 0⟩ : E3); clear G; rw [show (((wz.setCell ⟨g1, a * 3, none⟩ (.int .i64 0)).setCell ⟨g1, a * 3 + 1, none⟩ (.int .i64 (xA : Int))).setCell ⟨g1, a * 3 + 2, none⟩ (.int .i64 0)) = put3 wz g1 a (⟨0, (xA : Int), 0⟩ : E3) from rfl]; generalize put3 wz g1 a (⟨0, (xA : Int), 0⟩ : E3) = wy at *; obtain ⟨wz, rfl⟩ : ∃ x : World, x = wy := ⟨_, rfl⟩; have G := G2; clear G2)
        refine hK.out _ _ ?_ (fun hHeld2 => ?_)
        · ((try dsimp only); (first | exact ⟨G.T.c1, G.T.c2, G.P.c1, G.P.c2⟩))
        clear hB hK K hHeld1
        refine AnyB.none (by kernel_rfl) ?_ _
        obtain ⟨wc, rfl⟩ : ∃ x : World, x = wz := ⟨_, rfl⟩
        have x0 := G.P.c0; have t0 := G.T.c0; have t1 := G.T.c1; have t2 := G.T.c2; have r0 := G.R.c0; have r1 := G.R.c1; have r2 := G.R.c2; have f0 := G.R.f0; have f1 := G.R.f1; have f2 := G.R.f2
        have hZ := box_set3 (.int .i64 (n : Int)) (.slice (some ⟨g0, 0, none⟩) n p0) (.slice (some ⟨g1, 0, none⟩) n p1) r0 r1 r2
        go_wp2_with fail
        have eX : ((idX n).set a (⟨0, 0, (xA : Int)⟩ : E3)) = pes (gtX n 1 a b) := by
          rw [show gtX n 1 a b = ((idPX n).set a (⟨0, 0, xA⟩ : PN)) from by (try rw [HO.out]); (try rw [HA.out]); (try rw [HB.out]); rfl]
          (try rw [← set_pes]); (try rw [← set_pes]); (try rw [← idX_pes]); (try rfl)
        have eZ : ((idZ n).set a (⟨0, (xA : Int), 0⟩ : E3)) = pes (gtZ n 1 a b) := by
          rw [show gtZ n 1 a b = ((idPZ n).set a (⟨0, xA, 0⟩ : PN)) from by (try rw [HO.out]); (try rw [HA.out]); (try rw [HB.out]); rfl]
          (try rw [← set_pes]); (try rw [← set_pes]); (try rw [← idZ_pes]); (try rfl)
        exact bodyPost_ret (v := .agg #[.int .i64 (n : Int), .slice (some ⟨g0, 0, none⟩) n p0, .slice (some ⟨g1, 0, none⟩) n p1]) (by simp [results, Tryz.results27, go_sem, hZ]) rfl ((GSt.done G _ _ _).eq eX eZ)
      exact EachB.nil
    exact EachB.nil
  · clear HNE
    have x0 := G.P.c0; have x1 := G.P.c1; have x2 := G.P.c2; have t0 := G.T.c0; have t1 := G.T.c1; have t2 := G.T.c2
    obtain ⟨y0, y1, y2⟩ := G.O1.cell a ha; have z0 := G.O1.frz (a * 3); have z1 := G.O1.frz (a * 3 + 1); have z2 := G.O1.frz (a * 3 + 2)
    go_upto_region 23 with fail
    clear x0 x1 x2 t0 t1 t2 y0 y1 y2 z0 z1 z2
    have G2 : GSt w (wc.setCell ⟨g1, a * 3, none⟩ (.int .i64 2)) w.heap.size n 2 a b gT g0 p0 g1 p1 (idX n) ((idZ n).set a (⟨2, 0, (xA : Int)⟩ : E3)) := (by have h := G.phZ a ha 2; rw [idZ_get ha, hpa] at h; exact h)
    clear G
    generalize wc.setCell ⟨g1, a * 3, none⟩ (.int .i64 2) = wy at *
    obtain ⟨wc, rfl⟩ : ∃ x : World, x = wy := ⟨_, rfl⟩
    have G := G2; clear G2
    have x0 := G.P.c0; have t0 := G.T.c0; have t1 := G.T.c1; have t2 := G.T.c2; have r0 := G.R.c0; have r1 := G.R.c1; have r2 := G.R.c2; have f0 := G.R.f0; have f1 := G.R.f1; have f2 := G.R.f2
    have hZ := box_set3 (.int .i64 (n : Int)) (.slice (some ⟨g0, 0, none⟩) n p0) (.slice (some ⟨g1, 0, none⟩) n p1) r0 r1 r2
    go_wp2_with fail
    have eX : (idX n) = pes (gtX n 2 a b) := by
      rw [show gtX n 2 a b = (idPX n) from by (try rw [HO.out]); (try rw [HA.out]); (try rw [HB.out]); rfl]
      (try rw [← set_pes]); (try rw [← set_pes]); (try rw [← idX_pes]); (try rfl)
    have eZ : ((idZ n).set a (⟨2, 0, (xA : Int)⟩ : E3)) = pes (gtZ n 2 a b) := by
      rw [show gtZ n 2 a b = ((idPZ n).set a (⟨2, 0, xA⟩ : PN)) from by (try rw [HO.out]); (try rw [HA.out]); (try rw [HB.out]); rfl]
      (try rw [← set_pes]); (try rw [← set_pes]); (try rw [← idZ_pes]); (try rfl)
    exact bodyPost_ret (v := .agg #[.int .i64 (n : Int), .slice (some ⟨g0, 0, none⟩) n p0, .slice (some ⟨g1, 0, none⟩) n p1]) (by simp [results, Tryz.results27, go_sem, hZ]) rfl ((GSt.done G _ _ _).eq eX eZ)
  · clear HNE
    have x0 := G.P.c0; have x1 := G.P.c1; have x2 := G.P.c2; have t0 := G.T.c0; have t1 := G.T.c1; have t2 := G.T.c2
    go_upto_region 9 with fail
    clear x0 x1 x2 t0 t1 t2
    replace G := G.drew
    refine AnyB.begin (S := (fun w' => w'.cell? ⟨gT, 1, none⟩ = some (.slice (some ⟨g0, 0, none⟩) n p0) ∧ w'.cell? ⟨gT, 2, none⟩ = some (.slice (some ⟨g1, 0, none⟩) n p1) ∧ w'.cell? ⟨w.heap.size, 1, none⟩ = some (.int .i64 (a : Int)) ∧ w'.cell? ⟨w.heap.size, 2, none⟩ = some (.int .i64 (b : Int)))) [] (by kernel_rfl) ?_ (fun hHeld0 => ?_)
    · ((try dsimp only); (first | exact ⟨G.T.c1, G.T.c2, G.P.c1, G.P.c2⟩))
    refine AnyB.tq (i := 0) (h := ?_)
    refine AnyB.tk (i := 1) (h := ?_)
    refine AnyB.tq (i := 2) (h := ?_)
    refine AnyB.tk (i := 3) (h := ?_)
    refine AnyB.tq (i := 4) (h := ?_)
    refine AnyB.tk (i := 5) (h := ?_)
    refine AnyB.tq (i := 6) (h := ?_)
    refine AnyB.tk (i := 7) (h := ?_)
    refine AnyB.tq (i := 8) (h := ?_)
    refine AnyB.tq (i := 9) (h := ?_)
    refine AnyB.each (rs := [10]) (by kernel_rfl) (by simp) ?_
    refine EachB.cons rfl (fun K hK hB => ?_) ?_
    · skip
      ((try (have P0 : GSt w wc.drew w.heap.size n 3 a b gT g0 p0 g1 p1 (idX n) (idZ n) := G; clear P0; generalize wc.drew = wz at *)); obtain ⟨y0, y1, y2⟩ := G.O0.cell a ha; have z0 := G.O0.frz (a * 3); have z1 := G.O0.frz (a * 3 + 1); have z2 := G.O0.frz (a * 3 + 2); go_simp; clear y0 y1 y2 z0 z1 z2; have G2 : GSt w (wz.setCell ⟨g0, a * 3, none⟩ (.int .i64 2)) w.heap.size n 3 a b gT g0 p0 g1 p1 ((idX n).set a (⟨2, (xA : Int), 0⟩ : E3)) (idZ n) := (by have h := G.phX a ha 2; rw [idX_get ha, hpa] at h; exact h); clear G; generalize wz.setCell ⟨g0, a * 3, none⟩ (.int .i64 2) = wy at *; obtain ⟨wz, rfl⟩ : ∃ x : World, x = wy := ⟨_, rfl⟩; have G := G2; clear G2)
      refine hK.out _ _ ?_ (fun hHeld1 => ?_)
      · ((try dsimp only); (first | exact ⟨G.T.c1, G.T.c2, G.P.c1, G.P.c2⟩))
      clear hB hK K hHeld0
      refine AnyB.tq (i := 11) (h := ?_)
      refine AnyB.tq (i := 12) (h := ?_)
      refine AnyB.each (rs := [13]) (by kernel_rfl) (by simp) ?_
      refine EachB.cons rfl (fun K hK hB => ?_) ?_
      · skip
        ((try (have P0 : GSt w wc.drew w.heap.size n 3 a b gT g0 p0 g1 p1 ((idX n).set a (⟨2, (xA : Int), 0⟩ : E3)) (idZ n) := G; clear P0; generalize wc.drew = wz at *)); obtain ⟨y0, y1, y2⟩ := G.O1.cell a ha; have z0 := G.O1.frz (a * 3); have z1 := G.O1.frz (a * 3 + 1); have z2 := G.O1.frz (a * 3 + 2); go_simp; clear y0 y1 y2 z0 z1 z2; have G2 : GSt w (wz.setCell ⟨g1, a * 3, none⟩ (.int .i64 2)) w.heap.size n 3 a b gT g0 p0 g1 p1 ((idX n).set a (⟨2, (xA : Int), 0⟩ : E3)) ((idZ n).set a (⟨2, 0, (xA : Int)⟩ : E3)) := (by have h := G.phZ a ha 2; rw [idZ_get ha, hpa] at h; exact h); clear G; generalize wz.setCell ⟨g1, a * 3, none⟩ (.int .i64 2) = wy at *; obtain ⟨wz, rfl⟩ : ∃ x : World, x = wy := ⟨_, rfl⟩; have G := G2; clear G2)
        refine hK.out _ _ ?_ (fun hHeld2 => ?_)
        · ((try dsimp only); (first | exact ⟨G.T.c1, G.T.c2, G.P.c1, G.P.c2⟩))
        clear hB hK K hHeld1
        refine AnyB.none (by kernel_rfl) ?_ _
        obtain ⟨wc, rfl⟩ : ∃ x : World, x = wz := ⟨_, rfl⟩
        have x0 := G.P.c0; have t0 := G.T.c0; have t1 := G.T.c1; have t2 := G.T.c2; have r0 := G.R.c0; have r1 := G.R.c1; have r2 := G.R.c2; have f0 := G.R.f0; have f1 := G.R.f1; have f2 := G.R.f2
        have hZ := box_set3 (.int .i64 (n : Int)) (.slice (some ⟨g0, 0, none⟩) n p0) (.slice (some ⟨g1, 0, none⟩) n p1) r0 r1 r2
        go_wp2_with fail
        have eX : ((idX n).set a (⟨2, (xA : Int), 0⟩ : E3)) = pes (gtX n 3 a b) := by
          rw [show gtX n 3 a b = ((idPX n).set a (⟨2, xA, 0⟩ : PN)) from by (try rw [HO.out]); (try rw [HA.out]); (try rw [HB.out]); rfl]
          (try rw [← set_pes]); (try rw [← set_pes]); (try rw [← idX_pes]); (try rfl)
        have eZ : ((idZ n).set a (⟨2, 0, (xA : Int)⟩ : E3)) = pes (gtZ n 3 a b) := by
          rw [show gtZ n 3 a b = ((idPZ n).set a (⟨2, 0, xA⟩ : PN)) from by (try rw [HO.out]); (try rw [HA.out]); (try rw [HB.out]); rfl]
          (try rw [← set_pes]); (try rw [← set_pes]); (try rw [← idZ_pes]); (try rfl)
        exact bodyPost_ret (v := .agg #[.int .i64 (n : Int), .slice (some ⟨g0, 0, none⟩) n p0, .slice (some ⟨g1, 0, none⟩) n p1]) (by simp [results, Tryz.results27, go_sem, hZ]) rfl ((GSt.done G _ _ _).eq eX eZ)
      exact EachB.nil
    exact EachB.nil
  · clear HNE
    have x0 := G.P.c0; have x1 := G.P.c1; have x2 := G.P.c2; have t0 := G.T.c0; have t1 := G.T.c1; have t2 := G.T.c2
    obtain ⟨y0, y1, y2⟩ := G.O0.cell a ha; have z0 := G.O0.frz (a * 3); have z1 := G.O0.frz (a * 3 + 1); have z2 := G.O0.frz (a * 3 + 2)
    go_upto_region 23 with fail
    clear x0 x1 x2 t0 t1 t2 y0 y1 y2 z0 z1 z2
    have G2 : GSt w (wc.setCell ⟨g0, a * 3, none⟩ (.int .i64 2)) w.heap.size n 4 a b gT g0 p0 g1 p1 ((idX n).set a (⟨2, (xA : Int), 0⟩ : E3)) (idZ n) := (by have h := G.phX a ha 2; rw [idX_get ha, hpa] at h; exact h)
    clear G
    generalize wc.setCell ⟨g0, a * 3, none⟩ (.int .i64 2) = wy at *
    obtain ⟨wc, rfl⟩ : ∃ x : World, x = wy := ⟨_, rfl⟩
    have G := G2; clear G2
    have x0 := G.P.c0; have t0 := G.T.c0; have t1 := G.T.c1; have t2 := G.T.c2; have r0 := G.R.c0; have r1 := G.R.c1; have r2 := G.R.c2; have f0 := G.R.f0; have f1 := G.R.f1; have f2 := G.R.f2
    have hZ := box_set3 (.int .i64 (n : Int)) (.slice (some ⟨g0, 0, none⟩) n p0) (.slice (some ⟨g1, 0, none⟩) n p1) r0 r1 r2
    go_wp2_with fail
    have eX : ((idX n).set a (⟨2, (xA : Int), 0⟩ : E3)) = pes (gtX n 4 a b) := by
      rw [show gtX n 4 a b = ((idPX n).set a (⟨2, xA, 0⟩ : PN)) from by (try rw [HO.out]); (try rw [HA.out]); (try rw [HB.out]); rfl]
      (try rw [← set_pes]); (try rw [← set_pes]); (try rw [← idX_pes]); (try rfl)
    have eZ : (idZ n) = pes (gtZ n 4 a b) := by
      rw [show gtZ n 4 a b = (idPZ n) from by (try rw [HO.out]); (try rw [HA.out]); (try rw [HB.out]); rfl]
      (try rw [← set_pes]); (try rw [← set_pes]); (try rw [← idZ_pes]); (try rfl)
    exact bodyPost_ret (v := .agg #[.int .i64 (n : Int), .slice (some ⟨g0, 0, none⟩) n p0, .slice (some ⟨g1, 0, none⟩) n p1]) (by simp [results, Tryz.results27, go_sem, hZ]) rfl ((GSt.done G _ _ _).eq eX eZ)
  · clear HNE
    have x0 := G.P.c0; have x1 := G.P.c1; have x2 := G.P.c2; have t0 := G.T.c0; have t1 := G.T.c1; have t2 := G.T.c2
    obtain ⟨y0, y1, y2⟩ := G.O0.cell a ha; have z0 := G.O0.frz (a * 3); have z1 := G.O0.frz (a * 3 + 1); have z2 := G.O0.frz (a * 3 + 2)
    go_upto_region 23 with fail
    clear x0 x1 x2 t0 t1 t2 y0 y1 y2 z0 z1 z2
    have G2 := G.setX a ha (⟨0, (xA : Int), (xA : Int)⟩ : E3)
    clear G
    rw [show (((wc.setCell ⟨g0, a * 3, none⟩ (.int .i64 0)).setCell ⟨g0, a * 3 + 1, none⟩ (.int .i64 (xA : Int))).setCell ⟨g0, a * 3 + 2, none⟩ (.int .i64 (xA : Int))) = put3 wc g0 a (⟨0, (xA : Int), (xA : Int)⟩ : E3) from rfl]
    generalize put3 wc g0 a (⟨0, (xA : Int), (xA : Int)⟩ : E3) = wy at *
    obtain ⟨wc, rfl⟩ : ∃ x : World, x = wy := ⟨_, rfl⟩
    have G := G2; clear G2
    have x0 := G.P.c0; have t0 := G.T.c0; have t1 := G.T.c1; have t2 := G.T.c2; have r0 := G.R.c0; have r1 := G.R.c1; have r2 := G.R.c2; have f0 := G.R.f0; have f1 := G.R.f1; have f2 := G.R.f2
    have hZ := box_set3 (.int .i64 (n : Int)) (.slice (some ⟨g0, 0, none⟩) n p0) (.slice (some ⟨g1, 0, none⟩) n p1) r0 r1 r2
    go_wp2_with fail
    have eX : ((idX n).set a (⟨0, (xA : Int), (xA : Int)⟩ : E3)) = pes (gtX n 5 a b) := by
      rw [show gtX n 5 a b = ((idPX n).set a (⟨0, xA, xA⟩ : PN)) from by (try rw [HO.out]); (try rw [HA.out]); (try rw [HB.out]); rfl]
      (try rw [← set_pes]); (try rw [← set_pes]); (try rw [← idX_pes]); (try rfl)
    have eZ : (idZ n) = pes (gtZ n 5 a b) := by
      rw [show gtZ n 5 a b = (idPZ n) from by (try rw [HO.out]); (try rw [HA.out]); (try rw [HB.out]); rfl]
      (try rw [← set_pes]); (try rw [← set_pes]); (try rw [← idZ_pes]); (try rfl)
    exact bodyPost_ret (v := .agg #[.int .i64 (n : Int), .slice (some ⟨g0, 0, none⟩) n p0, .slice (some ⟨g1, 0, none⟩) n p1]) (by simp [results, Tryz.results27, go_sem, hZ]) rfl ((GSt.done G _ _ _).eq eX eZ)
  · clear HNE
    have x0 := G.P.c0; have x1 := G.P.c1; have x2 := G.P.c2; have t0 := G.T.c0; have t1 := G.T.c1; have t2 := G.T.c2
    obtain ⟨y0, y1, y2⟩ := G.O0.cell a ha; have z0 := G.O0.frz (a * 3); have z1 := G.O0.frz (a * 3 + 1); have z2 := G.O0.frz (a * 3 + 2)
    go_upto_region 23 with fail
    clear x0 x1 x2 t0 t1 t2 y0 y1 y2 z0 z1 z2
    have G2 := G.setX a ha (⟨2, (xA : Int), (xA : Int)⟩ : E3)
    clear G
    rw [show (((wc.setCell ⟨g0, a * 3, none⟩ (.int .i64 (2 : Int))).setCell ⟨g0, a * 3 + 1, none⟩ (.int .i64 (xA : Int))).setCell ⟨g0, a * 3 + 2, none⟩ (.int .i64 (xA : Int))) = put3 wc g0 a (⟨2, (xA : Int), (xA : Int)⟩ : E3) from rfl]
    generalize put3 wc g0 a (⟨2, (xA : Int), (xA : Int)⟩ : E3) = wy at *
    obtain ⟨wc, rfl⟩ : ∃ x : World, x = wy := ⟨_, rfl⟩
    have G := G2; clear G2
    have x0 := G.P.c0; have t0 := G.T.c0; have t1 := G.T.c1; have t2 := G.T.c2; have r0 := G.R.c0; have r1 := G.R.c1; have r2 := G.R.c2; have f0 := G.R.f0; have f1 := G.R.f1; have f2 := G.R.f2
    have hZ := box_set3 (.int .i64 (n : Int)) (.slice (some ⟨g0, 0, none⟩) n p0) (.slice (some ⟨g1, 0, none⟩) n p1) r0 r1 r2
    go_wp2_with fail
    have eX : ((idX n).set a (⟨2, (xA : Int), (xA : Int)⟩ : E3)) = pes (gtX n 6 a b) := by
      rw [show gtX n 6 a b = ((idPX n).set a (⟨2, xA, xA⟩ : PN)) from by (try rw [HO.out]); (try rw [HA.out]); (try rw [HB.out]); rfl]
      (try rw [← set_pes]); (try rw [← set_pes]); (try rw [← idX_pes]); (try rfl)
    have eZ : (idZ n) = pes (gtZ n 6 a b) := by
      rw [show gtZ n 6 a b = (idPZ n) from by (try rw [HO.out]); (try rw [HA.out]); (try rw [HB.out]); rfl]
      (try rw [← set_pes]); (try rw [← set_pes]); (try rw [← idZ_pes]); (try rfl)
    exact bodyPost_ret (v := .agg #[.int .i64 (n : Int), .slice (some ⟨g0, 0, none⟩) n p0, .slice (some ⟨g1, 0, none⟩) n p1]) (by simp [results, Tryz.results27, go_sem, hZ]) rfl ((GSt.done G _ _ _).eq eX eZ)
  · have hab : a ≠ b := HNE.out (by omega) (by omega)
    obtain ⟨xO, hxO⟩ : ∃ x, x = xA ||| xB := ⟨_, rfl⟩
    have hor : bits .or .i64 (xA : Int) (xB : Int) = (xO : Int) := by rw [hxO]; exact bits_or xA xB (by omega) (by omega)
    have HO := Lib.hid hxO; clear hxO
    clear HNE
    have x0 := G.P.c0; have x1 := G.P.c1; have x2 := G.P.c2; have t0 := G.T.c0; have t1 := G.T.c1; have t2 := G.T.c2
    go_upto_region 17 with fail
    clear x0 x1 x2 t0 t1 t2
    replace G := G.drew
    refine AnyB.begin (S := (fun w' => w'.cell? ⟨gT, 1, none⟩ = some (.slice (some ⟨g0, 0, none⟩) n p0) ∧ w'.cell? ⟨gT, 2, none⟩ = some (.slice (some ⟨g1, 0, none⟩) n p1) ∧ w'.cell? ⟨w.heap.size, 1, none⟩ = some (.int .i64 (a : Int)) ∧ w'.cell? ⟨w.heap.size, 2, none⟩ = some (.int .i64 (b : Int)))) [] (by kernel_rfl) ?_ (fun hHeld0 => ?_)
    · ((try dsimp only); (first | exact ⟨G.T.c1, G.T.c2, G.P.c1, G.P.c2⟩))
    refine AnyB.tq (i := 0) (h := ?_)
    refine AnyB.tk (i := 1) (h := ?_)
    refine AnyB.tq (i := 2) (h := ?_)
    refine AnyB.tk (i := 3) (h := ?_)
    refine AnyB.tq (i := 4) (h := ?_)
    refine AnyB.tk (i := 5) (h := ?_)
    refine AnyB.tq (i := 6) (h := ?_)
    refine AnyB.tk (i := 7) (h := ?_)
    refine AnyB.tq (i := 8) (h := ?_)
    refine AnyB.tq (i := 9) (h := ?_)
    refine AnyB.tq (i := 10) (h := ?_)
    refine AnyB.tq (i := 11) (h := ?_)
    refine AnyB.tq (i := 12) (h := ?_)
    refine AnyB.tq (i := 13) (h := ?_)
    refine AnyB.tq (i := 14) (h := ?_)
    refine AnyB.tq (i := 15) (h := ?_)
    refine AnyB.tq (i := 16) (h := ?_)
    refine AnyB.each (rs := [17]) (by kernel_rfl) (by simp) ?_
    refine EachB.cons rfl (fun K hK hB => ?_) ?_
    · skip
      ((try (have P0 : GSt w wc.drew w.heap.size n 9 a b gT g0 p0 g1 p1 (idX n) (idZ n) := G; clear P0; generalize wc.drew = wz at *)); obtain ⟨y0, y1, y2⟩ := G.O0.cell a ha; have z0 := G.O0.frz (a * 3); have z1 := G.O0.frz (a * 3 + 1); have z2 := G.O0.frz (a * 3 + 2); go_simp; clear y0 y1 y2 z0 z1 z2; have G2 := G.setX a ha (⟨0, (xO : Int), 0⟩ : E3); clear G; rw [show (((wz.setCell ⟨g0, a * 3, none⟩ (.int .i64 0)).setCell ⟨g0, a * 3 + 1, none⟩ (.int .i64 (xO : Int))).setCell ⟨g0, a * 3 + 2, none⟩ (.int .i64 0)) = put3 wz g0 a (⟨0, (xO : Int), 0⟩ : E3) from rfl]; generalize put3 wz g0 a (⟨0, (xO : Int), 0⟩ : E3) = wy at *; obtain ⟨wz, rfl⟩ : ∃ x : World, x = wy := ⟨_, rfl⟩; have G := G2; clear G2)
      refine hK.out _ _ ?_ (fun hHeld1 => ?_)
      · ((try dsimp only); (first | exact ⟨G.T.c1, G.T.c2, G.P.c1, G.P.c2⟩))
      clear hB hK K hHeld0
      refine AnyB.tq (i := 18) (h := ?_)
      refine AnyB.each (rs := [19]) (by kernel_rfl) (by simp) ?_
      refine EachB.cons rfl (fun K hK hB => ?_) ?_
      · skip
        ((try (have P0 : GSt w wc.drew w.heap.size n 9 a b gT g0 p0 g1 p1 ((idX n).set a (⟨0, (xO : Int), 0⟩ : E3)) (idZ n) := G; clear P0; generalize wc.drew = wz at *)); obtain ⟨y0, y1, y2⟩ := G.O1.cell b hb; have z0 := G.O1.frz (b * 3); have z1 := G.O1.frz (b * 3 + 1); have z2 := G.O1.frz (b * 3 + 2); go_simp; clear y0 y1 y2 z0 z1 z2; have G2 := G.setZ b hb (⟨0, 0, (xO : Int)⟩ : E3); clear G; rw [show (((wz.setCell ⟨g1, b * 3, none⟩ (.int .i64 0)).setCell ⟨g1, b * 3 + 1, none⟩ (.int .i64 0)).setCell ⟨g1, b * 3 + 2, none⟩ (.int .i64 (xO : Int))) = put3 wz g1 b (⟨0, 0, (xO : Int)⟩ : E3) from rfl]; generalize put3 wz g1 b (⟨0, 0, (xO : Int)⟩ : E3) = wy at *; obtain ⟨wz, rfl⟩ : ∃ x : World, x = wy := ⟨_, rfl⟩; have G := G2; clear G2)
        refine hK.out _ _ ?_ (fun hHeld2 => ?_)
        · ((try dsimp only); (first | exact ⟨G.T.c1, G.T.c2, G.P.c1, G.P.c2⟩))
        clear hB hK K hHeld1
        refine AnyB.none (by kernel_rfl) ?_ _
        obtain ⟨wc, rfl⟩ : ∃ x : World, x = wz := ⟨_, rfl⟩
        have x0 := G.P.c0; have t0 := G.T.c0; have t1 := G.T.c1; have t2 := G.T.c2; have r0 := G.R.c0; have r1 := G.R.c1; have r2 := G.R.c2; have f0 := G.R.f0; have f1 := G.R.f1; have f2 := G.R.f2
        have hZ := box_set3 (.int .i64 (n : Int)) (.slice (some ⟨g0, 0, none⟩) n p0) (.slice (some ⟨g1, 0, none⟩) n p1) r0 r1 r2
        go_wp2_with fail
        have eX : ((idX n).set a (⟨0, (xO : Int), 0⟩ : E3)) = pes (gtX n 9 a b) := by
          rw [show gtX n 9 a b = ((idPX n).set a (⟨0, xO, 0⟩ : PN)) from by (try rw [HO.out]); (try rw [HA.out]); (try rw [HB.out]); rfl]
          (try rw [← set_pes]); (try rw [← set_pes]); (try rw [← idX_pes]); (try rfl)
        have eZ : ((idZ n).set b (⟨0, 0, (xO : Int)⟩ : E3)) = pes (gtZ n 9 a b) := by
          rw [show gtZ n 9 a b = ((idPZ n).set b (⟨0, 0, xO⟩ : PN)) from by (try rw [HO.out]); (try rw [HA.out]); (try rw [HB.out]); rfl]
          (try rw [← set_pes]); (try rw [← set_pes]); (try rw [← idZ_pes]); (try rfl)
        exact bodyPost_ret (v := .agg #[.int .i64 (n : Int), .slice (some ⟨g0, 0, none⟩) n p0, .slice (some ⟨g1, 0, none⟩) n p1]) (by simp [results, Tryz.results27, go_sem, hZ]) rfl ((GSt.done G _ _ _).eq eX eZ)
      exact EachB.nil
    exact EachB.nil
  · have hab : a ≠ b := HNE.out (by omega) (by omega)
    clear HNE
    have x0 := G.P.c0; have x1 := G.P.c1; have x2 := G.P.c2; have t0 := G.T.c0; have t1 := G.T.c1; have t2 := G.T.c2
    go_upto_region 19 with fail
    clear x0 x1 x2 t0 t1 t2
    replace G := G.drew
    refine AnyB.begin (S := (fun w' => w'.cell? ⟨gT, 1, none⟩ = some (.slice (some ⟨g0, 0, none⟩) n p0) ∧ w'.cell? ⟨gT, 2, none⟩ = some (.slice (some ⟨g1, 0, none⟩) n p1) ∧ w'.cell? ⟨w.heap.size, 1, none⟩ = some (.int .i64 (a : Int)) ∧ w'.cell? ⟨w.heap.size, 2, none⟩ = some (.int .i64 (b : Int)))) [] (by kernel_rfl) ?_ (fun hHeld0 => ?_)
    · ((try dsimp only); (first | exact ⟨G.T.c1, G.T.c2, G.P.c1, G.P.c2⟩))
    refine AnyB.tq (i := 0) (h := ?_)
    refine AnyB.tk (i := 1) (h := ?_)
    refine AnyB.tq (i := 2) (h := ?_)
    refine AnyB.tk (i := 3) (h := ?_)
    refine AnyB.tq (i := 4) (h := ?_)
    refine AnyB.tk (i := 5) (h := ?_)
    refine AnyB.tq (i := 6) (h := ?_)
    refine AnyB.tk (i := 7) (h := ?_)
    refine AnyB.tq (i := 8) (h := ?_)
    refine AnyB.tq (i := 9) (h := ?_)
    refine AnyB.tq (i := 10) (h := ?_)
    refine AnyB.tq (i := 11) (h := ?_)
    refine AnyB.tq (i := 12) (h := ?_)
    refine AnyB.tq (i := 13) (h := ?_)
    refine AnyB.tq (i := 14) (h := ?_)
    refine AnyB.each (rs := [15]) (by kernel_rfl) (by simp) ?_
    refine EachB.cons rfl (fun K hK hB => ?_) ?_
    · skip
      ((try (have P0 : GSt w wc.drew w.heap.size n 10 a b gT g0 p0 g1 p1 (idX n) (idZ n) := G; clear P0; generalize wc.drew = wz at *)); obtain ⟨y0, y1, y2⟩ := G.O0.cell a ha; have z0 := G.O0.frz (a * 3); have z1 := G.O0.frz (a * 3 + 1); have z2 := G.O0.frz (a * 3 + 2); go_simp; clear y0 y1 y2 z0 z1 z2; have G2 := G.setX a ha (⟨0, (xA : Int), (xB : Int)⟩ : E3); clear G; rw [show (((wz.setCell ⟨g0, a * 3, none⟩ (.int .i64 0)).setCell ⟨g0, a * 3 + 1, none⟩ (.int .i64 (xA : Int))).setCell ⟨g0, a * 3 + 2, none⟩ (.int .i64 (xB : Int))) = put3 wz g0 a (⟨0, (xA : Int), (xB : Int)⟩ : E3) from rfl]; generalize put3 wz g0 a (⟨0, (xA : Int), (xB : Int)⟩ : E3) = wy at *; obtain ⟨wz, rfl⟩ : ∃ x : World, x = wy := ⟨_, rfl⟩; have G := G2; clear G2)
      refine hK.out _ _ ?_ (fun hHeld1 => ?_)
      · ((try dsimp only); (first | exact ⟨G.T.c1, G.T.c2, G.P.c1, G.P.c2⟩))
      clear hB hK K hHeld0
      refine AnyB.tq (i := 16) (h := ?_)
      refine AnyB.each (rs := [17]) (by kernel_rfl) (by simp) ?_
      refine EachB.cons rfl (fun K hK hB => ?_) ?_
      · skip
        ((try (have P0 : GSt w wc.drew w.heap.size n 10 a b gT g0 p0 g1 p1 ((idX n).set a (⟨0, (xA : Int), (xB : Int)⟩ : E3)) (idZ n) := G; clear P0; generalize wc.drew = wz at *)); obtain ⟨y0, y1, y2⟩ := G.O0.cell b hb; have z0 := G.O0.frz (b * 3); have z1 := G.O0.frz (b * 3 + 1); have z2 := G.O0.frz (b * 3 + 2); go_simp; clear y0 y1 y2 z0 z1 z2; have G2 := G.setX b hb (⟨0, (xB : Int), (xA : Int)⟩ : E3); clear G; rw [show (((wz.setCell ⟨g0, b * 3, none⟩ (.int .i64 0)).setCell ⟨g0, b * 3 + 1, none⟩ (.int .i64 (xB : Int))).setCell ⟨g0, b * 3 + 2, none⟩ (.int .i64 (xA : Int))) = put3 wz g0 b (⟨0, (xB : Int), (xA : Int)⟩ : E3) from rfl]; generalize put3 wz g0 b (⟨0, (xB : Int), (xA : Int)⟩ : E3) = wy at *; obtain ⟨wz, rfl⟩ : ∃ x : World, x = wy := ⟨_, rfl⟩; have G := G2; clear G2)
        refine hK.out _ _ ?_ (fun hHeld2 => ?_)
        · ((try dsimp only); (first | exact ⟨G.T.c1, G.T.c2, G.P.c1, G.P.c2⟩))
        clear hB hK K hHeld1
        refine AnyB.none (by kernel_rfl) ?_ _
        obtain ⟨wc, rfl⟩ : ∃ x : World, x = wz := ⟨_, rfl⟩
        have x0 := G.P.c0; have t0 := G.T.c0; have t1 := G.T.c1; have t2 := G.T.c2; have r0 := G.R.c0; have r1 := G.R.c1; have r2 := G.R.c2; have f0 := G.R.f0; have f1 := G.R.f1; have f2 := G.R.f2
        have hZ := box_set3 (.int .i64 (n : Int)) (.slice (some ⟨g0, 0, none⟩) n p0) (.slice (some ⟨g1, 0, none⟩) n p1) r0 r1 r2
        go_wp2_with fail
        have eX : (((idX n).set a (⟨0, (xA : Int), (xB : Int)⟩ : E3)).set b (⟨0, (xB : Int), (xA : Int)⟩ : E3)) = pes (gtX n 10 a b) := by
          rw [show gtX n 10 a b = (((idPX n).set a (⟨0, xA, xB⟩ : PN)).set b (⟨0, xB, xA⟩ : PN)) from by (try rw [HO.out]); (try rw [HA.out]); (try rw [HB.out]); rfl]
          (try rw [← set_pes]); (try rw [← set_pes]); (try rw [← idX_pes]); (try rfl)
        have eZ : (idZ n) = pes (gtZ n 10 a b) := by
          rw [show gtZ n 10 a b = (idPZ n) from by (try rw [HO.out]); (try rw [HA.out]); (try rw [HB.out]); rfl]
          (try rw [← set_pes]); (try rw [← set_pes]); (try rw [← idZ_pes]); (try rfl)
        exact bodyPost_ret (v := .agg #[.int .i64 (n : Int), .slice (some ⟨g0, 0, none⟩) n p0, .slice (some ⟨g1, 0, none⟩) n p1]) (by simp [results, Tryz.results27, go_sem, hZ]) rfl ((GSt.done G _ _ _).eq eX eZ)
      exact EachB.nil
    exact EachB.nil
  · have hab : a ≠ b := HNE.out (by omega) (by omega)
    clear HNE
    have x0 := G.P.c0; have x1 := G.P.c1; have x2 := G.P.c2; have t0 := G.T.c0; have t1 := G.T.c1; have t2 := G.T.c2
    go_upto_region 21 with fail
    clear x0 x1 x2 t0 t1 t2
    replace G := G.drew
    refine AnyB.begin (S := (fun w' => w'.cell? ⟨gT, 1, none⟩ = some (.slice (some ⟨g0, 0, none⟩) n p0) ∧ w'.cell? ⟨gT, 2, none⟩ = some (.slice (some ⟨g1, 0, none⟩) n p1) ∧ w'.cell? ⟨w.heap.size, 1, none⟩ = some (.int .i64 (a : Int)) ∧ w'.cell? ⟨w.heap.size, 2, none⟩ = some (.int .i64 (b : Int)))) [] (by kernel_rfl) ?_ (fun hHeld0 => ?_)
    · ((try dsimp only); (first | exact ⟨G.T.c1, G.T.c2, G.P.c1, G.P.c2⟩))
    refine AnyB.tq (i := 0) (h := ?_)
    refine AnyB.tk (i := 1) (h := ?_)
    refine AnyB.tq (i := 2) (h := ?_)
    refine AnyB.tk (i := 3) (h := ?_)
    refine AnyB.tq (i := 4) (h := ?_)
    refine AnyB.tk (i := 5) (h := ?_)
    refine AnyB.tq (i := 6) (h := ?_)
    refine AnyB.tk (i := 7) (h := ?_)
    refine AnyB.tq (i := 8) (h := ?_)
    refine AnyB.tq (i := 9) (h := ?_)
    refine AnyB.tq (i := 10) (h := ?_)
    refine AnyB.tq (i := 11) (h := ?_)
    refine AnyB.tq (i := 12) (h := ?_)
    refine AnyB.each (rs := [13]) (by kernel_rfl) (by simp) ?_
    refine EachB.cons rfl (fun K hK hB => ?_) ?_
    · skip
      ((try (have P0 : GSt w wc.drew w.heap.size n 11 a b gT g0 p0 g1 p1 (idX n) (idZ n) := G; clear P0; generalize wc.drew = wz at *)); obtain ⟨y0, y1, y2⟩ := G.O0.cell a ha; have z0 := G.O0.frz (a * 3); have z1 := G.O0.frz (a * 3 + 1); have z2 := G.O0.frz (a * 3 + 2); go_simp; clear y0 y1 y2 z0 z1 z2; have G2 := G.setX a ha (⟨0, (xB : Int), 0⟩ : E3); clear G; rw [show (((wz.setCell ⟨g0, a * 3, none⟩ (.int .i64 0)).setCell ⟨g0, a * 3 + 1, none⟩ (.int .i64 (xB : Int))).setCell ⟨g0, a * 3 + 2, none⟩ (.int .i64 0)) = put3 wz g0 a (⟨0, (xB : Int), 0⟩ : E3) from rfl]; generalize put3 wz g0 a (⟨0, (xB : Int), 0⟩ : E3) = wy at *; obtain ⟨wz, rfl⟩ : ∃ x : World, x = wy := ⟨_, rfl⟩; have G := G2; clear G2)
      refine hK.out _ _ ?_ (fun hHeld1 => ?_)
      · ((try dsimp only); (first | exact ⟨G.T.c1, G.T.c2, G.P.c1, G.P.c2⟩))
      clear hB hK K hHeld0
      refine AnyB.tq (i := 14) (h := ?_)
      refine AnyB.each (rs := [15]) (by kernel_rfl) (by simp) ?_
      refine EachB.cons rfl (fun K hK hB => ?_) ?_
      · skip
        ((try (have P0 : GSt w wc.drew w.heap.size n 11 a b gT g0 p0 g1 p1 ((idX n).set a (⟨0, (xB : Int), 0⟩ : E3)) (idZ n) := G; clear P0; generalize wc.drew = wz at *)); obtain ⟨y0, y1, y2⟩ := G.O0.cell b hb; have z0 := G.O0.frz (b * 3); have z1 := G.O0.frz (b * 3 + 1); have z2 := G.O0.frz (b * 3 + 2); go_simp; clear y0 y1 y2 z0 z1 z2; have G2 := G.setX b hb (⟨0, (xA : Int), 0⟩ : E3); clear G; rw [show (((wz.setCell ⟨g0, b * 3, none⟩ (.int .i64 0)).setCell ⟨g0, b * 3 + 1, none⟩ (.int .i64 (xA : Int))).setCell ⟨g0, b * 3 + 2, none⟩ (.int .i64 0)) = put3 wz g0 b (⟨0, (xA : Int), 0⟩ : E3) from rfl]; generalize put3 wz g0 b (⟨0, (xA : Int), 0⟩ : E3) = wy at *; obtain ⟨wz, rfl⟩ : ∃ x : World, x = wy := ⟨_, rfl⟩; have G := G2; clear G2)
        refine hK.out _ _ ?_ (fun hHeld2 => ?_)
        · ((try dsimp only); (first | exact ⟨G.T.c1, G.T.c2, G.P.c1, G.P.c2⟩))
        clear hB hK K hHeld1
        refine AnyB.none (by kernel_rfl) ?_ _
        obtain ⟨wc, rfl⟩ : ∃ x : World, x = wz := ⟨_, rfl⟩
        have x0 := G.P.c0; have x1 := G.P.c1; have x2 := G.P.c2; have t0 := G.T.c0; have t1 := G.T.c1; have t2 := G.T.c2
        go_upto_region 22 with fail
        clear x0 x1 x2 t0 t1 t2
        replace G := G.drew
        refine AnyB.begin (S := (fun w' => w'.cell? ⟨gT, 1, none⟩ = some (.slice (some ⟨g0, 0, none⟩) n p0) ∧ w'.cell? ⟨gT, 2, none⟩ = some (.slice (some ⟨g1, 0, none⟩) n p1) ∧ w'.cell? ⟨w.heap.size, 1, none⟩ = some (.int .i64 (a : Int)) ∧ w'.cell? ⟨w.heap.size, 2, none⟩ = some (.int .i64 (b : Int)))) [] (by kernel_rfl) ?_ (fun hHeld0 => ?_)
        · ((try dsimp only); (first | exact ⟨G.T.c1, G.T.c2, G.P.c1, G.P.c2⟩))
        refine AnyB.tq (i := 0) (h := ?_)
        refine AnyB.tk (i := 1) (h := ?_)
        refine AnyB.tq (i := 2) (h := ?_)
        refine AnyB.tk (i := 3) (h := ?_)
        refine AnyB.tq (i := 4) (h := ?_)
        refine AnyB.tk (i := 5) (h := ?_)
        refine AnyB.tq (i := 6) (h := ?_)
        refine AnyB.tk (i := 7) (h := ?_)
        refine AnyB.tq (i := 8) (h := ?_)
        refine AnyB.tq (i := 9) (h := ?_)
        refine AnyB.tq (i := 10) (h := ?_)
        refine AnyB.tq (i := 11) (h := ?_)
        refine AnyB.tq (i := 12) (h := ?_)
        refine AnyB.each (rs := [13]) (by kernel_rfl) (by simp) ?_
        refine EachB.cons rfl (fun K hK hB => ?_) ?_
        · skip
          ((try (have P0 : GSt w wc.drew w.heap.size n 11 a b gT g0 p0 g1 p1 (((idX n).set a (⟨0, (xB : Int), 0⟩ : E3)).set b (⟨0, (xA : Int), 0⟩ : E3)) (idZ n) := G; clear P0; generalize wc.drew = wz at *)); obtain ⟨y0, y1, y2⟩ := G.O1.cell a ha; have z0 := G.O1.frz (a * 3); have z1 := G.O1.frz (a * 3 + 1); have z2 := G.O1.frz (a * 3 + 2); go_simp; clear y0 y1 y2 z0 z1 z2; have G2 := G.setZ a ha (⟨0, 0, (xB : Int)⟩ : E3); clear G; rw [show (((wz.setCell ⟨g1, a * 3, none⟩ (.int .i64 0)).setCell ⟨g1, a * 3 + 1, none⟩ (.int .i64 0)).setCell ⟨g1, a * 3 + 2, none⟩ (.int .i64 (xB : Int))) = put3 wz g1 a (⟨0, 0, (xB : Int)⟩ : E3) from rfl]; generalize put3 wz g1 a (⟨0, 0, (xB : Int)⟩ : E3) = wy at *; obtain ⟨wz, rfl⟩ : ∃ x : World, x = wy := ⟨_, rfl⟩; have G := G2; clear G2)
          refine hK.out _ _ ?_ (fun hHeld1 => ?_)
          · ((try dsimp only); (first | exact ⟨G.T.c1, G.T.c2, G.P.c1, G.P.c2⟩))
          clear hB hK K hHeld0
          refine AnyB.tq (i := 14) (h := ?_)
          refine AnyB.each (rs := [15]) (by kernel_rfl) (by simp) ?_
          refine EachB.cons rfl (fun K hK hB => ?_) ?_
          · skip
            ((try (have P0 : GSt w wc.drew w.heap.size n 11 a b gT g0 p0 g1 p1 (((idX n).set a (⟨0, (xB : Int), 0⟩ : E3)).set b (⟨0, (xA : Int), 0⟩ : E3)) ((idZ n).set a (⟨0, 0, (xB : Int)⟩ : E3)) := G; clear P0; generalize wc.drew = wz at *)); obtain ⟨y0, y1, y2⟩ := G.O1.cell b hb; have z0 := G.O1.frz (b * 3); have z1 := G.O1.frz (b * 3 + 1); have z2 := G.O1.frz (b * 3 + 2); go_simp; clear y0 y1 y2 z0 z1 z2; have G2 := G.setZ b hb (⟨0, 0, (xA : Int)⟩ : E3); clear G; rw [show (((wz.setCell ⟨g1, b * 3, none⟩ (.int .i64 0)).setCell ⟨g1, b * 3 + 1, none⟩ (.int .i64 0)).setCell ⟨g1, b * 3 + 2, none⟩ (.int .i64 (xA : Int))) = put3 wz g1 b (⟨0, 0, (xA : Int)⟩ : E3) from rfl]; generalize put3 wz g1 b (⟨0, 0, (xA : Int)⟩ : E3) = wy at *; obtain ⟨wz, rfl⟩ : ∃ x : World, x = wy := ⟨_, rfl⟩; have G := G2; clear G2)
            refine hK.out _ _ ?_ (fun hHeld2 => ?_)
            · ((try dsimp only); (first | exact ⟨G.T.c1, G.T.c2, G.P.c1, G.P.c2⟩))
            clear hB hK K hHeld1
            refine AnyB.none (by kernel_rfl) ?_ _
            obtain ⟨wc, rfl⟩ : ∃ x : World, x = wz := ⟨_, rfl⟩
            have x0 := G.P.c0; have t0 := G.T.c0; have t1 := G.T.c1; have t2 := G.T.c2; have r0 := G.R.c0; have r1 := G.R.c1; have r2 := G.R.c2; have f0 := G.R.f0; have f1 := G.R.f1; have f2 := G.R.f2
            have hZ := box_set3 (.int .i64 (n : Int)) (.slice (some ⟨g0, 0, none⟩) n p0) (.slice (some ⟨g1, 0, none⟩) n p1) r0 r1 r2
            go_wp2_with fail
            have eX : (((idX n).set a (⟨0, (xB : Int), 0⟩ : E3)).set b (⟨0, (xA : Int), 0⟩ : E3)) = pes (gtX n 11 a b) := by
              rw [show gtX n 11 a b = (((idPX n).set a (⟨0, xB, 0⟩ : PN)).set b (⟨0, xA, 0⟩ : PN)) from by (try rw [HO.out]); (try rw [HA.out]); (try rw [HB.out]); rfl]
              (try rw [← set_pes]); (try rw [← set_pes]); (try rw [← idX_pes]); (try rfl)
            have eZ : (((idZ n).set a (⟨0, 0, (xB : Int)⟩ : E3)).set b (⟨0, 0, (xA : Int)⟩ : E3)) = pes (gtZ n 11 a b) := by
              rw [show gtZ n 11 a b = (((idPZ n).set a (⟨0, 0, xB⟩ : PN)).set b (⟨0, 0, xA⟩ : PN)) from by (try rw [HO.out]); (try rw [HA.out]); (try rw [HB.out]); rfl]
              (try rw [← set_pes]); (try rw [← set_pes]); (try rw [← idZ_pes]); (try rfl)
            exact bodyPost_ret (v := .agg #[.int .i64 (n : Int), .slice (some ⟨g0, 0, none⟩) n p0, .slice (some ⟨g1, 0, none⟩) n p1]) (by simp [results, Tryz.results27, go_sem, hZ]) rfl ((GSt.done G _ _ _).eq eX eZ)
          exact EachB.nil
        exact EachB.nil
      exact EachB.nil
    exact EachB.nil
  · clear HNE
    have x0 := G.P.c0; have t0 := G.T.c0; have t1 := G.T.c1; have t2 := G.T.c2; have r0 := G.R.c0; have r1 := G.R.c1; have r2 := G.R.c2; have f0 := G.R.f0; have f1 := G.R.f1; have f2 := G.R.f2
    have hZ := box_set3 (.int .i64 (n : Int)) (.slice (some ⟨g0, 0, none⟩) n p0) (.slice (some ⟨g1, 0, none⟩) n p1) r0 r1 r2
    go_wp2_with fail
    have eX : (idX n) = pes (gtX n 12 a b) := by
      rw [show gtX n 12 a b = (idPX n) from by (try rw [HO.out]); (try rw [HA.out]); (try rw [HB.out]); rfl]
      (try rw [← set_pes]); (try rw [← set_pes]); (try rw [← idX_pes]); (try rfl)
    have eZ : (idZ n) = pes (gtZ n 12 a b) := by
      rw [show gtZ n 12 a b = (idPZ n) from by (try rw [HO.out]); (try rw [HA.out]); (try rw [HB.out]); rfl]
      (try rw [← set_pes]); (try rw [← set_pes]); (try rw [← idZ_pes]); (try rfl)
    exact bodyPost_ret (v := .agg #[.int .i64 (n : Int), .slice (some ⟨g0, 0, none⟩) n p0, .slice (some ⟨g1, 0, none⟩) n p1]) (by simp [results, Tryz.results27, go_sem, hZ]) rfl ((GSt.done G _ _ _).eq eX eZ)
end Go.Proofs.YtnckabohlakbgaaGreat
