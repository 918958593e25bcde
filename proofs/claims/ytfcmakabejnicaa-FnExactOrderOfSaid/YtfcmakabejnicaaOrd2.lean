/- OrderOf in the program. -/
import Derived.Test.YtfcmakabejnicaaOrd1
import Derived.Test.YtfcmakabejnicaaTab2
import Derived.Test.YtfcmakabejnicaaFar
import Derived.Test.YtfcmakabejnicaaBrk
import Derived.Deep.DeepCutAuto
namespace Go.Proofs.Ytfcmakabejnicaa
set_option linter.unusedSimpArgs false
set_option linter.unusedVariables false
set_option linter.unnecessarySimpa false
set_option maxRecDepth 200000
open Go.ChangeShapes Go.WideShapes Go.ChangeAt Go.RowKit

set_option maxHeartbeats 64000000 in
theorem impl_OrderOf_any (d : Tab) (v0 v1 : Value) (w : World) (h0 : RdE w v0 E3.cs 3 d.xs) (h1 : RdE w v1 E3.cs 3 d.zs) (n0 : d.xs.length ≤ 1048576) (n1 : d.zs.length ≤ 1048576) :
    Calls Try.prog 10 #[.agg #[.int .i64 d.n, v0, v1]] w fun e w' => e = .returned (.tuple #[.int .i64 ((ordG d).getD 0), .bool (ordG d).isSome]) ∧ Below w.heap.size w w' := by
  have H0 := Lib.hid h0; have H1 := Lib.hid h1
  obtain ⟨A, c, rfl, _⟩ := h0.form
  obtain ⟨A2, c2, rfl, _⟩ := h1.form
  clear h0 h1
  by_cases ht : TabOk d
  · have HT := Lib.hid (show tabB d = true from decide_eq_true ht)
    have HG := Lib.hid (show ordG d = (ordN (d.xs.map tn) (d.zs.map tn) d.n.toNat).map (fun k => (k : Int) + 1) from if_pos ht)
    obtain ⟨m, hm, m1, m5, ex, ez, lx, lz, okx, okz⟩ := ht.parts
    obtain ⟨ltx, ltz⟩ := ht.lt hm
    have RX := Lib.hid (show RdE w (.slice A d.xs.length c) E3.cs 3 (pes (d.xs.map tn)) from by rw [← ex]; exact H0.out)
    have RZ := Lib.hid (show RdE w (.slice A2 d.zs.length c2) E3.cs 3 (pes (d.zs.map tn)) from by rw [← ez]; exact H1.out)
    have hlx : d.xs.length = m := by simpa using lx
    have hlz : d.zs.length = m := by simpa using lz
    rw [hm, Int.toNat_natCast] at HG
    have HM := Lib.hid hm
    rw [hlx] at RX; rw [hlz] at RZ
    generalize d.xs.map tn = X at *
    generalize d.zs.map tn = Z at *
    have HLX := Lib.hid hlx; have HLZ := Lib.hid hlz
    have OX := Lib.hid ltx; have OZ := Lib.hid ltz; have KX := Lib.hid lx; have KZ := Lib.hid lz
    clear ht hm ex ez lx lz okx okz hlx hlz ltx ltz
    go_enter Try.func10, Try.ntmps10
    go_wp2_with fail
    refine (impl_IsValidTableau_any d _ _ _ (Rd.below H0.out (show Below w.heap.size w _ from (by repeat (first | exact Below.refl _ _ | assumption | refine Below.drew ?_ | refine below_drewN ?_ _ | refine Below.alloc ?_ (by first | omega | (simp <;> omega)) _ | refine Below.setCell ?_ (by first | omega | (simp <;> omega)) _ | refine Below.trans ?_ (Below.mono (by assumption) (by first | omega | (simp <;> omega)))))) rfl) (Rd.below H1.out (show Below w.heap.size w _ from (by repeat (first | exact Below.refl _ _ | assumption | refine Below.drew ?_ | refine below_drewN ?_ _ | refine Below.alloc ?_ (by first | omega | (simp <;> omega)) _ | refine Below.setCell ?_ (by first | omega | (simp <;> omega)) _ | refine Below.trans ?_ (Below.mono (by assumption) (by first | omega | (simp <;> omega)))))) rfl) n0 n1).mono ?_; rintro e w1 ⟨rfl, hb1⟩; rw [HT.out]
    have b0 := below_cell hb1 rfl (show (w.alloc (.cells #[.int .i64 d.n, .slice A d.xs.length c, .slice A2 d.zs.length c2] 30)).cell? ⟨w.heap.size, 0, none⟩ = some (.int .i64 d.n) from (by repeat (first | (refine Eq.trans (World.cell?_alloc_at _ _ _ _ ?hh) ?_; (case hh => (simp; done)); rfl) | refine cell_alloc_keep _ ?_)))
    have b1 := below_cell hb1 rfl (show (w.alloc (.cells #[.int .i64 d.n, .slice A d.xs.length c, .slice A2 d.zs.length c2] 30)).cell? ⟨w.heap.size, 1, none⟩ = some (.slice A d.xs.length c) from (by repeat (first | (refine Eq.trans (World.cell?_alloc_at _ _ _ _ ?hh) ?_; (case hh => (simp; done)); rfl) | refine cell_alloc_keep _ ?_)))
    have b2 := below_cell hb1 rfl (show (w.alloc (.cells #[.int .i64 d.n, .slice A d.xs.length c, .slice A2 d.zs.length c2] 30)).cell? ⟨w.heap.size, 2, none⟩ = some (.slice A2 d.zs.length c2) from (by repeat (first | (refine Eq.trans (World.cell?_alloc_at _ _ _ _ ?hh) ?_; (case hh => (simp; done)); rfl) | refine cell_alloc_keep _ ?_)))
    have F0 := Lib.hid (below_frz hb1 rfl (by simp) (show (w.alloc (.cells #[.int .i64 d.n, .slice A d.xs.length c, .slice A2 d.zs.length c2] 30)).frozen? ⟨w.heap.size, 0, none⟩ = false from (by repeat (first | (refine World.frozen?_alloc_at _ _ _ _ ?hh; case hh => (simp; done)) | (refine frozen_alloc_lt _ ?hh ?_; case hh => first | omega | (simp <;> omega))))))
    have F1 := Lib.hid (below_frz hb1 rfl (by simp) (show (w.alloc (.cells #[.int .i64 d.n, .slice A d.xs.length c, .slice A2 d.zs.length c2] 30)).frozen? ⟨w.heap.size, 1, none⟩ = false from (by repeat (first | (refine World.frozen?_alloc_at _ _ _ _ ?hh; case hh => (simp; done)) | (refine frozen_alloc_lt _ ?hh ?_; case hh => first | omega | (simp <;> omega))))))
    have F2 := Lib.hid (below_frz hb1 rfl (by simp) (show (w.alloc (.cells #[.int .i64 d.n, .slice A d.xs.length c, .slice A2 d.zs.length c2] 30)).frozen? ⟨w.heap.size, 2, none⟩ = false from (by repeat (first | (refine World.frozen?_alloc_at _ _ _ _ ?hh; case hh => (simp; done)) | (refine frozen_alloc_lt _ ?hh ?_; case hh => first | omega | (simp <;> omega))))))
    have hbp : w.heap.size < w1.heap.size := World.block_lt_of_cell? _ _ b0
    have z1 := hb1.size; (simp at z1)
    have bw1 := Lib.hid (show Below w.heap.size w w1 from (by repeat (first | exact Below.refl _ _ | assumption | refine Below.drew ?_ | refine below_drewN ?_ _ | refine Below.alloc ?_ (by first | omega | (simp <;> omega)) _ | refine Below.setCell ?_ (by first | omega | (simp <;> omega)) _ | refine Below.trans ?_ (Below.mono (by assumption) (by first | omega | (simp <;> omega)))))); clear hb1
    rw [HM.out] at b0; rw [HLX.out] at b1; rw [HLZ.out] at b2
    have T0 := Lib.hid b0; have T1 := Lib.hid b1; have T2 := Lib.hid b2
    have L0 := World.block_lt_of_cell? _ _ b0
    rw [HM.out, HLX.out, HLZ.out]
    go_upto_region 3 with fail
    replace b0 := cell_drew b0; replace b1 := cell_drew b1; replace b2 := cell_drew b2
    have P : Box3 w1.drew w.heap.size (.int .i64 (m : Int)) (.slice A m c) (.slice A2 m c2) := ⟨b0, b1, b2, frz_drew F0.out, frz_drew F1.out, frz_drew F2.out⟩
    have bz := Lib.hid (show Below w1.heap.size w1 w1.drew from (by repeat (first | exact Below.refl _ _ | assumption | refine Below.drew ?_ | refine below_drewN ?_ _ | refine Below.alloc ?_ (by first | omega | (simp <;> omega)) _ | refine Below.setCell ?_ (by first | omega | (simp <;> omega)) _ | refine Below.trans ?_ (Below.mono (by assumption) (by first | omega | (simp <;> omega))))))
    go_cut [4, 5] (fun s4 s5 wx => ∃ (g4 g5 gI cI gJ cJ : Nat), s4 = .pointer (some ⟨g4, 0, none⟩) ∧ s5 = .pointer (some ⟨g5, 0, none⟩) ∧ wx.cell? ⟨g4, 0, none⟩ = some (.int .i64 (m : Int)) ∧ wx.cell? ⟨g4, 1, none⟩ = some (.slice (some ⟨gI, 0, none⟩) m cI) ∧ wx.cell? ⟨g4, 2, none⟩ = some (.slice (some ⟨gJ, 0, none⟩) m cJ) ∧ wx.cell? ⟨g5, 0, none⟩ = some (.int .i64 (m : Int)) ∧ wx.cell? ⟨g5, 1, none⟩ = some (.slice A m c) ∧ wx.cell? ⟨g5, 2, none⟩ = some (.slice A2 m c2) ∧ wx.frozen? ⟨g5, 0, none⟩ = false ∧ wx.frozen? ⟨g5, 1, none⟩ = false ∧ wx.frozen? ⟨g5, 2, none⟩ = false ∧ g4 ≠ g5 ∧ gI ≠ g5 ∧ gJ ≠ g5 ∧ w1.heap.size ≤ g5 ∧ Hid (RdE wx (.slice (some ⟨gI, 0, none⟩) m cI) E3.cs 3 (idX m)) ∧ Hid (RdE wx (.slice (some ⟨gJ, 0, none⟩) m cJ) E3.cs 3 (idZ m)) ∧ Hid (Below w1.heap.size w1 wx))
    case first =>
      clear b0 b1 b2 T0 T1 T2 F0 F1 F2 L0 RX RZ HG
      refine AnyB.begin (S := (fun w' => w'.cell? ⟨w.heap.size, 0, none⟩ = some (.int .i64 (m : Int)) ∧ w'.cell? ⟨w.heap.size, 1, none⟩ = some (.slice A m c) ∧ w'.cell? ⟨w.heap.size, 2, none⟩ = some (.slice A2 m c2))) [] (by kernel_rfl) ?_ (fun hHeld0 => ?_)
      · ((try dsimp only); (first | exact ⟨P.c0, P.c1, P.c2⟩))
      refine AnyB.takeQ (i := 0) (oi := _) (v := ?_) (by simp only [List.getElem?_toArray, List.getElem?_cons_zero, List.getElem?_cons_succ]; rfl) (by kernel_rfl) (by kernel_rfl) (by kernel_rfl) (by intro _ _ _ h; exact h) (Or.inl ⟨by rfl, ?_⟩) ?_
      rotate_left
      · (intro w hSw; (try dsimp only at hSw); go_simp; (try (with_reducible rfl)))
      try simp only [Act.put, List.setIfInBounds_toArray, List.set_cons_zero, List.set_cons_succ]
      refine AnyB.take (i := 1) (oi := _) (v := ?_) (by simp only [List.getElem?_toArray, List.getElem?_cons_zero, List.getElem?_cons_succ]; rfl) (by kernel_rfl) (by kernel_rfl) (by kernel_rfl) (by kernel_rfl) (by kernel_rfl) (by intro _ _ _ h; exact h) (Or.inl ⟨by rfl, ?_⟩) (by assumption) ?_
      rotate_left
      · (intro w hSw; (try dsimp only at hSw); go_simp; (try (with_reducible rfl)))
      try simp only [Act.put, List.setIfInBounds_toArray, List.set_cons_zero, List.set_cons_succ]
      refine AnyB.take (i := 3) (oi := _) (v := ?_) (by simp only [List.getElem?_toArray, List.getElem?_cons_zero, List.getElem?_cons_succ]; rfl) (by kernel_rfl) (by kernel_rfl) (by kernel_rfl) (by kernel_rfl) (by kernel_rfl) (by intro _ _ _ h; exact h) (Or.inl ⟨by rfl, ?_⟩) (by assumption) ?_
      rotate_left
      · (intro w hSw; (try dsimp only at hSw); go_simp; (try (with_reducible rfl)))
      try simp only [Act.put, List.setIfInBounds_toArray, List.set_cons_zero, List.set_cons_succ]
      refine AnyB.each (rs := [2, 4, 5]) (by kernel_rfl) (by simp) ?_
      refine EachB.cons rfl (fun K hK hB => ?_) ?_
      · skip
        ((try (have P0 : Box3 w1.drew w.heap.size (.int .i64 (m : Int)) (.slice A m c) (.slice A2 m c2) := P; clear P0; generalize w1.drew = wz at *)); go_simp; go_at_call 31; refine (impl_identity_any (m : Int) _ (by omega) (by omega)).mono ?_; rintro e wC ⟨q0, q1, rfl, ho0, ho1, _, hbC⟩; rw [Int.toNat_natCast] at ho0 ho1; obtain ⟨gI, cI, rfl, hI0, hI1⟩ := own_E3 ho0 (idX_len m) (by omega); obtain ⟨gJ, cJ, rfl, hJ0, hJ1⟩ := own_E3 ho1 (idZ_len m) (by omega); have I0 := Lib.hid (OwnE.rd ho0); have I1 := Lib.hid (OwnE.rd ho1); clear ho0 ho1; (try (have e4I : gI ≠ g4 := Nat.ne_of_gt (Nat.lt_of_lt_of_le N4.lt hI0); have e4J : gJ ≠ g4 := Nat.ne_of_gt (Nat.lt_of_lt_of_le N4.lt hJ0); replace N4 := N4.call hbC)); (try (have e5I : gI ≠ g5 := Nat.ne_of_gt (Nat.lt_of_lt_of_le N5.lt hI0); have e5J : gJ ≠ g5 := Nat.ne_of_gt (Nat.lt_of_lt_of_le N5.lt hJ0); replace N5 := N5.call hbC)); replace P := P.call hbC; replace bz := Lib.hid (show Below w1.heap.size w1 wC from Below.trans bz.out (hbC.mono bz.out.size)); clear hI0 hJ0 hbC; obtain ⟨wz, rfl⟩ : ∃ x : World, x = wC := ⟨_, rfl⟩; dsimp only)
        refine hK.out _ _ ?_ (fun hHeld1 => ?_)
        · ((try dsimp only); (first | exact ⟨P.c0, P.c1, P.c2⟩))
        clear hB hK K hHeld0
        refine AnyB.each (rs := [4, 5]) (by kernel_rfl) (by simp) ?_
        refine EachB.cons rfl (fun K hK hB => ?_) ?_
        · skip
          ((try (have P0 : Box3 w1.drew w.heap.size (.int .i64 (m : Int)) (.slice A m c) (.slice A2 m c2) := P; clear P0; generalize w1.drew = wz at *)); go_simp; have N4 := Box3.new wz (.int .i64 0) (.slice none 0 0) (.slice none 0 0) 30; have l4 := bz.out.size; (try (have e4I : gI ≠ wz.heap.size := Nat.ne_of_lt hI1; have e4J : gJ ≠ wz.heap.size := Nat.ne_of_lt hJ1; replace I0 := Lib.hid (rd_far I0.out (Far.alloc wz (.cells #[.int .i64 0, .slice none 0 0, .slice none 0 0] 30)) e4I); replace I1 := Lib.hid (rd_far I1.out (Far.alloc wz (.cells #[.int .i64 0, .slice none 0 0, .slice none 0 0] 30)) e4J); replace hI1 := Nat.lt_of_lt_of_le hI1 (Far.alloc wz (.cells #[.int .i64 0, .slice none 0 0, .slice none 0 0] 30)).size; replace hJ1 := Nat.lt_of_lt_of_le hJ1 (Far.alloc wz (.cells #[.int .i64 0, .slice none 0 0, .slice none 0 0] 30)).size)); (try (have e45 := Nat.ne_of_gt N5.lt; replace N5 := N5.alloc (.cells #[.int .i64 0, .slice none 0 0, .slice none 0 0] 30))); replace P := P.alloc (.cells #[.int .i64 0, .slice none 0 0, .slice none 0 0] 30); replace bz := Lib.hid (show Below w1.heap.size w1 (wz.alloc (.cells #[.int .i64 0, .slice none 0 0, .slice none 0 0] 30)) from Below.alloc bz.out bz.out.size _); generalize wz.alloc (.cells #[.int .i64 0, .slice none 0 0, .slice none 0 0] 30) = wC at *; generalize wz.heap.size = g4 at *; obtain ⟨wz, rfl⟩ : ∃ x : World, x = wC := ⟨_, rfl⟩)
          refine hK.out _ _ ?_ (fun hHeld2 => ?_)
          · ((try dsimp only); (first | exact ⟨P.c0, P.c1, P.c2⟩))
          clear hB hK K hHeld1
          refine AnyB.each (rs := [5]) (by kernel_rfl) (by simp) ?_
          refine EachB.cons rfl (fun K hK hB => ?_) ?_
          · skip
            ((try (have P0 : Box3 w1.drew w.heap.size (.int .i64 (m : Int)) (.slice A m c) (.slice A2 m c2) := P; clear P0; generalize w1.drew = wz at *)); go_simp; have N5 := Box3.new wz (.int .i64 0) (.slice none 0 0) (.slice none 0 0) 30; have l5 := bz.out.size; (try (have e5I : gI ≠ wz.heap.size := Nat.ne_of_lt hI1; have e5J : gJ ≠ wz.heap.size := Nat.ne_of_lt hJ1; replace I0 := Lib.hid (rd_far I0.out (Far.alloc wz (.cells #[.int .i64 0, .slice none 0 0, .slice none 0 0] 30)) e5I); replace I1 := Lib.hid (rd_far I1.out (Far.alloc wz (.cells #[.int .i64 0, .slice none 0 0, .slice none 0 0] 30)) e5J); replace hI1 := Nat.lt_of_lt_of_le hI1 (Far.alloc wz (.cells #[.int .i64 0, .slice none 0 0, .slice none 0 0] 30)).size; replace hJ1 := Nat.lt_of_lt_of_le hJ1 (Far.alloc wz (.cells #[.int .i64 0, .slice none 0 0, .slice none 0 0] 30)).size)); (try (have e45 := Nat.ne_of_lt N4.lt; replace N4 := N4.alloc (.cells #[.int .i64 0, .slice none 0 0, .slice none 0 0] 30))); replace P := P.alloc (.cells #[.int .i64 0, .slice none 0 0, .slice none 0 0] 30); replace bz := Lib.hid (show Below w1.heap.size w1 (wz.alloc (.cells #[.int .i64 0, .slice none 0 0, .slice none 0 0] 30)) from Below.alloc bz.out bz.out.size _); generalize wz.alloc (.cells #[.int .i64 0, .slice none 0 0, .slice none 0 0] 30) = wC at *; generalize wz.heap.size = g5 at *; obtain ⟨wz, rfl⟩ : ∃ x : World, x = wC := ⟨_, rfl⟩)
            refine hK.out _ _ ?_ (fun hHeld3 => ?_)
            · ((try dsimp only); (first | exact ⟨P.c0, P.c1, P.c2⟩))
            clear hB hK K hHeld2
            refine AnyB.each (rs := [6]) (by kernel_rfl) (by simp) ?_
            refine EachB.cons rfl (fun K hK hB => ?_) ?_
            · skip
              ((try (have P0 : Box3 w1.drew w.heap.size (.int .i64 (m : Int)) (.slice A m c) (.slice A2 m c2) := P; clear P0; generalize w1.drew = wz at *)); have C0 := N4.c0; have C1 := N4.c1; have C2 := N4.c2; have G0 := N4.f0; have G1 := N4.f1; have G2 := N4.f2; go_simp; clear C0 C1 C2 G0 G1 G2; have kf := Far.set3 wz g4 (.int .i64 (m : Int)) (.slice (some ⟨gI, 0, none⟩) m cI) (.slice (some ⟨gJ, 0, none⟩) m cJ); replace N4 := N4.set (.int .i64 (m : Int)) (.slice (some ⟨gI, 0, none⟩) m cI) (.slice (some ⟨gJ, 0, none⟩) m cJ); (try replace N5 := N5.far kf e45.symm); (try (replace I0 := Lib.hid (rd_far I0.out kf e4I); replace I1 := Lib.hid (rd_far I1.out kf e4J); replace hI1 := Nat.lt_of_lt_of_le hI1 kf.size; replace hJ1 := Nat.lt_of_lt_of_le hJ1 kf.size)); replace P := P.far kf (Nat.ne_of_lt (Nat.lt_of_lt_of_le hbp l4)); replace bz := Lib.hid (below_put3 bz.out l4 (.int .i64 (m : Int)) (.slice (some ⟨gI, 0, none⟩) m cI) (.slice (some ⟨gJ, 0, none⟩) m cJ)); clear kf; rw [show (((wz.setCell ⟨g4, 0, none⟩ (.int .i64 (m : Int))).setCell ⟨g4, 1, none⟩ (.slice (some ⟨gI, 0, none⟩) m cI)).setCell ⟨g4, 2, none⟩ (.slice (some ⟨gJ, 0, none⟩) m cJ)) = set3 wz g4 (.int .i64 (m : Int)) (.slice (some ⟨gI, 0, none⟩) m cI) (.slice (some ⟨gJ, 0, none⟩) m cJ) from rfl]; generalize set3 wz g4 (.int .i64 (m : Int)) (.slice (some ⟨gI, 0, none⟩) m cI) (.slice (some ⟨gJ, 0, none⟩) m cJ) = wC at *; obtain ⟨wz, rfl⟩ : ∃ x : World, x = wC := ⟨_, rfl⟩)
              refine hK.out _ _ ?_ (fun hHeld4 => ?_)
              · ((try dsimp only); (first | exact ⟨P.c0, P.c1, P.c2⟩))
              clear hB hK K hHeld3
              refine AnyB.each (rs := [7]) (by kernel_rfl) (by simp) ?_
              refine EachB.cons rfl (fun K hK hB => ?_) ?_
              · skip
                ((try (have P0 : Box3 w1.drew w.heap.size (.int .i64 (m : Int)) (.slice A m c) (.slice A2 m c2) := P; clear P0; generalize w1.drew = wz at *)); have C0 := N5.c0; have C1 := N5.c1; have C2 := N5.c2; have G0 := N5.f0; have G1 := N5.f1; have G2 := N5.f2; go_simp; clear C0 C1 C2 G0 G1 G2; have kf := Far.set3 wz g5 (.int .i64 (m : Int)) (.slice A m c) (.slice A2 m c2); replace N5 := N5.set (.int .i64 (m : Int)) (.slice A m c) (.slice A2 m c2); (try replace N4 := N4.far kf e45); (try (replace I0 := Lib.hid (rd_far I0.out kf e5I); replace I1 := Lib.hid (rd_far I1.out kf e5J); replace hI1 := Nat.lt_of_lt_of_le hI1 kf.size; replace hJ1 := Nat.lt_of_lt_of_le hJ1 kf.size)); replace P := P.far kf (Nat.ne_of_lt (Nat.lt_of_lt_of_le hbp l5)); replace bz := Lib.hid (below_put3 bz.out l5 (.int .i64 (m : Int)) (.slice A m c) (.slice A2 m c2)); clear kf; rw [show (((wz.setCell ⟨g5, 0, none⟩ (.int .i64 (m : Int))).setCell ⟨g5, 1, none⟩ (.slice A m c)).setCell ⟨g5, 2, none⟩ (.slice A2 m c2)) = set3 wz g5 (.int .i64 (m : Int)) (.slice A m c) (.slice A2 m c2) from rfl]; generalize set3 wz g5 (.int .i64 (m : Int)) (.slice A m c) (.slice A2 m c2) = wC at *; obtain ⟨wz, rfl⟩ : ∃ x : World, x = wC := ⟨_, rfl⟩)
                refine hK.out _ _ ?_ (fun hHeld5 => ?_)
                · ((try dsimp only); (first | exact ⟨P.c0, P.c1, P.c2⟩))
                clear hB hK K hHeld4
                refine AnyB.none (by kernel_rfl) ?_ _
                go_wp2_with fail
                go_meet
                exact ⟨g4, g5, gI, cI, gJ, cJ, rfl, rfl, N4.c0, N4.c1, N4.c2, N5.c0, N5.c1, N5.c2, N5.f0, N5.f1, N5.f2, e45, e5I, e5J, l5, I0.out, I1.out, bz.out⟩
              exact EachB.nil
            exact EachB.nil
          exact EachB.nil
        refine EachB.cons rfl (fun K hK hB => ?_) ?_
        · skip
          ((try (have P0 : Box3 w1.drew w.heap.size (.int .i64 (m : Int)) (.slice A m c) (.slice A2 m c2) := P; clear P0; generalize w1.drew = wz at *)); go_simp; have N5 := Box3.new wz (.int .i64 0) (.slice none 0 0) (.slice none 0 0) 30; have l5 := bz.out.size; (try (have e5I : gI ≠ wz.heap.size := Nat.ne_of_lt hI1; have e5J : gJ ≠ wz.heap.size := Nat.ne_of_lt hJ1; replace I0 := Lib.hid (rd_far I0.out (Far.alloc wz (.cells #[.int .i64 0, .slice none 0 0, .slice none 0 0] 30)) e5I); replace I1 := Lib.hid (rd_far I1.out (Far.alloc wz (.cells #[.int .i64 0, .slice none 0 0, .slice none 0 0] 30)) e5J); replace hI1 := Nat.lt_of_lt_of_le hI1 (Far.alloc wz (.cells #[.int .i64 0, .slice none 0 0, .slice none 0 0] 30)).size; replace hJ1 := Nat.lt_of_lt_of_le hJ1 (Far.alloc wz (.cells #[.int .i64 0, .slice none 0 0, .slice none 0 0] 30)).size)); (try (have e45 := Nat.ne_of_lt N4.lt; replace N4 := N4.alloc (.cells #[.int .i64 0, .slice none 0 0, .slice none 0 0] 30))); replace P := P.alloc (.cells #[.int .i64 0, .slice none 0 0, .slice none 0 0] 30); replace bz := Lib.hid (show Below w1.heap.size w1 (wz.alloc (.cells #[.int .i64 0, .slice none 0 0, .slice none 0 0] 30)) from Below.alloc bz.out bz.out.size _); generalize wz.alloc (.cells #[.int .i64 0, .slice none 0 0, .slice none 0 0] 30) = wC at *; generalize wz.heap.size = g5 at *; obtain ⟨wz, rfl⟩ : ∃ x : World, x = wC := ⟨_, rfl⟩)
          refine hK.out _ _ ?_ (fun hHeld6 => ?_)
          · ((try dsimp only); (first | exact ⟨P.c0, P.c1, P.c2⟩))
          clear hB hK K hHeld1
          refine AnyB.each (rs := [4]) (by kernel_rfl) (by simp) ?_
          refine EachB.cons rfl (fun K hK hB => ?_) ?_
          · skip
            ((try (have P0 : Box3 w1.drew w.heap.size (.int .i64 (m : Int)) (.slice A m c) (.slice A2 m c2) := P; clear P0; generalize w1.drew = wz at *)); go_simp; have N4 := Box3.new wz (.int .i64 0) (.slice none 0 0) (.slice none 0 0) 30; have l4 := bz.out.size; (try (have e4I : gI ≠ wz.heap.size := Nat.ne_of_lt hI1; have e4J : gJ ≠ wz.heap.size := Nat.ne_of_lt hJ1; replace I0 := Lib.hid (rd_far I0.out (Far.alloc wz (.cells #[.int .i64 0, .slice none 0 0, .slice none 0 0] 30)) e4I); replace I1 := Lib.hid (rd_far I1.out (Far.alloc wz (.cells #[.int .i64 0, .slice none 0 0, .slice none 0 0] 30)) e4J); replace hI1 := Nat.lt_of_lt_of_le hI1 (Far.alloc wz (.cells #[.int .i64 0, .slice none 0 0, .slice none 0 0] 30)).size; replace hJ1 := Nat.lt_of_lt_of_le hJ1 (Far.alloc wz (.cells #[.int .i64 0, .slice none 0 0, .slice none 0 0] 30)).size)); (try (have e45 := Nat.ne_of_gt N5.lt; replace N5 := N5.alloc (.cells #[.int .i64 0, .slice none 0 0, .slice none 0 0] 30))); replace P := P.alloc (.cells #[.int .i64 0, .slice none 0 0, .slice none 0 0] 30); replace bz := Lib.hid (show Below w1.heap.size w1 (wz.alloc (.cells #[.int .i64 0, .slice none 0 0, .slice none 0 0] 30)) from Below.alloc bz.out bz.out.size _); generalize wz.alloc (.cells #[.int .i64 0, .slice none 0 0, .slice none 0 0] 30) = wC at *; generalize wz.heap.size = g4 at *; obtain ⟨wz, rfl⟩ : ∃ x : World, x = wC := ⟨_, rfl⟩)
            refine hK.out _ _ ?_ (fun hHeld7 => ?_)
            · ((try dsimp only); (first | exact ⟨P.c0, P.c1, P.c2⟩))
            clear hB hK K hHeld6
            refine AnyB.each (rs := [6]) (by kernel_rfl) (by simp) ?_
            refine EachB.cons rfl (fun K hK hB => ?_) ?_
            · skip
              ((try (have P0 : Box3 w1.drew w.heap.size (.int .i64 (m : Int)) (.slice A m c) (.slice A2 m c2) := P; clear P0; generalize w1.drew = wz at *)); have C0 := N4.c0; have C1 := N4.c1; have C2 := N4.c2; have G0 := N4.f0; have G1 := N4.f1; have G2 := N4.f2; go_simp; clear C0 C1 C2 G0 G1 G2; have kf := Far.set3 wz g4 (.int .i64 (m : Int)) (.slice (some ⟨gI, 0, none⟩) m cI) (.slice (some ⟨gJ, 0, none⟩) m cJ); replace N4 := N4.set (.int .i64 (m : Int)) (.slice (some ⟨gI, 0, none⟩) m cI) (.slice (some ⟨gJ, 0, none⟩) m cJ); (try replace N5 := N5.far kf e45.symm); (try (replace I0 := Lib.hid (rd_far I0.out kf e4I); replace I1 := Lib.hid (rd_far I1.out kf e4J); replace hI1 := Nat.lt_of_lt_of_le hI1 kf.size; replace hJ1 := Nat.lt_of_lt_of_le hJ1 kf.size)); replace P := P.far kf (Nat.ne_of_lt (Nat.lt_of_lt_of_le hbp l4)); replace bz := Lib.hid (below_put3 bz.out l4 (.int .i64 (m : Int)) (.slice (some ⟨gI, 0, none⟩) m cI) (.slice (some ⟨gJ, 0, none⟩) m cJ)); clear kf; rw [show (((wz.setCell ⟨g4, 0, none⟩ (.int .i64 (m : Int))).setCell ⟨g4, 1, none⟩ (.slice (some ⟨gI, 0, none⟩) m cI)).setCell ⟨g4, 2, none⟩ (.slice (some ⟨gJ, 0, none⟩) m cJ)) = set3 wz g4 (.int .i64 (m : Int)) (.slice (some ⟨gI, 0, none⟩) m cI) (.slice (some ⟨gJ, 0, none⟩) m cJ) from rfl]; generalize set3 wz g4 (.int .i64 (m : Int)) (.slice (some ⟨gI, 0, none⟩) m cI) (.slice (some ⟨gJ, 0, none⟩) m cJ) = wC at *; obtain ⟨wz, rfl⟩ : ∃ x : World, x = wC := ⟨_, rfl⟩)
              refine hK.out _ _ ?_ (fun hHeld8 => ?_)
              · ((try dsimp only); (first | exact ⟨P.c0, P.c1, P.c2⟩))
              clear hB hK K hHeld7
              refine AnyB.each (rs := [7]) (by kernel_rfl) (by simp) ?_
              refine EachB.cons rfl (fun K hK hB => ?_) ?_
              · skip
                ((try (have P0 : Box3 w1.drew w.heap.size (.int .i64 (m : Int)) (.slice A m c) (.slice A2 m c2) := P; clear P0; generalize w1.drew = wz at *)); have C0 := N5.c0; have C1 := N5.c1; have C2 := N5.c2; have G0 := N5.f0; have G1 := N5.f1; have G2 := N5.f2; go_simp; clear C0 C1 C2 G0 G1 G2; have kf := Far.set3 wz g5 (.int .i64 (m : Int)) (.slice A m c) (.slice A2 m c2); replace N5 := N5.set (.int .i64 (m : Int)) (.slice A m c) (.slice A2 m c2); (try replace N4 := N4.far kf e45); (try (replace I0 := Lib.hid (rd_far I0.out kf e5I); replace I1 := Lib.hid (rd_far I1.out kf e5J); replace hI1 := Nat.lt_of_lt_of_le hI1 kf.size; replace hJ1 := Nat.lt_of_lt_of_le hJ1 kf.size)); replace P := P.far kf (Nat.ne_of_lt (Nat.lt_of_lt_of_le hbp l5)); replace bz := Lib.hid (below_put3 bz.out l5 (.int .i64 (m : Int)) (.slice A m c) (.slice A2 m c2)); clear kf; rw [show (((wz.setCell ⟨g5, 0, none⟩ (.int .i64 (m : Int))).setCell ⟨g5, 1, none⟩ (.slice A m c)).setCell ⟨g5, 2, none⟩ (.slice A2 m c2)) = set3 wz g5 (.int .i64 (m : Int)) (.slice A m c) (.slice A2 m c2) from rfl]; generalize set3 wz g5 (.int .i64 (m : Int)) (.slice A m c) (.slice A2 m c2) = wC at *; obtain ⟨wz, rfl⟩ : ∃ x : World, x = wC := ⟨_, rfl⟩)
                refine hK.out _ _ ?_ (fun hHeld9 => ?_)
                · ((try dsimp only); (first | exact ⟨P.c0, P.c1, P.c2⟩))
                clear hB hK K hHeld8
                refine AnyB.none (by kernel_rfl) ?_ _
                go_wp2_with fail
                go_meet
                exact ⟨g4, g5, gI, cI, gJ, cJ, rfl, rfl, N4.c0, N4.c1, N4.c2, N5.c0, N5.c1, N5.c2, N5.f0, N5.f1, N5.f2, e45, e5I, e5J, l5, I0.out, I1.out, bz.out⟩
              exact EachB.nil
            exact EachB.nil
          exact EachB.nil
        exact EachB.nil
      refine EachB.cons rfl (fun K hK hB => ?_) ?_
      · skip
        ((try (have P0 : Box3 w1.drew w.heap.size (.int .i64 (m : Int)) (.slice A m c) (.slice A2 m c2) := P; clear P0; generalize w1.drew = wz at *)); go_simp; have N4 := Box3.new wz (.int .i64 0) (.slice none 0 0) (.slice none 0 0) 30; have l4 := bz.out.size; (try (have e4I : gI ≠ wz.heap.size := Nat.ne_of_lt hI1; have e4J : gJ ≠ wz.heap.size := Nat.ne_of_lt hJ1; replace I0 := Lib.hid (rd_far I0.out (Far.alloc wz (.cells #[.int .i64 0, .slice none 0 0, .slice none 0 0] 30)) e4I); replace I1 := Lib.hid (rd_far I1.out (Far.alloc wz (.cells #[.int .i64 0, .slice none 0 0, .slice none 0 0] 30)) e4J); replace hI1 := Nat.lt_of_lt_of_le hI1 (Far.alloc wz (.cells #[.int .i64 0, .slice none 0 0, .slice none 0 0] 30)).size; replace hJ1 := Nat.lt_of_lt_of_le hJ1 (Far.alloc wz (.cells #[.int .i64 0, .slice none 0 0, .slice none 0 0] 30)).size)); (try (have e45 := Nat.ne_of_gt N5.lt; replace N5 := N5.alloc (.cells #[.int .i64 0, .slice none 0 0, .slice none 0 0] 30))); replace P := P.alloc (.cells #[.int .i64 0, .slice none 0 0, .slice none 0 0] 30); replace bz := Lib.hid (show Below w1.heap.size w1 (wz.alloc (.cells #[.int .i64 0, .slice none 0 0, .slice none 0 0] 30)) from Below.alloc bz.out bz.out.size _); generalize wz.alloc (.cells #[.int .i64 0, .slice none 0 0, .slice none 0 0] 30) = wC at *; generalize wz.heap.size = g4 at *; obtain ⟨wz, rfl⟩ : ∃ x : World, x = wC := ⟨_, rfl⟩)
        refine hK.out _ _ ?_ (fun hHeld10 => ?_)
        · ((try dsimp only); (first | exact ⟨P.c0, P.c1, P.c2⟩))
        clear hB hK K hHeld0
        refine AnyB.each (rs := [2, 5]) (by kernel_rfl) (by simp) ?_
        refine EachB.cons rfl (fun K hK hB => ?_) ?_
        · skip
          ((try (have P0 : Box3 w1.drew w.heap.size (.int .i64 (m : Int)) (.slice A m c) (.slice A2 m c2) := P; clear P0; generalize w1.drew = wz at *)); go_simp; go_at_call 31; refine (impl_identity_any (m : Int) _ (by omega) (by omega)).mono ?_; rintro e wC ⟨q0, q1, rfl, ho0, ho1, _, hbC⟩; rw [Int.toNat_natCast] at ho0 ho1; obtain ⟨gI, cI, rfl, hI0, hI1⟩ := own_E3 ho0 (idX_len m) (by omega); obtain ⟨gJ, cJ, rfl, hJ0, hJ1⟩ := own_E3 ho1 (idZ_len m) (by omega); have I0 := Lib.hid (OwnE.rd ho0); have I1 := Lib.hid (OwnE.rd ho1); clear ho0 ho1; (try (have e4I : gI ≠ g4 := Nat.ne_of_gt (Nat.lt_of_lt_of_le N4.lt hI0); have e4J : gJ ≠ g4 := Nat.ne_of_gt (Nat.lt_of_lt_of_le N4.lt hJ0); replace N4 := N4.call hbC)); (try (have e5I : gI ≠ g5 := Nat.ne_of_gt (Nat.lt_of_lt_of_le N5.lt hI0); have e5J : gJ ≠ g5 := Nat.ne_of_gt (Nat.lt_of_lt_of_le N5.lt hJ0); replace N5 := N5.call hbC)); replace P := P.call hbC; replace bz := Lib.hid (show Below w1.heap.size w1 wC from Below.trans bz.out (hbC.mono bz.out.size)); clear hI0 hJ0 hbC; obtain ⟨wz, rfl⟩ : ∃ x : World, x = wC := ⟨_, rfl⟩; dsimp only)
          refine hK.out _ _ ?_ (fun hHeld11 => ?_)
          · ((try dsimp only); (first | exact ⟨P.c0, P.c1, P.c2⟩))
          clear hB hK K hHeld10
          refine AnyB.each (rs := [5]) (by kernel_rfl) (by simp) ?_
          refine EachB.cons rfl (fun K hK hB => ?_) ?_
          · skip
            ((try (have P0 : Box3 w1.drew w.heap.size (.int .i64 (m : Int)) (.slice A m c) (.slice A2 m c2) := P; clear P0; generalize w1.drew = wz at *)); go_simp; have N5 := Box3.new wz (.int .i64 0) (.slice none 0 0) (.slice none 0 0) 30; have l5 := bz.out.size; (try (have e5I : gI ≠ wz.heap.size := Nat.ne_of_lt hI1; have e5J : gJ ≠ wz.heap.size := Nat.ne_of_lt hJ1; replace I0 := Lib.hid (rd_far I0.out (Far.alloc wz (.cells #[.int .i64 0, .slice none 0 0, .slice none 0 0] 30)) e5I); replace I1 := Lib.hid (rd_far I1.out (Far.alloc wz (.cells #[.int .i64 0, .slice none 0 0, .slice none 0 0] 30)) e5J); replace hI1 := Nat.lt_of_lt_of_le hI1 (Far.alloc wz (.cells #[.int .i64 0, .slice none 0 0, .slice none 0 0] 30)).size; replace hJ1 := Nat.lt_of_lt_of_le hJ1 (Far.alloc wz (.cells #[.int .i64 0, .slice none 0 0, .slice none 0 0] 30)).size)); (try (have e45 := Nat.ne_of_lt N4.lt; replace N4 := N4.alloc (.cells #[.int .i64 0, .slice none 0 0, .slice none 0 0] 30))); replace P := P.alloc (.cells #[.int .i64 0, .slice none 0 0, .slice none 0 0] 30); replace bz := Lib.hid (show Below w1.heap.size w1 (wz.alloc (.cells #[.int .i64 0, .slice none 0 0, .slice none 0 0] 30)) from Below.alloc bz.out bz.out.size _); generalize wz.alloc (.cells #[.int .i64 0, .slice none 0 0, .slice none 0 0] 30) = wC at *; generalize wz.heap.size = g5 at *; obtain ⟨wz, rfl⟩ : ∃ x : World, x = wC := ⟨_, rfl⟩)
            refine hK.out _ _ ?_ (fun hHeld12 => ?_)
            · ((try dsimp only); (first | exact ⟨P.c0, P.c1, P.c2⟩))
            clear hB hK K hHeld11
            refine AnyB.each (rs := [6]) (by kernel_rfl) (by simp) ?_
            refine EachB.cons rfl (fun K hK hB => ?_) ?_
            · skip
              ((try (have P0 : Box3 w1.drew w.heap.size (.int .i64 (m : Int)) (.slice A m c) (.slice A2 m c2) := P; clear P0; generalize w1.drew = wz at *)); have C0 := N4.c0; have C1 := N4.c1; have C2 := N4.c2; have G0 := N4.f0; have G1 := N4.f1; have G2 := N4.f2; go_simp; clear C0 C1 C2 G0 G1 G2; have kf := Far.set3 wz g4 (.int .i64 (m : Int)) (.slice (some ⟨gI, 0, none⟩) m cI) (.slice (some ⟨gJ, 0, none⟩) m cJ); replace N4 := N4.set (.int .i64 (m : Int)) (.slice (some ⟨gI, 0, none⟩) m cI) (.slice (some ⟨gJ, 0, none⟩) m cJ); (try replace N5 := N5.far kf e45.symm); (try (replace I0 := Lib.hid (rd_far I0.out kf e4I); replace I1 := Lib.hid (rd_far I1.out kf e4J); replace hI1 := Nat.lt_of_lt_of_le hI1 kf.size; replace hJ1 := Nat.lt_of_lt_of_le hJ1 kf.size)); replace P := P.far kf (Nat.ne_of_lt (Nat.lt_of_lt_of_le hbp l4)); replace bz := Lib.hid (below_put3 bz.out l4 (.int .i64 (m : Int)) (.slice (some ⟨gI, 0, none⟩) m cI) (.slice (some ⟨gJ, 0, none⟩) m cJ)); clear kf; rw [show (((wz.setCell ⟨g4, 0, none⟩ (.int .i64 (m : Int))).setCell ⟨g4, 1, none⟩ (.slice (some ⟨gI, 0, none⟩) m cI)).setCell ⟨g4, 2, none⟩ (.slice (some ⟨gJ, 0, none⟩) m cJ)) = set3 wz g4 (.int .i64 (m : Int)) (.slice (some ⟨gI, 0, none⟩) m cI) (.slice (some ⟨gJ, 0, none⟩) m cJ) from rfl]; generalize set3 wz g4 (.int .i64 (m : Int)) (.slice (some ⟨gI, 0, none⟩) m cI) (.slice (some ⟨gJ, 0, none⟩) m cJ) = wC at *; obtain ⟨wz, rfl⟩ : ∃ x : World, x = wC := ⟨_, rfl⟩)
              refine hK.out _ _ ?_ (fun hHeld13 => ?_)
              · ((try dsimp only); (first | exact ⟨P.c0, P.c1, P.c2⟩))
              clear hB hK K hHeld12
              refine AnyB.each (rs := [7]) (by kernel_rfl) (by simp) ?_
              refine EachB.cons rfl (fun K hK hB => ?_) ?_
              · skip
                ((try (have P0 : Box3 w1.drew w.heap.size (.int .i64 (m : Int)) (.slice A m c) (.slice A2 m c2) := P; clear P0; generalize w1.drew = wz at *)); have C0 := N5.c0; have C1 := N5.c1; have C2 := N5.c2; have G0 := N5.f0; have G1 := N5.f1; have G2 := N5.f2; go_simp; clear C0 C1 C2 G0 G1 G2; have kf := Far.set3 wz g5 (.int .i64 (m : Int)) (.slice A m c) (.slice A2 m c2); replace N5 := N5.set (.int .i64 (m : Int)) (.slice A m c) (.slice A2 m c2); (try replace N4 := N4.far kf e45); (try (replace I0 := Lib.hid (rd_far I0.out kf e5I); replace I1 := Lib.hid (rd_far I1.out kf e5J); replace hI1 := Nat.lt_of_lt_of_le hI1 kf.size; replace hJ1 := Nat.lt_of_lt_of_le hJ1 kf.size)); replace P := P.far kf (Nat.ne_of_lt (Nat.lt_of_lt_of_le hbp l5)); replace bz := Lib.hid (below_put3 bz.out l5 (.int .i64 (m : Int)) (.slice A m c) (.slice A2 m c2)); clear kf; rw [show (((wz.setCell ⟨g5, 0, none⟩ (.int .i64 (m : Int))).setCell ⟨g5, 1, none⟩ (.slice A m c)).setCell ⟨g5, 2, none⟩ (.slice A2 m c2)) = set3 wz g5 (.int .i64 (m : Int)) (.slice A m c) (.slice A2 m c2) from rfl]; generalize set3 wz g5 (.int .i64 (m : Int)) (.slice A m c) (.slice A2 m c2) = wC at *; obtain ⟨wz, rfl⟩ : ∃ x : World, x = wC := ⟨_, rfl⟩)
                refine hK.out _ _ ?_ (fun hHeld14 => ?_)
                · ((try dsimp only); (first | exact ⟨P.c0, P.c1, P.c2⟩))
                clear hB hK K hHeld13
                refine AnyB.none (by kernel_rfl) ?_ _
                go_wp2_with fail
                go_meet
                exact ⟨g4, g5, gI, cI, gJ, cJ, rfl, rfl, N4.c0, N4.c1, N4.c2, N5.c0, N5.c1, N5.c2, N5.f0, N5.f1, N5.f2, e45, e5I, e5J, l5, I0.out, I1.out, bz.out⟩
              exact EachB.nil
            exact EachB.nil
          exact EachB.nil
        refine EachB.cons rfl (fun K hK hB => ?_) ?_
        · skip
          ((try (have P0 : Box3 w1.drew w.heap.size (.int .i64 (m : Int)) (.slice A m c) (.slice A2 m c2) := P; clear P0; generalize w1.drew = wz at *)); go_simp; have N5 := Box3.new wz (.int .i64 0) (.slice none 0 0) (.slice none 0 0) 30; have l5 := bz.out.size; (try (have e5I : gI ≠ wz.heap.size := Nat.ne_of_lt hI1; have e5J : gJ ≠ wz.heap.size := Nat.ne_of_lt hJ1; replace I0 := Lib.hid (rd_far I0.out (Far.alloc wz (.cells #[.int .i64 0, .slice none 0 0, .slice none 0 0] 30)) e5I); replace I1 := Lib.hid (rd_far I1.out (Far.alloc wz (.cells #[.int .i64 0, .slice none 0 0, .slice none 0 0] 30)) e5J); replace hI1 := Nat.lt_of_lt_of_le hI1 (Far.alloc wz (.cells #[.int .i64 0, .slice none 0 0, .slice none 0 0] 30)).size; replace hJ1 := Nat.lt_of_lt_of_le hJ1 (Far.alloc wz (.cells #[.int .i64 0, .slice none 0 0, .slice none 0 0] 30)).size)); (try (have e45 := Nat.ne_of_lt N4.lt; replace N4 := N4.alloc (.cells #[.int .i64 0, .slice none 0 0, .slice none 0 0] 30))); replace P := P.alloc (.cells #[.int .i64 0, .slice none 0 0, .slice none 0 0] 30); replace bz := Lib.hid (show Below w1.heap.size w1 (wz.alloc (.cells #[.int .i64 0, .slice none 0 0, .slice none 0 0] 30)) from Below.alloc bz.out bz.out.size _); generalize wz.alloc (.cells #[.int .i64 0, .slice none 0 0, .slice none 0 0] 30) = wC at *; generalize wz.heap.size = g5 at *; obtain ⟨wz, rfl⟩ : ∃ x : World, x = wC := ⟨_, rfl⟩)
          refine hK.out _ _ ?_ (fun hHeld15 => ?_)
          · ((try dsimp only); (first | exact ⟨P.c0, P.c1, P.c2⟩))
          clear hB hK K hHeld10
          refine AnyB.each (rs := [2]) (by kernel_rfl) (by simp) ?_
          refine EachB.cons rfl (fun K hK hB => ?_) ?_
          · skip
            ((try (have P0 : Box3 w1.drew w.heap.size (.int .i64 (m : Int)) (.slice A m c) (.slice A2 m c2) := P; clear P0; generalize w1.drew = wz at *)); go_simp; go_at_call 31; refine (impl_identity_any (m : Int) _ (by omega) (by omega)).mono ?_; rintro e wC ⟨q0, q1, rfl, ho0, ho1, _, hbC⟩; rw [Int.toNat_natCast] at ho0 ho1; obtain ⟨gI, cI, rfl, hI0, hI1⟩ := own_E3 ho0 (idX_len m) (by omega); obtain ⟨gJ, cJ, rfl, hJ0, hJ1⟩ := own_E3 ho1 (idZ_len m) (by omega); have I0 := Lib.hid (OwnE.rd ho0); have I1 := Lib.hid (OwnE.rd ho1); clear ho0 ho1; (try (have e4I : gI ≠ g4 := Nat.ne_of_gt (Nat.lt_of_lt_of_le N4.lt hI0); have e4J : gJ ≠ g4 := Nat.ne_of_gt (Nat.lt_of_lt_of_le N4.lt hJ0); replace N4 := N4.call hbC)); (try (have e5I : gI ≠ g5 := Nat.ne_of_gt (Nat.lt_of_lt_of_le N5.lt hI0); have e5J : gJ ≠ g5 := Nat.ne_of_gt (Nat.lt_of_lt_of_le N5.lt hJ0); replace N5 := N5.call hbC)); replace P := P.call hbC; replace bz := Lib.hid (show Below w1.heap.size w1 wC from Below.trans bz.out (hbC.mono bz.out.size)); clear hI0 hJ0 hbC; obtain ⟨wz, rfl⟩ : ∃ x : World, x = wC := ⟨_, rfl⟩; dsimp only)
            refine hK.out _ _ ?_ (fun hHeld16 => ?_)
            · ((try dsimp only); (first | exact ⟨P.c0, P.c1, P.c2⟩))
            clear hB hK K hHeld15
            refine AnyB.each (rs := [6]) (by kernel_rfl) (by simp) ?_
            refine EachB.cons rfl (fun K hK hB => ?_) ?_
            · skip
              ((try (have P0 : Box3 w1.drew w.heap.size (.int .i64 (m : Int)) (.slice A m c) (.slice A2 m c2) := P; clear P0; generalize w1.drew = wz at *)); have C0 := N4.c0; have C1 := N4.c1; have C2 := N4.c2; have G0 := N4.f0; have G1 := N4.f1; have G2 := N4.f2; go_simp; clear C0 C1 C2 G0 G1 G2; have kf := Far.set3 wz g4 (.int .i64 (m : Int)) (.slice (some ⟨gI, 0, none⟩) m cI) (.slice (some ⟨gJ, 0, none⟩) m cJ); replace N4 := N4.set (.int .i64 (m : Int)) (.slice (some ⟨gI, 0, none⟩) m cI) (.slice (some ⟨gJ, 0, none⟩) m cJ); (try replace N5 := N5.far kf e45.symm); (try (replace I0 := Lib.hid (rd_far I0.out kf e4I); replace I1 := Lib.hid (rd_far I1.out kf e4J); replace hI1 := Nat.lt_of_lt_of_le hI1 kf.size; replace hJ1 := Nat.lt_of_lt_of_le hJ1 kf.size)); replace P := P.far kf (Nat.ne_of_lt (Nat.lt_of_lt_of_le hbp l4)); replace bz := Lib.hid (below_put3 bz.out l4 (.int .i64 (m : Int)) (.slice (some ⟨gI, 0, none⟩) m cI) (.slice (some ⟨gJ, 0, none⟩) m cJ)); clear kf; rw [show (((wz.setCell ⟨g4, 0, none⟩ (.int .i64 (m : Int))).setCell ⟨g4, 1, none⟩ (.slice (some ⟨gI, 0, none⟩) m cI)).setCell ⟨g4, 2, none⟩ (.slice (some ⟨gJ, 0, none⟩) m cJ)) = set3 wz g4 (.int .i64 (m : Int)) (.slice (some ⟨gI, 0, none⟩) m cI) (.slice (some ⟨gJ, 0, none⟩) m cJ) from rfl]; generalize set3 wz g4 (.int .i64 (m : Int)) (.slice (some ⟨gI, 0, none⟩) m cI) (.slice (some ⟨gJ, 0, none⟩) m cJ) = wC at *; obtain ⟨wz, rfl⟩ : ∃ x : World, x = wC := ⟨_, rfl⟩)
              refine hK.out _ _ ?_ (fun hHeld17 => ?_)
              · ((try dsimp only); (first | exact ⟨P.c0, P.c1, P.c2⟩))
              clear hB hK K hHeld16
              refine AnyB.each (rs := [7]) (by kernel_rfl) (by simp) ?_
              refine EachB.cons rfl (fun K hK hB => ?_) ?_
              · skip
                ((try (have P0 : Box3 w1.drew w.heap.size (.int .i64 (m : Int)) (.slice A m c) (.slice A2 m c2) := P; clear P0; generalize w1.drew = wz at *)); have C0 := N5.c0; have C1 := N5.c1; have C2 := N5.c2; have G0 := N5.f0; have G1 := N5.f1; have G2 := N5.f2; go_simp; clear C0 C1 C2 G0 G1 G2; have kf := Far.set3 wz g5 (.int .i64 (m : Int)) (.slice A m c) (.slice A2 m c2); replace N5 := N5.set (.int .i64 (m : Int)) (.slice A m c) (.slice A2 m c2); (try replace N4 := N4.far kf e45); (try (replace I0 := Lib.hid (rd_far I0.out kf e5I); replace I1 := Lib.hid (rd_far I1.out kf e5J); replace hI1 := Nat.lt_of_lt_of_le hI1 kf.size; replace hJ1 := Nat.lt_of_lt_of_le hJ1 kf.size)); replace P := P.far kf (Nat.ne_of_lt (Nat.lt_of_lt_of_le hbp l5)); replace bz := Lib.hid (below_put3 bz.out l5 (.int .i64 (m : Int)) (.slice A m c) (.slice A2 m c2)); clear kf; rw [show (((wz.setCell ⟨g5, 0, none⟩ (.int .i64 (m : Int))).setCell ⟨g5, 1, none⟩ (.slice A m c)).setCell ⟨g5, 2, none⟩ (.slice A2 m c2)) = set3 wz g5 (.int .i64 (m : Int)) (.slice A m c) (.slice A2 m c2) from rfl]; generalize set3 wz g5 (.int .i64 (m : Int)) (.slice A m c) (.slice A2 m c2) = wC at *; obtain ⟨wz, rfl⟩ : ∃ x : World, x = wC := ⟨_, rfl⟩)
                refine hK.out _ _ ?_ (fun hHeld18 => ?_)
                · ((try dsimp only); (first | exact ⟨P.c0, P.c1, P.c2⟩))
                clear hB hK K hHeld17
                refine AnyB.none (by kernel_rfl) ?_ _
                go_wp2_with fail
                go_meet
                exact ⟨g4, g5, gI, cI, gJ, cJ, rfl, rfl, N4.c0, N4.c1, N4.c2, N5.c0, N5.c1, N5.c2, N5.f0, N5.f1, N5.f2, e45, e5I, e5J, l5, I0.out, I1.out, bz.out⟩
              exact EachB.nil
            exact EachB.nil
          exact EachB.nil
        exact EachB.nil
      refine EachB.cons rfl (fun K hK hB => ?_) ?_
      · skip
        ((try (have P0 : Box3 w1.drew w.heap.size (.int .i64 (m : Int)) (.slice A m c) (.slice A2 m c2) := P; clear P0; generalize w1.drew = wz at *)); go_simp; have N5 := Box3.new wz (.int .i64 0) (.slice none 0 0) (.slice none 0 0) 30; have l5 := bz.out.size; (try (have e5I : gI ≠ wz.heap.size := Nat.ne_of_lt hI1; have e5J : gJ ≠ wz.heap.size := Nat.ne_of_lt hJ1; replace I0 := Lib.hid (rd_far I0.out (Far.alloc wz (.cells #[.int .i64 0, .slice none 0 0, .slice none 0 0] 30)) e5I); replace I1 := Lib.hid (rd_far I1.out (Far.alloc wz (.cells #[.int .i64 0, .slice none 0 0, .slice none 0 0] 30)) e5J); replace hI1 := Nat.lt_of_lt_of_le hI1 (Far.alloc wz (.cells #[.int .i64 0, .slice none 0 0, .slice none 0 0] 30)).size; replace hJ1 := Nat.lt_of_lt_of_le hJ1 (Far.alloc wz (.cells #[.int .i64 0, .slice none 0 0, .slice none 0 0] 30)).size)); (try (have e45 := Nat.ne_of_lt N4.lt; replace N4 := N4.alloc (.cells #[.int .i64 0, .slice none 0 0, .slice none 0 0] 30))); replace P := P.alloc (.cells #[.int .i64 0, .slice none 0 0, .slice none 0 0] 30); replace bz := Lib.hid (show Below w1.heap.size w1 (wz.alloc (.cells #[.int .i64 0, .slice none 0 0, .slice none 0 0] 30)) from Below.alloc bz.out bz.out.size _); generalize wz.alloc (.cells #[.int .i64 0, .slice none 0 0, .slice none 0 0] 30) = wC at *; generalize wz.heap.size = g5 at *; obtain ⟨wz, rfl⟩ : ∃ x : World, x = wC := ⟨_, rfl⟩)
        refine hK.out _ _ ?_ (fun hHeld19 => ?_)
        · ((try dsimp only); (first | exact ⟨P.c0, P.c1, P.c2⟩))
        clear hB hK K hHeld0
        refine AnyB.each (rs := [2, 4]) (by kernel_rfl) (by simp) ?_
        refine EachB.cons rfl (fun K hK hB => ?_) ?_
        · skip
          ((try (have P0 : Box3 w1.drew w.heap.size (.int .i64 (m : Int)) (.slice A m c) (.slice A2 m c2) := P; clear P0; generalize w1.drew = wz at *)); go_simp; go_at_call 31; refine (impl_identity_any (m : Int) _ (by omega) (by omega)).mono ?_; rintro e wC ⟨q0, q1, rfl, ho0, ho1, _, hbC⟩; rw [Int.toNat_natCast] at ho0 ho1; obtain ⟨gI, cI, rfl, hI0, hI1⟩ := own_E3 ho0 (idX_len m) (by omega); obtain ⟨gJ, cJ, rfl, hJ0, hJ1⟩ := own_E3 ho1 (idZ_len m) (by omega); have I0 := Lib.hid (OwnE.rd ho0); have I1 := Lib.hid (OwnE.rd ho1); clear ho0 ho1; (try (have e4I : gI ≠ g4 := Nat.ne_of_gt (Nat.lt_of_lt_of_le N4.lt hI0); have e4J : gJ ≠ g4 := Nat.ne_of_gt (Nat.lt_of_lt_of_le N4.lt hJ0); replace N4 := N4.call hbC)); (try (have e5I : gI ≠ g5 := Nat.ne_of_gt (Nat.lt_of_lt_of_le N5.lt hI0); have e5J : gJ ≠ g5 := Nat.ne_of_gt (Nat.lt_of_lt_of_le N5.lt hJ0); replace N5 := N5.call hbC)); replace P := P.call hbC; replace bz := Lib.hid (show Below w1.heap.size w1 wC from Below.trans bz.out (hbC.mono bz.out.size)); clear hI0 hJ0 hbC; obtain ⟨wz, rfl⟩ : ∃ x : World, x = wC := ⟨_, rfl⟩; dsimp only)
          refine hK.out _ _ ?_ (fun hHeld20 => ?_)
          · ((try dsimp only); (first | exact ⟨P.c0, P.c1, P.c2⟩))
          clear hB hK K hHeld19
          refine AnyB.each (rs := [4]) (by kernel_rfl) (by simp) ?_
          refine EachB.cons rfl (fun K hK hB => ?_) ?_
          · skip
            ((try (have P0 : Box3 w1.drew w.heap.size (.int .i64 (m : Int)) (.slice A m c) (.slice A2 m c2) := P; clear P0; generalize w1.drew = wz at *)); go_simp; have N4 := Box3.new wz (.int .i64 0) (.slice none 0 0) (.slice none 0 0) 30; have l4 := bz.out.size; (try (have e4I : gI ≠ wz.heap.size := Nat.ne_of_lt hI1; have e4J : gJ ≠ wz.heap.size := Nat.ne_of_lt hJ1; replace I0 := Lib.hid (rd_far I0.out (Far.alloc wz (.cells #[.int .i64 0, .slice none 0 0, .slice none 0 0] 30)) e4I); replace I1 := Lib.hid (rd_far I1.out (Far.alloc wz (.cells #[.int .i64 0, .slice none 0 0, .slice none 0 0] 30)) e4J); replace hI1 := Nat.lt_of_lt_of_le hI1 (Far.alloc wz (.cells #[.int .i64 0, .slice none 0 0, .slice none 0 0] 30)).size; replace hJ1 := Nat.lt_of_lt_of_le hJ1 (Far.alloc wz (.cells #[.int .i64 0, .slice none 0 0, .slice none 0 0] 30)).size)); (try (have e45 := Nat.ne_of_gt N5.lt; replace N5 := N5.alloc (.cells #[.int .i64 0, .slice none 0 0, .slice none 0 0] 30))); replace P := P.alloc (.cells #[.int .i64 0, .slice none 0 0, .slice none 0 0] 30); replace bz := Lib.hid (show Below w1.heap.size w1 (wz.alloc (.cells #[.int .i64 0, .slice none 0 0, .slice none 0 0] 30)) from Below.alloc bz.out bz.out.size _); generalize wz.alloc (.cells #[.int .i64 0, .slice none 0 0, .slice none 0 0] 30) = wC at *; generalize wz.heap.size = g4 at *; obtain ⟨wz, rfl⟩ : ∃ x : World, x = wC := ⟨_, rfl⟩)
            refine hK.out _ _ ?_ (fun hHeld21 => ?_)
            · ((try dsimp only); (first | exact ⟨P.c0, P.c1, P.c2⟩))
            clear hB hK K hHeld20
            refine AnyB.each (rs := [6]) (by kernel_rfl) (by simp) ?_
            refine EachB.cons rfl (fun K hK hB => ?_) ?_
            · skip
              ((try (have P0 : Box3 w1.drew w.heap.size (.int .i64 (m : Int)) (.slice A m c) (.slice A2 m c2) := P; clear P0; generalize w1.drew = wz at *)); have C0 := N4.c0; have C1 := N4.c1; have C2 := N4.c2; have G0 := N4.f0; have G1 := N4.f1; have G2 := N4.f2; go_simp; clear C0 C1 C2 G0 G1 G2; have kf := Far.set3 wz g4 (.int .i64 (m : Int)) (.slice (some ⟨gI, 0, none⟩) m cI) (.slice (some ⟨gJ, 0, none⟩) m cJ); replace N4 := N4.set (.int .i64 (m : Int)) (.slice (some ⟨gI, 0, none⟩) m cI) (.slice (some ⟨gJ, 0, none⟩) m cJ); (try replace N5 := N5.far kf e45.symm); (try (replace I0 := Lib.hid (rd_far I0.out kf e4I); replace I1 := Lib.hid (rd_far I1.out kf e4J); replace hI1 := Nat.lt_of_lt_of_le hI1 kf.size; replace hJ1 := Nat.lt_of_lt_of_le hJ1 kf.size)); replace P := P.far kf (Nat.ne_of_lt (Nat.lt_of_lt_of_le hbp l4)); replace bz := Lib.hid (below_put3 bz.out l4 (.int .i64 (m : Int)) (.slice (some ⟨gI, 0, none⟩) m cI) (.slice (some ⟨gJ, 0, none⟩) m cJ)); clear kf; rw [show (((wz.setCell ⟨g4, 0, none⟩ (.int .i64 (m : Int))).setCell ⟨g4, 1, none⟩ (.slice (some ⟨gI, 0, none⟩) m cI)).setCell ⟨g4, 2, none⟩ (.slice (some ⟨gJ, 0, none⟩) m cJ)) = set3 wz g4 (.int .i64 (m : Int)) (.slice (some ⟨gI, 0, none⟩) m cI) (.slice (some ⟨gJ, 0, none⟩) m cJ) from rfl]; generalize set3 wz g4 (.int .i64 (m : Int)) (.slice (some ⟨gI, 0, none⟩) m cI) (.slice (some ⟨gJ, 0, none⟩) m cJ) = wC at *; obtain ⟨wz, rfl⟩ : ∃ x : World, x = wC := ⟨_, rfl⟩)
              refine hK.out _ _ ?_ (fun hHeld22 => ?_)
              · ((try dsimp only); (first | exact ⟨P.c0, P.c1, P.c2⟩))
              clear hB hK K hHeld21
              refine AnyB.each (rs := [7]) (by kernel_rfl) (by simp) ?_
              refine EachB.cons rfl (fun K hK hB => ?_) ?_
              · skip
                ((try (have P0 : Box3 w1.drew w.heap.size (.int .i64 (m : Int)) (.slice A m c) (.slice A2 m c2) := P; clear P0; generalize w1.drew = wz at *)); have C0 := N5.c0; have C1 := N5.c1; have C2 := N5.c2; have G0 := N5.f0; have G1 := N5.f1; have G2 := N5.f2; go_simp; clear C0 C1 C2 G0 G1 G2; have kf := Far.set3 wz g5 (.int .i64 (m : Int)) (.slice A m c) (.slice A2 m c2); replace N5 := N5.set (.int .i64 (m : Int)) (.slice A m c) (.slice A2 m c2); (try replace N4 := N4.far kf e45); (try (replace I0 := Lib.hid (rd_far I0.out kf e5I); replace I1 := Lib.hid (rd_far I1.out kf e5J); replace hI1 := Nat.lt_of_lt_of_le hI1 kf.size; replace hJ1 := Nat.lt_of_lt_of_le hJ1 kf.size)); replace P := P.far kf (Nat.ne_of_lt (Nat.lt_of_lt_of_le hbp l5)); replace bz := Lib.hid (below_put3 bz.out l5 (.int .i64 (m : Int)) (.slice A m c) (.slice A2 m c2)); clear kf; rw [show (((wz.setCell ⟨g5, 0, none⟩ (.int .i64 (m : Int))).setCell ⟨g5, 1, none⟩ (.slice A m c)).setCell ⟨g5, 2, none⟩ (.slice A2 m c2)) = set3 wz g5 (.int .i64 (m : Int)) (.slice A m c) (.slice A2 m c2) from rfl]; generalize set3 wz g5 (.int .i64 (m : Int)) (.slice A m c) (.slice A2 m c2) = wC at *; obtain ⟨wz, rfl⟩ : ∃ x : World, x = wC := ⟨_, rfl⟩)
                refine hK.out _ _ ?_ (fun hHeld23 => ?_)
                · ((try dsimp only); (first | exact ⟨P.c0, P.c1, P.c2⟩))
                clear hB hK K hHeld22
                refine AnyB.none (by kernel_rfl) ?_ _
                go_wp2_with fail
                go_meet
                exact ⟨g4, g5, gI, cI, gJ, cJ, rfl, rfl, N4.c0, N4.c1, N4.c2, N5.c0, N5.c1, N5.c2, N5.f0, N5.f1, N5.f2, e45, e5I, e5J, l5, I0.out, I1.out, bz.out⟩
              exact EachB.nil
            exact EachB.nil
          exact EachB.nil
        refine EachB.cons rfl (fun K hK hB => ?_) ?_
        · skip
          ((try (have P0 : Box3 w1.drew w.heap.size (.int .i64 (m : Int)) (.slice A m c) (.slice A2 m c2) := P; clear P0; generalize w1.drew = wz at *)); go_simp; have N4 := Box3.new wz (.int .i64 0) (.slice none 0 0) (.slice none 0 0) 30; have l4 := bz.out.size; (try (have e4I : gI ≠ wz.heap.size := Nat.ne_of_lt hI1; have e4J : gJ ≠ wz.heap.size := Nat.ne_of_lt hJ1; replace I0 := Lib.hid (rd_far I0.out (Far.alloc wz (.cells #[.int .i64 0, .slice none 0 0, .slice none 0 0] 30)) e4I); replace I1 := Lib.hid (rd_far I1.out (Far.alloc wz (.cells #[.int .i64 0, .slice none 0 0, .slice none 0 0] 30)) e4J); replace hI1 := Nat.lt_of_lt_of_le hI1 (Far.alloc wz (.cells #[.int .i64 0, .slice none 0 0, .slice none 0 0] 30)).size; replace hJ1 := Nat.lt_of_lt_of_le hJ1 (Far.alloc wz (.cells #[.int .i64 0, .slice none 0 0, .slice none 0 0] 30)).size)); (try (have e45 := Nat.ne_of_gt N5.lt; replace N5 := N5.alloc (.cells #[.int .i64 0, .slice none 0 0, .slice none 0 0] 30))); replace P := P.alloc (.cells #[.int .i64 0, .slice none 0 0, .slice none 0 0] 30); replace bz := Lib.hid (show Below w1.heap.size w1 (wz.alloc (.cells #[.int .i64 0, .slice none 0 0, .slice none 0 0] 30)) from Below.alloc bz.out bz.out.size _); generalize wz.alloc (.cells #[.int .i64 0, .slice none 0 0, .slice none 0 0] 30) = wC at *; generalize wz.heap.size = g4 at *; obtain ⟨wz, rfl⟩ : ∃ x : World, x = wC := ⟨_, rfl⟩)
          refine hK.out _ _ ?_ (fun hHeld24 => ?_)
          · ((try dsimp only); (first | exact ⟨P.c0, P.c1, P.c2⟩))
          clear hB hK K hHeld19
          refine AnyB.each (rs := [2]) (by kernel_rfl) (by simp) ?_
          refine EachB.cons rfl (fun K hK hB => ?_) ?_
          · skip
            ((try (have P0 : Box3 w1.drew w.heap.size (.int .i64 (m : Int)) (.slice A m c) (.slice A2 m c2) := P; clear P0; generalize w1.drew = wz at *)); go_simp; go_at_call 31; refine (impl_identity_any (m : Int) _ (by omega) (by omega)).mono ?_; rintro e wC ⟨q0, q1, rfl, ho0, ho1, _, hbC⟩; rw [Int.toNat_natCast] at ho0 ho1; obtain ⟨gI, cI, rfl, hI0, hI1⟩ := own_E3 ho0 (idX_len m) (by omega); obtain ⟨gJ, cJ, rfl, hJ0, hJ1⟩ := own_E3 ho1 (idZ_len m) (by omega); have I0 := Lib.hid (OwnE.rd ho0); have I1 := Lib.hid (OwnE.rd ho1); clear ho0 ho1; (try (have e4I : gI ≠ g4 := Nat.ne_of_gt (Nat.lt_of_lt_of_le N4.lt hI0); have e4J : gJ ≠ g4 := Nat.ne_of_gt (Nat.lt_of_lt_of_le N4.lt hJ0); replace N4 := N4.call hbC)); (try (have e5I : gI ≠ g5 := Nat.ne_of_gt (Nat.lt_of_lt_of_le N5.lt hI0); have e5J : gJ ≠ g5 := Nat.ne_of_gt (Nat.lt_of_lt_of_le N5.lt hJ0); replace N5 := N5.call hbC)); replace P := P.call hbC; replace bz := Lib.hid (show Below w1.heap.size w1 wC from Below.trans bz.out (hbC.mono bz.out.size)); clear hI0 hJ0 hbC; obtain ⟨wz, rfl⟩ : ∃ x : World, x = wC := ⟨_, rfl⟩; dsimp only)
            refine hK.out _ _ ?_ (fun hHeld25 => ?_)
            · ((try dsimp only); (first | exact ⟨P.c0, P.c1, P.c2⟩))
            clear hB hK K hHeld24
            refine AnyB.each (rs := [6]) (by kernel_rfl) (by simp) ?_
            refine EachB.cons rfl (fun K hK hB => ?_) ?_
            · skip
              ((try (have P0 : Box3 w1.drew w.heap.size (.int .i64 (m : Int)) (.slice A m c) (.slice A2 m c2) := P; clear P0; generalize w1.drew = wz at *)); have C0 := N4.c0; have C1 := N4.c1; have C2 := N4.c2; have G0 := N4.f0; have G1 := N4.f1; have G2 := N4.f2; go_simp; clear C0 C1 C2 G0 G1 G2; have kf := Far.set3 wz g4 (.int .i64 (m : Int)) (.slice (some ⟨gI, 0, none⟩) m cI) (.slice (some ⟨gJ, 0, none⟩) m cJ); replace N4 := N4.set (.int .i64 (m : Int)) (.slice (some ⟨gI, 0, none⟩) m cI) (.slice (some ⟨gJ, 0, none⟩) m cJ); (try replace N5 := N5.far kf e45.symm); (try (replace I0 := Lib.hid (rd_far I0.out kf e4I); replace I1 := Lib.hid (rd_far I1.out kf e4J); replace hI1 := Nat.lt_of_lt_of_le hI1 kf.size; replace hJ1 := Nat.lt_of_lt_of_le hJ1 kf.size)); replace P := P.far kf (Nat.ne_of_lt (Nat.lt_of_lt_of_le hbp l4)); replace bz := Lib.hid (below_put3 bz.out l4 (.int .i64 (m : Int)) (.slice (some ⟨gI, 0, none⟩) m cI) (.slice (some ⟨gJ, 0, none⟩) m cJ)); clear kf; rw [show (((wz.setCell ⟨g4, 0, none⟩ (.int .i64 (m : Int))).setCell ⟨g4, 1, none⟩ (.slice (some ⟨gI, 0, none⟩) m cI)).setCell ⟨g4, 2, none⟩ (.slice (some ⟨gJ, 0, none⟩) m cJ)) = set3 wz g4 (.int .i64 (m : Int)) (.slice (some ⟨gI, 0, none⟩) m cI) (.slice (some ⟨gJ, 0, none⟩) m cJ) from rfl]; generalize set3 wz g4 (.int .i64 (m : Int)) (.slice (some ⟨gI, 0, none⟩) m cI) (.slice (some ⟨gJ, 0, none⟩) m cJ) = wC at *; obtain ⟨wz, rfl⟩ : ∃ x : World, x = wC := ⟨_, rfl⟩)
              refine hK.out _ _ ?_ (fun hHeld26 => ?_)
              · ((try dsimp only); (first | exact ⟨P.c0, P.c1, P.c2⟩))
              clear hB hK K hHeld25
              refine AnyB.each (rs := [7]) (by kernel_rfl) (by simp) ?_
              refine EachB.cons rfl (fun K hK hB => ?_) ?_
              · skip
                ((try (have P0 : Box3 w1.drew w.heap.size (.int .i64 (m : Int)) (.slice A m c) (.slice A2 m c2) := P; clear P0; generalize w1.drew = wz at *)); have C0 := N5.c0; have C1 := N5.c1; have C2 := N5.c2; have G0 := N5.f0; have G1 := N5.f1; have G2 := N5.f2; go_simp; clear C0 C1 C2 G0 G1 G2; have kf := Far.set3 wz g5 (.int .i64 (m : Int)) (.slice A m c) (.slice A2 m c2); replace N5 := N5.set (.int .i64 (m : Int)) (.slice A m c) (.slice A2 m c2); (try replace N4 := N4.far kf e45); (try (replace I0 := Lib.hid (rd_far I0.out kf e5I); replace I1 := Lib.hid (rd_far I1.out kf e5J); replace hI1 := Nat.lt_of_lt_of_le hI1 kf.size; replace hJ1 := Nat.lt_of_lt_of_le hJ1 kf.size)); replace P := P.far kf (Nat.ne_of_lt (Nat.lt_of_lt_of_le hbp l5)); replace bz := Lib.hid (below_put3 bz.out l5 (.int .i64 (m : Int)) (.slice A m c) (.slice A2 m c2)); clear kf; rw [show (((wz.setCell ⟨g5, 0, none⟩ (.int .i64 (m : Int))).setCell ⟨g5, 1, none⟩ (.slice A m c)).setCell ⟨g5, 2, none⟩ (.slice A2 m c2)) = set3 wz g5 (.int .i64 (m : Int)) (.slice A m c) (.slice A2 m c2) from rfl]; generalize set3 wz g5 (.int .i64 (m : Int)) (.slice A m c) (.slice A2 m c2) = wC at *; obtain ⟨wz, rfl⟩ : ∃ x : World, x = wC := ⟨_, rfl⟩)
                refine hK.out _ _ ?_ (fun hHeld27 => ?_)
                · ((try dsimp only); (first | exact ⟨P.c0, P.c1, P.c2⟩))
                clear hB hK K hHeld26
                refine AnyB.none (by kernel_rfl) ?_ _
                go_wp2_with fail
                go_meet
                exact ⟨g4, g5, gI, cI, gJ, cJ, rfl, rfl, N4.c0, N4.c1, N4.c2, N5.c0, N5.c1, N5.c2, N5.f0, N5.f1, N5.f2, e45, e5I, e5J, l5, I0.out, I1.out, bz.out⟩
              exact EachB.nil
            exact EachB.nil
          exact EachB.nil
        exact EachB.nil
      exact EachB.nil
    case rest =>
      obtain ⟨g4, g5, gI, cI, gJ, cJ, rfl, rfl, n0, n1, n2, c0, c1, c2', f0, f1, f2, h45, hI5, hJ5, l5, I0, I1, bz2⟩ := hcut
      clear b0 b1 b2 bz P
      have RX1 := Lib.hid (Rd.below RX.out (show Below w.heap.size w wc from Below.trans bw1.out (bz2.out.mono (by omega))) rfl)
      have RZ1 := Lib.hid (Rd.below RZ.out (show Below w.heap.size w wc from Below.trans bw1.out (bz2.out.mono (by omega))) rfl)
      go_wp2_with fail
      go_loopw [6] (fun i wr => ∃ (k : Nat) (a1 : Option Addr) (p1 : Nat) (a2 : Option Addr) (p2 : Nat), k ≤ 1000 ∧ i = .int .i64 ((k : Int) + 1) ∧ wr.cell? ⟨g5, 0, none⟩ = some (.int .i64 (m : Int)) ∧ wr.cell? ⟨g5, 1, none⟩ = some (.slice a1 m p1) ∧ wr.cell? ⟨g5, 2, none⟩ = some (.slice a2 m p2) ∧ wr.frozen? ⟨g5, 0, none⟩ = false ∧ wr.frozen? ⟨g5, 1, none⟩ = false ∧ wr.frozen? ⟨g5, 2, none⟩ = false ∧ wr.cell? ⟨g4, 0, none⟩ = some (.int .i64 (m : Int)) ∧ wr.cell? ⟨g4, 1, none⟩ = some (.slice (some ⟨gI, 0, none⟩) m cI) ∧ wr.cell? ⟨g4, 2, none⟩ = some (.slice (some ⟨gJ, 0, none⟩) m cJ) ∧ Hid (RdE wr (.slice (some ⟨gI, 0, none⟩) m cI) E3.cs 3 (idX m)) ∧ Hid (RdE wr (.slice (some ⟨gJ, 0, none⟩) m cJ) E3.cs 3 (idZ m)) ∧ Hid (RdE wr (.slice a1 m p1) E3.cs 3 (pes (powX X Z m k))) ∧ Hid (RdE wr (.slice a2 m p2) E3.cs 3 (pes (powZ X Z m k))) ∧ Hid (OrdTo X Z m k) ∧ Hid (Below w1.heap.size w1 wr)) (fun i _ => 1001 - (intOf i).toNat)
      case atStart => exact ⟨0, A, c, A2, c2, by omega, rfl, c0, c1, c2', f0, f1, f2, n0, n1, n2, I0.out, I1.out, RX1.out, RZ1.out, (show OrdTo _ _ _ _ from fun q hq => absurd hq (Nat.not_lt_zero _)), bz2.out⟩
      case round =>
        clear RX1 RZ1 c0 c1 c2' f0 f1 f2 n0 n1 n2 I0 I1 bz2
        obtain ⟨k, a1, p1, a2, p2, hk, rfl, c0, c1, c2', f0, f1, f2, n0, n1, n2, I0, I1, hrx, hrz, hord, hbel⟩ := hrel
        have L1 := World.block_lt_of_cell? _ _ c0
        have L2 := World.block_lt_of_cell? _ _ n0
        by_cases hlt : k < 1000
        · have i1 : (k : Int) + 1 ≤ 1000 := by omega
          have i2 : (0 : Int) ≤ (k : Int) := by omega
          have bw := Lib.hid (show Below w.heap.size w wr from Below.trans bw1.out (hbel.out.mono bw1.out.size))
          have t0 := below_cell hbel.out rfl T0.out
          have t1 := below_cell hbel.out rfl T1.out
          have t2 := below_cell hbel.out rfl T2.out
          have KPX := Lib.hid (pes_length (show (powX X Z m k).length = m from by rw [powX_len]; exact KX.out))
          have KPZ := Lib.hid (pes_length (show (powZ X Z m k).length = m from by rw [powZ_len]; exact KZ.out))
          have zr := hbel.out.size
          cases hq : ordAt X Z m k
          all_goals
            have HS := Lib.hid ((ord_dec X Z m k).trans hq)
            have HQ := Lib.hid hq
            clear hq
            go_wp2_with fail
            refine (impl_equalTableaux_any (m : Int) (pes (powX X Z m k)) (pes (powZ X Z m k)) (idX m) (idZ m) _ _ _ _ _ hrx.out hrz.out I0.out I1.out).mono ?_; rintro e w3 ⟨rfl, hb3⟩
            rw [HS.out]
            have y3 := hb3.size
            replace c0 := below_cell hb3 rfl c0; replace c1 := below_cell hb3 rfl c1; replace c2' := below_cell hb3 rfl c2'
            replace n0 := below_cell hb3 rfl n0; replace n1 := below_cell hb3 rfl n1; replace n2 := below_cell hb3 rfl n2
            replace t0 := below_cell hb3 rfl t0; replace t1 := below_cell hb3 rfl t1; replace t2 := below_cell hb3 rfl t2
            replace f0 := below_frz hb3 rfl (by omega) f0; replace f1 := below_frz hb3 rfl (by omega) f1; replace f2 := below_frz hb3 rfl (by omega) f2
            replace I0 := Lib.hid (Rd.below I0.out hb3 rfl); replace I1 := Lib.hid (Rd.below I1.out hb3 rfl)
            replace hrx := Lib.hid (Rd.below hrx.out hb3 rfl); replace hrz := Lib.hid (Rd.below hrz.out hb3 rfl)
            replace hbel := Lib.hid (show Below w1.heap.size w1 w3 from Below.trans hbel.out (hb3.mono (by omega)))
            clear hb3 bw
          · go_wp2_with fail
            have RXw := Lib.hid (Rd.below RX.out (show Below w.heap.size w w3 from Below.trans bw1.out (hbel.out.mono bw1.out.size)) rfl)
            have RZw := Lib.hid (Rd.below RZ.out (show Below w.heap.size w w3 from Below.trans bw1.out (hbel.out.mono bw1.out.size)) rfl)
            refine (impl_compose_any m (powX X Z m k) (powZ X Z m k) X Z _ _ _ _ _ m5 (by rw [powX_len]; exact KX.out) (by rw [powZ_len]; exact KZ.out) KX.out KZ.out (powX_lt OX.out OZ.out k).ok (powZ_lt OX.out OZ.out k).ok OX.out.ok OZ.out.ok hrx.out hrz.out RXw.out RZw.out).mono ?_; rintro e w4 ⟨r0, r1, rfl, ho0, ho1, hap, hb4⟩
            replace ho0 : OwnE w4 w3.heap.size 60 r0 E3.cs 3 (pes (powX X Z m (k + 1))) := ho0
            replace ho1 : OwnE w4 w3.heap.size 60 r1 E3.cs 3 (pes (powZ X Z m (k + 1))) := ho1
            obtain ⟨e1, g1, rfl, he1, _⟩ := own_E3 ho0 (pes_length (show (powX X Z m (k + 1)).length = m from by rw [powX_len]; exact KX.out)) (by omega)
            obtain ⟨e2, g2, rfl, he2, _⟩ := own_E3 ho1 (pes_length (show (powZ X Z m (k + 1)).length = m from by rw [powZ_len]; exact KZ.out)) (by omega)
            have y4 := hb4.size
            have HO0 := Lib.hid (OwnE.rd ho0); have HO1 := Lib.hid (OwnE.rd ho1); clear ho0 ho1 hap
            replace c0 := below_cell hb4 rfl c0; replace c1 := below_cell hb4 rfl c1; replace c2' := below_cell hb4 rfl c2'
            replace n0 := below_cell hb4 rfl n0; replace n1 := below_cell hb4 rfl n1; replace n2 := below_cell hb4 rfl n2
            replace f0 := below_frz hb4 rfl (by omega) f0; replace f1 := below_frz hb4 rfl (by omega) f1; replace f2 := below_frz hb4 rfl (by omega) f2
            replace I0 := Lib.hid (Rd.below I0.out hb4 rfl); replace I1 := Lib.hid (Rd.below I1.out hb4 rfl)
            replace hbel := Lib.hid (show Below w1.heap.size w1 w4 from Below.trans hbel.out (hb4.mono (by omega)))
            clear hb4 hrx hrz RXw RZw t0 t1 t2
            go_wp2_with fail
            have hB := Lib.hid (box_set3 (nb := g5) (.int .i64 (m : Int)) (.slice (some ⟨e1, 0, none⟩) m g1) (.slice (some ⟨e2, 0, none⟩) m g2) c0 c1 c2')
            go_roundw
            case rel => exact ⟨k + 1, some ⟨e1, 0, none⟩, g1, some ⟨e2, 0, none⟩, g2, by omega, by go_num, hB.out.1, hB.out.2.1, hB.out.2.2, by simp only [World.frozen?_setCell]; exact f0, by simp only [World.frozen?_setCell]; exact f1, by simp only [World.frozen?_setCell]; exact f2, cell_set_far h45 (cell_set_far h45 (cell_set_far h45 n0)), cell_set_far h45 (cell_set_far h45 (cell_set_far h45 n1)), cell_set_far h45 (cell_set_far h45 (cell_set_far h45 n2)), (show RdE _ _ _ _ _ from rd_set_ne (rd_set_ne (rd_set_ne I0.out hI5 _) hI5 _) hI5 _), (show RdE _ _ _ _ _ from rd_set_ne (rd_set_ne (rd_set_ne I1.out hJ5 _) hJ5 _) hJ5 _), (show RdE _ _ _ _ _ from rd_set_ne (rd_set_ne (rd_set_ne HO0.out (by dsimp only; omega) _) (by dsimp only; omega) _) (by dsimp only; omega) _), (show RdE _ _ _ _ _ from rd_set_ne (rd_set_ne (rd_set_ne HO1.out (by dsimp only; omega) _) (by dsimp only; omega) _) (by dsimp only; omega) _), (show OrdTo _ _ _ _ from hord.out.next HQ.out), (show Below _ _ _ from Below.setCell (Below.setCell (Below.setCell hbel.out (by dsimp only; omega) _) (by dsimp only; omega) _) (by dsimp only; omega) _)⟩
            case measure => simp [intOf]; omega
          · have HR := Lib.hid (show ordG d = if true then some ((k : Int) + 1) else none from by rw [HG.out, ord_yes hord.out hlt HQ.out]; rfl)
            go_wp2_with fail
            go_ret2
            exact ⟨ret_if HR.out (by simp), Below.trans bw1.out (hbel.out.mono bw1.out.size)⟩
        · have e : k = 1000 := by omega
          have HR := Lib.hid (show ordG d = if false then some (0 : Int) else none from by rw [HG.out, ord_no (by rw [← e]; exact hord.out)]; rfl)
          have i1 : ¬ (k : Int) + 1 ≤ 1000 := by omega
          go_wp2_with fail
          go_ret2
          exact ⟨ret_if HR.out (fun _ => rfl), Below.trans bw1.out (hbel.out.mono bw1.out.size)⟩
  · have HT := Lib.hid (show tabB d = false from decide_eq_false ht)
    have HG := Lib.hid (show ordG d = none from if_neg ht)
    clear ht
    go_enter Try.func10, Try.ntmps10
    go_wp2_with fail
    refine (impl_IsValidTableau_any d _ _ _ (Rd.below H0.out (show Below w.heap.size w _ from (by repeat (first | exact Below.refl _ _ | assumption | refine Below.drew ?_ | refine below_drewN ?_ _ | refine Below.alloc ?_ (by first | omega | (simp <;> omega)) _ | refine Below.setCell ?_ (by first | omega | (simp <;> omega)) _ | refine Below.trans ?_ (Below.mono (by assumption) (by first | omega | (simp <;> omega)))))) rfl) (Rd.below H1.out (show Below w.heap.size w _ from (by repeat (first | exact Below.refl _ _ | assumption | refine Below.drew ?_ | refine below_drewN ?_ _ | refine Below.alloc ?_ (by first | omega | (simp <;> omega)) _ | refine Below.setCell ?_ (by first | omega | (simp <;> omega)) _ | refine Below.trans ?_ (Below.mono (by assumption) (by first | omega | (simp <;> omega)))))) rfl) n0 n1).mono ?_; rintro e w1 ⟨rfl, hb1⟩; rw [HT.out]
    go_wp2_with fail
    go_ret2
    exact ⟨by rw [HG.out]; rfl, (by repeat (first | exact Below.refl _ _ | assumption | refine Below.drew ?_ | refine below_drewN ?_ _ | refine Below.alloc ?_ (by first | omega | (simp <;> omega)) _ | refine Below.setCell ?_ (by first | omega | (simp <;> omega)) _ | refine Below.trans ?_ (Below.mono (by assumption) (by first | omega | (simp <;> omega)))))⟩
end Go.Proofs.Ytfcmakabejnicaa
