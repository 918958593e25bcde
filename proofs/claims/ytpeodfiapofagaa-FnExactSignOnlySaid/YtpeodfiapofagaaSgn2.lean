/- SignOnly in the reference. -/
import Derived.Test.YtpeodfiapofagaaSgn1
import Derived.Test.YtpeodfiapofagaaTab1
import Derived.Test.YtpeodfiapofagaaNet1
import Derived.Test.YtpeodfiapofagaaBrk
import Derived.BigQuiet
import Derived.Deep.QuietTactic
namespace Go.Proofs.Ytpeodfiapofagaa
set_option linter.unusedSimpArgs false
set_option linter.unusedVariables false
set_option linter.unnecessarySimpa false
set_option maxRecDepth 200000
open Go.ChangeShapes Go.WideShapes Go.ChangeAt Go.RowKit

theorem eq_pow (x k : Nat) : ((x : Int) == (2 : Int) ^ k) = (x == 2 ^ k) := by
  rw [show (2 : Int) ^ k = ((2 ^ k : Nat) : Int) from by simp]
  generalize 2 ^ k = y
  rw [Bool.eq_iff_iff]
  simp
  omega
theorem eq_zero (x : Nat) : ((x : Int) == 0) = (x == 0) := by
  rw [Bool.eq_iff_iff]; simp
theorem idX_get {m k : Nat} (h : k < m) : (idX m).getD k ⟨0, 0, 0⟩ = ⟨0, (2 : Int) ^ k, 0⟩ := by simp [idX, List.getD, h]
theorem idZ_get {m k : Nat} (h : k < m) : (idZ m).getD k ⟨0, 0, 0⟩ = ⟨0, 0, (2 : Int) ^ k⟩ := by simp [idZ, List.getD, h]
set_option maxHeartbeats 16000000 in
theorem spec_l8SignOnly_any (m : Nat) (X Z : List PN) (v0 v1 : Value) (w : World) (m5 : m ≤ 5) (lx : X.length = m) (lz : Z.length = m) (okx : PLok X) (okz : PLok Z) (h0 : RdE w v0 E3.cs 3 (pes X)) (h1 : RdE w v1 E3.cs 3 (pes Z)) :
    Calls Try.prog 75 #[.agg #[.int .i64 (m : Int), v0, v1]] w fun e w' => e = .returned (.bool (sgnAll X Z m)) ∧ Below w.heap.size w w' := by
  obtain ⟨A, c, rfl, HA⟩ := pes_at h0
  obtain ⟨A2, c2, rfl, HB⟩ := pes_at h1
  rw [lx] at HA ⊢; rw [lz] at HB ⊢
  clear h0 h1 lx lz okx okz
  go_enter Try.func75, Try.ntmps75
  go_wp2_with fail
  refine (spec_l7Identity_any (m : Int) _ (by omega) (by omega)).mono ?_; rintro e w1 ⟨u0, u1, rfl, ho0, ho1, hap, hb1⟩
  rw [Int.toNat_natCast] at ho0 ho1
  obtain ⟨ux, cx, rfl, HX⟩ := gate_at ho0.rd
  obtain ⟨uz, cz, rfl, HZ⟩ := gate_at ho1.rd
  rw [idX_len] at *; rw [idZ_len] at *
  have t0 := cell_alloc_keep (.cells #[.int .i64 (m : Int), .slice ux m cx, .slice uz m cz] 24) (below_cell hb1 rfl (show (w.alloc (.cells #[.int .i64 (m : Int), .slice A m c, .slice A2 m c2] 24)).cell? ⟨w.heap.size, 0, none⟩ = some (.int .i64 (m : Int)) from (by repeat (first | (refine Eq.trans (World.cell?_alloc_at _ _ _ _ ?hh) ?_; (case hh => (simp; done)); rfl) | refine cell_alloc_keep _ ?_))))
  have t1 := cell_alloc_keep (.cells #[.int .i64 (m : Int), .slice ux m cx, .slice uz m cz] 24) (below_cell hb1 rfl (show (w.alloc (.cells #[.int .i64 (m : Int), .slice A m c, .slice A2 m c2] 24)).cell? ⟨w.heap.size, 1, none⟩ = some (.slice A m c) from (by repeat (first | (refine Eq.trans (World.cell?_alloc_at _ _ _ _ ?hh) ?_; (case hh => (simp; done)); rfl) | refine cell_alloc_keep _ ?_))))
  have t2 := cell_alloc_keep (.cells #[.int .i64 (m : Int), .slice ux m cx, .slice uz m cz] 24) (below_cell hb1 rfl (show (w.alloc (.cells #[.int .i64 (m : Int), .slice A m c, .slice A2 m c2] 24)).cell? ⟨w.heap.size, 2, none⟩ = some (.slice A2 m c2) from (by repeat (first | (refine Eq.trans (World.cell?_alloc_at _ _ _ _ ?hh) ?_; (case hh => (simp; done)); rfl) | refine cell_alloc_keep _ ?_))))
  have E1 := Lib.hid (show (w1.alloc (.cells #[.int .i64 (m : Int), .slice ux m cx, .slice uz m cz] 24)).cell? ⟨w1.heap.size, 1, none⟩ = some (.slice ux m cx) from (by repeat (first | (refine Eq.trans (World.cell?_alloc_at _ _ _ _ ?hh) ?_; (case hh => (simp; done)); rfl) | refine cell_alloc_keep _ ?_)))
  have E2 := Lib.hid (show (w1.alloc (.cells #[.int .i64 (m : Int), .slice ux m cx, .slice uz m cz] 24)).cell? ⟨w1.heap.size, 2, none⟩ = some (.slice uz m cz) from (by repeat (first | (refine Eq.trans (World.cell?_alloc_at _ _ _ _ ?hh) ?_; (case hh => (simp; done)); rfl) | refine cell_alloc_keep _ ?_)))
  have z1 := hb1.size; (simp at z1)
  have bw1 := Lib.hid (show Below w.heap.size w (w1.alloc (.cells #[.int .i64 (m : Int), .slice ux m cx, .slice uz m cz] 24)) from (by repeat (first | exact Below.refl _ _ | assumption | refine Below.drew ?_ | refine below_drewN ?_ _ | refine Below.alloc ?_ (by first | omega | (simp <;> omega)) _ | refine Below.setCell ?_ (by first | omega | (simp <;> omega)) _ | refine Below.trans ?_ (Below.mono (by assumption) (by first | omega | (simp <;> omega))))))
  have be1 := Lib.hid (show Below w1.heap.size w1 (w1.alloc (.cells #[.int .i64 (m : Int), .slice ux m cx, .slice uz m cz] 24)) from (by repeat (first | exact Below.refl _ _ | assumption | refine Below.drew ?_ | refine below_drewN ?_ _ | refine Below.alloc ?_ (by first | omega | (simp <;> omega)) _ | refine Below.setCell ?_ (by first | omega | (simp <;> omega)) _ | refine Below.trans ?_ (Below.mono (by assumption) (by first | omega | (simp <;> omega))))))
  have T0 := Lib.hid t0; have T1 := Lib.hid t1; have T2 := Lib.hid t2
  clear hb1 ho0 ho1 hap t0 t1 t2
  go_wp2_with fail
  obtain ⟨WE, hWE⟩ : ∃ W, W = w1.alloc (.cells #[.int .i64 (m : Int), .slice ux m cx, .slice uz m cz] 24) := ⟨_, rfl⟩
  have sWE : w1.heap.size < WE.heap.size := by rw [hWE]; simp
  rw [← hWE] at T0 T1 T2 E1 E2 bw1 be1 ⊢
  have HWE := Lib.hid hWE; clear hWE
  go_loopw [4] (fun i wr => ∃ k : Nat, k ≤ m ∧ i = .int .i64 k ∧ Hid (SgnTo X Z k) ∧ Hid (Below WE.heap.size WE wr)) (fun i _ => m - (intOf i).toNat)
  case atStart => exact ⟨0, Nat.zero_le _, rfl, (show SgnTo _ _ _ from fun q hq => absurd hq (Nat.not_lt_zero _)), (show Below _ _ _ from Below.refl _ _)⟩
  case round =>
    obtain ⟨k, hk, rfl, hsg, hbel⟩ := hrel
    have t0 := below_cell hbel.out rfl T0.out
    by_cases hlt : k < m
    · have i1 : (k : Int) < (m : Int) := by omega
      have i2 : (0 : Int) ≤ (k : Int) := by omega
      have bw := Lib.hid (show Below w.heap.size w wr from Below.trans bw1.out (hbel.out.mono bw1.out.size))
      have be := Lib.hid (show Below w1.heap.size w1 wr from Below.trans be1.out (hbel.out.mono be1.out.size))
      have t1 := below_cell hbel.out rfl T1.out
      have t2 := below_cell hbel.out rfl T2.out
      have g1 := below_cell hbel.out rfl E1.out
      have g2 := below_cell hbel.out rfl E2.out
      obtain ⟨ga, offa, rfl, hga, a0, a1, a2⟩ := HA.out k hlt
      obtain ⟨gb, offb, rfl, hgb, b0, b1, b2⟩ := HB.out k hlt
      obtain ⟨gc, offc, rfl, hgc, x0, x1, x2⟩ := HX.out k hlt
      obtain ⟨gd, offd, rfl, hgd, y0, y1, y2⟩ := HZ.out k hlt
      rw [idX_get hlt] at x0 x1 x2; rw [idZ_get hlt] at y0 y1 y2
      dsimp only at x0 x1 x2 y0 y1 y2
      replace a0 := (bw.out.cell hga).trans a0
      replace a1 := (bw.out.cell hga).trans a1
      replace a2 := (bw.out.cell hga).trans a2
      replace b0 := (bw.out.cell hgb).trans b0
      replace b1 := (bw.out.cell hgb).trans b1
      replace b2 := (bw.out.cell hgb).trans b2
      replace x0 := (be.out.cell hgc).trans x0
      replace x1 := (be.out.cell hgc).trans x1
      replace x2 := (be.out.cell hgc).trans x2
      replace y0 := (be.out.cell hgd).trans y0
      replace y1 := (be.out.cell hgd).trans y1
      replace y2 := (be.out.cell hgd).trans y2
      have HQ : Hid (sgnQ X Z k = (((X.getD k ⟨0, 0, 0⟩).x == 2 ^ k && (X.getD k ⟨0, 0, 0⟩).z == 0) && ((Z.getD k ⟨0, 0, 0⟩).x == 0 && (Z.getD k ⟨0, 0, 0⟩).z == 2 ^ k))) := rfl
      obtain ⟨P, hP⟩ : ∃ P, P = X.getD k ⟨0, 0, 0⟩ := ⟨_, rfl⟩
      obtain ⟨R, hR⟩ : ∃ R, R = Z.getD k ⟨0, 0, 0⟩ := ⟨_, rfl⟩
      rw [← hP] at a0 a1 a2 HQ; rw [← hR] at b0 b1 b2 HQ
      clear hP hR
      have zr := hbel.out.size
      have l1 := World.block_lt_of_cell? _ _ t1; have l2 := World.block_lt_of_cell? _ _ a0; have l3 := World.block_lt_of_cell? _ _ b0; have l4 := World.block_lt_of_cell? _ _ g1; have l5 := World.block_lt_of_cell? _ _ x0; have l6 := World.block_lt_of_cell? _ _ y0
      go_wp2_with fail
      refine AnyB.begin (S := (fun w' => w'.cell? ⟨w.heap.size, 1, none⟩ = some (.slice (some ⟨ga, offa, none⟩) m c) ∧ w'.cell? ⟨w.heap.size, 2, none⟩ = some (.slice (some ⟨gb, offb, none⟩) m c2) ∧ w'.cell? ⟨ga, offa + k * 3, none⟩ = some (.int .i64 (P.p : Int)) ∧ w'.cell? ⟨ga, offa + k * 3 + 1, none⟩ = some (.int .i64 (P.x : Int)) ∧ w'.cell? ⟨ga, offa + k * 3 + 2, none⟩ = some (.int .i64 (P.z : Int)) ∧ w'.cell? ⟨gb, offb + k * 3, none⟩ = some (.int .i64 (R.p : Int)) ∧ w'.cell? ⟨gb, offb + k * 3 + 1, none⟩ = some (.int .i64 (R.x : Int)) ∧ w'.cell? ⟨gb, offb + k * 3 + 2, none⟩ = some (.int .i64 (R.z : Int)))) [] (by kernel_rfl) ?_ (fun hHeld0 => ?_)
      · ((try dsimp only); (first | exact ⟨t1, t2, a0, a1, a2, b0, b1, b2⟩ | (go_split_ands; refine ⟨?_, ?_, ?_, ?_, ?_, ?_, ?_, ?_⟩ <;> (repeat (first | assumption | refine cell_alloc_keep _ ?_ | refine cell_set_far (by omega) ?_)))))
      refine AnyB.takeQ (i := 0) (oi := _) (v := ?_) (by simp only [List.getElem?_toArray, List.getElem?_cons_zero, List.getElem?_cons_succ]; rfl) (by kernel_rfl) (by kernel_rfl) (by kernel_rfl) (by intro _ _ _ h; exact h) (Or.inl ⟨by rfl, ?_⟩) ?_
      rotate_left
      · (intro w hSw; (try dsimp only at hSw); go_simp; (try (with_reducible rfl)))
      try simp only [Act.put, List.setIfInBounds_toArray, List.set_cons_zero, List.set_cons_succ]
      refine AnyB.take (i := 1) (oi := _) (v := ?_) (by simp only [List.getElem?_toArray, List.getElem?_cons_zero, List.getElem?_cons_succ]; rfl) (by kernel_rfl) (by kernel_rfl) (by kernel_rfl) (by kernel_rfl) (by kernel_rfl) (by intro _ _ _ h; exact h) (Or.inl ⟨by rfl, ?_⟩) (by assumption) ?_
      rotate_left
      · (intro w hSw; (try dsimp only at hSw); go_simp; (try (with_reducible rfl)))
      try simp only [Act.put, List.setIfInBounds_toArray, List.set_cons_zero, List.set_cons_succ]
      refine AnyB.takeQ (i := 2) (oi := _) (v := ?_) (by simp only [List.getElem?_toArray, List.getElem?_cons_zero, List.getElem?_cons_succ]; rfl) (by kernel_rfl) (by kernel_rfl) (by kernel_rfl) (by intro _ _ _ h; exact h) (Or.inl ⟨by rfl, ?_⟩) ?_
      rotate_left
      · (intro w hSw; (try dsimp only at hSw); go_simp; (try (with_reducible rfl)))
      try simp only [Act.put, List.setIfInBounds_toArray, List.set_cons_zero, List.set_cons_succ]
      refine AnyB.takeQ (i := 3) (oi := _) (v := ?_) (by simp only [List.getElem?_toArray, List.getElem?_cons_zero, List.getElem?_cons_succ]; rfl) (by kernel_rfl) (by kernel_rfl) (by kernel_rfl) (by intro _ _ _ h; exact h) (Or.inl ⟨by rfl, ?_⟩) ?_
      rotate_left
      · (intro w hSw; (try dsimp only at hSw); go_simp; (try (with_reducible rfl)))
      try simp only [Act.put, List.setIfInBounds_toArray, List.set_cons_zero, List.set_cons_succ]
      refine AnyB.take (i := 4) (oi := _) (v := ?_) (by simp only [List.getElem?_toArray, List.getElem?_cons_zero, List.getElem?_cons_succ]; rfl) (by kernel_rfl) (by kernel_rfl) (by kernel_rfl) (by kernel_rfl) (by kernel_rfl) (by intro _ _ _ h; exact h) (Or.inl ⟨by rfl, ?_⟩) (by assumption) ?_
      rotate_left
      · (intro w hSw; (try dsimp only at hSw); go_simp; (try (with_reducible rfl)))
      try simp only [Act.put, List.setIfInBounds_toArray, List.set_cons_zero, List.set_cons_succ]
      refine AnyB.takeQ (i := 5) (oi := _) (v := ?_) (by simp only [List.getElem?_toArray, List.getElem?_cons_zero, List.getElem?_cons_succ]; rfl) (by kernel_rfl) (by kernel_rfl) (by kernel_rfl) (by intro _ _ _ h; exact h) (Or.inl ⟨by rfl, ?_⟩) ?_
      rotate_left
      · (intro w hSw; (try dsimp only at hSw); go_simp; (try (with_reducible rfl)))
      try simp only [Act.put, List.setIfInBounds_toArray, List.set_cons_zero, List.set_cons_succ]
      refine AnyB.take (i := 6) (oi := _) (v := ?_) (by simp only [List.getElem?_toArray, List.getElem?_cons_zero, List.getElem?_cons_succ]; rfl) (by kernel_rfl) (by kernel_rfl) (by kernel_rfl) (by kernel_rfl) (by kernel_rfl) (by intro _ _ _ h; exact h) (Or.inl ⟨by rfl, ?_⟩) (by assumption) ?_
      rotate_left
      · (intro w hSw; (try dsimp only at hSw); go_simp; (try (with_reducible rfl)))
      try simp only [Act.put, List.setIfInBounds_toArray, List.set_cons_zero, List.set_cons_succ]
      refine AnyB.takeQ (i := 7) (oi := _) (v := ?_) (by simp only [List.getElem?_toArray, List.getElem?_cons_zero, List.getElem?_cons_succ]; rfl) (by kernel_rfl) (by kernel_rfl) (by kernel_rfl) (by intro _ _ _ h; exact h) (Or.inl ⟨by rfl, ?_⟩) ?_
      rotate_left
      · (intro w hSw; (try dsimp only at hSw); go_simp; (try (with_reducible rfl)))
      try simp only [Act.put, List.setIfInBounds_toArray, List.set_cons_zero, List.set_cons_succ]
      refine AnyB.takeQ (i := 8) (oi := _) (v := ?_) (by simp only [List.getElem?_toArray, List.getElem?_cons_zero, List.getElem?_cons_succ]; rfl) (by kernel_rfl) (by kernel_rfl) (by kernel_rfl) (by intro _ _ _ h; exact h) (Or.inl ⟨by rfl, ?_⟩) ?_
      rotate_left
      · (intro w hSw; (try dsimp only at hSw); go_simp; (try (with_reducible rfl)))
      try simp only [Act.put, List.setIfInBounds_toArray, List.set_cons_zero, List.set_cons_succ]
      refine AnyB.take (i := 9) (oi := _) (v := ?_) (by simp only [List.getElem?_toArray, List.getElem?_cons_zero, List.getElem?_cons_succ]; rfl) (by kernel_rfl) (by kernel_rfl) (by kernel_rfl) (by kernel_rfl) (by kernel_rfl) (by intro _ _ _ h; exact h) (Or.inl ⟨by rfl, ?_⟩) (by assumption) ?_
      rotate_left
      · (intro w hSw; (try dsimp only at hSw); go_simp; (try (with_reducible rfl)))
      try simp only [Act.put, List.setIfInBounds_toArray, List.set_cons_zero, List.set_cons_succ]
      refine AnyB.each (rs := [10, 11]) (by kernel_rfl) (by simp) ?_
      refine EachB.cons rfl (fun K hK hB => ?_) ?_
      · skip
        go_simp
        refine hK.out _ _ ?_ (fun hHeld1 => ?_)
        · ((try dsimp only); (first | exact ⟨t1, t2, a0, a1, a2, b0, b1, b2⟩ | (go_split_ands; refine ⟨?_, ?_, ?_, ?_, ?_, ?_, ?_, ?_⟩ <;> (repeat (first | assumption | refine cell_alloc_keep _ ?_ | refine cell_set_far (by omega) ?_)))))
        clear hB hK K hHeld0
        refine AnyB.each (rs := [11]) (by kernel_rfl) (by simp) ?_
        refine EachB.cons rfl (fun K hK hB => ?_) ?_
        · skip
          go_simp
          refine hK.out _ _ ?_ (fun hHeld2 => ?_)
          · ((try dsimp only); (first | exact ⟨t1, t2, a0, a1, a2, b0, b1, b2⟩ | (go_split_ands; refine ⟨?_, ?_, ?_, ?_, ?_, ?_, ?_, ?_⟩ <;> (repeat (first | assumption | refine cell_alloc_keep _ ?_ | refine cell_set_far (by omega) ?_)))))
          clear hB hK K hHeld1
          refine AnyB.each (rs := [12]) (by kernel_rfl) (by simp) ?_
          refine EachB.cons rfl (fun K hK hB => ?_) ?_
          · skip
            go_simp
            refine hK.out _ _ ?_ (fun hHeld3 => ?_)
            · ((try dsimp only); (first | exact ⟨t1, t2, a0, a1, a2, b0, b1, b2⟩ | (go_split_ands; refine ⟨?_, ?_, ?_, ?_, ?_, ?_, ?_, ?_⟩ <;> (repeat (first | assumption | refine cell_alloc_keep _ ?_ | refine cell_set_far (by omega) ?_)))))
            clear hB hK K hHeld2
            refine AnyB.each (rs := [13]) (by kernel_rfl) (by simp) ?_
            refine EachB.cons rfl (fun K hK hB => ?_) ?_
            · skip
              go_simp
              refine hK.out _ _ ?_ (fun hHeld4 => ?_)
              · ((try dsimp only); (first | exact ⟨t1, t2, a0, a1, a2, b0, b1, b2⟩ | (go_split_ands; refine ⟨?_, ?_, ?_, ?_, ?_, ?_, ?_, ?_⟩ <;> (repeat (first | assumption | refine cell_alloc_keep _ ?_ | refine cell_set_far (by omega) ?_)))))
              clear hB hK K hHeld3
              refine AnyB.none (by kernel_rfl) ?_ _
              have e1 := eq_pow P.x k; have e2 := eq_zero P.z; have e3 := eq_zero R.x; have e4 := eq_pow R.z k
              rcases quad (P.x == 2 ^ k) (P.z == 0) (R.x == 0) (R.z == 2 ^ k) with h | ⟨h, h2⟩ | ⟨h, h2, h3⟩ | ⟨h, h2, h3, h4⟩ | ⟨h, h2, h3, h4⟩
              all_goals
                rw [h] at e1 HQ
                (try rw [h2] at e2 HQ)
                (try rw [h3] at e3 HQ)
                (try rw [h4] at e4 HQ)
                clear h
                (try clear h2)
                (try clear h3)
                (try clear h4)
                go_wp2_with fail
                go_quiet (fail)
                go_wp2_with fail
                first
                  | (go_roundw
                     case rel => exact ⟨k + 1, by omega, by go_num, SgnTo.next hsg.out HQ.out, (show Below _ _ _ from Below.trans hbel.out (show Below WE.heap.size wr _ from (by repeat (first | exact Below.refl _ _ | assumption | refine Below.drew ?_ | refine below_drewN ?_ _ | refine Below.alloc ?_ (by first | omega | (simp <;> omega)) _ | refine Below.setCell ?_ (by first | omega | (simp <;> omega)) _ | refine Below.trans ?_ (Below.mono (by assumption) (by first | omega | (simp <;> omega)))))))⟩
                     case measure => simp [intOf]; omega)
                  | (go_ret
                     exact ⟨ret_bool (sgn_no hlt (by rw [HQ.out]; simp)), Below.trans bw1.out ((show Below WE.heap.size WE _ from Below.trans hbel.out (show Below WE.heap.size wr _ from (by repeat (first | exact Below.refl _ _ | assumption | refine Below.drew ?_ | refine below_drewN ?_ _ | refine Below.alloc ?_ (by first | omega | (simp <;> omega)) _ | refine Below.setCell ?_ (by first | omega | (simp <;> omega)) _ | refine Below.trans ?_ (Below.mono (by assumption) (by first | omega | (simp <;> omega))))))).mono bw1.out.size)⟩)
            exact EachB.nil
          exact EachB.nil
        exact EachB.nil
      refine EachB.cons rfl (fun K hK hB => ?_) ?_
      · skip
        go_simp
        refine hK.out _ _ ?_ (fun hHeld5 => ?_)
        · ((try dsimp only); (first | exact ⟨t1, t2, a0, a1, a2, b0, b1, b2⟩ | (go_split_ands; refine ⟨?_, ?_, ?_, ?_, ?_, ?_, ?_, ?_⟩ <;> (repeat (first | assumption | refine cell_alloc_keep _ ?_ | refine cell_set_far (by omega) ?_)))))
        clear hB hK K hHeld0
        refine AnyB.each (rs := [10]) (by kernel_rfl) (by simp) ?_
        refine EachB.cons rfl (fun K hK hB => ?_) ?_
        · skip
          go_simp
          refine hK.out _ _ ?_ (fun hHeld6 => ?_)
          · ((try dsimp only); (first | exact ⟨t1, t2, a0, a1, a2, b0, b1, b2⟩ | (go_split_ands; refine ⟨?_, ?_, ?_, ?_, ?_, ?_, ?_, ?_⟩ <;> (repeat (first | assumption | refine cell_alloc_keep _ ?_ | refine cell_set_far (by omega) ?_)))))
          clear hB hK K hHeld5
          refine AnyB.each (rs := [12]) (by kernel_rfl) (by simp) ?_
          refine EachB.cons rfl (fun K hK hB => ?_) ?_
          · skip
            go_simp
            refine hK.out _ _ ?_ (fun hHeld7 => ?_)
            · ((try dsimp only); (first | exact ⟨t1, t2, a0, a1, a2, b0, b1, b2⟩ | (go_split_ands; refine ⟨?_, ?_, ?_, ?_, ?_, ?_, ?_, ?_⟩ <;> (repeat (first | assumption | refine cell_alloc_keep _ ?_ | refine cell_set_far (by omega) ?_)))))
            clear hB hK K hHeld6
            refine AnyB.each (rs := [13]) (by kernel_rfl) (by simp) ?_
            refine EachB.cons rfl (fun K hK hB => ?_) ?_
            · skip
              go_simp
              refine hK.out _ _ ?_ (fun hHeld8 => ?_)
              · ((try dsimp only); (first | exact ⟨t1, t2, a0, a1, a2, b0, b1, b2⟩ | (go_split_ands; refine ⟨?_, ?_, ?_, ?_, ?_, ?_, ?_, ?_⟩ <;> (repeat (first | assumption | refine cell_alloc_keep _ ?_ | refine cell_set_far (by omega) ?_)))))
              clear hB hK K hHeld7
              refine AnyB.none (by kernel_rfl) ?_ _
              have e1 := eq_pow P.x k; have e2 := eq_zero P.z; have e3 := eq_zero R.x; have e4 := eq_pow R.z k
              rcases quad (P.x == 2 ^ k) (P.z == 0) (R.x == 0) (R.z == 2 ^ k) with h | ⟨h, h2⟩ | ⟨h, h2, h3⟩ | ⟨h, h2, h3, h4⟩ | ⟨h, h2, h3, h4⟩
              all_goals
                rw [h] at e1 HQ
                (try rw [h2] at e2 HQ)
                (try rw [h3] at e3 HQ)
                (try rw [h4] at e4 HQ)
                clear h
                (try clear h2)
                (try clear h3)
                (try clear h4)
                go_wp2_with fail
                go_quiet (fail)
                go_wp2_with fail
                first
                  | (go_roundw
                     case rel => exact ⟨k + 1, by omega, by go_num, SgnTo.next hsg.out HQ.out, (show Below _ _ _ from Below.trans hbel.out (show Below WE.heap.size wr _ from (by repeat (first | exact Below.refl _ _ | assumption | refine Below.drew ?_ | refine below_drewN ?_ _ | refine Below.alloc ?_ (by first | omega | (simp <;> omega)) _ | refine Below.setCell ?_ (by first | omega | (simp <;> omega)) _ | refine Below.trans ?_ (Below.mono (by assumption) (by first | omega | (simp <;> omega)))))))⟩
                     case measure => simp [intOf]; omega)
                  | (go_ret
                     exact ⟨ret_bool (sgn_no hlt (by rw [HQ.out]; simp)), Below.trans bw1.out ((show Below WE.heap.size WE _ from Below.trans hbel.out (show Below WE.heap.size wr _ from (by repeat (first | exact Below.refl _ _ | assumption | refine Below.drew ?_ | refine below_drewN ?_ _ | refine Below.alloc ?_ (by first | omega | (simp <;> omega)) _ | refine Below.setCell ?_ (by first | omega | (simp <;> omega)) _ | refine Below.trans ?_ (Below.mono (by assumption) (by first | omega | (simp <;> omega))))))).mono bw1.out.size)⟩)
            exact EachB.nil
          exact EachB.nil
        exact EachB.nil
      exact EachB.nil
    · go_wp2_with fail
      go_ret
      exact ⟨ret_bool (sgn_yes hsg.out (by omega)), Below.trans bw1.out (hbel.out.mono bw1.out.size)⟩
end Go.Proofs.Ytpeodfiapofagaa
