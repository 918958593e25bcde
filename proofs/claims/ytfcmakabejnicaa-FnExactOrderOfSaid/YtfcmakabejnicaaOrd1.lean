/- OrderOf in the reference. -/
import Derived.Test.YtfcmakabejnicaaSame
import Derived.Test.YtfcmakabejnicaaPau8
import Derived.Test.YtfcmakabejnicaaSgn1
import Derived.Deep.DeepMust
import Derived.Deep.RegionHeld3
namespace Go.Proofs.Ytfcmakabejnicaa
set_option linter.unusedSimpArgs false
set_option linter.unusedVariables false
set_option linter.unnecessarySimpa false
set_option maxRecDepth 200000
open Go.ChangeShapes Go.WideShapes Go.ChangeAt Go.RowKit

theorem ret_if {k : Int} {b : Bool} {r : Option Int} (h : r = if b then some k else none) (hk : b = false → k = 0) : Ending.returned (.tuple #[.int .i64 k, .bool b]) = .returned (.tuple #[.int .i64 (r.getD 0), .bool r.isSome]) := by
  subst h; cases b
  · rw [hk rfl]; rfl
  · rfl
theorem pes_length {L : List PN} {m : Nat} (h : L.length = m) : (pes L).length = m := by rw [pes_len]; exact h
theorem ord_dec (X Z : List PN) (m k : Nat) : decide (pes (powX X Z m k) = idX m ∧ pes (powZ X Z m k) = idZ m) = ordAt X Z m k := by
  unfold ordAt; rw [idX_pes, idZ_pes]
  simp only [pes_inj]
set_option maxHeartbeats 16000000 in
theorem spec_OrderOf_any (d : Tab) (v0 v1 : Value) (w : World) (h0 : RdE w v0 E3.cs 3 d.xs) (h1 : RdE w v1 E3.cs 3 d.zs) (n0 : d.xs.length ≤ 1048576) (n1 : d.zs.length ≤ 1048576) :
    Calls Try.prog 8 #[.agg #[.int .i64 d.n, v0, v1]] w fun e w' => e = .returned (.tuple #[.int .i64 ((ordG d).getD 0), .bool (ordG d).isSome]) ∧ Below w.heap.size w w' := by
  have H0 := Lib.hid h0; have H1 := Lib.hid h1
  obtain ⟨A, c, rfl, _⟩ := h0.form
  obtain ⟨A2, c2, rfl, _⟩ := h1.form
  clear h0 h1
  by_cases ht : TabOk d
  · have HT := Lib.hid (show tabB d = true from decide_eq_true ht)
    have HG := Lib.hid (show ordG d = (ordN (d.xs.map tn) (d.zs.map tn) d.n.toNat).map (fun k => (k : Int) + 1) from if_pos ht)
    obtain ⟨m, hm, m1, m5, ex, ez, lx, lz, okx, okz⟩ := ht.parts
    obtain ⟨ltx, ltz⟩ := ht.lt hm
    have RX := Lib.hid (show RdE w (.slice A d.xs.length c) E3.cs 3 (pes (d.xs.map tn)) from by rw [← ex]; exact H0.out)
    have RZ := Lib.hid (show RdE w (.slice A2 d.zs.length c2) E3.cs 3 (pes (d.zs.map tn)) from by rw [← ez]; exact H1.out)
    have hlx : d.xs.length = m := by simpa using lx
    have hlz : d.zs.length = m := by simpa using lz
    rw [hm, Int.toNat_natCast] at HG
    have HM := Lib.hid hm
    rw [hlx] at RX; rw [hlz] at RZ
    generalize d.xs.map tn = X at *
    generalize d.zs.map tn = Z at *
    have HLX := Lib.hid hlx; have HLZ := Lib.hid hlz
    have OX := Lib.hid ltx; have OZ := Lib.hid ltz; have KX := Lib.hid lx; have KZ := Lib.hid lz
    clear ht hm ex ez lx lz okx okz hlx hlz ltx ltz
    go_enter Try.func8, Try.ntmps8
    go_wp2_with fail
    refine (spec_l7Good_any d _ _ _ (Rd.below H0.out (show Below w.heap.size w _ from (by repeat (first | exact Below.refl _ _ | assumption | refine Below.drew ?_ | refine below_drewN ?_ _ | refine Below.alloc ?_ (by first | omega | (simp <;> omega)) _ | refine Below.setCell ?_ (by first | omega | (simp <;> omega)) _ | refine Below.trans ?_ (Below.mono (by assumption) (by first | omega | (simp <;> omega)))))) rfl) (Rd.below H1.out (show Below w.heap.size w _ from (by repeat (first | exact Below.refl _ _ | assumption | refine Below.drew ?_ | refine below_drewN ?_ _ | refine Below.alloc ?_ (by first | omega | (simp <;> omega)) _ | refine Below.setCell ?_ (by first | omega | (simp <;> omega)) _ | refine Below.trans ?_ (Below.mono (by assumption) (by first | omega | (simp <;> omega)))))) rfl) n0 n1).mono ?_; rintro e w1 ⟨rfl, hb1⟩; rw [HT.out]
    have t0 := below_cell hb1 rfl (show (w.alloc (.cells #[.int .i64 d.n, .slice A d.xs.length c, .slice A2 d.zs.length c2] 30)).cell? ⟨w.heap.size, 0, none⟩ = some (.int .i64 d.n) from (by repeat (first | (refine Eq.trans (World.cell?_alloc_at _ _ _ _ ?hh) ?_; (case hh => (simp; done)); rfl) | refine cell_alloc_keep _ ?_)))
    have t1 := below_cell hb1 rfl (show (w.alloc (.cells #[.int .i64 d.n, .slice A d.xs.length c, .slice A2 d.zs.length c2] 30)).cell? ⟨w.heap.size, 1, none⟩ = some (.slice A d.xs.length c) from (by repeat (first | (refine Eq.trans (World.cell?_alloc_at _ _ _ _ ?hh) ?_; (case hh => (simp; done)); rfl) | refine cell_alloc_keep _ ?_)))
    have t2 := below_cell hb1 rfl (show (w.alloc (.cells #[.int .i64 d.n, .slice A d.xs.length c, .slice A2 d.zs.length c2] 30)).cell? ⟨w.heap.size, 2, none⟩ = some (.slice A2 d.zs.length c2) from (by repeat (first | (refine Eq.trans (World.cell?_alloc_at _ _ _ _ ?hh) ?_; (case hh => (simp; done)); rfl) | refine cell_alloc_keep _ ?_)))
    have z1 := hb1.size; (simp at z1)
    have bw1 := Lib.hid (show Below w.heap.size w w1 from (by repeat (first | exact Below.refl _ _ | assumption | refine Below.drew ?_ | refine below_drewN ?_ _ | refine Below.alloc ?_ (by first | omega | (simp <;> omega)) _ | refine Below.setCell ?_ (by first | omega | (simp <;> omega)) _ | refine Below.trans ?_ (Below.mono (by assumption) (by first | omega | (simp <;> omega)))))); clear hb1
    rw [HM.out] at t0; rw [HLX.out] at t1; rw [HLZ.out] at t2
    have T0 := Lib.hid t0; have T1 := Lib.hid t1; have T2 := Lib.hid t2
    have L0 := World.block_lt_of_cell? _ _ t0
    rw [HM.out, HLX.out, HLZ.out]
    go_wp2_with fail
    clear t0 t1 t2
    have RX1 := Lib.hid (Rd.below RX.out (show Below w.heap.size w (w1.alloc (.cells #[.int .i64 (m : Int), .slice A m c, .slice A2 m c2] 30)) from Below.alloc bw1.out (by omega) _) rfl)
    have RZ1 := Lib.hid (Rd.below RZ.out (show Below w.heap.size w (w1.alloc (.cells #[.int .i64 (m : Int), .slice A m c, .slice A2 m c2] 30)) from Below.alloc bw1.out (by omega) _) rfl)
    go_loopw [5] (fun i wr => ∃ (k : Nat) (a1 : Option Addr) (p1 : Nat) (a2 : Option Addr) (p2 : Nat), k ≤ 1000 ∧ i = .int .i64 ((k : Int) + 1) ∧ wr.cell? ⟨w1.heap.size, 0, none⟩ = some (.int .i64 (m : Int)) ∧ wr.cell? ⟨w1.heap.size, 1, none⟩ = some (.slice a1 m p1) ∧ wr.cell? ⟨w1.heap.size, 2, none⟩ = some (.slice a2 m p2) ∧ wr.frozen? ⟨w1.heap.size, 0, none⟩ = false ∧ wr.frozen? ⟨w1.heap.size, 1, none⟩ = false ∧ wr.frozen? ⟨w1.heap.size, 2, none⟩ = false ∧ Hid (RdE wr (.slice a1 m p1) E3.cs 3 (pes (powX X Z m k))) ∧ Hid (RdE wr (.slice a2 m p2) E3.cs 3 (pes (powZ X Z m k))) ∧ Hid (OrdTo X Z m k) ∧ Hid (Below w1.heap.size w1 wr)) (fun i _ => 1001 - (intOf i).toNat)
    case atStart => exact ⟨0, A, c, A2, c2, by omega, rfl, (by repeat (first | (refine Eq.trans (World.cell?_alloc_at _ _ _ _ ?hh) ?_; (case hh => (simp; done)); rfl) | refine cell_alloc_keep _ ?_)), (by repeat (first | (refine Eq.trans (World.cell?_alloc_at _ _ _ _ ?hh) ?_; (case hh => (simp; done)); rfl) | refine cell_alloc_keep _ ?_)), (by repeat (first | (refine Eq.trans (World.cell?_alloc_at _ _ _ _ ?hh) ?_; (case hh => (simp; done)); rfl) | refine cell_alloc_keep _ ?_)), (by repeat (first | (refine World.frozen?_alloc_at _ _ _ _ ?hh; case hh => (simp; done)) | (refine frozen_alloc_lt _ ?hh ?_; case hh => first | omega | (simp <;> omega)))), (by repeat (first | (refine World.frozen?_alloc_at _ _ _ _ ?hh; case hh => (simp; done)) | (refine frozen_alloc_lt _ ?hh ?_; case hh => first | omega | (simp <;> omega)))), (by repeat (first | (refine World.frozen?_alloc_at _ _ _ _ ?hh; case hh => (simp; done)) | (refine frozen_alloc_lt _ ?hh ?_; case hh => first | omega | (simp <;> omega)))), RX1.out, RZ1.out, (show OrdTo _ _ _ _ from fun q hq => absurd hq (Nat.not_lt_zero _)), (show Below _ _ _ from (by repeat (first | exact Below.refl _ _ | assumption | refine Below.drew ?_ | refine below_drewN ?_ _ | refine Below.alloc ?_ (by first | omega | (simp <;> omega)) _ | refine Below.setCell ?_ (by first | omega | (simp <;> omega)) _ | refine Below.trans ?_ (Below.mono (by assumption) (by first | omega | (simp <;> omega))))))⟩
    case round =>
      obtain ⟨k, a1, p1, a2, p2, hk, rfl, c0, c1, c2, f0, f1, f2, hrx, hrz, hord, hbel⟩ := hrel
      have L1 := World.block_lt_of_cell? _ _ c0
      clear RX1 RZ1
      by_cases hlt : k < 1000
      · have i1 : (k : Int) + 1 ≤ 1000 := by omega
        have i2 : (0 : Int) ≤ (k : Int) := by omega
        have bw := Lib.hid (show Below w.heap.size w wr from Below.trans bw1.out (hbel.out.mono bw1.out.size))
        have t0 := below_cell hbel.out rfl T0.out
        have t1 := below_cell hbel.out rfl T1.out
        have t2 := below_cell hbel.out rfl T2.out
        have KPX := Lib.hid (pes_length (show (powX X Z m k).length = m from by rw [powX_len]; exact KX.out))
        have KPZ := Lib.hid (pes_length (show (powZ X Z m k).length = m from by rw [powZ_len]; exact KZ.out))
        have zr := hbel.out.size
        cases hq : ordAt X Z m k
        all_goals
          have HS := Lib.hid ((ord_dec X Z m k).trans hq)
          have HQ := Lib.hid hq
          clear hq
          go_wp2_with fail
          go_region_held3 (fun w' => w'.cell? ⟨w.heap.size, 0, none⟩ = some (.int .i64 (m : Int)) ∧ w'.cell? ⟨w1.heap.size, 0, none⟩ = some (.int .i64 (m : Int)) ∧ w'.cell? ⟨w1.heap.size, 1, none⟩ = some (.slice a1 m p1) ∧ w'.cell? ⟨w1.heap.size, 2, none⟩ = some (.slice a2 m p2)) (first | go_keep | (go_split_ands; refine ⟨?_, ?_, ?_, ?_⟩ <;> first | assumption | (simp [*]; done))) (first | (go_at_call 27; go_must ((refine (spec_l7Identity_any (m : Int) _ (by omega) (by omega)).mono ?_; rintro e w2 ⟨q0, q1, rfl, ho0, ho1, hap, hb2⟩); (rw [Int.toNat_natCast] at ho0 ho1); (have y2 := hb2.size); (simp at y2); (have RI := Lib.hid (OwnE.rd ho0)); (have RJ := Lib.hid (OwnE.rd ho1)); (clear ho0 ho1 hap); (obtain ⟨aI, cI, rfl, _⟩ := RI.out.form); (obtain ⟨aJ, cJ, rfl, _⟩ := RJ.out.form); (replace c0 := below_cell hb2 rfl (cell_drew c0)); (replace c1 := below_cell hb2 rfl (cell_drew c1)); (replace c2 := below_cell hb2 rfl (cell_drew c2)); (replace t0 := below_cell hb2 rfl (cell_drew t0)); (replace t1 := below_cell hb2 rfl (cell_drew t1)); (replace t2 := below_cell hb2 rfl (cell_drew t2)); (replace f0 := below_frz hb2 rfl (by first | omega | (simp; omega)) (frz_drew f0)); (replace f1 := below_frz hb2 rfl (by first | omega | (simp; omega)) (frz_drew f1)); (replace f2 := below_frz hb2 rfl (by first | omega | (simp; omega)) (frz_drew f2)); (replace hrx := Lib.hid (Rd.below hrx.out (show Below wr.heap.size wr w2 from Below.trans (show Below wr.heap.size wr wr.drew from (by repeat (first | exact Below.refl _ _ | assumption | refine Below.drew ?_ | refine below_drewN ?_ _ | refine Below.alloc ?_ (by first | omega | (simp <;> omega)) _ | refine Below.setCell ?_ (by first | omega | (simp <;> omega)) _ | refine Below.trans ?_ (Below.mono (by assumption) (by first | omega | (simp <;> omega)))))) hb2) rfl)); (replace hrz := Lib.hid (Rd.below hrz.out (show Below wr.heap.size wr w2 from Below.trans (show Below wr.heap.size wr wr.drew from (by repeat (first | exact Below.refl _ _ | assumption | refine Below.drew ?_ | refine below_drewN ?_ _ | refine Below.alloc ?_ (by first | omega | (simp <;> omega)) _ | refine Below.setCell ?_ (by first | omega | (simp <;> omega)) _ | refine Below.trans ?_ (Below.mono (by assumption) (by first | omega | (simp <;> omega)))))) hb2) rfl)); (replace hbel := Lib.hid (show Below w1.heap.size w1 w2 from Below.trans (Below.drew hbel.out) (hb2.mono (by first | omega | (simp; omega))))); (clear hb2 bw))) | (go_at_call 26; go_must ((refine (spec_l8Same_any m (pes (powX X Z m k)) (pes (powZ X Z m k)) (idX m) (idZ m) _ _ _ _ _ m5 KPX.out KPZ.out (idX_len m) (idZ_len m) hrx.out hrz.out RI.out RJ.out).mono ?_; rintro e w3 ⟨rfl, hb3⟩); (rw [HS.out]); (have y3 := hb3.size); (replace c0 := below_cell hb3 rfl c0); (replace c1 := below_cell hb3 rfl c1); (replace c2 := below_cell hb3 rfl c2); (replace t0 := below_cell hb3 rfl t0); (replace t1 := below_cell hb3 rfl t1); (replace t2 := below_cell hb3 rfl t2); (replace f0 := below_frz hb3 rfl (by omega) f0); (replace f1 := below_frz hb3 rfl (by omega) f1); (replace f2 := below_frz hb3 rfl (by omega) f2); (replace hrx := Lib.hid (Rd.below hrx.out hb3 rfl)); (replace hrz := Lib.hid (Rd.below hrz.out hb3 rfl)); (replace hbel := Lib.hid (show Below w1.heap.size w1 w3 from Below.trans hbel.out (hb3.mono (by omega)))); (clear hb3))))
          clear RI RJ
        · go_wp2_with fail
          have RXw := Lib.hid (Rd.below RX.out (show Below w.heap.size w w3 from Below.trans bw1.out (hbel.out.mono bw1.out.size)) rfl)
          have RZw := Lib.hid (Rd.below RZ.out (show Below w.heap.size w w3 from Below.trans bw1.out (hbel.out.mono bw1.out.size)) rfl)
          refine (spec_l7Then_any m (powX X Z m k) (powZ X Z m k) X Z _ _ _ _ _ m5 (by rw [powX_len]; exact KX.out) (by rw [powZ_len]; exact KZ.out) KX.out KZ.out (powX_lt OX.out OZ.out k).ok (powZ_lt OX.out OZ.out k).ok OX.out.ok OZ.out.ok hrx.out hrz.out RXw.out RZw.out).mono ?_; rintro e w4 ⟨r0, r1, rfl, ho0, ho1, hap, hb4⟩
          rw [compL_samet m5 (powX_lt OX.out OZ.out k)] at ho0
          rw [compL_samet m5 (powZ_lt OX.out OZ.out k)] at ho1
          replace ho0 : OwnE w4 w3.heap.size 60 r0 E3.cs 3 (pes (powX X Z m (k + 1))) := ho0
          replace ho1 : OwnE w4 w3.heap.size 60 r1 E3.cs 3 (pes (powZ X Z m (k + 1))) := ho1
          obtain ⟨e1, g1, rfl⟩ := ho0.forms
          obtain ⟨e2, g2, rfl⟩ := ho1.forms
          rw [pes_length (show (powX X Z m (k + 1)).length = m from by rw [powX_len]; exact KX.out)] at *
          rw [pes_length (show (powZ X Z m (k + 1)).length = m from by rw [powZ_len]; exact KZ.out)] at *
          have y4 := hb4.size
          have HO0 := Lib.hid ho0; have HO1 := Lib.hid ho1; clear ho0 ho1 hap
          replace c0 := below_cell hb4 rfl c0; replace c1 := below_cell hb4 rfl c1; replace c2 := below_cell hb4 rfl c2
          replace f0 := below_frz hb4 rfl (by omega) f0; replace f1 := below_frz hb4 rfl (by omega) f1; replace f2 := below_frz hb4 rfl (by omega) f2
          replace hbel := Lib.hid (show Below w1.heap.size w1 w4 from Below.trans hbel.out (hb4.mono (by omega)))
          clear hb4 hrx hrz RXw RZw t0 t1 t2
          go_wp2_with fail
          have hB := Lib.hid (box_set3 (nb := w1.heap.size) (.int .i64 (m : Int)) (.slice e1 m g1) (.slice e2 m g2) c0 c1 c2)
          go_roundw
          case rel => exact ⟨k + 1, e1, g1, e2, g2, by omega, by go_num, hB.out.1, hB.out.2.1, hB.out.2.2, by simp only [World.frozen?_setCell]; exact f0, by simp only [World.frozen?_setCell]; exact f1, by simp only [World.frozen?_setCell]; exact f2, (show RdE _ _ _ _ _ from (OwnE.set (OwnE.set (OwnE.set HO0.out (by dsimp only; omega) _) (by dsimp only; omega) _) (by dsimp only; omega) _).rd), (show RdE _ _ _ _ _ from (OwnE.set (OwnE.set (OwnE.set HO1.out (by dsimp only; omega) _) (by dsimp only; omega) _) (by dsimp only; omega) _).rd), (show OrdTo _ _ _ _ from hord.out.next HQ.out), (show Below _ _ _ from Below.setCell (Below.setCell (Below.setCell hbel.out (by simp) _) (by simp) _) (by simp) _)⟩
          case measure => simp [intOf]; omega
        · have HR := Lib.hid (show ordG d = if true then some ((k : Int) + 1) else none from by rw [HG.out, ord_yes hord.out hlt HQ.out]; rfl)
          go_wp2_with fail
          go_ret2
          exact ⟨ret_if HR.out (by simp), Below.trans bw1.out (hbel.out.mono bw1.out.size)⟩
      · have e : k = 1000 := by omega
        have HR := Lib.hid (show ordG d = if false then some (0 : Int) else none from by rw [HG.out, ord_no (by rw [← e]; exact hord.out)]; rfl)
        have i1 : ¬ (k : Int) + 1 ≤ 1000 := by omega
        go_wp2_with fail
        go_ret2
        exact ⟨ret_if HR.out (fun _ => rfl), Below.trans bw1.out (hbel.out.mono bw1.out.size)⟩
  · have HT := Lib.hid (show tabB d = false from decide_eq_false ht)
    have HG := Lib.hid (show ordG d = none from if_neg ht)
    clear ht
    go_enter Try.func8, Try.ntmps8
    go_wp2_with fail
    refine (spec_l7Good_any d _ _ _ (Rd.below H0.out (show Below w.heap.size w _ from (by repeat (first | exact Below.refl _ _ | assumption | refine Below.drew ?_ | refine below_drewN ?_ _ | refine Below.alloc ?_ (by first | omega | (simp <;> omega)) _ | refine Below.setCell ?_ (by first | omega | (simp <;> omega)) _ | refine Below.trans ?_ (Below.mono (by assumption) (by first | omega | (simp <;> omega)))))) rfl) (Rd.below H1.out (show Below w.heap.size w _ from (by repeat (first | exact Below.refl _ _ | assumption | refine Below.drew ?_ | refine below_drewN ?_ _ | refine Below.alloc ?_ (by first | omega | (simp <;> omega)) _ | refine Below.setCell ?_ (by first | omega | (simp <;> omega)) _ | refine Below.trans ?_ (Below.mono (by assumption) (by first | omega | (simp <;> omega)))))) rfl) n0 n1).mono ?_; rintro e w1 ⟨rfl, hb1⟩; rw [HT.out]
    go_wp2_with fail
    go_ret2
    exact ⟨by rw [HG.out]; rfl, (by repeat (first | exact Below.refl _ _ | assumption | refine Below.drew ?_ | refine below_drewN ?_ _ | refine Below.alloc ?_ (by first | omega | (simp <;> omega)) _ | refine Below.setCell ?_ (by first | omega | (simp <;> omega)) _ | refine Below.trans ?_ (Below.mono (by assumption) (by first | omega | (simp <;> omega)))))⟩
end Go.Proofs.Ytfcmakabejnicaa
