/- Tof3, Tof4 in one text. -/
import Derived.Test.YtdkfoleippncnaaTgx
import Derived.Test.YtdkfoleippncnaaGt2
import Derived.Test.YtdkfoleippncnaaBrk
import Derived.Test.YtdkfoleippncnaaComp2
import Derived.Test.YtdkfoleippncnaaGt1
namespace Go.Proofs.Ytdkfoleippncnaa
set_option linter.unusedSimpArgs false
set_option linter.unusedVariables false
set_option linter.unnecessarySimpa false
set_option maxRecDepth 200000
open Go.ChangeShapes Go.WideShapes Go.ChangeAt Go.RowKit

theorem own_far3 {w : World} {base n cap g q : Nat} {xs : List E3} (h : OwnE w base 121 (.slice (some ⟨g, 0, none⟩) n cap) E3.cs 3 xs) (hl : xs.length = n) (hne : g ≠ q) (x y z : Value) : OwnE (set3 w q x y z) base 121 (.slice (some ⟨g, 0, none⟩) n cap) E3.cs 3 xs := ((OwnG.of h hl).farF (Far.set3 w q x y z) hne).own
set_option maxHeartbeats 16000000 in
theorem spec_l7Of_any (v : Value) (d : Circ) (n : Nat) (w : World) (h : RdE w v E3.cs 3 d.gs) (hn : d.n = (n : Int)) (hok : clifB d = true) :
    Calls Try.prog 42 #[.agg #[.int .i64 d.n, v]] w fun e w' => ∃ r0 r1, e = .returned (.agg #[.int .i64 (n : Int), r0, r1]) ∧ OwnE w' w.heap.size 121 r0 E3.cs 3 (pes (tofX n d.gs d.gs.length)) ∧ OwnE w' w.heap.size 121 r1 E3.cs 3 (pes (tofZ n d.gs d.gs.length)) ∧ Apart r0 r1 ∧ Below w.heap.size w w' := by
  obtain ⟨A, cA, rfl, Hc⟩ := gate_at h
  clear h
  have HOK := Lib.hid hok
  obtain ⟨n1, n5⟩ := clif_n hok hn
  have hdl : d.gs.length ≤ 400 := (clif_parts hok).1.2.1
  clear hok
  rw [hn]
  have HN := Lib.hid hn; clear hn
  go_enter Try.func42, Try.ntmps42
  go_wp2_with fail
  refine (spec_l7Identity_any (n : Int) _ (by omega) (by omega)).mono ?_; rintro e w1 ⟨q0, q1, rfl, ho0, ho1, hap, hb1⟩
  rw [Int.toNat_natCast] at ho0 ho1
  have t0 := below_cell hb1 rfl (show ((w.alloc (.cells #[.int .i64 (n : Int), .slice A d.gs.length cA] 30)).alloc (.cells #[.int .i64 0, .slice none 0 0, .slice none 0 0] 79)).cell? ⟨w.heap.size, 0, none⟩ = some (.int .i64 (n : Int)) from (by repeat (first | (refine Eq.trans (World.cell?_alloc_at _ _ _ _ ?hh) ?_; (case hh => (simp; done)); rfl) | refine cell_alloc_keep _ ?_)))
  have t1 := below_cell hb1 rfl (show ((w.alloc (.cells #[.int .i64 (n : Int), .slice A d.gs.length cA] 30)).alloc (.cells #[.int .i64 0, .slice none 0 0, .slice none 0 0] 79)).cell? ⟨w.heap.size, 1, none⟩ = some (.slice A d.gs.length cA) from (by repeat (first | (refine Eq.trans (World.cell?_alloc_at _ _ _ _ ?hh) ?_; (case hh => (simp; done)); rfl) | refine cell_alloc_keep _ ?_)))
  have r0 := below_cell hb1 rfl (show ((w.alloc (.cells #[.int .i64 (n : Int), .slice A d.gs.length cA] 30)).alloc (.cells #[.int .i64 0, .slice none 0 0, .slice none 0 0] 79)).cell? ⟨w.heap.size + 1, 0, none⟩ = some (.int .i64 0) from (by repeat (first | (refine Eq.trans (World.cell?_alloc_at _ _ _ _ ?hh) ?_; (case hh => (simp; done)); rfl) | refine cell_alloc_keep _ ?_)))
  have u0 := below_frz hb1 rfl (by simp) (show ((w.alloc (.cells #[.int .i64 (n : Int), .slice A d.gs.length cA] 30)).alloc (.cells #[.int .i64 0, .slice none 0 0, .slice none 0 0] 79)).frozen? ⟨w.heap.size + 1, 0, none⟩ = false from (by repeat (first | (refine World.frozen?_alloc_at _ _ _ _ ?hh; case hh => (simp; done)) | (refine frozen_alloc_lt _ ?hh ?_; case hh => first | omega | (simp <;> omega)))))
  have r1 := below_cell hb1 rfl (show ((w.alloc (.cells #[.int .i64 (n : Int), .slice A d.gs.length cA] 30)).alloc (.cells #[.int .i64 0, .slice none 0 0, .slice none 0 0] 79)).cell? ⟨w.heap.size + 1, 1, none⟩ = some (.slice none 0 0) from (by repeat (first | (refine Eq.trans (World.cell?_alloc_at _ _ _ _ ?hh) ?_; (case hh => (simp; done)); rfl) | refine cell_alloc_keep _ ?_)))
  have u1 := below_frz hb1 rfl (by simp) (show ((w.alloc (.cells #[.int .i64 (n : Int), .slice A d.gs.length cA] 30)).alloc (.cells #[.int .i64 0, .slice none 0 0, .slice none 0 0] 79)).frozen? ⟨w.heap.size + 1, 1, none⟩ = false from (by repeat (first | (refine World.frozen?_alloc_at _ _ _ _ ?hh; case hh => (simp; done)) | (refine frozen_alloc_lt _ ?hh ?_; case hh => first | omega | (simp <;> omega)))))
  have r2 := below_cell hb1 rfl (show ((w.alloc (.cells #[.int .i64 (n : Int), .slice A d.gs.length cA] 30)).alloc (.cells #[.int .i64 0, .slice none 0 0, .slice none 0 0] 79)).cell? ⟨w.heap.size + 1, 2, none⟩ = some (.slice none 0 0) from (by repeat (first | (refine Eq.trans (World.cell?_alloc_at _ _ _ _ ?hh) ?_; (case hh => (simp; done)); rfl) | refine cell_alloc_keep _ ?_)))
  have u2 := below_frz hb1 rfl (by simp) (show ((w.alloc (.cells #[.int .i64 (n : Int), .slice A d.gs.length cA] 30)).alloc (.cells #[.int .i64 0, .slice none 0 0, .slice none 0 0] 79)).frozen? ⟨w.heap.size + 1, 2, none⟩ = false from (by repeat (first | (refine World.frozen?_alloc_at _ _ _ _ ?hh; case hh => (simp; done)) | (refine frozen_alloc_lt _ ?hh ?_; case hh => first | omega | (simp <;> omega)))))
  have z1 := hb1.size; (simp at z1)
  have bw1 := Lib.hid (show Below w.heap.size w w1 from (by repeat (first | exact Below.refl _ _ | assumption | refine Below.drew ?_ | refine below_drewN ?_ _ | refine Below.alloc ?_ (by first | omega | (simp <;> omega)) _ | refine Below.setCell ?_ (by first | omega | (simp <;> omega)) _ | refine Below.trans ?_ (Below.mono (by assumption) (by first | omega | (simp <;> omega))))))
  clear hb1
  obtain ⟨g0, cp0, rfl, hg0, hg0'⟩ := own_E3 ho0 (idX_len n) (by omega)
  obtain ⟨g1, cp1, rfl, hg1, hg1'⟩ := own_E3 ho1 (idZ_len n) (by omega)
  (simp at hg0 hg1)
  have O0 := Lib.hid (OwnE.le ho0 (base' := w.heap.size + 2) (by first | omega | (simp; done) | (simp; omega))); have O1 := Lib.hid (OwnE.le ho1 (base' := w.heap.size + 2) (by first | omega | (simp; done) | (simp; omega)))
  have AP := Lib.hid hap
  clear ho0 ho1 hap
  have T0 := Lib.hid t0
  have T1 := Lib.hid t1
  have R0 := Lib.hid r0
  have R1 := Lib.hid r1
  have R2 := Lib.hid r2
  have U0 := Lib.hid u0
  have U1 := Lib.hid u1
  have U2 := Lib.hid u2
  have BX := World.block_lt_of_cell? _ _ t0
  have A0 := Lib.hid (show OwnE (w1.alloc (.cells #[.int .i64 (n : Int), .slice (some ⟨g0, 0, none⟩) n cp0, .slice (some ⟨g1, 0, none⟩) n cp1] 79)) (w.heap.size + 2) 121 (.slice (some ⟨g0, 0, none⟩) n cp0) E3.cs 3 (pes (tofX n d.gs 0)) from OwnE.below (by rw [tofX_0, ← idX_pes]; exact O0.out) (show Below w1.heap.size w1 _ from (by repeat (first | exact Below.refl _ _ | assumption | refine Below.drew ?_ | refine below_drewN ?_ _ | refine Below.alloc ?_ (by first | omega | (simp <;> omega)) _ | refine Below.setCell ?_ (by first | omega | (simp <;> omega)) _ | refine Below.trans ?_ (Below.mono (by assumption) (by first | omega | (simp <;> omega)))))) rfl)
  have A1 := Lib.hid (show OwnE (w1.alloc (.cells #[.int .i64 (n : Int), .slice (some ⟨g0, 0, none⟩) n cp0, .slice (some ⟨g1, 0, none⟩) n cp1] 79)) (w.heap.size + 2) 121 (.slice (some ⟨g1, 0, none⟩) n cp1) E3.cs 3 (pes (tofZ n d.gs 0)) from OwnE.below (by rw [tofZ_0, ← idZ_pes]; exact O1.out) (show Below w1.heap.size w1 _ from (by repeat (first | exact Below.refl _ _ | assumption | refine Below.drew ?_ | refine below_drewN ?_ _ | refine Below.alloc ?_ (by first | omega | (simp <;> omega)) _ | refine Below.setCell ?_ (by first | omega | (simp <;> omega)) _ | refine Below.trans ?_ (Below.mono (by assumption) (by first | omega | (simp <;> omega)))))) rfl)
  clear O0 O1 r0 r1 r2 u0 u1 u2
  go_wp2_with fail
  clear t0 t1
  go_loopw [12] (fun i wr => ∃ (k g0 cp0 g1 cp1 : Nat), k ≤ d.gs.length ∧ i = .int .i64 k ∧ wr.cell? ⟨w1.heap.size, 0, none⟩ = some (.int .i64 (n : Int)) ∧ wr.cell? ⟨w1.heap.size, 1, none⟩ = some (.slice (some ⟨g0, 0, none⟩) n cp0) ∧ wr.cell? ⟨w1.heap.size, 2, none⟩ = some (.slice (some ⟨g1, 0, none⟩) n cp1) ∧ wr.frozen? ⟨w1.heap.size, 0, none⟩ = false ∧ wr.frozen? ⟨w1.heap.size, 1, none⟩ = false ∧ wr.frozen? ⟨w1.heap.size, 2, none⟩ = false ∧ Hid (OwnE wr (w.heap.size + 2) 121 (.slice (some ⟨g0, 0, none⟩) n cp0) E3.cs 3 (pes (tofX n d.gs k))) ∧ Hid (OwnE wr (w.heap.size + 2) 121 (.slice (some ⟨g1, 0, none⟩) n cp1) E3.cs 3 (pes (tofZ n d.gs k))) ∧ Hid (Apart (.slice (some ⟨g0, 0, none⟩) n cp0) (.slice (some ⟨g1, 0, none⟩) n cp1)) ∧ g0 ≠ w1.heap.size ∧ g1 ≠ w1.heap.size ∧ Hid (Below w1.heap.size w1 wr)) (fun i _ => d.gs.length - (intOf i).toNat)
  case atStart => exact ⟨0, g0, cp0, g1, cp1, Nat.zero_le _, rfl, (by repeat (first | (refine Eq.trans (World.cell?_alloc_at _ _ _ _ ?hh) ?_; (case hh => (simp; done)); rfl) | refine cell_alloc_keep _ ?_)), (by repeat (first | (refine Eq.trans (World.cell?_alloc_at _ _ _ _ ?hh) ?_; (case hh => (simp; done)); rfl) | refine cell_alloc_keep _ ?_)), (by repeat (first | (refine Eq.trans (World.cell?_alloc_at _ _ _ _ ?hh) ?_; (case hh => (simp; done)); rfl) | refine cell_alloc_keep _ ?_)), (by repeat (first | (refine World.frozen?_alloc_at _ _ _ _ ?hh; case hh => (simp; done)) | (refine frozen_alloc_lt _ ?hh ?_; case hh => first | omega | (simp <;> omega)))), (by repeat (first | (refine World.frozen?_alloc_at _ _ _ _ ?hh; case hh => (simp; done)) | (refine frozen_alloc_lt _ ?hh ?_; case hh => first | omega | (simp <;> omega)))), (by repeat (first | (refine World.frozen?_alloc_at _ _ _ _ ?hh; case hh => (simp; done)) | (refine frozen_alloc_lt _ ?hh ?_; case hh => first | omega | (simp <;> omega)))), A0, A1, AP, by omega, by omega, (show Below _ _ _ from (by repeat (first | exact Below.refl _ _ | assumption | refine Below.drew ?_ | refine below_drewN ?_ _ | refine Below.alloc ?_ (by first | omega | (simp <;> omega)) _ | refine Below.setCell ?_ (by first | omega | (simp <;> omega)) _ | refine Below.trans ?_ (Below.mono (by assumption) (by first | omega | (simp <;> omega))))))⟩
  case round =>
    clear A0 A1 AP hg0 hg1 hg0' hg1'
    obtain ⟨k, g0, cp0, g1, cp1, hk, rfl, c0, c1, c2, f0, f1, f2, O0, O1, AP, e0, e1, hbel⟩ := hrel
    have L1 : w1.heap.size < wr.heap.size := World.block_lt_of_cell? _ _ c0
    have bw := Lib.hid (show Below w.heap.size w wr from Below.trans bw1.out (hbel.out.mono bw1.out.size))
    have t0 := below_cell hbel.out rfl T0.out; have t1 := below_cell hbel.out rfl T1.out
    by_cases hlt : k < d.gs.length
    · have i1 : (k : Int) < (d.gs.length : Int) := by omega
      obtain ⟨b0, off, rfl, hb0, q0, q1, q2⟩ := Hc.out k hlt
      replace q0 := (bw.out.cell hb0).trans q0; replace q1 := (bw.out.cell hb0).trans q1; replace q2 := (bw.out.cell hb0).trans q2
      obtain ⟨kk, a, b, hg, hgt⟩ := clif_gate HOK.out HN.out hlt
      have SX := Lib.hid (tofX_succ n hlt hg); have SZ := Lib.hid (tofZ_succ n hlt hg)
      rw [hg] at q0 q1 q2
      have HGT := Lib.hid hgt; clear hgt hg
      have LX := Lib.hid (tof_lt HOK.out HN.out k hk).1; have LZ := Lib.hid (tof_lt HOK.out HN.out k hk).2
      have KX := Lib.hid (tofX_len n d.gs k); have KZ := Lib.hid (tofZ_len n d.gs k)
      obtain ⟨X, hX⟩ : ∃ X, X = tofX n d.gs k := ⟨_, rfl⟩
      obtain ⟨Z, hZ⟩ : ∃ Z, Z = tofZ n d.gs k := ⟨_, rfl⟩
      rw [← hX] at O0 SX LX KX; rw [← hZ] at O1 SZ LZ KZ
      clear hX hZ
      have gx0 : (wr.alloc (.cells #[.int .i64 (kk : Int), .int .i64 (a : Int), .int .i64 (b : Int)] 104)).cell? ⟨wr.heap.size, 0, none⟩ = some (.int .i64 (kk : Int)) := (by repeat (first | (refine Eq.trans (World.cell?_alloc_at _ _ _ _ ?hh) ?_; (case hh => (simp; done)); rfl) | refine cell_alloc_keep _ ?_))
      have gx1 : (wr.alloc (.cells #[.int .i64 (kk : Int), .int .i64 (a : Int), .int .i64 (b : Int)] 104)).cell? ⟨wr.heap.size, 1, none⟩ = some (.int .i64 (a : Int)) := (by repeat (first | (refine Eq.trans (World.cell?_alloc_at _ _ _ _ ?hh) ?_; (case hh => (simp; done)); rfl) | refine cell_alloc_keep _ ?_))
      have gx2 : (wr.alloc (.cells #[.int .i64 (kk : Int), .int .i64 (a : Int), .int .i64 (b : Int)] 104)).cell? ⟨wr.heap.size, 2, none⟩ = some (.int .i64 (b : Int)) := (by repeat (first | (refine Eq.trans (World.cell?_alloc_at _ _ _ _ ?hh) ?_; (case hh => (simp; done)); rfl) | refine cell_alloc_keep _ ?_))
      replace c0 := cell_alloc_keep (.cells #[.int .i64 (kk : Int), .int .i64 (a : Int), .int .i64 (b : Int)] 104) c0
      replace c1 := cell_alloc_keep (.cells #[.int .i64 (kk : Int), .int .i64 (a : Int), .int .i64 (b : Int)] 104) c1
      replace c2 := cell_alloc_keep (.cells #[.int .i64 (kk : Int), .int .i64 (a : Int), .int .i64 (b : Int)] 104) c2
      replace t0 := cell_alloc_keep (.cells #[.int .i64 (kk : Int), .int .i64 (a : Int), .int .i64 (b : Int)] 104) t0
      replace t1 := cell_alloc_keep (.cells #[.int .i64 (kk : Int), .int .i64 (a : Int), .int .i64 (b : Int)] 104) t1
      replace f0 := frozen_alloc_lt (.cells #[.int .i64 (kk : Int), .int .i64 (a : Int), .int .i64 (b : Int)] 104) L1 f0
      replace f1 := frozen_alloc_lt (.cells #[.int .i64 (kk : Int), .int .i64 (a : Int), .int .i64 (b : Int)] 104) L1 f1
      replace f2 := frozen_alloc_lt (.cells #[.int .i64 (kk : Int), .int .i64 (a : Int), .int .i64 (b : Int)] 104) L1 f2
      replace O0 := Lib.hid (OwnE.below O0.out (show Below wr.heap.size wr (wr.alloc (.cells #[.int .i64 (kk : Int), .int .i64 (a : Int), .int .i64 (b : Int)] 104)) from (by repeat (first | exact Below.refl _ _ | assumption | refine Below.drew ?_ | refine below_drewN ?_ _ | refine Below.alloc ?_ (by first | omega | (simp <;> omega)) _ | refine Below.setCell ?_ (by first | omega | (simp <;> omega)) _ | refine Below.trans ?_ (Below.mono (by assumption) (by first | omega | (simp <;> omega)))))) rfl); replace O1 := Lib.hid (OwnE.below O1.out (show Below wr.heap.size wr (wr.alloc (.cells #[.int .i64 (kk : Int), .int .i64 (a : Int), .int .i64 (b : Int)] 104)) from (by repeat (first | exact Below.refl _ _ | assumption | refine Below.drew ?_ | refine below_drewN ?_ _ | refine Below.alloc ?_ (by first | omega | (simp <;> omega)) _ | refine Below.setCell ?_ (by first | omega | (simp <;> omega)) _ | refine Below.trans ?_ (Below.mono (by assumption) (by first | omega | (simp <;> omega)))))) rfl)
      replace hbel := Lib.hid (show Below w1.heap.size w1 (wr.alloc (.cells #[.int .i64 (kk : Int), .int .i64 (a : Int), .int .i64 (b : Int)] 104)) from Below.alloc hbel.out (by omega) _)
      have zw : wr.heap.size < (wr.alloc (.cells #[.int .i64 (kk : Int), .int .i64 (a : Int), .int .i64 (b : Int)] 104)).heap.size := by simp
      go_wp2_with fail
      generalize wr.alloc (.cells #[.int .i64 (kk : Int), .int .i64 (a : Int), .int .i64 (b : Int)] 104) = W at *
      clear q0 q1 q2 bw
      obtain ⟨gw, hgw⟩ : ∃ gw, gw = wr.heap.size := ⟨_, rfl⟩
      rw [← hgw] at gx0 gx1 gx2 zw L1 ⊢
      clear hgw
      refine AnyB.begin (S := (fun w' => w'.cell? ⟨w1.heap.size, 0, none⟩ = some (.int .i64 (n : Int)) ∧ w'.cell? ⟨w1.heap.size, 1, none⟩ = some (.slice (some ⟨g0, 0, none⟩) n cp0) ∧ w'.cell? ⟨w1.heap.size, 2, none⟩ = some (.slice (some ⟨g1, 0, none⟩) n cp1) ∧ w'.cell? ⟨w.heap.size, 0, none⟩ = some (.int .i64 (n : Int)) ∧ w'.cell? ⟨gw, 0, none⟩ = some (.int .i64 (kk : Int)) ∧ w'.cell? ⟨gw, 1, none⟩ = some (.int .i64 (a : Int)) ∧ w'.cell? ⟨gw, 2, none⟩ = some (.int .i64 (b : Int)))) [6] (by kernel_rfl) ?_ (fun hHeld0 => ?_)
      · ((try dsimp only); (first | exact ⟨c0, c1, c2, t0, gx0, gx1, gx2⟩))
      refine AnyB.take (i := 0) (oi := _) (v := ?_) (by simp only [List.getElem?_toArray, List.getElem?_cons_zero, List.getElem?_cons_succ]; rfl) (by kernel_rfl) (by kernel_rfl) (by kernel_rfl) (by kernel_rfl) (by kernel_rfl) (by intro _ _ _ h; exact h) (Or.inl ⟨by rfl, ?_⟩) (by assumption) ?_
      rotate_left
      · (intro w hSw; (try dsimp only at hSw); go_simp; (try (with_reducible rfl)))
      try simp only [Act.put, List.setIfInBounds_toArray, List.set_cons_zero, List.set_cons_succ]
      refine AnyB.takeQ (i := 1) (oi := _) (v := ?_) (by simp only [List.getElem?_toArray, List.getElem?_cons_zero, List.getElem?_cons_succ]; rfl) (by kernel_rfl) (by kernel_rfl) (by kernel_rfl) (by intro _ _ _ h; exact h) (Or.inl ⟨by rfl, ?_⟩) ?_
      rotate_left
      · (intro w hSw; (try dsimp only at hSw); go_simp; (try (with_reducible rfl)))
      try simp only [Act.put, List.setIfInBounds_toArray, List.set_cons_zero, List.set_cons_succ]
      refine AnyB.take (i := 2) (oi := _) (v := ?_) (by simp only [List.getElem?_toArray, List.getElem?_cons_zero, List.getElem?_cons_succ]; rfl) (by kernel_rfl) (by kernel_rfl) (by kernel_rfl) (by kernel_rfl) (by kernel_rfl) (by intro _ _ _ h; exact h) (Or.inl ⟨by rfl, ?_⟩) (by assumption) ?_
      rotate_left
      · (intro w hSw; (try dsimp only at hSw); go_simp; (try (with_reducible rfl)))
      try simp only [Act.put, List.setIfInBounds_toArray, List.set_cons_zero, List.set_cons_succ]
      refine AnyB.take (i := 3) (oi := _) (v := ?_) (by simp only [List.getElem?_toArray, List.getElem?_cons_zero, List.getElem?_cons_succ]; rfl) (by kernel_rfl) (by kernel_rfl) (by kernel_rfl) (by kernel_rfl) (by kernel_rfl) (by intro _ _ _ h; exact h) (Or.inl ⟨by rfl, ?_⟩) (by assumption) ?_
      rotate_left
      · (intro w hSw; (try dsimp only at hSw); go_simp; (try (with_reducible rfl)))
      try simp only [Act.put, List.setIfInBounds_toArray, List.set_cons_zero, List.set_cons_succ]
      refine AnyB.each (rs := [4]) (by kernel_rfl) (by simp) ?_
      refine EachB.cons rfl (fun K hK hB => ?_) ?_
      · skip
        (go_simp; go_at_call 87; refine (spec_l7Gate_any n kk a b _ HGT.out n1 n5).mono ?_; rintro e w2 ⟨p0, p1, rfl, hp0, hp1, hpp, hb2⟩; obtain ⟨h0, ch0, rfl, hh0, hh0'⟩ := own_E3 hp0 ((pes_len _).trans (gtX_len n kk a b)) (by omega); obtain ⟨h1, ch1, rfl, hh1, hh1'⟩ := own_E3 hp1 ((pes_len _).trans (gtZ_len n kk a b)) (by omega); have P0 := Lib.hid (OwnE.rd hp0); have P1 := Lib.hid (OwnE.rd hp1); clear hp0 hp1 hpp; have y2 := hb2.size; (try simp at y2); replace c0 := below_cell hb2 rfl (cell_drew c0); replace c1 := below_cell hb2 rfl (cell_drew c1); replace c2 := below_cell hb2 rfl (cell_drew c2); replace t0 := below_cell hb2 rfl (cell_drew t0); replace t1 := below_cell hb2 rfl (cell_drew t1); replace gx0 := below_cell hb2 rfl (cell_drew gx0); replace gx1 := below_cell hb2 rfl (cell_drew gx1); replace gx2 := below_cell hb2 rfl (cell_drew gx2); replace f0 := below_frz hb2 rfl (by first | omega | (simp; done) | (simp; omega)) (frz_drew f0); replace f1 := below_frz hb2 rfl (by first | omega | (simp; done) | (simp; omega)) (frz_drew f1); replace f2 := below_frz hb2 rfl (by first | omega | (simp; done) | (simp; omega)) (frz_drew f2); replace O0 := Lib.hid (OwnE.below (OwnE.below O0.out (show Below W.heap.size W W.drew from (by repeat (first | exact Below.refl _ _ | assumption | refine Below.drew ?_ | refine below_drewN ?_ _ | refine Below.alloc ?_ (by first | omega | (simp <;> omega)) _ | refine Below.setCell ?_ (by first | omega | (simp <;> omega)) _ | refine Below.trans ?_ (Below.mono (by assumption) (by first | omega | (simp <;> omega)))))) rfl) hb2 rfl); replace O1 := Lib.hid (OwnE.below (OwnE.below O1.out (show Below W.heap.size W W.drew from (by repeat (first | exact Below.refl _ _ | assumption | refine Below.drew ?_ | refine below_drewN ?_ _ | refine Below.alloc ?_ (by first | omega | (simp <;> omega)) _ | refine Below.setCell ?_ (by first | omega | (simp <;> omega)) _ | refine Below.trans ?_ (Below.mono (by assumption) (by first | omega | (simp <;> omega)))))) rfl) hb2 rfl); replace hbel := Lib.hid (show Below w1.heap.size w1 w2 from Below.trans (Below.drew hbel.out) (hb2.mono (by first | omega | (simp; done) | (simp; omega)))); clear hb2; dsimp only)
        refine hK.out _ _ ?_ (fun hHeld1 => ?_)
        · ((try dsimp only); (first | exact ⟨c0, c1, c2, t0, gx0, gx1, gx2⟩))
        clear hB hK K hHeld0
        refine AnyB.each (rs := [5]) (by kernel_rfl) (by simp) ?_
        refine EachB.cons rfl (fun K hK hB => ?_) ?_
        · skip
          (go_simp; go_at_call 86; refine (spec_l7Then_any n X Z (gtX n kk a b) (gtZ n kk a b) _ _ _ _ _ n5 KX.out KZ.out (gtX_len n kk a b) (gtZ_len n kk a b) LX.out.ok LZ.out.ok (gtX_lt n5 HGT.out).ok (gtZ_lt n5 HGT.out).ok O0.out.rd O1.out.rd P0.out P1.out).mono ?_; rintro e w3 ⟨p2, p3, rfl, ho2, ho3, hap2, hb3⟩; rw [compL_samet n5 LX.out] at ho2; rw [compL_samet n5 LZ.out] at ho3; rw [← SX.out] at ho2; rw [← SZ.out] at ho3; obtain ⟨g2, cp2, rfl, hg2, hg2'⟩ := own_E3 ho2 ((pes_len _).trans (tofX_len n d.gs (k + 1))) (by omega); obtain ⟨g3, cp3, rfl, hg3, hg3'⟩ := own_E3 ho3 ((pes_len _).trans (tofZ_len n d.gs (k + 1))) (by omega); have N0 := Lib.hid (OwnE.le ho2 (base' := w.heap.size + 2) (by omega)); have N1 := Lib.hid (OwnE.le ho3 (base' := w.heap.size + 2) (by omega)); have NA := Lib.hid hap2; clear ho2 ho3 hap2; have y3 := hb3.size; replace c0 := below_cell hb3 rfl c0; replace c1 := below_cell hb3 rfl c1; replace c2 := below_cell hb3 rfl c2; replace t0 := below_cell hb3 rfl t0; replace t1 := below_cell hb3 rfl t1; replace gx0 := below_cell hb3 rfl gx0; replace gx1 := below_cell hb3 rfl gx1; replace gx2 := below_cell hb3 rfl gx2; replace f0 := below_frz hb3 rfl (by first | omega | (simp; done) | (simp; omega)) f0; replace f1 := below_frz hb3 rfl (by first | omega | (simp; done) | (simp; omega)) f1; replace f2 := below_frz hb3 rfl (by first | omega | (simp; done) | (simp; omega)) f2; replace hbel := Lib.hid (show Below w1.heap.size w1 w3 from Below.trans hbel.out (hb3.mono (by omega))); clear hb3; dsimp only)
          refine hK.out _ _ ?_ (fun hHeld2 => ?_)
          · ((try dsimp only); (first | exact ⟨c0, c1, c2, t0, gx0, gx1, gx2⟩))
          clear hB hK K hHeld1
          refine AnyB.each (rs := [6]) (by kernel_rfl) (by simp) ?_
          refine EachB.cons rfl (fun K hK hB => ?_) ?_
          · skip
            go_simp
            refine hB.out _ _ rfl ?_
            clear hB hK K
            refine AnyB.none (by kernel_rfl) ?_ _
            have hB := Lib.hid (box_set3 (nb := w1.heap.size) (.int .i64 (n : Int)) (.slice (some ⟨g2, 0, none⟩) n cp2) (.slice (some ⟨g3, 0, none⟩) n cp3) c0 c1 c2)
            go_wp2_with fail
            go_roundw
            case rel => exact ⟨k + 1, g2, cp2, g3, cp3, by omega, by go_num, hB.out.1, hB.out.2.1, hB.out.2.2, by simp only [World.frozen?_setCell]; exact f0, by simp only [World.frozen?_setCell]; exact f1, by simp only [World.frozen?_setCell]; exact f2, (show OwnE _ _ _ _ _ _ _ from own_far3 N0.out ((pes_len _).trans (tofX_len n d.gs (k + 1))) (by omega) _ _ _), (show OwnE _ _ _ _ _ _ _ from own_far3 N1.out ((pes_len _).trans (tofZ_len n d.gs (k + 1))) (by omega) _ _ _), NA.out, by omega, by omega, (show Below _ _ _ from Below.setCell (Below.setCell (Below.setCell hbel.out (by dsimp only; omega) _) (by dsimp only; omega) _) (by dsimp only; omega) _)⟩
            case measure => simp [intOf]; omega
          exact EachB.nil
        exact EachB.nil
      exact EachB.nil
    · have e9 : k = d.gs.length := by omega
      rw [e9] at O0 O1
      have r0 := below_cell hbel.out rfl R0.out; have u0 := below_frz hbel.out rfl (by omega) U0.out
      have r1 := below_cell hbel.out rfl R1.out; have u1 := below_frz hbel.out rfl (by omega) U1.out
      have r2 := below_cell hbel.out rfl R2.out; have u2 := below_frz hbel.out rfl (by omega) U2.out
      have hZ := box_set3 (nb := w.heap.size + 1) (.int .i64 (n : Int)) (.slice (some ⟨g0, 0, none⟩) n cp0) (.slice (some ⟨g1, 0, none⟩) n cp1) r0 r1 r2
      have i1 : ¬ (k : Int) < (d.gs.length : Int) := by omega
      have bq := bw.out
      have hx2 : w.heap.size + 1 ≠ w1.heap.size := by omega
      clear e9
      go_wp2_with fail
      exact bodyPost_ret (v := .agg #[.int .i64 (n : Int), .slice (some ⟨g0, 0, none⟩) n cp0, .slice (some ⟨g1, 0, none⟩) n cp1]) (by simp [results, Try.results42, go_sem, hZ]) rfl ⟨_, _, rfl, (OwnE.le (OwnE.set (OwnE.set (OwnE.set O0.out (by simp) _) (by simp) _) (by simp) _) (by omega)), (OwnE.le (OwnE.set (OwnE.set (OwnE.set O1.out (by simp) _) (by simp) _) (by simp) _) (by omega)), AP.out, (by repeat (first | exact Below.refl _ _ | assumption | refine Below.drew ?_ | refine below_drewN ?_ _ | refine Below.alloc ?_ (by first | omega | (simp <;> omega)) _ | refine Below.setCell ?_ (by first | omega | (simp <;> omega)) _ | refine Below.trans ?_ (Below.mono (by assumption) (by first | omega | (simp <;> omega)))))⟩
end Go.Proofs.Ytdkfoleippncnaa
namespace Go.Proofs.Ytdkfoleippncnaa
set_option linter.unusedSimpArgs false
set_option linter.unusedVariables false
set_option linter.unnecessarySimpa false
set_option maxRecDepth 200000
open Go.ChangeShapes Go.WideShapes Go.ChangeAt Go.RowKit

set_option maxHeartbeats 16000000 in
theorem impl_TableauOf_any (v : Value) (d : Circ) (w : World) (h : RdE w v E3.cs 3 d.gs) (hl : d.gs.length ≤ 1048576) :
    Calls Try.prog 44 #[.agg #[.int .i64 d.n, v]] w (TabPost w (tofG d)) := by
  have H := Lib.hid h
  obtain ⟨A, cA, rfl, Hc⟩ := gate_at h
  clear h
  have HC := Lib.hid (clif_def d)
  cases hok : clifB d with
  | true =>
    obtain ⟨n, hn, n1, n5⟩ := clif_nat hok
    have hdl : d.gs.length ≤ 400 := (clif_parts hok).1.2.1
    have HOK := Lib.hid hok
    have HG := Lib.hid (show tofG d = some ⟨d.n, pes (tofX n d.gs d.gs.length), pes (tofZ n d.gs d.gs.length)⟩ from by unfold tofG; rw [hok, hn]; rfl)
    rw [hok] at HC
    have HB := Lib.hid (show circB d = true from by have h9 := HC.out; revert h9; cases circB d <;> simp)
    have HT := Lib.hid (show tCount d = 0 from by have h9 := HC.out; rw [HB.out, Bool.true_and] at h9; exact (beq_iff_eq.1 h9.symm))
    have HN := Lib.hid hn
    rw [hn] at HG
    clear hok hn HC
    go_enter Try.func44, Try.ntmps44
    go_wp2_with fail
    refine (impl_CountT_any _ d _ (Rd.below H.out (show Below w.heap.size w _ from (by repeat (first | exact Below.refl _ _ | assumption | refine Below.drew ?_ | refine below_drewN ?_ _ | refine Below.alloc ?_ (by first | omega | (simp <;> omega)) _ | refine Below.setCell ?_ (by first | omega | (simp <;> omega)) _ | refine Below.trans ?_ (Below.mono (by assumption) (by first | omega | (simp <;> omega)))))) rfl) hl).mono ?_; rw [HB.out, HT.out]; rintro e w0 ⟨rfl, hb0⟩
    have t0 := below_cell hb0 rfl (show ((w.alloc (.cells #[.int .i64 d.n, .slice A d.gs.length cA] 30)).alloc (.cells #[.int .i64 0, .slice none 0 0, .slice none 0 0] 79)).cell? ⟨w.heap.size, 0, none⟩ = some (.int .i64 d.n) from (by repeat (first | (refine Eq.trans (World.cell?_alloc_at _ _ _ _ ?hh) ?_; (case hh => (simp; done)); rfl) | refine cell_alloc_keep _ ?_)))
    have t1 := below_cell hb0 rfl (show ((w.alloc (.cells #[.int .i64 d.n, .slice A d.gs.length cA] 30)).alloc (.cells #[.int .i64 0, .slice none 0 0, .slice none 0 0] 79)).cell? ⟨w.heap.size, 1, none⟩ = some (.slice A d.gs.length cA) from (by repeat (first | (refine Eq.trans (World.cell?_alloc_at _ _ _ _ ?hh) ?_; (case hh => (simp; done)); rfl) | refine cell_alloc_keep _ ?_)))
    have r0 := below_cell hb0 rfl (show ((w.alloc (.cells #[.int .i64 d.n, .slice A d.gs.length cA] 30)).alloc (.cells #[.int .i64 0, .slice none 0 0, .slice none 0 0] 79)).cell? ⟨w.heap.size + 1, 0, none⟩ = some (.int .i64 0) from (by repeat (first | (refine Eq.trans (World.cell?_alloc_at _ _ _ _ ?hh) ?_; (case hh => (simp; done)); rfl) | refine cell_alloc_keep _ ?_)))
    have u0 := below_frz hb0 rfl (by simp) (show ((w.alloc (.cells #[.int .i64 d.n, .slice A d.gs.length cA] 30)).alloc (.cells #[.int .i64 0, .slice none 0 0, .slice none 0 0] 79)).frozen? ⟨w.heap.size + 1, 0, none⟩ = false from (by repeat (first | (refine World.frozen?_alloc_at _ _ _ _ ?hh; case hh => (simp; done)) | (refine frozen_alloc_lt _ ?hh ?_; case hh => first | omega | (simp <;> omega)))))
    have r1 := below_cell hb0 rfl (show ((w.alloc (.cells #[.int .i64 d.n, .slice A d.gs.length cA] 30)).alloc (.cells #[.int .i64 0, .slice none 0 0, .slice none 0 0] 79)).cell? ⟨w.heap.size + 1, 1, none⟩ = some (.slice none 0 0) from (by repeat (first | (refine Eq.trans (World.cell?_alloc_at _ _ _ _ ?hh) ?_; (case hh => (simp; done)); rfl) | refine cell_alloc_keep _ ?_)))
    have u1 := below_frz hb0 rfl (by simp) (show ((w.alloc (.cells #[.int .i64 d.n, .slice A d.gs.length cA] 30)).alloc (.cells #[.int .i64 0, .slice none 0 0, .slice none 0 0] 79)).frozen? ⟨w.heap.size + 1, 1, none⟩ = false from (by repeat (first | (refine World.frozen?_alloc_at _ _ _ _ ?hh; case hh => (simp; done)) | (refine frozen_alloc_lt _ ?hh ?_; case hh => first | omega | (simp <;> omega)))))
    have r2 := below_cell hb0 rfl (show ((w.alloc (.cells #[.int .i64 d.n, .slice A d.gs.length cA] 30)).alloc (.cells #[.int .i64 0, .slice none 0 0, .slice none 0 0] 79)).cell? ⟨w.heap.size + 1, 2, none⟩ = some (.slice none 0 0) from (by repeat (first | (refine Eq.trans (World.cell?_alloc_at _ _ _ _ ?hh) ?_; (case hh => (simp; done)); rfl) | refine cell_alloc_keep _ ?_)))
    have u2 := below_frz hb0 rfl (by simp) (show ((w.alloc (.cells #[.int .i64 d.n, .slice A d.gs.length cA] 30)).alloc (.cells #[.int .i64 0, .slice none 0 0, .slice none 0 0] 79)).frozen? ⟨w.heap.size + 1, 2, none⟩ = false from (by repeat (first | (refine World.frozen?_alloc_at _ _ _ _ ?hh; case hh => (simp; done)) | (refine frozen_alloc_lt _ ?hh ?_; case hh => first | omega | (simp <;> omega)))))
    rw [HN.out] at t0
    have z0 := hb0.size; (simp at z0)
    have bw0 := Lib.hid (show Below w.heap.size w w0 from (by repeat (first | exact Below.refl _ _ | assumption | refine Below.drew ?_ | refine below_drewN ?_ _ | refine Below.alloc ?_ (by first | omega | (simp <;> omega)) _ | refine Below.setCell ?_ (by first | omega | (simp <;> omega)) _ | refine Below.trans ?_ (Below.mono (by assumption) (by first | omega | (simp <;> omega))))))
    clear hb0
    go_wp2_with fail
    refine (impl_identity_any (n : Int) _ (by omega) (by omega)).mono ?_; rintro e w1 ⟨q0, q1, rfl, ho0, ho1, hap, hb1⟩
    rw [Int.toNat_natCast] at ho0 ho1
    replace t0 := below_cell hb1 rfl t0
    replace t1 := below_cell hb1 rfl t1
    replace r0 := below_cell hb1 rfl r0
    replace r1 := below_cell hb1 rfl r1
    replace r2 := below_cell hb1 rfl r2
    replace u0 := below_frz hb1 rfl (by omega) u0
    replace u1 := below_frz hb1 rfl (by omega) u1
    replace u2 := below_frz hb1 rfl (by omega) u2
    have z1 := hb1.size
    have bw1 := Lib.hid (show Below w.heap.size w w1 from Below.trans bw0.out (hb1.mono (by omega)))
    clear hb1
    obtain ⟨g0, cp0, rfl, hg0, hg0'⟩ := own_E3 ho0 (idX_len n) (by omega)
    obtain ⟨g1, cp1, rfl, hg1, hg1'⟩ := own_E3 ho1 (idZ_len n) (by omega)
    have O0 := Lib.hid (OwnE.le ho0 (base' := w.heap.size + 2) (by first | omega | (simp; done) | (simp; omega))); have O1 := Lib.hid (OwnE.le ho1 (base' := w.heap.size + 2) (by first | omega | (simp; done) | (simp; omega)))
    have AP := Lib.hid hap
    clear ho0 ho1 hap
    have T0 := Lib.hid t0
    have T1 := Lib.hid t1
    have R0 := Lib.hid r0
    have R1 := Lib.hid r1
    have R2 := Lib.hid r2
    have U0 := Lib.hid u0
    have U1 := Lib.hid u1
    have U2 := Lib.hid u2
    have BX := World.block_lt_of_cell? _ _ t0
    have A0 := Lib.hid (show OwnE (w1.alloc (.cells #[.int .i64 (n : Int), .slice (some ⟨g0, 0, none⟩) n cp0, .slice (some ⟨g1, 0, none⟩) n cp1] 79)) (w.heap.size + 2) 121 (.slice (some ⟨g0, 0, none⟩) n cp0) E3.cs 3 (pes (tofX n d.gs 0)) from OwnE.below (by rw [tofX_0, ← idX_pes]; exact O0.out) (show Below w1.heap.size w1 _ from (by repeat (first | exact Below.refl _ _ | assumption | refine Below.drew ?_ | refine below_drewN ?_ _ | refine Below.alloc ?_ (by first | omega | (simp <;> omega)) _ | refine Below.setCell ?_ (by first | omega | (simp <;> omega)) _ | refine Below.trans ?_ (Below.mono (by assumption) (by first | omega | (simp <;> omega)))))) rfl)
    have A1 := Lib.hid (show OwnE (w1.alloc (.cells #[.int .i64 (n : Int), .slice (some ⟨g0, 0, none⟩) n cp0, .slice (some ⟨g1, 0, none⟩) n cp1] 79)) (w.heap.size + 2) 121 (.slice (some ⟨g1, 0, none⟩) n cp1) E3.cs 3 (pes (tofZ n d.gs 0)) from OwnE.below (by rw [tofZ_0, ← idZ_pes]; exact O1.out) (show Below w1.heap.size w1 _ from (by repeat (first | exact Below.refl _ _ | assumption | refine Below.drew ?_ | refine below_drewN ?_ _ | refine Below.alloc ?_ (by first | omega | (simp <;> omega)) _ | refine Below.setCell ?_ (by first | omega | (simp <;> omega)) _ | refine Below.trans ?_ (Below.mono (by assumption) (by first | omega | (simp <;> omega)))))) rfl)
    clear O0 O1 r0 r1 r2 u0 u1 u2
    go_wp2_with fail
    clear t0 t1
    go_loopw [27] (fun i wr => ∃ (k g0 cp0 g1 cp1 : Nat), k ≤ d.gs.length ∧ i = .int .i64 k ∧ wr.cell? ⟨w1.heap.size, 0, none⟩ = some (.int .i64 (n : Int)) ∧ wr.cell? ⟨w1.heap.size, 1, none⟩ = some (.slice (some ⟨g0, 0, none⟩) n cp0) ∧ wr.cell? ⟨w1.heap.size, 2, none⟩ = some (.slice (some ⟨g1, 0, none⟩) n cp1) ∧ wr.frozen? ⟨w1.heap.size, 0, none⟩ = false ∧ wr.frozen? ⟨w1.heap.size, 1, none⟩ = false ∧ wr.frozen? ⟨w1.heap.size, 2, none⟩ = false ∧ Hid (OwnE wr (w.heap.size + 2) 121 (.slice (some ⟨g0, 0, none⟩) n cp0) E3.cs 3 (pes (tofX n d.gs k))) ∧ Hid (OwnE wr (w.heap.size + 2) 121 (.slice (some ⟨g1, 0, none⟩) n cp1) E3.cs 3 (pes (tofZ n d.gs k))) ∧ Hid (Apart (.slice (some ⟨g0, 0, none⟩) n cp0) (.slice (some ⟨g1, 0, none⟩) n cp1)) ∧ g0 ≠ w1.heap.size ∧ g1 ≠ w1.heap.size ∧ Hid (Below w1.heap.size w1 wr)) (fun i _ => d.gs.length - (intOf i).toNat)
    case atStart => exact ⟨0, g0, cp0, g1, cp1, Nat.zero_le _, rfl, (by repeat (first | (refine Eq.trans (World.cell?_alloc_at _ _ _ _ ?hh) ?_; (case hh => (simp; done)); rfl) | refine cell_alloc_keep _ ?_)), (by repeat (first | (refine Eq.trans (World.cell?_alloc_at _ _ _ _ ?hh) ?_; (case hh => (simp; done)); rfl) | refine cell_alloc_keep _ ?_)), (by repeat (first | (refine Eq.trans (World.cell?_alloc_at _ _ _ _ ?hh) ?_; (case hh => (simp; done)); rfl) | refine cell_alloc_keep _ ?_)), (by repeat (first | (refine World.frozen?_alloc_at _ _ _ _ ?hh; case hh => (simp; done)) | (refine frozen_alloc_lt _ ?hh ?_; case hh => first | omega | (simp <;> omega)))), (by repeat (first | (refine World.frozen?_alloc_at _ _ _ _ ?hh; case hh => (simp; done)) | (refine frozen_alloc_lt _ ?hh ?_; case hh => first | omega | (simp <;> omega)))), (by repeat (first | (refine World.frozen?_alloc_at _ _ _ _ ?hh; case hh => (simp; done)) | (refine frozen_alloc_lt _ ?hh ?_; case hh => first | omega | (simp <;> omega)))), A0, A1, AP, by omega, by omega, (show Below _ _ _ from (by repeat (first | exact Below.refl _ _ | assumption | refine Below.drew ?_ | refine below_drewN ?_ _ | refine Below.alloc ?_ (by first | omega | (simp <;> omega)) _ | refine Below.setCell ?_ (by first | omega | (simp <;> omega)) _ | refine Below.trans ?_ (Below.mono (by assumption) (by first | omega | (simp <;> omega))))))⟩
    case round =>
      clear A0 A1 AP hg0 hg1 hg0' hg1'
      obtain ⟨k, g0, cp0, g1, cp1, hk, rfl, c0, c1, c2, f0, f1, f2, O0, O1, AP, e0, e1, hbel⟩ := hrel
      have L1 : w1.heap.size < wr.heap.size := World.block_lt_of_cell? _ _ c0
      have bw := Lib.hid (show Below w.heap.size w wr from Below.trans bw1.out (hbel.out.mono bw1.out.size))
      have t0 := below_cell hbel.out rfl T0.out; have t1 := below_cell hbel.out rfl T1.out
      by_cases hlt : k < d.gs.length
      · have i1 : (k : Int) < (d.gs.length : Int) := by omega
        obtain ⟨b0, off, rfl, hb0, q0, q1, q2⟩ := Hc.out k hlt
        replace q0 := (bw.out.cell hb0).trans q0; replace q1 := (bw.out.cell hb0).trans q1; replace q2 := (bw.out.cell hb0).trans q2
        obtain ⟨kk, a, b, hg, hgt⟩ := clif_gate HOK.out HN.out hlt
        have SX := Lib.hid (tofX_succ n hlt hg); have SZ := Lib.hid (tofZ_succ n hlt hg)
        rw [hg] at q0 q1 q2
        have HGT := Lib.hid hgt; clear hgt hg
        have LX := Lib.hid (tof_lt HOK.out HN.out k hk).1; have LZ := Lib.hid (tof_lt HOK.out HN.out k hk).2
        have KX := Lib.hid (tofX_len n d.gs k); have KZ := Lib.hid (tofZ_len n d.gs k)
        obtain ⟨X, hX⟩ : ∃ X, X = tofX n d.gs k := ⟨_, rfl⟩
        obtain ⟨Z, hZ⟩ : ∃ Z, Z = tofZ n d.gs k := ⟨_, rfl⟩
        rw [← hX] at O0 SX LX KX; rw [← hZ] at O1 SZ LZ KZ
        clear hX hZ
        have gx0 : (wr.alloc (.cells #[.int .i64 (kk : Int), .int .i64 (a : Int), .int .i64 (b : Int)] 104)).cell? ⟨wr.heap.size, 0, none⟩ = some (.int .i64 (kk : Int)) := (by repeat (first | (refine Eq.trans (World.cell?_alloc_at _ _ _ _ ?hh) ?_; (case hh => (simp; done)); rfl) | refine cell_alloc_keep _ ?_))
        have gx1 : (wr.alloc (.cells #[.int .i64 (kk : Int), .int .i64 (a : Int), .int .i64 (b : Int)] 104)).cell? ⟨wr.heap.size, 1, none⟩ = some (.int .i64 (a : Int)) := (by repeat (first | (refine Eq.trans (World.cell?_alloc_at _ _ _ _ ?hh) ?_; (case hh => (simp; done)); rfl) | refine cell_alloc_keep _ ?_))
        have gx2 : (wr.alloc (.cells #[.int .i64 (kk : Int), .int .i64 (a : Int), .int .i64 (b : Int)] 104)).cell? ⟨wr.heap.size, 2, none⟩ = some (.int .i64 (b : Int)) := (by repeat (first | (refine Eq.trans (World.cell?_alloc_at _ _ _ _ ?hh) ?_; (case hh => (simp; done)); rfl) | refine cell_alloc_keep _ ?_))
        replace c0 := cell_alloc_keep (.cells #[.int .i64 (kk : Int), .int .i64 (a : Int), .int .i64 (b : Int)] 104) c0
        replace c1 := cell_alloc_keep (.cells #[.int .i64 (kk : Int), .int .i64 (a : Int), .int .i64 (b : Int)] 104) c1
        replace c2 := cell_alloc_keep (.cells #[.int .i64 (kk : Int), .int .i64 (a : Int), .int .i64 (b : Int)] 104) c2
        replace t0 := cell_alloc_keep (.cells #[.int .i64 (kk : Int), .int .i64 (a : Int), .int .i64 (b : Int)] 104) t0
        replace t1 := cell_alloc_keep (.cells #[.int .i64 (kk : Int), .int .i64 (a : Int), .int .i64 (b : Int)] 104) t1
        replace f0 := frozen_alloc_lt (.cells #[.int .i64 (kk : Int), .int .i64 (a : Int), .int .i64 (b : Int)] 104) L1 f0
        replace f1 := frozen_alloc_lt (.cells #[.int .i64 (kk : Int), .int .i64 (a : Int), .int .i64 (b : Int)] 104) L1 f1
        replace f2 := frozen_alloc_lt (.cells #[.int .i64 (kk : Int), .int .i64 (a : Int), .int .i64 (b : Int)] 104) L1 f2
        replace O0 := Lib.hid (OwnE.below O0.out (show Below wr.heap.size wr (wr.alloc (.cells #[.int .i64 (kk : Int), .int .i64 (a : Int), .int .i64 (b : Int)] 104)) from (by repeat (first | exact Below.refl _ _ | assumption | refine Below.drew ?_ | refine below_drewN ?_ _ | refine Below.alloc ?_ (by first | omega | (simp <;> omega)) _ | refine Below.setCell ?_ (by first | omega | (simp <;> omega)) _ | refine Below.trans ?_ (Below.mono (by assumption) (by first | omega | (simp <;> omega)))))) rfl); replace O1 := Lib.hid (OwnE.below O1.out (show Below wr.heap.size wr (wr.alloc (.cells #[.int .i64 (kk : Int), .int .i64 (a : Int), .int .i64 (b : Int)] 104)) from (by repeat (first | exact Below.refl _ _ | assumption | refine Below.drew ?_ | refine below_drewN ?_ _ | refine Below.alloc ?_ (by first | omega | (simp <;> omega)) _ | refine Below.setCell ?_ (by first | omega | (simp <;> omega)) _ | refine Below.trans ?_ (Below.mono (by assumption) (by first | omega | (simp <;> omega)))))) rfl)
        replace hbel := Lib.hid (show Below w1.heap.size w1 (wr.alloc (.cells #[.int .i64 (kk : Int), .int .i64 (a : Int), .int .i64 (b : Int)] 104)) from Below.alloc hbel.out (by omega) _)
        have zw : wr.heap.size < (wr.alloc (.cells #[.int .i64 (kk : Int), .int .i64 (a : Int), .int .i64 (b : Int)] 104)).heap.size := by simp
        go_wp2_with fail
        generalize wr.alloc (.cells #[.int .i64 (kk : Int), .int .i64 (a : Int), .int .i64 (b : Int)] 104) = W at *
        clear q0 q1 q2 bw
        obtain ⟨gw, hgw⟩ : ∃ gw, gw = wr.heap.size := ⟨_, rfl⟩
        rw [← hgw] at gx0 gx1 gx2 zw L1 ⊢
        clear hgw
        refine AnyB.begin (S := (fun w' => w'.cell? ⟨w1.heap.size, 0, none⟩ = some (.int .i64 (n : Int)) ∧ w'.cell? ⟨w1.heap.size, 1, none⟩ = some (.slice (some ⟨g0, 0, none⟩) n cp0) ∧ w'.cell? ⟨w1.heap.size, 2, none⟩ = some (.slice (some ⟨g1, 0, none⟩) n cp1) ∧ w'.cell? ⟨w.heap.size, 0, none⟩ = some (.int .i64 (n : Int)) ∧ w'.cell? ⟨gw, 0, none⟩ = some (.int .i64 (kk : Int)) ∧ w'.cell? ⟨gw, 1, none⟩ = some (.int .i64 (a : Int)) ∧ w'.cell? ⟨gw, 2, none⟩ = some (.int .i64 (b : Int)))) [6] (by kernel_rfl) ?_ (fun hHeld0 => ?_)
        · ((try dsimp only); (first | exact ⟨c0, c1, c2, t0, gx0, gx1, gx2⟩))
        refine AnyB.take (i := 0) (oi := _) (v := ?_) (by simp only [List.getElem?_toArray, List.getElem?_cons_zero, List.getElem?_cons_succ]; rfl) (by kernel_rfl) (by kernel_rfl) (by kernel_rfl) (by kernel_rfl) (by kernel_rfl) (by intro _ _ _ h; exact h) (Or.inl ⟨by rfl, ?_⟩) (by assumption) ?_
        rotate_left
        · (intro w hSw; (try dsimp only at hSw); go_simp; (try (with_reducible rfl)))
        try simp only [Act.put, List.setIfInBounds_toArray, List.set_cons_zero, List.set_cons_succ]
        refine AnyB.takeQ (i := 1) (oi := _) (v := ?_) (by simp only [List.getElem?_toArray, List.getElem?_cons_zero, List.getElem?_cons_succ]; rfl) (by kernel_rfl) (by kernel_rfl) (by kernel_rfl) (by intro _ _ _ h; exact h) (Or.inl ⟨by rfl, ?_⟩) ?_
        rotate_left
        · (intro w hSw; (try dsimp only at hSw); go_simp; (try (with_reducible rfl)))
        try simp only [Act.put, List.setIfInBounds_toArray, List.set_cons_zero, List.set_cons_succ]
        refine AnyB.take (i := 2) (oi := _) (v := ?_) (by simp only [List.getElem?_toArray, List.getElem?_cons_zero, List.getElem?_cons_succ]; rfl) (by kernel_rfl) (by kernel_rfl) (by kernel_rfl) (by kernel_rfl) (by kernel_rfl) (by intro _ _ _ h; exact h) (Or.inl ⟨by rfl, ?_⟩) (by assumption) ?_
        rotate_left
        · (intro w hSw; (try dsimp only at hSw); go_simp; (try (with_reducible rfl)))
        try simp only [Act.put, List.setIfInBounds_toArray, List.set_cons_zero, List.set_cons_succ]
        refine AnyB.take (i := 3) (oi := _) (v := ?_) (by simp only [List.getElem?_toArray, List.getElem?_cons_zero, List.getElem?_cons_succ]; rfl) (by kernel_rfl) (by kernel_rfl) (by kernel_rfl) (by kernel_rfl) (by kernel_rfl) (by intro _ _ _ h; exact h) (Or.inl ⟨by rfl, ?_⟩) (by assumption) ?_
        rotate_left
        · (intro w hSw; (try dsimp only at hSw); go_simp; (try (with_reducible rfl)))
        try simp only [Act.put, List.setIfInBounds_toArray, List.set_cons_zero, List.set_cons_succ]
        refine AnyB.each (rs := [4]) (by kernel_rfl) (by simp) ?_
        refine EachB.cons rfl (fun K hK hB => ?_) ?_
        · skip
          (go_simp; go_at_call 92; refine (impl_gateTableau_any n kk a b _ HGT.out n1 n5).mono ?_; rintro e w2 ⟨p0, p1, rfl, hp0, hp1, hpp, hb2⟩; obtain ⟨h0, ch0, rfl, hh0, hh0'⟩ := own_E3 hp0 ((pes_len _).trans (gtX_len n kk a b)) (by omega); obtain ⟨h1, ch1, rfl, hh1, hh1'⟩ := own_E3 hp1 ((pes_len _).trans (gtZ_len n kk a b)) (by omega); have P0 := Lib.hid (OwnE.rd hp0); have P1 := Lib.hid (OwnE.rd hp1); clear hp0 hp1 hpp; have y2 := hb2.size; (try simp at y2); replace c0 := below_cell hb2 rfl (cell_drew c0); replace c1 := below_cell hb2 rfl (cell_drew c1); replace c2 := below_cell hb2 rfl (cell_drew c2); replace t0 := below_cell hb2 rfl (cell_drew t0); replace t1 := below_cell hb2 rfl (cell_drew t1); replace gx0 := below_cell hb2 rfl (cell_drew gx0); replace gx1 := below_cell hb2 rfl (cell_drew gx1); replace gx2 := below_cell hb2 rfl (cell_drew gx2); replace f0 := below_frz hb2 rfl (by first | omega | (simp; done) | (simp; omega)) (frz_drew f0); replace f1 := below_frz hb2 rfl (by first | omega | (simp; done) | (simp; omega)) (frz_drew f1); replace f2 := below_frz hb2 rfl (by first | omega | (simp; done) | (simp; omega)) (frz_drew f2); replace O0 := Lib.hid (OwnE.below (OwnE.below O0.out (show Below W.heap.size W W.drew from (by repeat (first | exact Below.refl _ _ | assumption | refine Below.drew ?_ | refine below_drewN ?_ _ | refine Below.alloc ?_ (by first | omega | (simp <;> omega)) _ | refine Below.setCell ?_ (by first | omega | (simp <;> omega)) _ | refine Below.trans ?_ (Below.mono (by assumption) (by first | omega | (simp <;> omega)))))) rfl) hb2 rfl); replace O1 := Lib.hid (OwnE.below (OwnE.below O1.out (show Below W.heap.size W W.drew from (by repeat (first | exact Below.refl _ _ | assumption | refine Below.drew ?_ | refine below_drewN ?_ _ | refine Below.alloc ?_ (by first | omega | (simp <;> omega)) _ | refine Below.setCell ?_ (by first | omega | (simp <;> omega)) _ | refine Below.trans ?_ (Below.mono (by assumption) (by first | omega | (simp <;> omega)))))) rfl) hb2 rfl); replace hbel := Lib.hid (show Below w1.heap.size w1 w2 from Below.trans (Below.drew hbel.out) (hb2.mono (by first | omega | (simp; done) | (simp; omega)))); clear hb2; dsimp only)
          refine hK.out _ _ ?_ (fun hHeld1 => ?_)
          · ((try dsimp only); (first | exact ⟨c0, c1, c2, t0, gx0, gx1, gx2⟩))
          clear hB hK K hHeld0
          refine AnyB.each (rs := [5]) (by kernel_rfl) (by simp) ?_
          refine EachB.cons rfl (fun K hK hB => ?_) ?_
          · skip
            (go_simp; go_at_call 91; refine (impl_compose_any n X Z (gtX n kk a b) (gtZ n kk a b) _ _ _ _ _ n5 KX.out KZ.out (gtX_len n kk a b) (gtZ_len n kk a b) LX.out.ok LZ.out.ok (gtX_lt n5 HGT.out).ok (gtZ_lt n5 HGT.out).ok O0.out.rd O1.out.rd P0.out P1.out).mono ?_; rintro e w3 ⟨p2, p3, rfl, ho2, ho3, hap2, hb3⟩; rw [← SX.out] at ho2; rw [← SZ.out] at ho3; obtain ⟨g2, cp2, rfl, hg2, hg2'⟩ := own_E3 ho2 ((pes_len _).trans (tofX_len n d.gs (k + 1))) (by omega); obtain ⟨g3, cp3, rfl, hg3, hg3'⟩ := own_E3 ho3 ((pes_len _).trans (tofZ_len n d.gs (k + 1))) (by omega); have N0 := Lib.hid (OwnE.le ho2 (base' := w.heap.size + 2) (by omega)); have N1 := Lib.hid (OwnE.le ho3 (base' := w.heap.size + 2) (by omega)); have NA := Lib.hid hap2; clear ho2 ho3 hap2; have y3 := hb3.size; replace c0 := below_cell hb3 rfl c0; replace c1 := below_cell hb3 rfl c1; replace c2 := below_cell hb3 rfl c2; replace t0 := below_cell hb3 rfl t0; replace t1 := below_cell hb3 rfl t1; replace gx0 := below_cell hb3 rfl gx0; replace gx1 := below_cell hb3 rfl gx1; replace gx2 := below_cell hb3 rfl gx2; replace f0 := below_frz hb3 rfl (by first | omega | (simp; done) | (simp; omega)) f0; replace f1 := below_frz hb3 rfl (by first | omega | (simp; done) | (simp; omega)) f1; replace f2 := below_frz hb3 rfl (by first | omega | (simp; done) | (simp; omega)) f2; replace hbel := Lib.hid (show Below w1.heap.size w1 w3 from Below.trans hbel.out (hb3.mono (by omega))); clear hb3; dsimp only)
            refine hK.out _ _ ?_ (fun hHeld2 => ?_)
            · ((try dsimp only); (first | exact ⟨c0, c1, c2, t0, gx0, gx1, gx2⟩))
            clear hB hK K hHeld1
            refine AnyB.each (rs := [6]) (by kernel_rfl) (by simp) ?_
            refine EachB.cons rfl (fun K hK hB => ?_) ?_
            · skip
              go_simp
              refine hB.out _ _ rfl ?_
              clear hB hK K
              refine AnyB.none (by kernel_rfl) ?_ _
              have hB := Lib.hid (box_set3 (nb := w1.heap.size) (.int .i64 (n : Int)) (.slice (some ⟨g2, 0, none⟩) n cp2) (.slice (some ⟨g3, 0, none⟩) n cp3) c0 c1 c2)
              go_wp2_with fail
              go_roundw
              case rel => exact ⟨k + 1, g2, cp2, g3, cp3, by omega, by go_num, hB.out.1, hB.out.2.1, hB.out.2.2, by simp only [World.frozen?_setCell]; exact f0, by simp only [World.frozen?_setCell]; exact f1, by simp only [World.frozen?_setCell]; exact f2, (show OwnE _ _ _ _ _ _ _ from own_far3 N0.out ((pes_len _).trans (tofX_len n d.gs (k + 1))) (by omega) _ _ _), (show OwnE _ _ _ _ _ _ _ from own_far3 N1.out ((pes_len _).trans (tofZ_len n d.gs (k + 1))) (by omega) _ _ _), NA.out, by omega, by omega, (show Below _ _ _ from Below.setCell (Below.setCell (Below.setCell hbel.out (by dsimp only; omega) _) (by dsimp only; omega) _) (by dsimp only; omega) _)⟩
              case measure => simp [intOf]; omega
            exact EachB.nil
          exact EachB.nil
        exact EachB.nil
      · have e9 : k = d.gs.length := by omega
        rw [e9] at O0 O1
        have r0 := below_cell hbel.out rfl R0.out; have u0 := below_frz hbel.out rfl (by omega) U0.out
        have r1 := below_cell hbel.out rfl R1.out; have u1 := below_frz hbel.out rfl (by omega) U1.out
        have r2 := below_cell hbel.out rfl R2.out; have u2 := below_frz hbel.out rfl (by omega) U2.out
        have hZ := box_set3 (nb := w.heap.size + 1) (.int .i64 (n : Int)) (.slice (some ⟨g0, 0, none⟩) n cp0) (.slice (some ⟨g1, 0, none⟩) n cp1) r0 r1 r2
        have i1 : ¬ (k : Int) < (d.gs.length : Int) := by omega
        have bq := bw.out
        have hx2 : w.heap.size + 1 ≠ w1.heap.size := by omega
        clear e9
        go_wp2_with fail
        exact bodyPost_ret (v := .tuple #[.agg #[.int .i64 (n : Int), .slice (some ⟨g0, 0, none⟩) n cp0, .slice (some ⟨g1, 0, none⟩) n cp1], .bool true]) (by simp [results, Try.results44, go_sem, hZ]) rfl (TabPost.some (t := ⟨(n : Int), pes (tofX n d.gs d.gs.length), pes (tofZ n d.gs d.gs.length)⟩) HG.out (OwnE.le (OwnE.set (OwnE.set (OwnE.set O0.out (by simp) _) (by simp) _) (by simp) _) (by omega)) (OwnE.le (OwnE.set (OwnE.set (OwnE.set O1.out (by simp) _) (by simp) _) (by simp) _) (by omega)) AP.out (by repeat (first | exact Below.refl _ _ | assumption | refine Below.drew ?_ | refine below_drewN ?_ _ | refine Below.alloc ?_ (by first | omega | (simp <;> omega)) _ | refine Below.setCell ?_ (by first | omega | (simp <;> omega)) _ | refine Below.trans ?_ (Below.mono (by assumption) (by first | omega | (simp <;> omega))))))
  | false =>
    have HG := Lib.hid (show tofG d = none from by unfold tofG; rw [hok]; rfl)
    rw [hok] at HC
    clear hok
    cases hb : circB d with
    | false =>
      have HB := Lib.hid hb; clear hb
      have hN := tCount_no HB.out
      have HT := Lib.hid hN; clear hN
      go_enter Try.func44, Try.ntmps44
      go_wp2_with fail
      refine (impl_CountT_any _ d _ (Rd.below H.out (show Below w.heap.size w _ from (by repeat (first | exact Below.refl _ _ | assumption | refine Below.drew ?_ | refine below_drewN ?_ _ | refine Below.alloc ?_ (by first | omega | (simp <;> omega)) _ | refine Below.setCell ?_ (by first | omega | (simp <;> omega)) _ | refine Below.trans ?_ (Below.mono (by assumption) (by first | omega | (simp <;> omega)))))) rfl) hl).mono ?_; rw [HB.out, HT.out]; rintro e w0 ⟨rfl, hb0⟩
      have r0 := below_cell hb0 rfl (show ((w.alloc (.cells #[.int .i64 d.n, .slice A d.gs.length cA] 30)).alloc (.cells #[.int .i64 0, .slice none 0 0, .slice none 0 0] 79)).cell? ⟨w.heap.size + 1, 0, none⟩ = some (.int .i64 0) from (by repeat (first | (refine Eq.trans (World.cell?_alloc_at _ _ _ _ ?hh) ?_; (case hh => (simp; done)); rfl) | refine cell_alloc_keep _ ?_)))
      have r1 := below_cell hb0 rfl (show ((w.alloc (.cells #[.int .i64 d.n, .slice A d.gs.length cA] 30)).alloc (.cells #[.int .i64 0, .slice none 0 0, .slice none 0 0] 79)).cell? ⟨w.heap.size + 1, 1, none⟩ = some (.slice none 0 0) from (by repeat (first | (refine Eq.trans (World.cell?_alloc_at _ _ _ _ ?hh) ?_; (case hh => (simp; done)); rfl) | refine cell_alloc_keep _ ?_)))
      have r2 := below_cell hb0 rfl (show ((w.alloc (.cells #[.int .i64 d.n, .slice A d.gs.length cA] 30)).alloc (.cells #[.int .i64 0, .slice none 0 0, .slice none 0 0] 79)).cell? ⟨w.heap.size + 1, 2, none⟩ = some (.slice none 0 0) from (by repeat (first | (refine Eq.trans (World.cell?_alloc_at _ _ _ _ ?hh) ?_; (case hh => (simp; done)); rfl) | refine cell_alloc_keep _ ?_)))
      obtain ⟨hc_hb0, hf_hb0⟩ := bcell hb0; have hz_hb0 := hb0.size; (try simp at hz_hb0); have hs0_hb0 : w.heap.size < w0.heap.size := (by omega); have hs1_hb0 : w.heap.size + 1 < w0.heap.size := (by omega)
      go_wp2_with fail
      have hZ := box_set3 (nb := w.heap.size + 1) (.int .i64 0) (.slice none 0 0) (.slice none 0 0) r0 r1 r2
      exact bodyPost_ret (v := .tuple #[.agg #[.int .i64 0, .slice none 0 0, .slice none 0 0], .bool false]) (by simp [results, Try.results44, go_sem, hZ]) rfl (TabPost.none HG.out (by repeat (first | exact Below.refl _ _ | assumption | refine Below.drew ?_ | refine below_drewN ?_ _ | refine Below.alloc ?_ (by first | omega | (simp <;> omega)) _ | refine Below.setCell ?_ (by first | omega | (simp <;> omega)) _ | refine Below.trans ?_ (Below.mono (by assumption) (by first | omega | (simp <;> omega))))))
    | true =>
      have HB := Lib.hid hb
      have hpos : 0 < tCount d := by have h9 := HC.out; rw [hb, Bool.true_and] at h9; exact tCount_pos h9.symm
      have HT := Lib.hid (show tCount d = tCount d from rfl)
      obtain ⟨N, hN⟩ : ∃ N, N = tCount d := ⟨_, rfl⟩
      rw [← hN] at hpos
      replace HT := Lib.hid hN.symm
      clear hN hb
      go_enter Try.func44, Try.ntmps44
      go_wp2_with fail
      refine (impl_CountT_any _ d _ (Rd.below H.out (show Below w.heap.size w _ from (by repeat (first | exact Below.refl _ _ | assumption | refine Below.drew ?_ | refine below_drewN ?_ _ | refine Below.alloc ?_ (by first | omega | (simp <;> omega)) _ | refine Below.setCell ?_ (by first | omega | (simp <;> omega)) _ | refine Below.trans ?_ (Below.mono (by assumption) (by first | omega | (simp <;> omega)))))) rfl) hl).mono ?_; rw [HB.out, HT.out]; rintro e w0 ⟨rfl, hb0⟩
      have r0 := below_cell hb0 rfl (show ((w.alloc (.cells #[.int .i64 d.n, .slice A d.gs.length cA] 30)).alloc (.cells #[.int .i64 0, .slice none 0 0, .slice none 0 0] 79)).cell? ⟨w.heap.size + 1, 0, none⟩ = some (.int .i64 0) from (by repeat (first | (refine Eq.trans (World.cell?_alloc_at _ _ _ _ ?hh) ?_; (case hh => (simp; done)); rfl) | refine cell_alloc_keep _ ?_)))
      have r1 := below_cell hb0 rfl (show ((w.alloc (.cells #[.int .i64 d.n, .slice A d.gs.length cA] 30)).alloc (.cells #[.int .i64 0, .slice none 0 0, .slice none 0 0] 79)).cell? ⟨w.heap.size + 1, 1, none⟩ = some (.slice none 0 0) from (by repeat (first | (refine Eq.trans (World.cell?_alloc_at _ _ _ _ ?hh) ?_; (case hh => (simp; done)); rfl) | refine cell_alloc_keep _ ?_)))
      have r2 := below_cell hb0 rfl (show ((w.alloc (.cells #[.int .i64 d.n, .slice A d.gs.length cA] 30)).alloc (.cells #[.int .i64 0, .slice none 0 0, .slice none 0 0] 79)).cell? ⟨w.heap.size + 1, 2, none⟩ = some (.slice none 0 0) from (by repeat (first | (refine Eq.trans (World.cell?_alloc_at _ _ _ _ ?hh) ?_; (case hh => (simp; done)); rfl) | refine cell_alloc_keep _ ?_)))
      obtain ⟨hc_hb0, hf_hb0⟩ := bcell hb0; have hz_hb0 := hb0.size; (try simp at hz_hb0); have hs0_hb0 : w.heap.size < w0.heap.size := (by omega); have hs1_hb0 : w.heap.size + 1 < w0.heap.size := (by omega)
      go_wp2_with fail
      have hZ := box_set3 (nb := w.heap.size + 1) (.int .i64 0) (.slice none 0 0) (.slice none 0 0) r0 r1 r2
      exact bodyPost_ret (v := .tuple #[.agg #[.int .i64 0, .slice none 0 0, .slice none 0 0], .bool false]) (by simp [results, Try.results44, go_sem, hZ]) rfl (TabPost.none HG.out (by repeat (first | exact Below.refl _ _ | assumption | refine Below.drew ?_ | refine below_drewN ?_ _ | refine Below.alloc ?_ (by first | omega | (simp <;> omega)) _ | refine Below.setCell ?_ (by first | omega | (simp <;> omega)) _ | refine Below.trans ?_ (Below.mono (by assumption) (by first | omega | (simp <;> omega))))))
end Go.Proofs.Ytdkfoleippncnaa
