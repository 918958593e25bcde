/- One generator of the inverse: preimage in the program, l7Before in the reference. -/
import Derived.Test.YtfcfpojldoijlaaInv0
import Derived.Test.YtfcfpojldoijlaaImg2
import Derived.Test.YtfcfpojldoijlaaPau3
import Derived.Test.YtfcfpojldoijlaaPau6
import Derived.Test.YtfcfpojldoijlaaSgn1
import Derived.BigRegion
import Derived.Deep.DeepMust
import Derived.Deep.RegionHeld3
namespace Go.Proofs.Ytfcfpojldoijlaa
set_option linter.unusedSimpArgs false
set_option linter.unusedVariables false
set_option linter.unnecessarySimpa false
set_option maxRecDepth 200000
open Go.ChangeShapes Go.WideShapes Go.ChangeAt Go.RowKit

set_option maxHeartbeats 16000000 in
theorem impl_preimage_any (m : Nat) (X Z : List PN) (P : PN) (p0 px pz : Int) (v0 v1 : Value) (w : World) (S : Sym m X Z) (hP : P.x < 2 ^ m ∧ P.z < 2 ^ m) (hp : P.p = 0) (e0 : p0 = (P.p : Int)) (ex : px = (P.x : Int)) (ez : pz = (P.z : Int)) (h0 : RdE w v0 E3.cs 3 (pes X)) (h1 : RdE w v1 E3.cs 3 (pes Z)) :
    Calls Try.prog 48 #[.agg #[.int .i64 (m : Int), v0, v1], .agg #[.int .i64 p0, .int .i64 px, .int .i64 pz]] w fun e w' => e = .returned (.agg #[.int .i64 ((invN X Z m P).p : Int), .int .i64 ((invN X Z m P).x : Int), .int .i64 ((invN X Z m P).z : Int)]) ∧ Below w.heap.size w w' := by
  subst e0 ex ez
  have HK0 := Lib.hid h0; have HK1 := Lib.hid h1
  obtain ⟨A, cA, rfl, HA⟩ := pes_at h0
  obtain ⟨A2, cB, rfl, HB⟩ := pes_at h1
  rw [S.lx] at HA HK0 ⊢; rw [S.lz] at HB HK1 ⊢
  have m5 := S.m5
  have m1 := S.m1
  have HS := Lib.hid S
  have p31 : P.x ≤ 31 ∧ P.z ≤ 31 := by
    have : 2 ^ m ≤ 2 ^ 5 := Nat.pow_le_pow_right (by omega) m5
    omega
  have HP := Lib.hid (show PNok P from ⟨by omega, p31.1, p31.2⟩)
  clear h0 h1 S hP hp p31
  go_enter Try.func48, Try.ntmps48
  go_wp2_with fail
  obtain ⟨W0, hW0⟩ : ∃ W0, W0 = (((w.alloc (.cells #[.int .i64 (m : Int), .slice A m cA, .slice A2 m cB] 28)).alloc (.cells #[.int .i64 ((P).p : Int), .int .i64 ((P).x : Int), .int .i64 ((P).z : Int)] 84)).alloc (.cells #[.int .i64 0, .int .i64 0, .int .i64 0] 84)) := ⟨_, rfl⟩
  have BW := Lib.hid (show Below w.heap.size w W0 from by rw [hW0]; exact (by repeat (first | exact Below.refl _ _ | assumption | refine Below.drew ?_ | refine below_drewN ?_ _ | refine Below.alloc ?_ (by first | omega | (simp <;> omega)) _ | refine Below.setCell ?_ (by first | omega | (simp <;> omega)) _ | refine Below.trans ?_ (Below.mono (by assumption) (by first | omega | (simp <;> omega))))))
  have SW := Lib.hid (show W0.heap.size = w.heap.size + 3 from by rw [hW0]; simp)
  have T0 := Lib.hid (show W0.cell? ⟨w.heap.size, 0, none⟩ = some (.int .i64 (m : Int)) from by rw [hW0]; exact (by repeat (first | (refine Eq.trans (World.cell?_alloc_at _ _ _ _ ?hh) ?_; (case hh => (simp; done)); rfl) | refine cell_alloc_keep _ ?_)))
  have T1 := Lib.hid (show W0.cell? ⟨w.heap.size, 1, none⟩ = some (.slice A m cA) from by rw [hW0]; exact (by repeat (first | (refine Eq.trans (World.cell?_alloc_at _ _ _ _ ?hh) ?_; (case hh => (simp; done)); rfl) | refine cell_alloc_keep _ ?_)))
  have T2 := Lib.hid (show W0.cell? ⟨w.heap.size, 2, none⟩ = some (.slice A2 m cB) from by rw [hW0]; exact (by repeat (first | (refine Eq.trans (World.cell?_alloc_at _ _ _ _ ?hh) ?_; (case hh => (simp; done)); rfl) | refine cell_alloc_keep _ ?_)))
  have S0 := Lib.hid (show W0.cell? ⟨w.heap.size + 1, 0, none⟩ = some (.int .i64 (P.p : Int)) from by rw [hW0]; exact (by repeat (first | (refine Eq.trans (World.cell?_alloc_at _ _ _ _ ?hh) ?_; (case hh => (simp; done)); rfl) | refine cell_alloc_keep _ ?_)))
  have S1 := Lib.hid (show W0.cell? ⟨w.heap.size + 1, 1, none⟩ = some (.int .i64 (P.x : Int)) from by rw [hW0]; exact (by repeat (first | (refine Eq.trans (World.cell?_alloc_at _ _ _ _ ?hh) ?_; (case hh => (simp; done)); rfl) | refine cell_alloc_keep _ ?_)))
  have S2 := Lib.hid (show W0.cell? ⟨w.heap.size + 1, 2, none⟩ = some (.int .i64 (P.z : Int)) from by rw [hW0]; exact (by repeat (first | (refine Eq.trans (World.cell?_alloc_at _ _ _ _ ?hh) ?_; (case hh => (simp; done)); rfl) | refine cell_alloc_keep _ ?_)))
  have R0 := Lib.hid (show W0.cell? ⟨w.heap.size + 1 + 1, 0, none⟩ = some (.int .i64 0) from by rw [hW0]; exact (by repeat (first | (refine Eq.trans (World.cell?_alloc_at _ _ _ _ ?hh) ?_; (case hh => (simp; done)); rfl) | refine cell_alloc_keep _ ?_)))
  have R1 := Lib.hid (show W0.cell? ⟨w.heap.size + 1 + 1, 1, none⟩ = some (.int .i64 0) from by rw [hW0]; exact (by repeat (first | (refine Eq.trans (World.cell?_alloc_at _ _ _ _ ?hh) ?_; (case hh => (simp; done)); rfl) | refine cell_alloc_keep _ ?_)))
  have R2 := Lib.hid (show W0.cell? ⟨w.heap.size + 1 + 1, 2, none⟩ = some (.int .i64 0) from by rw [hW0]; exact (by repeat (first | (refine Eq.trans (World.cell?_alloc_at _ _ _ _ ?hh) ?_; (case hh => (simp; done)); rfl) | refine cell_alloc_keep _ ?_)))
  have Q0 := Lib.hid (show W0.frozen? ⟨w.heap.size + 1 + 1, 0, none⟩ = false from by rw [hW0]; exact (by repeat (first | (refine World.frozen?_alloc_at _ _ _ _ ?hh; case hh => (simp; done)) | (refine frozen_alloc_lt _ ?hh ?_; case hh => first | omega | (simp <;> omega)))))
  have Q1 := Lib.hid (show W0.frozen? ⟨w.heap.size + 1 + 1, 1, none⟩ = false from by rw [hW0]; exact (by repeat (first | (refine World.frozen?_alloc_at _ _ _ _ ?hh; case hh => (simp; done)) | (refine frozen_alloc_lt _ ?hh ?_; case hh => first | omega | (simp <;> omega)))))
  have Q2 := Lib.hid (show W0.frozen? ⟨w.heap.size + 1 + 1, 2, none⟩ = false from by rw [hW0]; exact (by repeat (first | (refine World.frozen?_alloc_at _ _ _ _ ?hh; case hh => (simp; done)) | (refine frozen_alloc_lt _ ?hh ?_; case hh => first | omega | (simp <;> omega)))))
  have HW0 := Lib.hid hW0; clear hW0
  go_loopw [10] (fun i wr => ∃ k : Nat, k ≤ m ∧ i = .int .i64 k ∧ wr.cell? ⟨w.heap.size + 1 + 1 + 1, 0, none⟩ = some (.int .i64 0) ∧ wr.cell? ⟨w.heap.size + 1 + 1 + 1, 1, none⟩ = some (.int .i64 (preB Z P k : Int)) ∧ wr.cell? ⟨w.heap.size + 1 + 1 + 1, 2, none⟩ = some (.int .i64 (preB X P k : Int)) ∧ wr.frozen? ⟨w.heap.size + 1 + 1 + 1, 0, none⟩ = false ∧ wr.frozen? ⟨w.heap.size + 1 + 1 + 1, 1, none⟩ = false ∧ wr.frozen? ⟨w.heap.size + 1 + 1 + 1, 2, none⟩ = false ∧ Hid (Below (w.heap.size + 1 + 1 + 1) W0 wr)) (fun i _ => m - (intOf i).toNat)
  case atStart => exact ⟨0, Nat.zero_le _, rfl, (by repeat (first | (refine Eq.trans (World.cell?_alloc_at _ _ _ _ ?hh) ?_; (case hh => (simp; done)); rfl) | refine cell_alloc_keep _ ?_)), (by repeat (first | (refine Eq.trans (World.cell?_alloc_at _ _ _ _ ?hh) ?_; (case hh => (simp; done)); rfl) | refine cell_alloc_keep _ ?_)), (by repeat (first | (refine Eq.trans (World.cell?_alloc_at _ _ _ _ ?hh) ?_; (case hh => (simp; done)); rfl) | refine cell_alloc_keep _ ?_)), (by repeat (first | (refine World.frozen?_alloc_at _ _ _ _ ?hh; case hh => (simp; done)) | (refine frozen_alloc_lt _ ?hh ?_; case hh => first | omega | (simp <;> omega)))), (by repeat (first | (refine World.frozen?_alloc_at _ _ _ _ ?hh; case hh => (simp; done)) | (refine frozen_alloc_lt _ ?hh ?_; case hh => first | omega | (simp <;> omega)))), (by repeat (first | (refine World.frozen?_alloc_at _ _ _ _ ?hh; case hh => (simp; done)) | (refine frozen_alloc_lt _ ?hh ?_; case hh => first | omega | (simp <;> omega)))), (show Below _ _ _ from by rw [HW0.out]; exact (by repeat (first | exact Below.refl _ _ | assumption | refine Below.drew ?_ | refine below_drewN ?_ _ | refine Below.alloc ?_ (by first | omega | (simp <;> omega)) _ | refine Below.setCell ?_ (by first | omega | (simp <;> omega)) _ | refine Below.trans ?_ (Below.mono (by assumption) (by first | omega | (simp <;> omega))))))⟩
  case round =>
    obtain ⟨k, hk, rfl, c0, c1, c2, f0, f1, f2, hbel⟩ := hrel
    have swo : w.heap.size + 3 ≤ W0.heap.size := by have := SW.out; omega
    have L0 := World.block_lt_of_cell? _ _ c0
    have bw := Lib.hid (show Below w.heap.size w wr from Below.trans BW.out (hbel.out.mono (by omega)))
    have t0 := (hbel.out.cell (p := ⟨w.heap.size, 0, none⟩) (by dsimp only; omega)).trans T0.out
    have t1 := (hbel.out.cell (p := ⟨w.heap.size, 1, none⟩) (by dsimp only; omega)).trans T1.out
    have t2 := (hbel.out.cell (p := ⟨w.heap.size, 2, none⟩) (by dsimp only; omega)).trans T2.out
    have s0 := (hbel.out.cell (p := ⟨w.heap.size + 1, 0, none⟩) (by dsimp only; omega)).trans S0.out
    have s1 := (hbel.out.cell (p := ⟨w.heap.size + 1, 1, none⟩) (by dsimp only; omega)).trans S1.out
    have s2 := (hbel.out.cell (p := ⟨w.heap.size + 1, 2, none⟩) (by dsimp only; omega)).trans S2.out
    by_cases hlt : k < m
    · have i1 : (k : Int) < (m : Int) := by omega
      have i2 : (0 : Int) ≤ (k : Int) := by omega
      obtain ⟨ga, offa, rfl, hga, a0, a1, a2⟩ := HA.out k hlt
      obtain ⟨gb, offb, rfl, hgb, b0, b1, b2⟩ := HB.out k hlt
      replace a0 := (bw.out.cell hga).trans a0; replace a1 := (bw.out.cell hga).trans a1; replace a2 := (bw.out.cell hga).trans a2
      replace b0 := (bw.out.cell hgb).trans b0; replace b1 := (bw.out.cell hgb).trans b1; replace b2 := (bw.out.cell hgb).trans b2
      have hga2 : ga < w.heap.size := hga
      have hgb2 : gb < w.heap.size := hgb
      have OA := Lib.hid (HS.out.ltx.ok.get k); have OB := Lib.hid (HS.out.ltz.ok.get k)
      have NX : Hid (preB X P (k + 1) = if commN P (X.getD k ⟨0, 0, 0⟩) = true then preB X P k else preB X P k ||| 2 ^ k) := rfl
      have NZ : Hid (preB Z P (k + 1) = if commN P (Z.getD k ⟨0, 0, 0⟩) = true then preB Z P k else preB Z P k ||| 2 ^ k) := rfl
      obtain ⟨ea, hea⟩ : ∃ ea, ea = X.getD k ⟨0, 0, 0⟩ := ⟨_, rfl⟩
      obtain ⟨eb, heb⟩ : ∃ eb, eb = Z.getD k ⟨0, 0, 0⟩ := ⟨_, rfl⟩
      rw [← hea] at a0 a1 a2 OA NX; rw [← heb] at b0 b1 b2 OB NZ
      clear hea heb HA HB
      have ux := preB_31 X P (show k ≤ 5 by omega); have uz := preB_31 Z P (show k ≤ 5 by omega)
      have p5 : 2 ^ k ≤ 2 ^ 5 := Nat.pow_le_pow_right (by omega) (by omega)
      have ox := bits_or (preB X P k) (2 ^ k) (by omega) (by omega)
      have oz := bits_or (preB Z P k) (2 ^ k) (by omega) (by omega)
      rw [show ((2 ^ k : Nat) : Int) = (2 : Int) ^ k from by simp] at ox oz
      obtain ⟨q1, q2⟩ := pow_small5 (show k ≤ 5 by omega)
      have hw : IntKind.i64.wrap ((2 : Int) ^ k) = (2 : Int) ^ k := IntWalk.i64_in _ (by omega)
      clear p5
      clear bw
      cases hcz : commN P eb
      · have CZ := Lib.hid hcz
        rw [hcz] at NZ
        clear hcz
        go_wp2_with fail
        go_region_held3 (fun w' => w'.cell? ⟨w.heap.size + 1, 0, none⟩ = some (.int .i64 (P.p : Int)) ∧ w'.cell? ⟨w.heap.size + 1, 1, none⟩ = some (.int .i64 (P.x : Int)) ∧ w'.cell? ⟨w.heap.size + 1, 2, none⟩ = some (.int .i64 (P.z : Int)) ∧ w'.cell? ⟨w.heap.size, 2, none⟩ = some (.slice (some ⟨gb, offb, none⟩) m cB) ∧ w'.cell? ⟨gb, offb + k * 3, none⟩ = some (.int .i64 (eb.p : Int)) ∧ w'.cell? ⟨gb, offb + k * 3 + 1, none⟩ = some (.int .i64 (eb.x : Int)) ∧ w'.cell? ⟨gb, offb + k * 3 + 2, none⟩ = some (.int .i64 (eb.z : Int))) (first | go_keep | (go_split_ands; refine ⟨?_, ?_, ?_, ?_, ?_, ?_, ?_⟩ <;> first | assumption | (simp [*]; done))) (first | (go_at_call 99; go_must ((refine (impl_commute_any P eb _ HP.out OB.out).mono ?_; rintro e w2 ⟨rfl, hb2⟩); (rw [CZ.out]); (have y2 := hb2.size); (simp at y2); (replace c0 := below_cell hb2 rfl (cell_drew c0)); (replace c1 := below_cell hb2 rfl (cell_drew c1)); (replace c2 := below_cell hb2 rfl (cell_drew c2)); (replace t0 := below_cell hb2 rfl (cell_drew t0)); (replace t1 := below_cell hb2 rfl (cell_drew t1)); (replace t2 := below_cell hb2 rfl (cell_drew t2)); (replace s0 := below_cell hb2 rfl (cell_drew s0)); (replace s1 := below_cell hb2 rfl (cell_drew s1)); (replace s2 := below_cell hb2 rfl (cell_drew s2)); (replace a0 := below_cell hb2 rfl (cell_drew a0)); (replace a1 := below_cell hb2 rfl (cell_drew a1)); (replace a2 := below_cell hb2 rfl (cell_drew a2)); (replace b0 := below_cell hb2 rfl (cell_drew b0)); (replace b1 := below_cell hb2 rfl (cell_drew b1)); (replace b2 := below_cell hb2 rfl (cell_drew b2)); (replace f0 := below_frz hb2 rfl (by first | omega | (simp; omega)) (frz_drew f0)); (replace f1 := below_frz hb2 rfl (by first | omega | (simp; omega)) (frz_drew f1)); (replace f2 := below_frz hb2 rfl (by first | omega | (simp; omega)) (frz_drew f2)); (replace hbel := Lib.hid (show Below (w.heap.size + 1 + 1 + 1) W0 w2 from Below.trans (Below.drew hbel.out) (hb2.mono (by first | omega | (simp; omega))))); (replace L0 := World.block_lt_of_cell? _ _ c0); (clear hb2 y2))))
        go_wp2_with fail
        rw [if_neg (by simp)] at NZ
        rw [← NZ.out] at oz
        go_region
        replace c0 := cell_drew (cell_set_other (o2 := 1) (v := (.int .i64 (preB Z P (k + 1) : Int))) c0)
        replace c1 := cell_drew (World.cell?_setCell_same w2 ⟨w.heap.size + 1 + 1 + 1, 1, none⟩ (.int .i64 (preB Z P (k + 1) : Int)) c1)
        replace c2 := cell_drew (cell_set_other (o2 := 1) (v := (.int .i64 (preB Z P (k + 1) : Int))) c2)
        replace t0 := cell_drew (cell_set_far (nb := w.heap.size + 1 + 1 + 1) (o2 := 1) (v := (.int .i64 (preB Z P (k + 1) : Int))) (by omega) t0)
        replace t1 := cell_drew (cell_set_far (nb := w.heap.size + 1 + 1 + 1) (o2 := 1) (v := (.int .i64 (preB Z P (k + 1) : Int))) (by omega) t1)
        replace t2 := cell_drew (cell_set_far (nb := w.heap.size + 1 + 1 + 1) (o2 := 1) (v := (.int .i64 (preB Z P (k + 1) : Int))) (by omega) t2)
        replace s0 := cell_drew (cell_set_far (nb := w.heap.size + 1 + 1 + 1) (o2 := 1) (v := (.int .i64 (preB Z P (k + 1) : Int))) (by omega) s0)
        replace s1 := cell_drew (cell_set_far (nb := w.heap.size + 1 + 1 + 1) (o2 := 1) (v := (.int .i64 (preB Z P (k + 1) : Int))) (by omega) s1)
        replace s2 := cell_drew (cell_set_far (nb := w.heap.size + 1 + 1 + 1) (o2 := 1) (v := (.int .i64 (preB Z P (k + 1) : Int))) (by omega) s2)
        replace a0 := cell_drew (cell_set_far (nb := w.heap.size + 1 + 1 + 1) (o2 := 1) (v := (.int .i64 (preB Z P (k + 1) : Int))) (by omega) a0)
        replace a1 := cell_drew (cell_set_far (nb := w.heap.size + 1 + 1 + 1) (o2 := 1) (v := (.int .i64 (preB Z P (k + 1) : Int))) (by omega) a1)
        replace a2 := cell_drew (cell_set_far (nb := w.heap.size + 1 + 1 + 1) (o2 := 1) (v := (.int .i64 (preB Z P (k + 1) : Int))) (by omega) a2)
        replace b0 := cell_drew (cell_set_far (nb := w.heap.size + 1 + 1 + 1) (o2 := 1) (v := (.int .i64 (preB Z P (k + 1) : Int))) (by omega) b0)
        replace b1 := cell_drew (cell_set_far (nb := w.heap.size + 1 + 1 + 1) (o2 := 1) (v := (.int .i64 (preB Z P (k + 1) : Int))) (by omega) b1)
        replace b2 := cell_drew (cell_set_far (nb := w.heap.size + 1 + 1 + 1) (o2 := 1) (v := (.int .i64 (preB Z P (k + 1) : Int))) (by omega) b2)
        replace f0 : ((w2.setCell ⟨w.heap.size + 1 + 1 + 1, 1, none⟩ (.int .i64 (preB Z P (k + 1) : Int))).drew).frozen? ⟨w.heap.size + 1 + 1 + 1, 0, none⟩ = false := frz_drew (by rw [World.frozen?_setCell]; exact f0)
        replace f1 : ((w2.setCell ⟨w.heap.size + 1 + 1 + 1, 1, none⟩ (.int .i64 (preB Z P (k + 1) : Int))).drew).frozen? ⟨w.heap.size + 1 + 1 + 1, 1, none⟩ = false := frz_drew (by rw [World.frozen?_setCell]; exact f1)
        replace f2 : ((w2.setCell ⟨w.heap.size + 1 + 1 + 1, 1, none⟩ (.int .i64 (preB Z P (k + 1) : Int))).drew).frozen? ⟨w.heap.size + 1 + 1 + 1, 2, none⟩ = false := frz_drew (by rw [World.frozen?_setCell]; exact f2)
        replace hbel := Lib.hid (show Below (w.heap.size + 1 + 1 + 1) W0 ((w2.setCell ⟨w.heap.size + 1 + 1 + 1, 1, none⟩ (.int .i64 (preB Z P (k + 1) : Int))).drew) from Below.drew (Below.setCell hbel.out (by dsimp only; omega) _))
        generalize (w2.setCell ⟨w.heap.size + 1 + 1 + 1, 1, none⟩ (.int .i64 (preB Z P (k + 1) : Int))).drew = w3 at *
        replace L0 : w.heap.size + 1 + 1 + 1 < w3.heap.size := World.block_lt_of_cell? _ _ c0
        go_wp2_with fail
        cases hcx : commN P ea
        · have CX := Lib.hid hcx
          rw [hcx] at NX
          clear hcx
          go_region_held3 (fun w' => w'.cell? ⟨w.heap.size + 1, 0, none⟩ = some (.int .i64 (P.p : Int)) ∧ w'.cell? ⟨w.heap.size + 1, 1, none⟩ = some (.int .i64 (P.x : Int)) ∧ w'.cell? ⟨w.heap.size + 1, 2, none⟩ = some (.int .i64 (P.z : Int)) ∧ w'.cell? ⟨w.heap.size, 1, none⟩ = some (.slice (some ⟨ga, offa, none⟩) m cA) ∧ w'.cell? ⟨ga, offa + k * 3, none⟩ = some (.int .i64 (ea.p : Int)) ∧ w'.cell? ⟨ga, offa + k * 3 + 1, none⟩ = some (.int .i64 (ea.x : Int)) ∧ w'.cell? ⟨ga, offa + k * 3 + 2, none⟩ = some (.int .i64 (ea.z : Int))) (first | go_keep | (go_split_ands; refine ⟨?_, ?_, ?_, ?_, ?_, ?_, ?_⟩ <;> first | assumption | (simp [*]; done))) (first | (go_at_call 99; go_must ((refine (impl_commute_any P ea _ HP.out OA.out).mono ?_; rintro e w4 ⟨rfl, hb2⟩); (rw [CX.out]); (have y2 := hb2.size); (simp at y2); (replace c0 := below_cell hb2 rfl (cell_drew c0)); (replace c1 := below_cell hb2 rfl (cell_drew c1)); (replace c2 := below_cell hb2 rfl (cell_drew c2)); (replace t0 := below_cell hb2 rfl (cell_drew t0)); (replace t1 := below_cell hb2 rfl (cell_drew t1)); (replace t2 := below_cell hb2 rfl (cell_drew t2)); (replace s0 := below_cell hb2 rfl (cell_drew s0)); (replace s1 := below_cell hb2 rfl (cell_drew s1)); (replace s2 := below_cell hb2 rfl (cell_drew s2)); (replace a0 := below_cell hb2 rfl (cell_drew a0)); (replace a1 := below_cell hb2 rfl (cell_drew a1)); (replace a2 := below_cell hb2 rfl (cell_drew a2)); (replace b0 := below_cell hb2 rfl (cell_drew b0)); (replace b1 := below_cell hb2 rfl (cell_drew b1)); (replace b2 := below_cell hb2 rfl (cell_drew b2)); (replace f0 := below_frz hb2 rfl (by first | omega | (simp; omega)) (frz_drew f0)); (replace f1 := below_frz hb2 rfl (by first | omega | (simp; omega)) (frz_drew f1)); (replace f2 := below_frz hb2 rfl (by first | omega | (simp; omega)) (frz_drew f2)); (replace hbel := Lib.hid (show Below (w.heap.size + 1 + 1 + 1) W0 w4 from Below.trans (Below.drew hbel.out) (hb2.mono (by first | omega | (simp; omega))))); (replace L0 := World.block_lt_of_cell? _ _ c0); (clear hb2 y2))))
          go_wp2_with fail
          rw [if_neg (by simp)] at NX
          rw [← NX.out] at ox
          go_region
          replace c0 := cell_drew (cell_set_other (o2 := 2) (v := (.int .i64 (preB X P (k + 1) : Int))) c0)
          replace c1 := cell_drew (cell_set_other (o2 := 2) (v := (.int .i64 (preB X P (k + 1) : Int))) c1)
          replace c2 := cell_drew (World.cell?_setCell_same w4 ⟨w.heap.size + 1 + 1 + 1, 2, none⟩ (.int .i64 (preB X P (k + 1) : Int)) c2)
          replace t0 := cell_drew (cell_set_far (nb := w.heap.size + 1 + 1 + 1) (o2 := 2) (v := (.int .i64 (preB X P (k + 1) : Int))) (by omega) t0)
          replace t1 := cell_drew (cell_set_far (nb := w.heap.size + 1 + 1 + 1) (o2 := 2) (v := (.int .i64 (preB X P (k + 1) : Int))) (by omega) t1)
          replace t2 := cell_drew (cell_set_far (nb := w.heap.size + 1 + 1 + 1) (o2 := 2) (v := (.int .i64 (preB X P (k + 1) : Int))) (by omega) t2)
          replace s0 := cell_drew (cell_set_far (nb := w.heap.size + 1 + 1 + 1) (o2 := 2) (v := (.int .i64 (preB X P (k + 1) : Int))) (by omega) s0)
          replace s1 := cell_drew (cell_set_far (nb := w.heap.size + 1 + 1 + 1) (o2 := 2) (v := (.int .i64 (preB X P (k + 1) : Int))) (by omega) s1)
          replace s2 := cell_drew (cell_set_far (nb := w.heap.size + 1 + 1 + 1) (o2 := 2) (v := (.int .i64 (preB X P (k + 1) : Int))) (by omega) s2)
          replace a0 := cell_drew (cell_set_far (nb := w.heap.size + 1 + 1 + 1) (o2 := 2) (v := (.int .i64 (preB X P (k + 1) : Int))) (by omega) a0)
          replace a1 := cell_drew (cell_set_far (nb := w.heap.size + 1 + 1 + 1) (o2 := 2) (v := (.int .i64 (preB X P (k + 1) : Int))) (by omega) a1)
          replace a2 := cell_drew (cell_set_far (nb := w.heap.size + 1 + 1 + 1) (o2 := 2) (v := (.int .i64 (preB X P (k + 1) : Int))) (by omega) a2)
          replace b0 := cell_drew (cell_set_far (nb := w.heap.size + 1 + 1 + 1) (o2 := 2) (v := (.int .i64 (preB X P (k + 1) : Int))) (by omega) b0)
          replace b1 := cell_drew (cell_set_far (nb := w.heap.size + 1 + 1 + 1) (o2 := 2) (v := (.int .i64 (preB X P (k + 1) : Int))) (by omega) b1)
          replace b2 := cell_drew (cell_set_far (nb := w.heap.size + 1 + 1 + 1) (o2 := 2) (v := (.int .i64 (preB X P (k + 1) : Int))) (by omega) b2)
          replace f0 : ((w4.setCell ⟨w.heap.size + 1 + 1 + 1, 2, none⟩ (.int .i64 (preB X P (k + 1) : Int))).drew).frozen? ⟨w.heap.size + 1 + 1 + 1, 0, none⟩ = false := frz_drew (by rw [World.frozen?_setCell]; exact f0)
          replace f1 : ((w4.setCell ⟨w.heap.size + 1 + 1 + 1, 2, none⟩ (.int .i64 (preB X P (k + 1) : Int))).drew).frozen? ⟨w.heap.size + 1 + 1 + 1, 1, none⟩ = false := frz_drew (by rw [World.frozen?_setCell]; exact f1)
          replace f2 : ((w4.setCell ⟨w.heap.size + 1 + 1 + 1, 2, none⟩ (.int .i64 (preB X P (k + 1) : Int))).drew).frozen? ⟨w.heap.size + 1 + 1 + 1, 2, none⟩ = false := frz_drew (by rw [World.frozen?_setCell]; exact f2)
          replace hbel := Lib.hid (show Below (w.heap.size + 1 + 1 + 1) W0 ((w4.setCell ⟨w.heap.size + 1 + 1 + 1, 2, none⟩ (.int .i64 (preB X P (k + 1) : Int))).drew) from Below.drew (Below.setCell hbel.out (by dsimp only; omega) _))
          generalize (w4.setCell ⟨w.heap.size + 1 + 1 + 1, 2, none⟩ (.int .i64 (preB X P (k + 1) : Int))).drew = w5 at *
          replace L0 : w.heap.size + 1 + 1 + 1 < w5.heap.size := World.block_lt_of_cell? _ _ c0
          go_wp2_with fail
          go_roundw
          case rel => exact ⟨k + 1, by omega, by go_num, c0, c1, c2, f0, f1, f2, hbel⟩
          case measure => simp [intOf]; omega
        · have CX := Lib.hid hcx
          rw [hcx] at NX
          clear hcx
          go_region_held3 (fun w' => w'.cell? ⟨w.heap.size + 1, 0, none⟩ = some (.int .i64 (P.p : Int)) ∧ w'.cell? ⟨w.heap.size + 1, 1, none⟩ = some (.int .i64 (P.x : Int)) ∧ w'.cell? ⟨w.heap.size + 1, 2, none⟩ = some (.int .i64 (P.z : Int)) ∧ w'.cell? ⟨w.heap.size, 1, none⟩ = some (.slice (some ⟨ga, offa, none⟩) m cA) ∧ w'.cell? ⟨ga, offa + k * 3, none⟩ = some (.int .i64 (ea.p : Int)) ∧ w'.cell? ⟨ga, offa + k * 3 + 1, none⟩ = some (.int .i64 (ea.x : Int)) ∧ w'.cell? ⟨ga, offa + k * 3 + 2, none⟩ = some (.int .i64 (ea.z : Int))) (first | go_keep | (go_split_ands; refine ⟨?_, ?_, ?_, ?_, ?_, ?_, ?_⟩ <;> first | assumption | (simp [*]; done))) (first | (go_at_call 99; go_must ((refine (impl_commute_any P ea _ HP.out OA.out).mono ?_; rintro e w4 ⟨rfl, hb2⟩); (rw [CX.out]); (have y2 := hb2.size); (simp at y2); (replace c0 := below_cell hb2 rfl (cell_drew c0)); (replace c1 := below_cell hb2 rfl (cell_drew c1)); (replace c2 := below_cell hb2 rfl (cell_drew c2)); (replace t0 := below_cell hb2 rfl (cell_drew t0)); (replace t1 := below_cell hb2 rfl (cell_drew t1)); (replace t2 := below_cell hb2 rfl (cell_drew t2)); (replace s0 := below_cell hb2 rfl (cell_drew s0)); (replace s1 := below_cell hb2 rfl (cell_drew s1)); (replace s2 := below_cell hb2 rfl (cell_drew s2)); (replace a0 := below_cell hb2 rfl (cell_drew a0)); (replace a1 := below_cell hb2 rfl (cell_drew a1)); (replace a2 := below_cell hb2 rfl (cell_drew a2)); (replace b0 := below_cell hb2 rfl (cell_drew b0)); (replace b1 := below_cell hb2 rfl (cell_drew b1)); (replace b2 := below_cell hb2 rfl (cell_drew b2)); (replace f0 := below_frz hb2 rfl (by first | omega | (simp; omega)) (frz_drew f0)); (replace f1 := below_frz hb2 rfl (by first | omega | (simp; omega)) (frz_drew f1)); (replace f2 := below_frz hb2 rfl (by first | omega | (simp; omega)) (frz_drew f2)); (replace hbel := Lib.hid (show Below (w.heap.size + 1 + 1 + 1) W0 w4 from Below.trans (Below.drew hbel.out) (hb2.mono (by first | omega | (simp; omega))))); (replace L0 := World.block_lt_of_cell? _ _ c0); (clear hb2 y2))))
          go_wp2_with fail
          rw [if_pos (by simp)] at NX
          rw [← NX.out] at c2
          generalize w4 = w5 at *
          go_roundw
          case rel => exact ⟨k + 1, by omega, by go_num, c0, c1, c2, f0, f1, f2, hbel⟩
          case measure => simp [intOf]; omega
      · have CZ := Lib.hid hcz
        rw [hcz] at NZ
        clear hcz
        go_wp2_with fail
        go_region_held3 (fun w' => w'.cell? ⟨w.heap.size + 1, 0, none⟩ = some (.int .i64 (P.p : Int)) ∧ w'.cell? ⟨w.heap.size + 1, 1, none⟩ = some (.int .i64 (P.x : Int)) ∧ w'.cell? ⟨w.heap.size + 1, 2, none⟩ = some (.int .i64 (P.z : Int)) ∧ w'.cell? ⟨w.heap.size, 2, none⟩ = some (.slice (some ⟨gb, offb, none⟩) m cB) ∧ w'.cell? ⟨gb, offb + k * 3, none⟩ = some (.int .i64 (eb.p : Int)) ∧ w'.cell? ⟨gb, offb + k * 3 + 1, none⟩ = some (.int .i64 (eb.x : Int)) ∧ w'.cell? ⟨gb, offb + k * 3 + 2, none⟩ = some (.int .i64 (eb.z : Int))) (first | go_keep | (go_split_ands; refine ⟨?_, ?_, ?_, ?_, ?_, ?_, ?_⟩ <;> first | assumption | (simp [*]; done))) (first | (go_at_call 99; go_must ((refine (impl_commute_any P eb _ HP.out OB.out).mono ?_; rintro e w2 ⟨rfl, hb2⟩); (rw [CZ.out]); (have y2 := hb2.size); (simp at y2); (replace c0 := below_cell hb2 rfl (cell_drew c0)); (replace c1 := below_cell hb2 rfl (cell_drew c1)); (replace c2 := below_cell hb2 rfl (cell_drew c2)); (replace t0 := below_cell hb2 rfl (cell_drew t0)); (replace t1 := below_cell hb2 rfl (cell_drew t1)); (replace t2 := below_cell hb2 rfl (cell_drew t2)); (replace s0 := below_cell hb2 rfl (cell_drew s0)); (replace s1 := below_cell hb2 rfl (cell_drew s1)); (replace s2 := below_cell hb2 rfl (cell_drew s2)); (replace a0 := below_cell hb2 rfl (cell_drew a0)); (replace a1 := below_cell hb2 rfl (cell_drew a1)); (replace a2 := below_cell hb2 rfl (cell_drew a2)); (replace b0 := below_cell hb2 rfl (cell_drew b0)); (replace b1 := below_cell hb2 rfl (cell_drew b1)); (replace b2 := below_cell hb2 rfl (cell_drew b2)); (replace f0 := below_frz hb2 rfl (by first | omega | (simp; omega)) (frz_drew f0)); (replace f1 := below_frz hb2 rfl (by first | omega | (simp; omega)) (frz_drew f1)); (replace f2 := below_frz hb2 rfl (by first | omega | (simp; omega)) (frz_drew f2)); (replace hbel := Lib.hid (show Below (w.heap.size + 1 + 1 + 1) W0 w2 from Below.trans (Below.drew hbel.out) (hb2.mono (by first | omega | (simp; omega))))); (replace L0 := World.block_lt_of_cell? _ _ c0); (clear hb2 y2))))
        go_wp2_with fail
        rw [if_pos (by simp)] at NZ
        rw [← NZ.out] at c1
        generalize w2 = w3 at *
        cases hcx : commN P ea
        · have CX := Lib.hid hcx
          rw [hcx] at NX
          clear hcx
          go_region_held3 (fun w' => w'.cell? ⟨w.heap.size + 1, 0, none⟩ = some (.int .i64 (P.p : Int)) ∧ w'.cell? ⟨w.heap.size + 1, 1, none⟩ = some (.int .i64 (P.x : Int)) ∧ w'.cell? ⟨w.heap.size + 1, 2, none⟩ = some (.int .i64 (P.z : Int)) ∧ w'.cell? ⟨w.heap.size, 1, none⟩ = some (.slice (some ⟨ga, offa, none⟩) m cA) ∧ w'.cell? ⟨ga, offa + k * 3, none⟩ = some (.int .i64 (ea.p : Int)) ∧ w'.cell? ⟨ga, offa + k * 3 + 1, none⟩ = some (.int .i64 (ea.x : Int)) ∧ w'.cell? ⟨ga, offa + k * 3 + 2, none⟩ = some (.int .i64 (ea.z : Int))) (first | go_keep | (go_split_ands; refine ⟨?_, ?_, ?_, ?_, ?_, ?_, ?_⟩ <;> first | assumption | (simp [*]; done))) (first | (go_at_call 99; go_must ((refine (impl_commute_any P ea _ HP.out OA.out).mono ?_; rintro e w4 ⟨rfl, hb2⟩); (rw [CX.out]); (have y2 := hb2.size); (simp at y2); (replace c0 := below_cell hb2 rfl (cell_drew c0)); (replace c1 := below_cell hb2 rfl (cell_drew c1)); (replace c2 := below_cell hb2 rfl (cell_drew c2)); (replace t0 := below_cell hb2 rfl (cell_drew t0)); (replace t1 := below_cell hb2 rfl (cell_drew t1)); (replace t2 := below_cell hb2 rfl (cell_drew t2)); (replace s0 := below_cell hb2 rfl (cell_drew s0)); (replace s1 := below_cell hb2 rfl (cell_drew s1)); (replace s2 := below_cell hb2 rfl (cell_drew s2)); (replace a0 := below_cell hb2 rfl (cell_drew a0)); (replace a1 := below_cell hb2 rfl (cell_drew a1)); (replace a2 := below_cell hb2 rfl (cell_drew a2)); (replace b0 := below_cell hb2 rfl (cell_drew b0)); (replace b1 := below_cell hb2 rfl (cell_drew b1)); (replace b2 := below_cell hb2 rfl (cell_drew b2)); (replace f0 := below_frz hb2 rfl (by first | omega | (simp; omega)) (frz_drew f0)); (replace f1 := below_frz hb2 rfl (by first | omega | (simp; omega)) (frz_drew f1)); (replace f2 := below_frz hb2 rfl (by first | omega | (simp; omega)) (frz_drew f2)); (replace hbel := Lib.hid (show Below (w.heap.size + 1 + 1 + 1) W0 w4 from Below.trans (Below.drew hbel.out) (hb2.mono (by first | omega | (simp; omega))))); (replace L0 := World.block_lt_of_cell? _ _ c0); (clear hb2 y2))))
          go_wp2_with fail
          rw [if_neg (by simp)] at NX
          rw [← NX.out] at ox
          go_region
          replace c0 := cell_drew (cell_set_other (o2 := 2) (v := (.int .i64 (preB X P (k + 1) : Int))) c0)
          replace c1 := cell_drew (cell_set_other (o2 := 2) (v := (.int .i64 (preB X P (k + 1) : Int))) c1)
          replace c2 := cell_drew (World.cell?_setCell_same w4 ⟨w.heap.size + 1 + 1 + 1, 2, none⟩ (.int .i64 (preB X P (k + 1) : Int)) c2)
          replace t0 := cell_drew (cell_set_far (nb := w.heap.size + 1 + 1 + 1) (o2 := 2) (v := (.int .i64 (preB X P (k + 1) : Int))) (by omega) t0)
          replace t1 := cell_drew (cell_set_far (nb := w.heap.size + 1 + 1 + 1) (o2 := 2) (v := (.int .i64 (preB X P (k + 1) : Int))) (by omega) t1)
          replace t2 := cell_drew (cell_set_far (nb := w.heap.size + 1 + 1 + 1) (o2 := 2) (v := (.int .i64 (preB X P (k + 1) : Int))) (by omega) t2)
          replace s0 := cell_drew (cell_set_far (nb := w.heap.size + 1 + 1 + 1) (o2 := 2) (v := (.int .i64 (preB X P (k + 1) : Int))) (by omega) s0)
          replace s1 := cell_drew (cell_set_far (nb := w.heap.size + 1 + 1 + 1) (o2 := 2) (v := (.int .i64 (preB X P (k + 1) : Int))) (by omega) s1)
          replace s2 := cell_drew (cell_set_far (nb := w.heap.size + 1 + 1 + 1) (o2 := 2) (v := (.int .i64 (preB X P (k + 1) : Int))) (by omega) s2)
          replace a0 := cell_drew (cell_set_far (nb := w.heap.size + 1 + 1 + 1) (o2 := 2) (v := (.int .i64 (preB X P (k + 1) : Int))) (by omega) a0)
          replace a1 := cell_drew (cell_set_far (nb := w.heap.size + 1 + 1 + 1) (o2 := 2) (v := (.int .i64 (preB X P (k + 1) : Int))) (by omega) a1)
          replace a2 := cell_drew (cell_set_far (nb := w.heap.size + 1 + 1 + 1) (o2 := 2) (v := (.int .i64 (preB X P (k + 1) : Int))) (by omega) a2)
          replace b0 := cell_drew (cell_set_far (nb := w.heap.size + 1 + 1 + 1) (o2 := 2) (v := (.int .i64 (preB X P (k + 1) : Int))) (by omega) b0)
          replace b1 := cell_drew (cell_set_far (nb := w.heap.size + 1 + 1 + 1) (o2 := 2) (v := (.int .i64 (preB X P (k + 1) : Int))) (by omega) b1)
          replace b2 := cell_drew (cell_set_far (nb := w.heap.size + 1 + 1 + 1) (o2 := 2) (v := (.int .i64 (preB X P (k + 1) : Int))) (by omega) b2)
          replace f0 : ((w4.setCell ⟨w.heap.size + 1 + 1 + 1, 2, none⟩ (.int .i64 (preB X P (k + 1) : Int))).drew).frozen? ⟨w.heap.size + 1 + 1 + 1, 0, none⟩ = false := frz_drew (by rw [World.frozen?_setCell]; exact f0)
          replace f1 : ((w4.setCell ⟨w.heap.size + 1 + 1 + 1, 2, none⟩ (.int .i64 (preB X P (k + 1) : Int))).drew).frozen? ⟨w.heap.size + 1 + 1 + 1, 1, none⟩ = false := frz_drew (by rw [World.frozen?_setCell]; exact f1)
          replace f2 : ((w4.setCell ⟨w.heap.size + 1 + 1 + 1, 2, none⟩ (.int .i64 (preB X P (k + 1) : Int))).drew).frozen? ⟨w.heap.size + 1 + 1 + 1, 2, none⟩ = false := frz_drew (by rw [World.frozen?_setCell]; exact f2)
          replace hbel := Lib.hid (show Below (w.heap.size + 1 + 1 + 1) W0 ((w4.setCell ⟨w.heap.size + 1 + 1 + 1, 2, none⟩ (.int .i64 (preB X P (k + 1) : Int))).drew) from Below.drew (Below.setCell hbel.out (by dsimp only; omega) _))
          generalize (w4.setCell ⟨w.heap.size + 1 + 1 + 1, 2, none⟩ (.int .i64 (preB X P (k + 1) : Int))).drew = w5 at *
          replace L0 : w.heap.size + 1 + 1 + 1 < w5.heap.size := World.block_lt_of_cell? _ _ c0
          go_wp2_with fail
          go_roundw
          case rel => exact ⟨k + 1, by omega, by go_num, c0, c1, c2, f0, f1, f2, hbel⟩
          case measure => simp [intOf]; omega
        · have CX := Lib.hid hcx
          rw [hcx] at NX
          clear hcx
          go_region_held3 (fun w' => w'.cell? ⟨w.heap.size + 1, 0, none⟩ = some (.int .i64 (P.p : Int)) ∧ w'.cell? ⟨w.heap.size + 1, 1, none⟩ = some (.int .i64 (P.x : Int)) ∧ w'.cell? ⟨w.heap.size + 1, 2, none⟩ = some (.int .i64 (P.z : Int)) ∧ w'.cell? ⟨w.heap.size, 1, none⟩ = some (.slice (some ⟨ga, offa, none⟩) m cA) ∧ w'.cell? ⟨ga, offa + k * 3, none⟩ = some (.int .i64 (ea.p : Int)) ∧ w'.cell? ⟨ga, offa + k * 3 + 1, none⟩ = some (.int .i64 (ea.x : Int)) ∧ w'.cell? ⟨ga, offa + k * 3 + 2, none⟩ = some (.int .i64 (ea.z : Int))) (first | go_keep | (go_split_ands; refine ⟨?_, ?_, ?_, ?_, ?_, ?_, ?_⟩ <;> first | assumption | (simp [*]; done))) (first | (go_at_call 99; go_must ((refine (impl_commute_any P ea _ HP.out OA.out).mono ?_; rintro e w4 ⟨rfl, hb2⟩); (rw [CX.out]); (have y2 := hb2.size); (simp at y2); (replace c0 := below_cell hb2 rfl (cell_drew c0)); (replace c1 := below_cell hb2 rfl (cell_drew c1)); (replace c2 := below_cell hb2 rfl (cell_drew c2)); (replace t0 := below_cell hb2 rfl (cell_drew t0)); (replace t1 := below_cell hb2 rfl (cell_drew t1)); (replace t2 := below_cell hb2 rfl (cell_drew t2)); (replace s0 := below_cell hb2 rfl (cell_drew s0)); (replace s1 := below_cell hb2 rfl (cell_drew s1)); (replace s2 := below_cell hb2 rfl (cell_drew s2)); (replace a0 := below_cell hb2 rfl (cell_drew a0)); (replace a1 := below_cell hb2 rfl (cell_drew a1)); (replace a2 := below_cell hb2 rfl (cell_drew a2)); (replace b0 := below_cell hb2 rfl (cell_drew b0)); (replace b1 := below_cell hb2 rfl (cell_drew b1)); (replace b2 := below_cell hb2 rfl (cell_drew b2)); (replace f0 := below_frz hb2 rfl (by first | omega | (simp; omega)) (frz_drew f0)); (replace f1 := below_frz hb2 rfl (by first | omega | (simp; omega)) (frz_drew f1)); (replace f2 := below_frz hb2 rfl (by first | omega | (simp; omega)) (frz_drew f2)); (replace hbel := Lib.hid (show Below (w.heap.size + 1 + 1 + 1) W0 w4 from Below.trans (Below.drew hbel.out) (hb2.mono (by first | omega | (simp; omega))))); (replace L0 := World.block_lt_of_cell? _ _ c0); (clear hb2 y2))))
          go_wp2_with fail
          rw [if_pos (by simp)] at NX
          rw [← NX.out] at c2
          generalize w4 = w5 at *
          go_roundw
          case rel => exact ⟨k + 1, by omega, by go_num, c0, c1, c2, f0, f1, f2, hbel⟩
          case measure => simp [intOf]; omega
    · have e : k = m := by omega
      have HR : Hid (invN X Z m P = ⟨(imgN X Z ⟨0, preB Z P m, preB X P m⟩ m).p, preB Z P m, preB X P m⟩) := rfl
      have OO := Lib.hid (show PNok ⟨0, preB Z P m, preB X P m⟩ from ⟨by simp, preB_31 _ _ m5, preB_31 _ _ m5⟩)
      have RA := Lib.hid (Rd.below HK0.out bw.out rfl); have RB := Lib.hid (Rd.below HK1.out bw.out rfl)
      have r0 := (hbel.out.cell (p := ⟨w.heap.size + 1 + 1, 0, none⟩) (by dsimp only; omega)).trans R0.out; have u0 := (hbel.out.frozen (p := ⟨w.heap.size + 1 + 1, 0, none⟩) (by dsimp only; omega)).trans Q0.out
      have r1 := (hbel.out.cell (p := ⟨w.heap.size + 1 + 1, 1, none⟩) (by dsimp only; omega)).trans R1.out; have u1 := (hbel.out.frozen (p := ⟨w.heap.size + 1 + 1, 1, none⟩) (by dsimp only; omega)).trans Q1.out
      have r2 := (hbel.out.cell (p := ⟨w.heap.size + 1 + 1, 2, none⟩) (by dsimp only; omega)).trans R2.out; have u2 := (hbel.out.frozen (p := ⟨w.heap.size + 1 + 1, 2, none⟩) (by dsimp only; omega)).trans Q2.out
      rw [e] at c1 c2
      obtain ⟨bx, hbx⟩ : ∃ t, t = preB Z P m := ⟨_, rfl⟩
      obtain ⟨bz, hbz⟩ : ∃ t, t = preB X P m := ⟨_, rfl⟩
      rw [← hbx] at c1 HR OO; rw [← hbz] at c2 HR OO
      have i1 : ¬ (k : Int) < (m : Int) := by omega
      clear e hbx hbz HA HB
      go_wp2_with fail
      refine (impl_image_any m X Z ⟨0, bx, bz⟩ _ _ _ m5 HS.out.lx HS.out.lz HS.out.ltx.ok HS.out.ltz.ok OO.out RA.out RB.out).mono ?_; rintro e w2 ⟨rfl, hb2⟩
      obtain ⟨R, hR⟩ : ∃ R, R = imgN X Z ⟨0, bx, bz⟩ m := ⟨_, rfl⟩
      rw [← hR] at HR ⊢
      clear hR
      have hfd : ∀ w : World, (Instr.field 84 (.agg #[.int .i64 ((R).p : Int), .int .i64 ((R).x : Int), .int .i64 ((R).z : Int)]) 0).run Try.prog w = .ok (.int .i64 (R.p : Int)) w := fun _ => by kernel_rfl
      replace c0 := below_cell hb2 rfl c0; replace c1 := below_cell hb2 rfl c1; replace c2 := below_cell hb2 rfl c2
      replace r0 := below_cell hb2 rfl r0; replace r1 := below_cell hb2 rfl r1; replace r2 := below_cell hb2 rfl r2
      replace f0 := below_frz hb2 rfl L0 f0; replace f1 := below_frz hb2 rfl L0 f1; replace f2 := below_frz hb2 rfl L0 f2
      replace u0 := below_frz hb2 rfl (by omega) u0; replace u1 := below_frz hb2 rfl (by omega) u1; replace u2 := below_frz hb2 rfl (by omega) u2
      have b2' := Lib.hid (show Below w.heap.size w w2 from Below.trans bw.out (hb2.mono (by have := bw.out.size; omega)))
      clear hb2 bw t0 t1 t2 s0 s1 s2
      have hne : w.heap.size + 1 + 1 ≠ w.heap.size + 1 + 1 + 1 := by omega
      have d0 := World.cell?_setCell_same w2 ⟨w.heap.size + 1 + 1 + 1, 0, none⟩ (.int .i64 (R.p : Int)) c0
      have d1 := cell_set_other (o2 := 0) (v := (.int .i64 (R.p : Int))) c1
      have d2 := cell_set_other (o2 := 0) (v := (.int .i64 (R.p : Int))) c2
      have v0 := cell_set_far (nb := w.heap.size + 1 + 1 + 1) (o2 := 0) (v := (.int .i64 (R.p : Int))) hne r0
      have v1 := cell_set_far (nb := w.heap.size + 1 + 1 + 1) (o2 := 0) (v := (.int .i64 (R.p : Int))) hne r1
      have v2 := cell_set_far (nb := w.heap.size + 1 + 1 + 1) (o2 := 0) (v := (.int .i64 (R.p : Int))) hne r2
      have hZ := box_set3 (nb := w.heap.size + 1 + 1) (.int .i64 (R.p : Int)) (.int .i64 (bx : Int)) (.int .i64 (bz : Int)) v0 v1 v2
      have bq := b2'.out
      go_wp2_with fail
      refine bodyPost_ret (v := .agg #[.int .i64 (((⟨R.p, bx, bz⟩ : PN)).p : Int), .int .i64 (((⟨R.p, bx, bz⟩ : PN)).x : Int), .int .i64 (((⟨R.p, bx, bz⟩ : PN)).z : Int)]) (by simp [results, Try.results48, go_sem, hZ]) rfl ⟨by rw [HR.out], (by repeat (first | exact Below.refl _ _ | assumption | refine Below.drew ?_ | refine below_drewN ?_ _ | refine Below.alloc ?_ (by first | omega | (simp <;> omega)) _ | refine Below.setCell ?_ (by first | omega | (simp <;> omega)) _ | refine Below.trans ?_ (Below.mono (by assumption) (by first | omega | (simp <;> omega)))))⟩
theorem pow_5n {m : Nat} (h : m ≤ 5) : (2 : Nat) ^ m ≤ 32 := by
  have : (2 : Nat) ^ m ≤ 2 ^ 5 := Nat.pow_le_pow_right (by omega) h
  omega
set_option maxHeartbeats 16000000 in
theorem spec_l7Before_any (m : Nat) (X Z : List PN) (P : PN) (p0 px pz : Int) (v0 v1 : Value) (w : World) (S : Sym m X Z) (hP : P.x < 2 ^ m ∧ P.z < 2 ^ m) (hp : P.p = 0) (e0 : p0 = (P.p : Int)) (ex : px = (P.x : Int)) (ez : pz = (P.z : Int)) (h0 : RdE w v0 E3.cs 3 (pes X)) (h1 : RdE w v1 E3.cs 3 (pes Z)) :
    Calls Try.prog 92 #[.agg #[.int .i64 (m : Int), v0, v1], .agg #[.int .i64 p0, .int .i64 px, .int .i64 pz]] w fun e w' => e = .returned (.agg #[.int .i64 ((invN X Z m P).p : Int), .int .i64 ((invN X Z m P).x : Int), .int .i64 ((invN X Z m P).z : Int)]) ∧ Below w.heap.size w w' := by
  have HK0 := Lib.hid h0; have HK1 := Lib.hid h1
  obtain ⟨A, cA, rfl, _⟩ := pes_at h0
  obtain ⟨A2, cB, rfl, _⟩ := pes_at h1
  rw [S.lx] at HK0 ⊢; rw [S.lz] at HK1 ⊢
  have m5 := S.m5
  have m1 := S.m1
  have HS := Lib.hid S
  have q32 := pow_5n m5
  obtain ⟨Q, hQ⟩ : ∃ Q, Q = 2 ^ m := ⟨_, rfl⟩
  have HQ := Lib.hid hQ
  have hQi : (2 : Int) ^ m = (Q : Int) := by rw [hQ]; simp
  have HPL := Lib.hid hP
  have Hpx := Lib.hid ex; have Hpz := Lib.hid ez
  obtain rfl : p0 = 0 := by rw [e0, hp]; rfl
  have qx : preB Z P m < Q := by rw [hQ]; exact preB_lt _ _ _
  have qz : preB X P m < Q := by rw [hQ]; exact preB_lt _ _ _
  rw [← hQ] at q32
  obtain ⟨p1, p2⟩ := pow_small5 m5
  clear h0 h1 S hP hp e0 ex ez hQ
  go_enter Try.func92, Try.ntmps92
  go_wp2_with fail
  obtain ⟨W0, hW0⟩ : ∃ W0, W0 = (((w.alloc (.cells #[.int .i64 (m : Int), .slice A m cA, .slice A2 m cB] 28)).alloc (.cells #[.int .i64 0, .int .i64 px, .int .i64 pz] 84)).alloc (.cells #[.int .i64 0, .int .i64 0, .int .i64 0] 84)) := ⟨_, rfl⟩
  have BW := Lib.hid (show Below w.heap.size w W0 from by rw [hW0]; exact (by repeat (first | exact Below.refl _ _ | assumption | refine Below.drew ?_ | refine below_drewN ?_ _ | refine Below.alloc ?_ (by first | omega | (simp <;> omega)) _ | refine Below.setCell ?_ (by first | omega | (simp <;> omega)) _ | refine Below.trans ?_ (Below.mono (by assumption) (by first | omega | (simp <;> omega))))))
  have SW := Lib.hid (show W0.heap.size = w.heap.size + 3 from by rw [hW0]; simp)
  have T0 := Lib.hid (show W0.cell? ⟨w.heap.size, 0, none⟩ = some (.int .i64 (m : Int)) from by rw [hW0]; exact (by repeat (first | (refine Eq.trans (World.cell?_alloc_at _ _ _ _ ?hh) ?_; (case hh => (simp; done)); rfl) | refine cell_alloc_keep _ ?_)))
  have T1 := Lib.hid (show W0.cell? ⟨w.heap.size, 1, none⟩ = some (.slice A m cA) from by rw [hW0]; exact (by repeat (first | (refine Eq.trans (World.cell?_alloc_at _ _ _ _ ?hh) ?_; (case hh => (simp; done)); rfl) | refine cell_alloc_keep _ ?_)))
  have T2 := Lib.hid (show W0.cell? ⟨w.heap.size, 2, none⟩ = some (.slice A2 m cB) from by rw [hW0]; exact (by repeat (first | (refine Eq.trans (World.cell?_alloc_at _ _ _ _ ?hh) ?_; (case hh => (simp; done)); rfl) | refine cell_alloc_keep _ ?_)))
  have S0 := Lib.hid (show W0.cell? ⟨w.heap.size + 1, 0, none⟩ = some (.int .i64 0) from by rw [hW0]; exact (by repeat (first | (refine Eq.trans (World.cell?_alloc_at _ _ _ _ ?hh) ?_; (case hh => (simp; done)); rfl) | refine cell_alloc_keep _ ?_)))
  have S1 := Lib.hid (show W0.cell? ⟨w.heap.size + 1, 1, none⟩ = some (.int .i64 px) from by rw [hW0]; exact (by repeat (first | (refine Eq.trans (World.cell?_alloc_at _ _ _ _ ?hh) ?_; (case hh => (simp; done)); rfl) | refine cell_alloc_keep _ ?_)))
  have S2 := Lib.hid (show W0.cell? ⟨w.heap.size + 1, 2, none⟩ = some (.int .i64 pz) from by rw [hW0]; exact (by repeat (first | (refine Eq.trans (World.cell?_alloc_at _ _ _ _ ?hh) ?_; (case hh => (simp; done)); rfl) | refine cell_alloc_keep _ ?_)))
  have R0 := Lib.hid (show W0.cell? ⟨w.heap.size + 1 + 1, 0, none⟩ = some (.int .i64 0) from by rw [hW0]; exact (by repeat (first | (refine Eq.trans (World.cell?_alloc_at _ _ _ _ ?hh) ?_; (case hh => (simp; done)); rfl) | refine cell_alloc_keep _ ?_)))
  have R1 := Lib.hid (show W0.cell? ⟨w.heap.size + 1 + 1, 1, none⟩ = some (.int .i64 0) from by rw [hW0]; exact (by repeat (first | (refine Eq.trans (World.cell?_alloc_at _ _ _ _ ?hh) ?_; (case hh => (simp; done)); rfl) | refine cell_alloc_keep _ ?_)))
  have R2 := Lib.hid (show W0.cell? ⟨w.heap.size + 1 + 1, 2, none⟩ = some (.int .i64 0) from by rw [hW0]; exact (by repeat (first | (refine Eq.trans (World.cell?_alloc_at _ _ _ _ ?hh) ?_; (case hh => (simp; done)); rfl) | refine cell_alloc_keep _ ?_)))
  have Q0 := Lib.hid (show W0.frozen? ⟨w.heap.size + 1 + 1, 0, none⟩ = false from by rw [hW0]; exact (by repeat (first | (refine World.frozen?_alloc_at _ _ _ _ ?hh; case hh => (simp; done)) | (refine frozen_alloc_lt _ ?hh ?_; case hh => first | omega | (simp <;> omega)))))
  have Q1 := Lib.hid (show W0.frozen? ⟨w.heap.size + 1 + 1, 1, none⟩ = false from by rw [hW0]; exact (by repeat (first | (refine World.frozen?_alloc_at _ _ _ _ ?hh; case hh => (simp; done)) | (refine frozen_alloc_lt _ ?hh ?_; case hh => first | omega | (simp <;> omega)))))
  have Q2 := Lib.hid (show W0.frozen? ⟨w.heap.size + 1 + 1, 2, none⟩ = false from by rw [hW0]; exact (by repeat (first | (refine World.frozen?_alloc_at _ _ _ _ ?hh; case hh => (simp; done)) | (refine frozen_alloc_lt _ ?hh ?_; case hh => first | omega | (simp <;> omega)))))
  rw [← hW0]
  clear hW0
  go_loopw [5] (fun i wr => ∃ x : Nat, x ≤ preB Z P m ∧ i = .int .i64 x ∧ Hid (Below W0.heap.size W0 wr)) (fun i _ => Q - (intOf i).toNat)
  case atStart => exact ⟨0, Nat.zero_le _, rfl, (show Below _ _ _ from Below.refl _ _)⟩
  case round =>
    obtain ⟨x, hx, rfl, hbel⟩ := hrel
    have swo : w.heap.size + 3 ≤ W0.heap.size := by have := SW.out; omega
    have t0 := below_cell hbel.out rfl T0.out
    have i1 : (x : Int) < (Q : Int) := by omega
    obtain ⟨wo, rfl⟩ : ∃ wo : World, wo = wr := ⟨_, rfl⟩
    go_wp2_with fail
    clear t0 i1
    go_loopw [6] (fun i wr => ∃ z : Nat, z ≤ Q ∧ (x < preB Z P m ∨ z ≤ preB X P m) ∧ i = .int .i64 z ∧ Hid (Below W0.heap.size W0 wr)) (fun i _ => Q - (intOf i).toNat)
    case atStart => exact ⟨0, Nat.zero_le _, .inr (Nat.zero_le _), rfl, hbel.out⟩
    case round =>
      clear hbel
      obtain ⟨z, hz, hor, rfl, hbel⟩ := hrel
      have Hor := Lib.hid hor; clear hor
      have t0 := below_cell hbel.out rfl T0.out
      have t1 := below_cell hbel.out rfl T1.out
      have t2 := below_cell hbel.out rfl T2.out
      have s0 := below_cell hbel.out rfl S0.out
      have s1 := below_cell hbel.out rfl S1.out
      have s2 := below_cell hbel.out rfl S2.out
      have bw := Lib.hid (show Below w.heap.size w wr from Below.trans BW.out (hbel.out.mono (by omega)))
      have zr := hbel.out.size
      by_cases hlt : z < Q
      · have i1 : (z : Int) < (Q : Int) := by omega
        have hx2 : x < 2 ^ m := by rw [← HQ.out]; omega
        have hz2 : z < 2 ^ m := by rw [← HQ.out]; omega
        have HX2 := Lib.hid hx2; have HZ2 := Lib.hid hz2; clear hx2 hz2
        have RA := Lib.hid (Rd.below HK0.out bw.out rfl); have RB := Lib.hid (Rd.below HK1.out bw.out rfl)
        have OO := Lib.hid (show PNok ⟨0, x, z⟩ from ⟨by simp, by dsimp only; omega, by dsimp only; omega⟩)
        go_wp2_with fail
        refine (spec_l7Image_any m X Z ⟨0, x, z⟩ _ _ _ m5 HS.out.lx HS.out.lz HS.out.ltx.ok HS.out.ltz.ok OO.out RA.out RB.out).mono ?_; rintro e w2 ⟨rfl, hb2⟩
        rw [img_same X Z (p := ⟨0, x, z⟩) (by simp) HX2.out (by omega)]
        have HEV := Lib.hid (HS.out.img_even (z := z) HX2.out)
        have HY := Lib.hid (HS.out.okN ⟨0, x, z⟩ m)
        have HON := Lib.hid (fun a b => HS.out.only (p := P) HX2.out HZ2.out a b)
        have HEX := Lib.hid (HS.out.exists HPL.out)
        replace t0 := below_cell hb2 rfl t0; replace t1 := below_cell hb2 rfl t1; replace t2 := below_cell hb2 rfl t2
        replace s0 := below_cell hb2 rfl s0; replace s1 := below_cell hb2 rfl s1; replace s2 := below_cell hb2 rfl s2
        have y2 := hb2.size
        replace hbel := Lib.hid (show Below W0.heap.size W0 w2 from Below.trans hbel.out (hb2.mono zr))
        clear hb2 bw RA RB OO
        by_cases hm : (imgN X Z ⟨0, x, z⟩ m).x = P.x ∧ (imgN X Z ⟨0, x, z⟩ m).z = P.z
        · have HR : Hid (invN X Z m P = ⟨(imgN X Z ⟨0, x, z⟩ m).p, x, z⟩) := by
            show _ = _
            obtain ⟨a, b⟩ := HON.out hm.1 hm.2
            unfold invN; rw [← a, ← b]
          obtain ⟨Y, hY⟩ : ∃ Y, Y = imgN X Z ⟨0, x, z⟩ m := ⟨_, rfl⟩
          rw [← hY] at hm HR HEV HY ⊢
          clear hY HON HEX
          have hyp : Y.p = 0 ∨ Y.p = 2 := by have := HEV.out; have := HY.out.p; omega
          obtain ⟨yx, hyx⟩ : ∃ t : Int, t = (Y.x : Int) := ⟨_, rfl⟩
          obtain ⟨yz, hyz⟩ : ∃ t : Int, t = (Y.z : Int) := ⟨_, rfl⟩
          have q1 : (yx == px) = true := by rw [hyx, Hpx.out, hm.1]; simp
          have q2 : (yz == pz) = true := by rw [hyz, Hpz.out, hm.2]; simp
          rw [← hyx, ← hyz]
          have HPP := Lib.hid hyp
          obtain ⟨yp, hyy⟩ : ∃ t : Int, t = (Y.p : Int) := ⟨_, rfl⟩
          rw [← hyy]
          have hyp2 : yp = 0 ∨ yp = 2 := by omega
          have HYP := Lib.hid hyy
          clear hm hyx hyz hyp hyy
          have r0 := below_cell hbel.out rfl R0.out; have r1 := below_cell hbel.out rfl R1.out; have r2 := below_cell hbel.out rfl R2.out
          have u0 := below_frz hbel.out rfl (by omega) Q0.out; have u1 := below_frz hbel.out rfl (by omega) Q1.out; have u2 := below_frz hbel.out rfl (by omega) Q2.out
          have bq : Below w.heap.size w w2 := Below.trans BW.out (hbel.out.mono (by omega))
          rcases hyp2 with h9 | h9
          · rw [h9] at HYP ⊢
            have ss1 := cell_alloc_keep (.cells #[.int .i64 0, .int .i64 yx, .int .i64 yz] 84) s1; have ss2 := cell_alloc_keep (.cells #[.int .i64 0, .int .i64 yx, .int .i64 yz] 84) s2; have ss0 := cell_alloc_keep (.cells #[.int .i64 0, .int .i64 yx, .int .i64 yz] 84) s0
            have rr0 := cell_alloc_keep (.cells #[.int .i64 0, .int .i64 yx, .int .i64 yz] 84) r0
            have rr1 := cell_alloc_keep (.cells #[.int .i64 0, .int .i64 yx, .int .i64 yz] 84) r1
            have rr2 := cell_alloc_keep (.cells #[.int .i64 0, .int .i64 yx, .int .i64 yz] 84) r2
            have uu0 := frozen_alloc_keep (.cells #[.int .i64 0, .int .i64 yx, .int .i64 yz] 84) r0 u0
            have uu1 := frozen_alloc_keep (.cells #[.int .i64 0, .int .i64 yx, .int .i64 yz] 84) r1 u1
            have uu2 := frozen_alloc_keep (.cells #[.int .i64 0, .int .i64 yx, .int .i64 yz] 84) r2 u2
            have hZ := box_set3 (nb := w.heap.size + 1 + 1) (.int .i64 0) (.int .i64 (x : Int)) (.int .i64 (z : Int)) rr0 rr1 rr2
            have HE := Lib.hid (show (Y.p : Int) = 0 from by have := HYP.out; omega)
            clear h9
            go_wp2_with fail
            refine bodyPost_ret (v := .agg #[.int .i64 0, .int .i64 (x : Int), .int .i64 (z : Int)]) (by simp [results, Try.results92, go_sem, hZ]) rfl ⟨by rw [HR.out]; dsimp only; rw [HE.out], (by repeat (first | exact Below.refl _ _ | assumption | refine Below.drew ?_ | refine below_drewN ?_ _ | refine Below.alloc ?_ (by first | omega | (simp <;> omega)) _ | refine Below.setCell ?_ (by first | omega | (simp <;> omega)) _ | refine Below.trans ?_ (Below.mono (by assumption) (by first | omega | (simp <;> omega)))))⟩
          · rw [h9] at HYP ⊢
            have ss1 := cell_alloc_keep (.cells #[.int .i64 2, .int .i64 yx, .int .i64 yz] 84) s1; have ss2 := cell_alloc_keep (.cells #[.int .i64 2, .int .i64 yx, .int .i64 yz] 84) s2; have ss0 := cell_alloc_keep (.cells #[.int .i64 2, .int .i64 yx, .int .i64 yz] 84) s0
            have rr0 := cell_alloc_keep (.cells #[.int .i64 2, .int .i64 yx, .int .i64 yz] 84) r0
            have rr1 := cell_alloc_keep (.cells #[.int .i64 2, .int .i64 yx, .int .i64 yz] 84) r1
            have rr2 := cell_alloc_keep (.cells #[.int .i64 2, .int .i64 yx, .int .i64 yz] 84) r2
            have uu0 := frozen_alloc_keep (.cells #[.int .i64 2, .int .i64 yx, .int .i64 yz] 84) r0 u0
            have uu1 := frozen_alloc_keep (.cells #[.int .i64 2, .int .i64 yx, .int .i64 yz] 84) r1 u1
            have uu2 := frozen_alloc_keep (.cells #[.int .i64 2, .int .i64 yx, .int .i64 yz] 84) r2 u2
            have hZ := box_set3 (nb := w.heap.size + 1 + 1) (.int .i64 2) (.int .i64 (x : Int)) (.int .i64 (z : Int)) rr0 rr1 rr2
            have HE := Lib.hid (show (Y.p : Int) = 2 from by have := HYP.out; omega)
            clear h9
            go_wp2_with fail
            refine bodyPost_ret (v := .agg #[.int .i64 2, .int .i64 (x : Int), .int .i64 (z : Int)]) (by simp [results, Try.results92, go_sem, hZ]) rfl ⟨by rw [HR.out]; dsimp only; rw [HE.out], (by repeat (first | exact Below.refl _ _ | assumption | refine Below.drew ?_ | refine below_drewN ?_ _ | refine Below.alloc ?_ (by first | omega | (simp <;> omega)) _ | refine Below.setCell ?_ (by first | omega | (simp <;> omega)) _ | refine Below.trans ?_ (Below.mono (by assumption) (by first | omega | (simp <;> omega)))))⟩
        · have HNX := Lib.hid (show x < preB Z P m ∨ z + 1 ≤ preB X P m from by
            rcases Hor.out with h | h
            · exact .inl h
            · by_cases h7 : x = preB Z P m
              · by_cases h8 : z = preB X P m
                · exact absurd (by rw [h7, h8]; exact HEX.out) hm
                · exact .inr (by omega)
              · exact .inl (by omega))
          obtain ⟨Y, hY⟩ : ∃ Y, Y = imgN X Z ⟨0, x, z⟩ m := ⟨_, rfl⟩
          rw [← hY] at hm ⊢
          clear hY HON HEX HEV HY
          obtain ⟨yx, hyx⟩ : ∃ t : Int, t = (Y.x : Int) := ⟨_, rfl⟩
          obtain ⟨yz, hyz⟩ : ∃ t : Int, t = (Y.z : Int) := ⟨_, rfl⟩
          have q1 : (yx == px) = false ∨ ((yx == px) = true ∧ (yz == pz) = false) := by
            by_cases h7 : Y.x = P.x
            · have h8 : ¬ Y.z = P.z := fun h => hm ⟨h7, h⟩
              refine .inr ⟨by rw [hyx, Hpx.out, h7]; simp, by rw [hyz, Hpz.out]; simp; omega⟩
            · exact .inl (by rw [hyx, Hpx.out]; simp; omega)
          rw [← hyx, ← hyz]
          clear hm hyx hyz
          have ss1 := cell_alloc_keep (.cells #[.int .i64 (Y.p : Int), .int .i64 yx, .int .i64 yz] 84) s1; have ss2 := cell_alloc_keep (.cells #[.int .i64 (Y.p : Int), .int .i64 yx, .int .i64 yz] 84) s2
          rcases q1 with q1 | ⟨q1, q2⟩
          all_goals
            go_wp2_with fail
            go_roundw
            case rel => exact ⟨z + 1, by omega, HNX.out, by go_num, (show Below _ _ _ from Below.trans hbel.out (show Below W0.heap.size w2 _ from Below.alloc (Below.refl _ _) (by omega) _))⟩
            case measure => simp [intOf]; omega
      · have hx3 : x < preB Z P m := by rcases Hor.out with h | h <;> omega
        have i1 : ¬ (z : Int) < (Q : Int) := by omega
        go_wp2_with fail
        go_roundw
        case rel => exact ⟨x + 1, by omega, by go_num, hbel⟩
        case measure => simp [intOf]; omega
end Go.Proofs.Ytfcfpojldoijlaa
