/- The inverse of a tableau in the program. -/
import Derived.Test.YtfcfpojldoijlaaInv3
import Derived.Test.YtfcfpojldoijlaaBrk
import Derived.Test.YtfcfpojldoijlaaWords
import Derived.Test.YtfcfpojldoijlaaTyPauli
import Derived.Test.YtfcfpojldoijlaaTab3a
import Derived.Test.YtfcfpojldoijlaaPau8
import Derived.Test.YtfcfpojldoijlaaSgn1
import Derived.Deep.RegionLaw
namespace Go.Proofs.Ytfcfpojldoijlaa
set_option linter.unusedSimpArgs false
set_option linter.unusedVariables false
set_option linter.unnecessarySimpa false
set_option maxRecDepth 200000
open Go.ChangeShapes Go.WideShapes Go.ChangeAt Go.RowKit

set_option maxHeartbeats 16000000 in
theorem impl_InvertTableau_any (d : Tab) (v0 v1 : Value) (w : World) (h0 : RdE w v0 E3.cs 3 d.xs) (h1 : RdE w v1 E3.cs 3 d.zs) (n0 : d.xs.length ≤ 1048576) (n1 : d.zs.length ≤ 1048576) :
    Calls Try.prog 12 #[.agg #[.int .i64 d.n, v0, v1]] w (TabPost w (invG d)) := by
  obtain ⟨i0, hi, hz0, hz1, hz2⟩ := info_parts info_Pauli
  have H0 := Lib.hid h0; have H1 := Lib.hid h1
  obtain ⟨A, cA, rfl, _⟩ := h0.form
  obtain ⟨A2, cB, rfl, _⟩ := h1.form
  clear h0 h1
  by_cases ht : TabOk d
  · have HT := Lib.hid (show tabB d = true from decide_eq_true ht)
    obtain ⟨n, hm, m1, hn, ex, ez, lx, lz, okx, okz⟩ := ht.parts
    have HG := Lib.hid (show invG d = some ⟨d.n, pes (invXs (d.xs.map tn) (d.zs.map tn) n n), pes (invZs (d.xs.map tn) (d.zs.map tn) n n)⟩ from by unfold invG; rw [if_pos ht, hm, Int.toNat_natCast])
    have HS := Lib.hid (ht.sym hm)
    have HK0 := Lib.hid (show RdE w (.slice A d.xs.length cA) E3.cs 3 (pes (d.xs.map tn)) from by rw [← ex]; exact H0.out)
    have HK1 := Lib.hid (show RdE w (.slice A2 d.zs.length cB) E3.cs 3 (pes (d.zs.map tn)) from by rw [← ez]; exact H1.out)
    have hlx : d.xs.length = n := by simpa using lx
    have hlz : d.zs.length = n := by simpa using lz
    rw [hm] at HG; rw [hlx] at HK0; rw [hlz] at HK1
    have HM := Lib.hid hm; have HLX := Lib.hid hlx; have HLZ := Lib.hid hlz
    generalize d.xs.map tn = X at *
    generalize d.zs.map tn = Z at *
    clear ht hm ex ez lx lz okx okz hlx hlz
    go_enter Try.func12, Try.ntmps12
    go_wp2_with fail
    refine (impl_IsValidTableau_any d _ _ _ (Rd.below H0.out (show Below w.heap.size w _ from (by repeat (first | exact Below.refl _ _ | assumption | refine Below.drew ?_ | refine below_drewN ?_ _ | refine Below.alloc ?_ (by first | omega | (simp <;> omega)) _ | refine Below.setCell ?_ (by first | omega | (simp <;> omega)) _ | refine Below.trans ?_ (Below.mono (by assumption) (by first | omega | (simp <;> omega)))))) rfl) (Rd.below H1.out (show Below w.heap.size w _ from (by repeat (first | exact Below.refl _ _ | assumption | refine Below.drew ?_ | refine below_drewN ?_ _ | refine Below.alloc ?_ (by first | omega | (simp <;> omega)) _ | refine Below.setCell ?_ (by first | omega | (simp <;> omega)) _ | refine Below.trans ?_ (Below.mono (by assumption) (by first | omega | (simp <;> omega)))))) rfl) n0 n1).mono ?_; rintro e w1 ⟨rfl, hb1⟩; rw [HT.out]
    have t0 := below_cell hb1 rfl (show ((w.alloc (.cells #[.int .i64 d.n, .slice A d.xs.length cA, .slice A2 d.zs.length cB] 28)).alloc (.cells #[.int .i64 0, .slice none 0 0, .slice none 0 0] 28)).cell? ⟨w.heap.size, 0, none⟩ = some (.int .i64 d.n) from (by repeat (first | (refine Eq.trans (World.cell?_alloc_at _ _ _ _ ?hh) ?_; (case hh => (simp; done)); rfl) | refine cell_alloc_keep _ ?_)))
    have t1 := below_cell hb1 rfl (show ((w.alloc (.cells #[.int .i64 d.n, .slice A d.xs.length cA, .slice A2 d.zs.length cB] 28)).alloc (.cells #[.int .i64 0, .slice none 0 0, .slice none 0 0] 28)).cell? ⟨w.heap.size, 1, none⟩ = some (.slice A d.xs.length cA) from (by repeat (first | (refine Eq.trans (World.cell?_alloc_at _ _ _ _ ?hh) ?_; (case hh => (simp; done)); rfl) | refine cell_alloc_keep _ ?_)))
    have t2 := below_cell hb1 rfl (show ((w.alloc (.cells #[.int .i64 d.n, .slice A d.xs.length cA, .slice A2 d.zs.length cB] 28)).alloc (.cells #[.int .i64 0, .slice none 0 0, .slice none 0 0] 28)).cell? ⟨w.heap.size, 2, none⟩ = some (.slice A2 d.zs.length cB) from (by repeat (first | (refine Eq.trans (World.cell?_alloc_at _ _ _ _ ?hh) ?_; (case hh => (simp; done)); rfl) | refine cell_alloc_keep _ ?_)))
    have r0 := below_cell hb1 rfl (show ((w.alloc (.cells #[.int .i64 d.n, .slice A d.xs.length cA, .slice A2 d.zs.length cB] 28)).alloc (.cells #[.int .i64 0, .slice none 0 0, .slice none 0 0] 28)).cell? ⟨w.heap.size + 1, 0, none⟩ = some (.int .i64 0) from (by repeat (first | (refine Eq.trans (World.cell?_alloc_at _ _ _ _ ?hh) ?_; (case hh => (simp; done)); rfl) | refine cell_alloc_keep _ ?_)))
    have r1 := below_cell hb1 rfl (show ((w.alloc (.cells #[.int .i64 d.n, .slice A d.xs.length cA, .slice A2 d.zs.length cB] 28)).alloc (.cells #[.int .i64 0, .slice none 0 0, .slice none 0 0] 28)).cell? ⟨w.heap.size + 1, 1, none⟩ = some (.slice none 0 0) from (by repeat (first | (refine Eq.trans (World.cell?_alloc_at _ _ _ _ ?hh) ?_; (case hh => (simp; done)); rfl) | refine cell_alloc_keep _ ?_)))
    have r2 := below_cell hb1 rfl (show ((w.alloc (.cells #[.int .i64 d.n, .slice A d.xs.length cA, .slice A2 d.zs.length cB] 28)).alloc (.cells #[.int .i64 0, .slice none 0 0, .slice none 0 0] 28)).cell? ⟨w.heap.size + 1, 2, none⟩ = some (.slice none 0 0) from (by repeat (first | (refine Eq.trans (World.cell?_alloc_at _ _ _ _ ?hh) ?_; (case hh => (simp; done)); rfl) | refine cell_alloc_keep _ ?_)))
    have Q0 := Lib.hid (below_frz hb1 rfl (by simp) (show ((w.alloc (.cells #[.int .i64 d.n, .slice A d.xs.length cA, .slice A2 d.zs.length cB] 28)).alloc (.cells #[.int .i64 0, .slice none 0 0, .slice none 0 0] 28)).frozen? ⟨w.heap.size + 1, 0, none⟩ = false from (by repeat (first | (refine World.frozen?_alloc_at _ _ _ _ ?hh; case hh => (simp; done)) | (refine frozen_alloc_lt _ ?hh ?_; case hh => first | omega | (simp <;> omega))))))
    have Q1 := Lib.hid (below_frz hb1 rfl (by simp) (show ((w.alloc (.cells #[.int .i64 d.n, .slice A d.xs.length cA, .slice A2 d.zs.length cB] 28)).alloc (.cells #[.int .i64 0, .slice none 0 0, .slice none 0 0] 28)).frozen? ⟨w.heap.size + 1, 1, none⟩ = false from (by repeat (first | (refine World.frozen?_alloc_at _ _ _ _ ?hh; case hh => (simp; done)) | (refine frozen_alloc_lt _ ?hh ?_; case hh => first | omega | (simp <;> omega))))))
    have Q2 := Lib.hid (below_frz hb1 rfl (by simp) (show ((w.alloc (.cells #[.int .i64 d.n, .slice A d.xs.length cA, .slice A2 d.zs.length cB] 28)).alloc (.cells #[.int .i64 0, .slice none 0 0, .slice none 0 0] 28)).frozen? ⟨w.heap.size + 1, 2, none⟩ = false from (by repeat (first | (refine World.frozen?_alloc_at _ _ _ _ ?hh; case hh => (simp; done)) | (refine frozen_alloc_lt _ ?hh ?_; case hh => first | omega | (simp <;> omega))))))
    have z1 := hb1.size; (simp at z1)
    have BW := Lib.hid (show Below w.heap.size w w1 from (by repeat (first | exact Below.refl _ _ | assumption | refine Below.drew ?_ | refine below_drewN ?_ _ | refine Below.alloc ?_ (by first | omega | (simp <;> omega)) _ | refine Below.setCell ?_ (by first | omega | (simp <;> omega)) _ | refine Below.trans ?_ (Below.mono (by assumption) (by first | omega | (simp <;> omega)))))); clear hb1
    rw [HM.out] at t0; rw [HLX.out] at t1; rw [HLZ.out] at t2
    have T0 := Lib.hid t0
    have T1 := Lib.hid t1
    have T2 := Lib.hid t2
    have R0 := Lib.hid r0
    have R1 := Lib.hid r1
    have R2 := Lib.hid r2
    rw [HM.out, HLX.out, HLZ.out]
    have L0 := World.block_lt_of_cell? _ _ t0; clear r0 r1 r2 t1 t2
    go_wp2_with fail
    clear t0
    go_loopw [15] (fun i wr => ∃ (k : Nat) (vx vz : Value), k ≤ n ∧ i = .int .i64 k ∧ wr.cell? ⟨w1.heap.size, 0, none⟩ = some (.int .i64 (n : Int)) ∧ wr.cell? ⟨w1.heap.size, 1, none⟩ = some vx ∧ wr.cell? ⟨w1.heap.size, 2, none⟩ = some vz ∧ wr.frozen? ⟨w1.heap.size, 1, none⟩ = false ∧ wr.frozen? ⟨w1.heap.size, 2, none⟩ = false ∧ Hid (wr.ownsRow (w1.heap.size + 1) 84 3 vx k ((pes (invXs X Z n k)).flatMap E3.cs)) ∧ Hid (wr.ownsRow (w1.heap.size + 1) 84 3 vz k ((pes (invZs X Z n k)).flatMap E3.cs)) ∧ Hid (Apart vx vz) ∧ Hid (Below (w1.heap.size) w1 wr) ∧ w1.heap.size + 1 ≤ wr.heap.size) (fun i _ => n - (intOf i).toNat)
    case atStart => exact ⟨0, .slice none 0 0, .slice none 0 0, Nat.zero_le _, rfl, (by repeat (first | (refine Eq.trans (World.cell?_alloc_at _ _ _ _ ?hh) ?_; (case hh => (simp; done)); rfl) | refine cell_alloc_keep _ ?_)), (by repeat (first | (refine Eq.trans (World.cell?_alloc_at _ _ _ _ ?hh) ?_; (case hh => (simp; done)); rfl) | refine cell_alloc_keep _ ?_)), (by repeat (first | (refine Eq.trans (World.cell?_alloc_at _ _ _ _ ?hh) ?_; (case hh => (simp; done)); rfl) | refine cell_alloc_keep _ ?_)), (by repeat (first | (refine World.frozen?_alloc_at _ _ _ _ ?hh; case hh => (simp; done)) | (refine frozen_alloc_lt _ ?hh ?_; case hh => first | omega | (simp <;> omega)))), (by repeat (first | (refine World.frozen?_alloc_at _ _ _ _ ?hh; case hh => (simp; done)) | (refine frozen_alloc_lt _ ?hh ?_; case hh => first | omega | (simp <;> omega)))), World.ownsRow_nil _ _ _ _, World.ownsRow_nil _ _ _ _, apart_nil _, (show Below _ _ _ from (by repeat (first | exact Below.refl _ _ | assumption | refine Below.drew ?_ | refine below_drewN ?_ _ | refine Below.alloc ?_ (by first | omega | (simp <;> omega)) _ | refine Below.setCell ?_ (by first | omega | (simp <;> omega)) _ | refine Below.trans ?_ (Below.mono (by assumption) (by first | omega | (simp <;> omega)))))), by simp⟩
    case round =>
      obtain ⟨k, vx, vz, hk, rfl, c0, c1, c2, f1, f2, hox, hoz, hap, hbel, hsz⟩ := hrel
      by_cases hlt : k < n
      · skip
        have bw := Lib.hid (show Below w.heap.size w wr from Below.trans BW.out (hbel.out.mono (by omega)))
        have t0 := (hbel.out.cell (p := ⟨w.heap.size, 0, none⟩) (by dsimp only; omega)).trans T0.out
        have t1 := (hbel.out.cell (p := ⟨w.heap.size, 1, none⟩) (by dsimp only; omega)).trans T1.out
        have t2 := (hbel.out.cell (p := ⟨w.heap.size, 2, none⟩) (by dsimp only; omega)).trans T2.out
        have NX := Lib.hid (invXs_succ X Z n k); have NZ := Lib.hid (invZs_succ X Z n k)
        obtain ⟨p1, p2⟩ := pow_small5 (show k ≤ 5 by omega)
        have hw : IntKind.i64.wrap ((2 : Int) ^ k) = (2 : Int) ^ k := IntWalk.i64_in _ (by omega)
        have hwu : IntKind.u64.wrap (k : Int) = (k : Int) := IntWalk.u64_in _ (by omega)
        have hmk : min k 64 = k := by omega
        have PB := Lib.hid (show (2 : Nat) ^ k < 2 ^ n from Nat.pow_lt_pow_right (by omega) hlt)
        have PC := Lib.hid (show (2 : Int) ^ k = (((2 : Nat) ^ k : Nat) : Int) from by simp)
        obtain ⟨Ra, hRa⟩ : ∃ R, R = invN X Z n ⟨0, 2 ^ k, 0⟩ := ⟨_, rfl⟩
        obtain ⟨Rb, hRb⟩ : ∃ R, R = invN X Z n ⟨0, 0, 2 ^ k⟩ := ⟨_, rfl⟩
        rw [← hRa] at NX; rw [← hRb] at NZ
        have HRa := Lib.hid hRa; have HRb := Lib.hid hRb
        have i1 : (k : Int) < (n : Int) := by omega
        have i2 : (0 : Int) ≤ (k : Int) := by omega
        clear hRa hRb
        go_wp2_with fail
        refine AnyB.begin (S := (fun w' => w'.cell? ⟨w1.heap.size, 1, none⟩ = some (vx) ∧ w'.cell? ⟨w1.heap.size, 2, none⟩ = some (vz) ∧ w'.cell? ⟨w.heap.size, 0, none⟩ = some (.int .i64 (n : Int)) ∧ w'.cell? ⟨w.heap.size, 1, none⟩ = some (.slice A n cA) ∧ w'.cell? ⟨w.heap.size, 2, none⟩ = some (.slice A2 n cB))) [19, 21] (by kernel_rfl) ?_ (fun hHeld0 => ?_)
        · ((try dsimp only); (first | exact ⟨c1, c2, t0, t1, t2⟩ | exact ⟨cell_alloc_keep _ c1, cell_alloc_keep _ c2, cell_alloc_keep _ t0, cell_alloc_keep _ t1, cell_alloc_keep _ t2⟩))
        refine AnyB.takeQ (i := 0) (oi := _) (v := ?_) (by simp only [List.getElem?_toArray, List.getElem?_cons_zero, List.getElem?_cons_succ]; rfl) (by kernel_rfl) (by kernel_rfl) (by kernel_rfl) (by intro _ _ _ h; exact h) (Or.inl ⟨by rfl, ?_⟩) ?_
        rotate_left
        · (intro w hSw; (try dsimp only at hSw); go_simp; (try (with_reducible rfl)))
        try simp only [Act.put, List.setIfInBounds_toArray, List.set_cons_zero, List.set_cons_succ]
        refine AnyB.take (i := 1) (oi := _) (v := ?_) (by simp only [List.getElem?_toArray, List.getElem?_cons_zero, List.getElem?_cons_succ]; rfl) (by kernel_rfl) (by kernel_rfl) (by kernel_rfl) (by kernel_rfl) (by kernel_rfl) (by intro _ _ _ h; exact h) (Or.inl ⟨by rfl, ?_⟩) (by assumption) ?_
        rotate_left
        · (intro w hSw; (try dsimp only at hSw); go_simp; (try (with_reducible rfl)))
        try simp only [Act.put, List.setIfInBounds_toArray, List.set_cons_zero, List.set_cons_succ]
        refine AnyB.take (i := 2) (oi := _) (v := ?_) (by simp only [List.getElem?_toArray, List.getElem?_cons_zero, List.getElem?_cons_succ]; rfl) (by kernel_rfl) (by kernel_rfl) (by kernel_rfl) (by kernel_rfl) (by kernel_rfl) (by intro _ _ _ h; exact h) (Or.inl ⟨by rfl, ?_⟩) (by assumption) ?_
        rotate_left
        · (intro w hSw; (try dsimp only at hSw); go_simp; (try (with_reducible rfl)))
        try simp only [Act.put, List.setIfInBounds_toArray, List.set_cons_zero, List.set_cons_succ]
        refine AnyB.takeQ (i := 3) (oi := _) (v := ?_) (by simp only [List.getElem?_toArray, List.getElem?_cons_zero, List.getElem?_cons_succ]; rfl) (by kernel_rfl) (by kernel_rfl) (by kernel_rfl) (by intro _ _ _ h; exact h) (Or.inl ⟨by rfl, ?_⟩) ?_
        rotate_left
        · (intro w hSw; (try dsimp only at hSw); go_simp; (try (with_reducible rfl)))
        try simp only [Act.put, List.setIfInBounds_toArray, List.set_cons_zero, List.set_cons_succ]
        refine AnyB.takeQ (i := 4) (oi := _) (v := ?_) (by simp only [List.getElem?_toArray, List.getElem?_cons_zero, List.getElem?_cons_succ]; rfl) (by kernel_rfl) (by kernel_rfl) (by kernel_rfl) (by intro _ _ _ h; exact h) (Or.inl ⟨by rfl, ?_⟩) ?_
        rotate_left
        · (intro w hSw; (try dsimp only at hSw); go_simp; (try (with_reducible rfl)))
        try simp only [Act.put, List.setIfInBounds_toArray, List.set_cons_zero, List.set_cons_succ]
        refine AnyB.takeQ (i := 5) (oi := _) (v := ?_) (by simp only [List.getElem?_toArray, List.getElem?_cons_zero, List.getElem?_cons_succ]; rfl) (by kernel_rfl) (by kernel_rfl) (by kernel_rfl) (by intro _ _ _ h; exact h) (Or.inl ⟨by rfl, ?_⟩) ?_
        rotate_left
        · (intro w hSw; (try dsimp only at hSw); go_simp; (try (with_reducible rfl)))
        try simp only [Act.put, List.setIfInBounds_toArray, List.set_cons_zero, List.set_cons_succ]
        refine AnyB.takeQ (i := 9) (oi := _) (v := ?_) (by simp only [List.getElem?_toArray, List.getElem?_cons_zero, List.getElem?_cons_succ]; rfl) (by kernel_rfl) (by kernel_rfl) (by kernel_rfl) (by intro _ _ _ h; exact h) (Or.inl ⟨by rfl, ?_⟩) ?_
        rotate_left
        · (intro w hSw; (try dsimp only at hSw); go_simp; (try (with_reducible rfl)))
        try simp only [Act.put, List.setIfInBounds_toArray, List.set_cons_zero, List.set_cons_succ]
        refine AnyB.take (i := 10) (oi := _) (v := ?_) (by simp only [List.getElem?_toArray, List.getElem?_cons_zero, List.getElem?_cons_succ]; rfl) (by kernel_rfl) (by kernel_rfl) (by kernel_rfl) (by kernel_rfl) (by kernel_rfl) (by intro _ _ _ h; exact h) (Or.inl ⟨by rfl, ?_⟩) (by assumption) ?_
        rotate_left
        · (intro w hSw; (try dsimp only at hSw); go_simp; (try (with_reducible rfl)))
        try simp only [Act.put, List.setIfInBounds_toArray, List.set_cons_zero, List.set_cons_succ]
        refine AnyB.take (i := 11) (oi := _) (v := ?_) (by simp only [List.getElem?_toArray, List.getElem?_cons_zero, List.getElem?_cons_succ]; rfl) (by kernel_rfl) (by kernel_rfl) (by kernel_rfl) (by kernel_rfl) (by kernel_rfl) (by intro _ _ _ h; exact h) (Or.inl ⟨by rfl, ?_⟩) (by assumption) ?_
        rotate_left
        · (intro w hSw; (try dsimp only at hSw); go_simp; (try (with_reducible rfl)))
        try simp only [Act.put, List.setIfInBounds_toArray, List.set_cons_zero, List.set_cons_succ]
        refine AnyB.takeQ (i := 12) (oi := _) (v := ?_) (by simp only [List.getElem?_toArray, List.getElem?_cons_zero, List.getElem?_cons_succ]; rfl) (by kernel_rfl) (by kernel_rfl) (by kernel_rfl) (by intro _ _ _ h; exact h) (Or.inl ⟨by rfl, ?_⟩) ?_
        rotate_left
        · (intro w hSw; (try dsimp only at hSw); go_simp; (try (with_reducible rfl)))
        try simp only [Act.put, List.setIfInBounds_toArray, List.set_cons_zero, List.set_cons_succ]
        refine AnyB.takeQ (i := 13) (oi := _) (v := ?_) (by simp only [List.getElem?_toArray, List.getElem?_cons_zero, List.getElem?_cons_succ]; rfl) (by kernel_rfl) (by kernel_rfl) (by kernel_rfl) (by intro _ _ _ h; exact h) (Or.inl ⟨by rfl, ?_⟩) ?_
        rotate_left
        · (intro w hSw; (try dsimp only at hSw); go_simp; (try (with_reducible rfl)))
        try simp only [Act.put, List.setIfInBounds_toArray, List.set_cons_zero, List.set_cons_succ]
        refine AnyB.takeQ (i := 14) (oi := _) (v := ?_) (by simp only [List.getElem?_toArray, List.getElem?_cons_zero, List.getElem?_cons_succ]; rfl) (by kernel_rfl) (by kernel_rfl) (by kernel_rfl) (by intro _ _ _ h; exact h) (Or.inl ⟨by rfl, ?_⟩) ?_
        rotate_left
        · (intro w hSw; (try dsimp only at hSw); go_simp; (try (with_reducible rfl)))
        try simp only [Act.put, List.setIfInBounds_toArray, List.set_cons_zero, List.set_cons_succ]
        refine AnyB.each (rs := [6]) (by kernel_rfl) (by simp) ?_
        refine EachB.cons rfl (fun K hK hB => ?_) ?_
        · skip
          (go_simp; go_at_call 48; refine (impl_preimage_any n X Z ⟨0, 2 ^ k, 0⟩ _ _ _ _ _ _ HS.out ⟨PB.out, Nat.two_pow_pos n⟩ rfl (by simp) PC.out (by simp) (Rd.below HK0.out (show Below w.heap.size w wr.drew from Below.trans BW.out ((show Below (w1.heap.size) w1 wr.drew from Below.drew hbel.out).mono (by omega))) rfl) (Rd.below HK1.out (show Below w.heap.size w wr.drew from Below.trans BW.out ((show Below (w1.heap.size) w1 wr.drew from Below.drew hbel.out).mono (by omega))) rfl)).mono ?_; rw [← HRa.out]; rintro e xA ⟨rfl, hxA⟩; have yA := hxA.size; (simp at yA); replace c0 := below_cell hxA rfl (cell_drew c0); replace c1 := below_cell hxA rfl (cell_drew c1); replace c2 := below_cell hxA rfl (cell_drew c2); replace t0 := below_cell hxA rfl (cell_drew t0); replace t1 := below_cell hxA rfl (cell_drew t1); replace t2 := below_cell hxA rfl (cell_drew t2); replace f1 := below_frz hxA rfl (by first | omega | (simp; omega)) (frz_drew f1); replace f2 := below_frz hxA rfl (by first | omega | (simp; omega)) (frz_drew f2); replace hox := Lib.hid (own_below hox.out (show Below wr.heap.size wr xA from Below.trans (show Below wr.heap.size wr wr.drew from (by repeat (first | exact Below.refl _ _ | assumption | refine Below.drew ?_ | refine below_drewN ?_ _ | refine Below.alloc ?_ (by first | omega | (simp <;> omega)) _ | refine Below.setCell ?_ (by first | omega | (simp <;> omega)) _ | refine Below.trans ?_ (Below.mono (by assumption) (by first | omega | (simp <;> omega)))))) (hxA.mono (by first | omega | (simp)))) rfl); replace hoz := Lib.hid (own_below hoz.out (show Below wr.heap.size wr xA from Below.trans (show Below wr.heap.size wr wr.drew from (by repeat (first | exact Below.refl _ _ | assumption | refine Below.drew ?_ | refine below_drewN ?_ _ | refine Below.alloc ?_ (by first | omega | (simp <;> omega)) _ | refine Below.setCell ?_ (by first | omega | (simp <;> omega)) _ | refine Below.trans ?_ (Below.mono (by assumption) (by first | omega | (simp <;> omega)))))) (hxA.mono (by first | omega | (simp)))) rfl); replace hbel := Lib.hid (show Below (w1.heap.size) w1 xA from Below.trans (Below.drew hbel.out) (hxA.mono (by first | omega | (simp; omega)))); clear hxA; dsimp only)
          refine hK.out _ _ ?_ (fun hHeld1 => ?_)
          · ((try dsimp only); (first | exact ⟨c1, c2, t0, t1, t2⟩ | exact ⟨cell_alloc_keep _ c1, cell_alloc_keep _ c2, cell_alloc_keep _ t0, cell_alloc_keep _ t1, cell_alloc_keep _ t2⟩))
          clear hB hK K hHeld0
          refine AnyB.each (rs := [7]) (by kernel_rfl) (by simp) ?_
          refine EachB.cons rfl (fun K hK hB => ?_) ?_
          · skip
            go_simp
            refine hK.out _ _ ?_ (fun hHeld2 => ?_)
            · ((try dsimp only); (first | exact ⟨c1, c2, t0, t1, t2⟩ | exact ⟨cell_alloc_keep _ c1, cell_alloc_keep _ c2, cell_alloc_keep _ t0, cell_alloc_keep _ t1, cell_alloc_keep _ t2⟩))
            clear hB hK K hHeld1
            refine AnyB.each (rs := [8]) (by kernel_rfl) (by simp) ?_
            refine EachB.cons rfl (fun K hK hB => ?_) ?_
            · skip
              (refine step_append_lies _ (by rfl) (.tmp 19) (.tmp 25) 26 (by rfl) (w1.heap.size + 1) 84 i0 (.agg #[.int .i64 0, .int .i64 0, .int .i64 0]) 3 24 Try.underlying26 hi hz0 hz1 hz2 rfl (by omega) vx k _ (by rfl) (hox.out.alloc _) _ 1 1 [.int .i64 ((Ra).p : Int), .int .i64 ((Ra).x : Int), .int .i64 ((Ra).z : Int)] (by rfl) (by rfl) (news_cells xA [.int .i64 ((Ra).p : Int), .int .i64 ((Ra).x : Int), .int .i64 ((Ra).z : Int)] 84) (E3.one (Ra).e) (by omega) (by unfold maxLen; omega) (by omega) (by simp; omega) _ rfl ?_; intro g1 cp1 w9 hown1 hgr1 hat1 hlt1; have zz1 := hgr1.size; (simp at zz1); replace c0 := grown_lo (hox.out.alloc _) hgr1 (by first | omega | (simp; omega)) (cell_alloc_keep _ c0); replace c1 := grown_lo (hox.out.alloc _) hgr1 (by first | omega | (simp; omega)) (cell_alloc_keep _ c1); replace c2 := grown_lo (hox.out.alloc _) hgr1 (by first | omega | (simp; omega)) (cell_alloc_keep _ c2); replace t0 := grown_lo (hox.out.alloc _) hgr1 (by first | omega | (simp; omega)) (cell_alloc_keep _ t0); replace t1 := grown_lo (hox.out.alloc _) hgr1 (by first | omega | (simp; omega)) (cell_alloc_keep _ t1); replace t2 := grown_lo (hox.out.alloc _) hgr1 (by first | omega | (simp; omega)) (cell_alloc_keep _ t2); replace f1 := frz_grown hgr1 (by simp; omega) (frozen_alloc_lt _ (by omega) f1) (fun h => by have := (hox.out.lt _ h).1; omega); replace f2 := frz_grown hgr1 (by simp; omega) (frozen_alloc_lt _ (by omega) f2) (fun h => by have := (hox.out.lt _ h).1; omega); have hq1 := Lib.hid (own_other hgr1 (hoz.out.alloc _) (fun g a b => hap.out g b a)); have hp1 := Lib.hid (apart_app (n := k + 1) (c := cp1) hap.out.symm (fun g hg => Nat.lt_of_lt_of_le (hoz.out.lt g hg).2 (Nat.le_succ _)) (by simpa using hat1)); replace hbel := Lib.hid (show Below (w1.heap.size) w1 w9 from (hbel.out.alloc (by omega) _).grown hgr1 (by simp; omega) (fun b hb => by have := (hox.out.lt b hb).1; omega)); replace hox := Lib.hid hown1; replace hoz := hq1; replace hap := Lib.hid (show Apart _ _ from hp1.out.symm); clear hown1 hgr1 hat1 hq1 hp1)
              refine hK.out _ _ ?_ (fun hHeld3 => ?_)
              · ((try dsimp only); (first | exact ⟨c1, c2, t0, t1, t2⟩ | exact ⟨cell_alloc_keep _ c1, cell_alloc_keep _ c2, cell_alloc_keep _ t0, cell_alloc_keep _ t1, cell_alloc_keep _ t2⟩))
              clear hB hK K hHeld2
              refine AnyB.takeQ (i := 18) (oi := _) (v := ?_) (by simp only [List.getElem?_toArray, List.getElem?_cons_zero, List.getElem?_cons_succ]; rfl) (by kernel_rfl) (by kernel_rfl) (by kernel_rfl) (by intro _ _ _ h; exact h) (Or.inl ⟨by rfl, ?_⟩) ?_
              rotate_left
              · (intro w hSw; (try dsimp only at hSw); go_simp; (try (with_reducible rfl)))
              try simp only [Act.put, List.setIfInBounds_toArray, List.set_cons_zero, List.set_cons_succ]
              refine AnyB.each (rs := [15]) (by kernel_rfl) (by simp) ?_
              refine EachB.cons rfl (fun K hK hB => ?_) ?_
              · skip
                (go_simp; go_at_call 48; refine (impl_preimage_any n X Z ⟨0, 0, 2 ^ k⟩ _ _ _ _ _ _ HS.out ⟨Nat.two_pow_pos n, PB.out⟩ rfl (by simp) (by simp) PC.out (Rd.below HK0.out (show Below w.heap.size w w9 from Below.trans BW.out ((show Below (w1.heap.size) w1 w9 from hbel.out).mono (by omega))) rfl) (Rd.below HK1.out (show Below w.heap.size w w9 from Below.trans BW.out ((show Below (w1.heap.size) w1 w9 from hbel.out).mono (by omega))) rfl)).mono ?_; rw [← HRb.out]; rintro e xB ⟨rfl, hxB⟩; have yB := hxB.size; replace c0 := below_cell hxB rfl c0; replace c1 := below_cell hxB rfl c1; replace c2 := below_cell hxB rfl c2; replace t0 := below_cell hxB rfl t0; replace t1 := below_cell hxB rfl t1; replace t2 := below_cell hxB rfl t2; replace f1 := below_frz hxB rfl (by first | omega | (simp; omega)) f1; replace f2 := below_frz hxB rfl (by first | omega | (simp; omega)) f2; replace hox := Lib.hid (own_below hox.out (show Below w9.heap.size w9 xB from Below.trans (show Below w9.heap.size w9 w9 from (by repeat (first | exact Below.refl _ _ | assumption | refine Below.drew ?_ | refine below_drewN ?_ _ | refine Below.alloc ?_ (by first | omega | (simp <;> omega)) _ | refine Below.setCell ?_ (by first | omega | (simp <;> omega)) _ | refine Below.trans ?_ (Below.mono (by assumption) (by first | omega | (simp <;> omega)))))) (hxB.mono (by first | omega | (simp)))) rfl); replace hoz := Lib.hid (own_below hoz.out (show Below w9.heap.size w9 xB from Below.trans (show Below w9.heap.size w9 w9 from (by repeat (first | exact Below.refl _ _ | assumption | refine Below.drew ?_ | refine below_drewN ?_ _ | refine Below.alloc ?_ (by first | omega | (simp <;> omega)) _ | refine Below.setCell ?_ (by first | omega | (simp <;> omega)) _ | refine Below.trans ?_ (Below.mono (by assumption) (by first | omega | (simp <;> omega)))))) (hxB.mono (by first | omega | (simp)))) rfl); replace hbel := Lib.hid (show Below (w1.heap.size) w1 xB from Below.trans hbel.out (hxB.mono (by first | omega | (simp; omega)))); clear hxB; dsimp only)
                refine hK.out _ _ ?_ (fun hHeld4 => ?_)
                · ((try dsimp only); (first | exact ⟨c1, c2, t0, t1, t2⟩ | exact ⟨cell_alloc_keep _ c1, cell_alloc_keep _ c2, cell_alloc_keep _ t0, cell_alloc_keep _ t1, cell_alloc_keep _ t2⟩))
                clear hB hK K hHeld3
                refine AnyB.each (rs := [16]) (by kernel_rfl) (by simp) ?_
                refine EachB.cons rfl (fun K hK hB => ?_) ?_
                · skip
                  go_simp
                  refine hK.out _ _ ?_ (fun hHeld5 => ?_)
                  · ((try dsimp only); (first | exact ⟨c1, c2, t0, t1, t2⟩ | exact ⟨cell_alloc_keep _ c1, cell_alloc_keep _ c2, cell_alloc_keep _ t0, cell_alloc_keep _ t1, cell_alloc_keep _ t2⟩))
                  clear hB hK K hHeld4
                  refine AnyB.each (rs := [17]) (by kernel_rfl) (by simp) ?_
                  refine EachB.cons rfl (fun K hK hB => ?_) ?_
                  · skip
                    (refine step_append_lies _ (by rfl) (.tmp 28) (.tmp 34) 26 (by rfl) (w1.heap.size + 1) 84 i0 (.agg #[.int .i64 0, .int .i64 0, .int .i64 0]) 3 24 Try.underlying26 hi hz0 hz1 hz2 rfl (by omega) vz k _ (by rfl) (hoz.out.alloc _) _ 1 1 [.int .i64 ((Rb).p : Int), .int .i64 ((Rb).x : Int), .int .i64 ((Rb).z : Int)] (by rfl) (by rfl) (news_cells xB [.int .i64 ((Rb).p : Int), .int .i64 ((Rb).x : Int), .int .i64 ((Rb).z : Int)] 84) (E3.one (Rb).e) (by omega) (by unfold maxLen; omega) (by omega) (by simp; omega) _ rfl ?_; intro g2 cp2 w8 hown2 hgr2 hat2 hlt2; have zz2 := hgr2.size; (simp at zz2); replace c0 := grown_lo (hoz.out.alloc _) hgr2 (by first | omega | (simp; omega)) (cell_alloc_keep _ c0); replace c1 := grown_lo (hoz.out.alloc _) hgr2 (by first | omega | (simp; omega)) (cell_alloc_keep _ c1); replace c2 := grown_lo (hoz.out.alloc _) hgr2 (by first | omega | (simp; omega)) (cell_alloc_keep _ c2); replace t0 := grown_lo (hoz.out.alloc _) hgr2 (by first | omega | (simp; omega)) (cell_alloc_keep _ t0); replace t1 := grown_lo (hoz.out.alloc _) hgr2 (by first | omega | (simp; omega)) (cell_alloc_keep _ t1); replace t2 := grown_lo (hoz.out.alloc _) hgr2 (by first | omega | (simp; omega)) (cell_alloc_keep _ t2); replace f1 := frz_grown hgr2 (by simp; omega) (frozen_alloc_lt _ (by omega) f1) (fun h => by have := (hoz.out.lt _ h).1; omega); replace f2 := frz_grown hgr2 (by simp; omega) (frozen_alloc_lt _ (by omega) f2) (fun h => by have := (hoz.out.lt _ h).1; omega); have hq2 := Lib.hid (own_other hgr2 (hox.out.alloc _) (fun g a b => hap.out g a b)); have hp2 := Lib.hid (apart_app (n := k + 1) (c := cp2) hap.out (fun g hg => Nat.lt_of_lt_of_le (hox.out.lt g hg).2 (Nat.le_succ _)) (by simpa using hat2)); replace hbel := Lib.hid (show Below (w1.heap.size) w1 w8 from (hbel.out.alloc (by omega) _).grown hgr2 (by simp; omega) (fun b hb => by have := (hoz.out.lt b hb).1; omega)); replace hoz := Lib.hid hown2; replace hox := hq2; replace hap := Lib.hid (show Apart _ _ from hp2.out); clear hown2 hgr2 hat2 hq2 hp2)
                    refine hK.out _ _ ?_ (fun hHeld6 => ?_)
                    · ((try dsimp only); (first | exact ⟨c1, c2, t0, t1, t2⟩ | exact ⟨cell_alloc_keep _ c1, cell_alloc_keep _ c2, cell_alloc_keep _ t0, cell_alloc_keep _ t1, cell_alloc_keep _ t2⟩))
                    clear hB hK K hHeld5
                    refine AnyB.each (rs := [19]) (by kernel_rfl) (by simp) ?_
                    refine EachB.cons rfl (fun K hK hB => ?_) ?_
                    · skip
                      go_simp
                      refine hB.out _ _ rfl ?_
                      clear hB hK K
                      refine AnyB.takeQ (i := 20) (oi := _) (v := ?_) (by simp only [List.getElem?_toArray, List.getElem?_cons_zero, List.getElem?_cons_succ]; rfl) (by kernel_rfl) (by kernel_rfl) (by kernel_rfl) (by intro _ _ _ h; exact h) (Or.inl ⟨by rfl, ?_⟩) ?_
                      rotate_left
                      · (intro w hSw; (try dsimp only at hSw); go_simp; (try (with_reducible rfl)))
                      try simp only [Act.put, List.setIfInBounds_toArray, List.set_cons_zero, List.set_cons_succ]
                      refine AnyB.each (rs := [21]) (by kernel_rfl) (by simp) ?_
                      refine EachB.cons rfl (fun K hK hB => ?_) ?_
                      · skip
                        go_simp
                        refine hB.out _ _ rfl ?_
                        clear hB hK K
                        refine AnyB.none (by kernel_rfl) ?_ _
                        go_wp2_with fail
                        go_roundw
                        case rel => exact ⟨k + 1, (.slice (some ⟨g1, 0, none⟩) (k + 1) cp1), (.slice (some ⟨g2, 0, none⟩) (k + 1) cp2), by omega, by go_num, cell_set_other (cell_set_other c0), cell_set_other (World.cell?_setCell_same _ _ _ c1), World.cell?_setCell_same _ _ _ (cell_set_other c2), by rw [World.frozen?_setCell, World.frozen?_setCell]; exact f1, by rw [World.frozen?_setCell, World.frozen?_setCell]; exact f2, (show World.ownsRow _ _ _ _ _ _ _ from by rw [NX.out]; exact ownsRow_setCell_below (ownsRow_setCell_below hox.out (by simp) _) (by simp) _), (show World.ownsRow _ _ _ _ _ _ _ from by rw [NZ.out]; exact ownsRow_setCell_below (ownsRow_setCell_below hoz.out (by simp) _) (by simp) _), hap, (show Below _ _ _ from Below.setCell (Below.setCell hbel.out (by simp) _) (by simp) _), by simp; omega⟩
                        case measure => simp [intOf]; omega
                      exact EachB.nil
                    exact EachB.nil
                  exact EachB.nil
                exact EachB.nil
              exact EachB.nil
            exact EachB.nil
          exact EachB.nil
        exact EachB.nil
      · have e : k = n := by omega
        subst e
        have r0 := (hbel.out.cell (p := ⟨w.heap.size + 1, 0, none⟩) (by dsimp only; omega)).trans R0.out; have q0 := (hbel.out.frozen (p := ⟨w.heap.size + 1, 0, none⟩) (by dsimp only; omega)).trans Q0.out
        have r1 := (hbel.out.cell (p := ⟨w.heap.size + 1, 1, none⟩) (by dsimp only; omega)).trans R1.out; have q1 := (hbel.out.frozen (p := ⟨w.heap.size + 1, 1, none⟩) (by dsimp only; omega)).trans Q1.out
        have r2 := (hbel.out.cell (p := ⟨w.heap.size + 1, 2, none⟩) (by dsimp only; omega)).trans R2.out; have q2 := (hbel.out.frozen (p := ⟨w.heap.size + 1, 2, none⟩) (by dsimp only; omega)).trans Q2.out
        have bw := Lib.hid (show Below w.heap.size w wr from Below.trans BW.out (hbel.out.mono (by omega)))
        obtain ⟨a9, cp9, rfl⟩ := own_form hox.out
        obtain ⟨b9, cq9, rfl⟩ := own_form hoz.out
        have hZ := box_set3 (w3 := wr) (nb := w.heap.size + 1) (.int .i64 (k : Int)) (.slice a9 k cp9) (.slice b9 k cq9) r0 r1 r2
        have HX := Lib.hid (show (pes (invXs X Z k k)).length = k from by rw [pes_len, invXs_len]); have HZ := Lib.hid (show (pes (invZs X Z k k)).length = k from by rw [pes_len, invZs_len])
        have KX := Lib.hid (show OwnE wr (w1.heap.size + 1) 84 (.slice a9 k cp9) E3.cs 3 (pes (invXs X Z k k)) from by unfold OwnE; rw [HX.out]; exact hox.out); have KZ := Lib.hid (show OwnE wr (w1.heap.size + 1) 84 (.slice b9 k cq9) E3.cs 3 (pes (invZs X Z k k)) from by unfold OwnE; rw [HZ.out]; exact hoz.out)
        have bq := bw.out
        go_wp2_with fail
        refine bodyPost_ret (v := .tuple #[.agg #[.int .i64 (k : Int), .slice a9 k cp9, .slice b9 k cq9], .bool true]) (by simp [results, Try.results12, go_sem, hZ]) rfl (TabPost.some (t := ⟨(k : Int), pes (invXs X Z k k), pes (invZs X Z k k)⟩) HG.out ?_ ?_ hap.out (by repeat (first | exact Below.refl _ _ | assumption | refine Below.drew ?_ | refine below_drewN ?_ _ | refine Below.alloc ?_ (by first | omega | (simp <;> omega)) _ | refine Below.setCell ?_ (by first | omega | (simp <;> omega)) _ | refine Below.trans ?_ (Below.mono (by assumption) (by first | omega | (simp <;> omega))))))
        · exact OwnE.le (OwnE.set (OwnE.set (OwnE.set KX.out (by dsimp only; omega) _) (by dsimp only; omega) _) (by dsimp only; omega) _) (by omega)
        · exact OwnE.le (OwnE.set (OwnE.set (OwnE.set KZ.out (by dsimp only; omega) _) (by dsimp only; omega) _) (by dsimp only; omega) _) (by omega)
  · have HT := Lib.hid (show tabB d = false from decide_eq_false ht)
    have HG := Lib.hid (show invG d = none from if_neg ht)
    clear ht
    go_enter Try.func12, Try.ntmps12
    go_wp2_with fail
    refine (impl_IsValidTableau_any d _ _ _ (Rd.below H0.out (show Below w.heap.size w _ from (by repeat (first | exact Below.refl _ _ | assumption | refine Below.drew ?_ | refine below_drewN ?_ _ | refine Below.alloc ?_ (by first | omega | (simp <;> omega)) _ | refine Below.setCell ?_ (by first | omega | (simp <;> omega)) _ | refine Below.trans ?_ (Below.mono (by assumption) (by first | omega | (simp <;> omega)))))) rfl) (Rd.below H1.out (show Below w.heap.size w _ from (by repeat (first | exact Below.refl _ _ | assumption | refine Below.drew ?_ | refine below_drewN ?_ _ | refine Below.alloc ?_ (by first | omega | (simp <;> omega)) _ | refine Below.setCell ?_ (by first | omega | (simp <;> omega)) _ | refine Below.trans ?_ (Below.mono (by assumption) (by first | omega | (simp <;> omega)))))) rfl) n0 n1).mono ?_; rintro e w1 ⟨rfl, hb1⟩; rw [HT.out]
    have r0 := below_cell hb1 rfl (show ((w.alloc (.cells #[.int .i64 d.n, .slice A d.xs.length cA, .slice A2 d.zs.length cB] 28)).alloc (.cells #[.int .i64 0, .slice none 0 0, .slice none 0 0] 28)).cell? ⟨w.heap.size + 1, 0, none⟩ = some (.int .i64 0) from (by repeat (first | (refine Eq.trans (World.cell?_alloc_at _ _ _ _ ?hh) ?_; (case hh => (simp; done)); rfl) | refine cell_alloc_keep _ ?_)))
    have r1 := below_cell hb1 rfl (show ((w.alloc (.cells #[.int .i64 d.n, .slice A d.xs.length cA, .slice A2 d.zs.length cB] 28)).alloc (.cells #[.int .i64 0, .slice none 0 0, .slice none 0 0] 28)).cell? ⟨w.heap.size + 1, 1, none⟩ = some (.slice none 0 0) from (by repeat (first | (refine Eq.trans (World.cell?_alloc_at _ _ _ _ ?hh) ?_; (case hh => (simp; done)); rfl) | refine cell_alloc_keep _ ?_)))
    have r2 := below_cell hb1 rfl (show ((w.alloc (.cells #[.int .i64 d.n, .slice A d.xs.length cA, .slice A2 d.zs.length cB] 28)).alloc (.cells #[.int .i64 0, .slice none 0 0, .slice none 0 0] 28)).cell? ⟨w.heap.size + 1, 2, none⟩ = some (.slice none 0 0) from (by repeat (first | (refine Eq.trans (World.cell?_alloc_at _ _ _ _ ?hh) ?_; (case hh => (simp; done)); rfl) | refine cell_alloc_keep _ ?_)))
    obtain ⟨hc_hb1, hf_hb1⟩ := bcell hb1; have hz_hb1 := hb1.size; (try simp at hz_hb1); have hs0_hb1 : w.heap.size < w1.heap.size := (by omega); have hs1_hb1 : w.heap.size + 1 < w1.heap.size := (by omega)
    go_wp2_with fail
    have hZ := box_set3 (nb := w.heap.size + 1) (.int .i64 0) (.slice none 0 0) (.slice none 0 0) r0 r1 r2
    exact bodyPost_ret (v := .tuple #[.agg #[.int .i64 0, .slice none 0 0, .slice none 0 0], .bool false]) (by simp [results, Try.results12, go_sem, hZ]) rfl (TabPost.none HG.out (by repeat (first | exact Below.refl _ _ | assumption | refine Below.drew ?_ | refine below_drewN ?_ _ | refine Below.alloc ?_ (by first | omega | (simp <;> omega)) _ | refine Below.setCell ?_ (by first | omega | (simp <;> omega)) _ | refine Below.trans ?_ (Below.mono (by assumption) (by first | omega | (simp <;> omega))))))
end Go.Proofs.Ytfcfpojldoijlaa
