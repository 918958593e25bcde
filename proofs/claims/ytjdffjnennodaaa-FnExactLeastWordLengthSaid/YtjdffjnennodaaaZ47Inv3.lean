/- The inverse of a tableau in the reference. -/
import Derived.Test.YtjdffjnennodaaaZ46M
import Derived.Test.YtjdffjnennodaaaZ11Brk
import Derived.Test.YtjdffjnennodaaaZ15Words
import Derived.Test.YtjdffjnennodaaaZ16M
import Derived.Test.YtjdffjnennodaaaZ27Tab3a
import Derived.Test.YtjdffjnennodaaaZ23Pau8
import Derived.Deep.RegionLaw
namespace Go.Proofs.Ytjdffjnennodaaa
set_option linter.unusedSimpArgs false
set_option linter.unusedVariables false
set_option linter.unnecessarySimpa false
set_option maxRecDepth 200000
open Go.ChangeShapes Go.WideShapes Go.ChangeAt Go.RowKit

set_option maxHeartbeats 16000000 in
theorem spec_l7Invert_any (n : Nat) (X Z : List PN) (v0 v1 : Value) (w : World) (S : Sym n X Z) (h0 : RdE w v0 E3.cs 3 (pes X)) (h1 : RdE w v1 E3.cs 3 (pes Z)) :
    Calls Try.prog 32 #[.agg #[.int .i64 (n : Int), v0, v1]] w fun e w' => ∃ r0 r1, e = .returned (.agg #[.int .i64 (n : Int), r0, r1]) ∧ OwnE w' w.heap.size 62 r0 E3.cs 3 (pes (invXs X Z n n)) ∧ OwnE w' w.heap.size 62 r1 E3.cs 3 (pes (invZs X Z n n)) ∧ Apart r0 r1 ∧ Below w.heap.size w w' := by
  obtain ⟨i0, hi, hz0, hz1, hz2⟩ := info_parts info_Pauli
  have HK0 := Lib.hid h0; have HK1 := Lib.hid h1
  obtain ⟨A, cA, rfl, _⟩ := pes_at h0
  obtain ⟨A2, cB, rfl, _⟩ := pes_at h1
  rw [S.lx] at HK0 ⊢; rw [S.lz] at HK1 ⊢
  have hn := S.m5
  have HS := Lib.hid S
  clear h0 h1 S
  go_enter Try.func32, Try.ntmps32
  go_wp2_with fail
  obtain ⟨W0, hW0⟩ : ∃ W0, W0 = ((w.alloc (.cells #[.int .i64 (n : Int), .slice A n cA, .slice A2 n cB] 30)).alloc (.cells #[.int .i64 0, .slice none 0 0, .slice none 0 0] 30)) := ⟨_, rfl⟩
  have BW := Lib.hid (show Below w.heap.size w W0 from by rw [hW0]; exact (by repeat (first | exact Below.refl _ _ | assumption | refine Below.drew ?_ | refine below_drewN ?_ _ | refine Below.alloc ?_ (by first | omega | (simp <;> omega)) _ | refine Below.setCell ?_ (by first | omega | (simp <;> omega)) _ | refine Below.trans ?_ (Below.mono (by assumption) (by first | omega | (simp <;> omega))))))
  have SW := Lib.hid (show W0.heap.size = w.heap.size + 2 from by rw [hW0]; simp)
  have T0 := Lib.hid (show W0.cell? ⟨w.heap.size, 0, none⟩ = some (.int .i64 (n : Int)) from by rw [hW0]; exact (by repeat (first | (refine Eq.trans (World.cell?_alloc_at _ _ _ _ ?hh) ?_; (case hh => (simp; done)); rfl) | refine cell_alloc_keep _ ?_)))
  have T1 := Lib.hid (show W0.cell? ⟨w.heap.size, 1, none⟩ = some (.slice A n cA) from by rw [hW0]; exact (by repeat (first | (refine Eq.trans (World.cell?_alloc_at _ _ _ _ ?hh) ?_; (case hh => (simp; done)); rfl) | refine cell_alloc_keep _ ?_)))
  have T2 := Lib.hid (show W0.cell? ⟨w.heap.size, 2, none⟩ = some (.slice A2 n cB) from by rw [hW0]; exact (by repeat (first | (refine Eq.trans (World.cell?_alloc_at _ _ _ _ ?hh) ?_; (case hh => (simp; done)); rfl) | refine cell_alloc_keep _ ?_)))
  have R0 := Lib.hid (show W0.cell? ⟨w.heap.size + 1, 0, none⟩ = some (.int .i64 0) from by rw [hW0]; exact (by repeat (first | (refine Eq.trans (World.cell?_alloc_at _ _ _ _ ?hh) ?_; (case hh => (simp; done)); rfl) | refine cell_alloc_keep _ ?_)))
  have R1 := Lib.hid (show W0.cell? ⟨w.heap.size + 1, 1, none⟩ = some (.slice none 0 0) from by rw [hW0]; exact (by repeat (first | (refine Eq.trans (World.cell?_alloc_at _ _ _ _ ?hh) ?_; (case hh => (simp; done)); rfl) | refine cell_alloc_keep _ ?_)))
  have R2 := Lib.hid (show W0.cell? ⟨w.heap.size + 1, 2, none⟩ = some (.slice none 0 0) from by rw [hW0]; exact (by repeat (first | (refine Eq.trans (World.cell?_alloc_at _ _ _ _ ?hh) ?_; (case hh => (simp; done)); rfl) | refine cell_alloc_keep _ ?_)))
  have Q0 := Lib.hid (show W0.frozen? ⟨w.heap.size + 1, 0, none⟩ = false from by rw [hW0]; exact (by repeat (first | (refine World.frozen?_alloc_at _ _ _ _ ?hh; case hh => (simp; done)) | (refine frozen_alloc_lt _ ?hh ?_; case hh => first | omega | (simp <;> omega)))))
  have Q1 := Lib.hid (show W0.frozen? ⟨w.heap.size + 1, 1, none⟩ = false from by rw [hW0]; exact (by repeat (first | (refine World.frozen?_alloc_at _ _ _ _ ?hh; case hh => (simp; done)) | (refine frozen_alloc_lt _ ?hh ?_; case hh => first | omega | (simp <;> omega)))))
  have Q2 := Lib.hid (show W0.frozen? ⟨w.heap.size + 1, 2, none⟩ = false from by rw [hW0]; exact (by repeat (first | (refine World.frozen?_alloc_at _ _ _ _ ?hh; case hh => (simp; done)) | (refine frozen_alloc_lt _ ?hh ?_; case hh => first | omega | (simp <;> omega)))))
  have HW0 := Lib.hid hW0; clear hW0
  go_loopw [4] (fun i wr => ∃ (k : Nat) (vx vz : Value), k ≤ n ∧ i = .int .i64 k ∧ wr.cell? ⟨w.heap.size + 1 + 1, 0, none⟩ = some (.int .i64 (n : Int)) ∧ wr.cell? ⟨w.heap.size + 1 + 1, 1, none⟩ = some vx ∧ wr.cell? ⟨w.heap.size + 1 + 1, 2, none⟩ = some vz ∧ wr.frozen? ⟨w.heap.size + 1 + 1, 1, none⟩ = false ∧ wr.frozen? ⟨w.heap.size + 1 + 1, 2, none⟩ = false ∧ Hid (wr.ownsRow (w.heap.size + 1 + 1 + 1) 62 3 vx k ((pes (invXs X Z n k)).flatMap E3.cs)) ∧ Hid (wr.ownsRow (w.heap.size + 1 + 1 + 1) 62 3 vz k ((pes (invZs X Z n k)).flatMap E3.cs)) ∧ Hid (Apart vx vz) ∧ Hid (Below (w.heap.size + 1 + 1) W0 wr) ∧ w.heap.size + 1 + 1 + 1 ≤ wr.heap.size) (fun i _ => n - (intOf i).toNat)
  case atStart => exact ⟨0, .slice none 0 0, .slice none 0 0, Nat.zero_le _, rfl, (by repeat (first | (refine Eq.trans (World.cell?_alloc_at _ _ _ _ ?hh) ?_; (case hh => (simp; done)); rfl) | refine cell_alloc_keep _ ?_)), (by repeat (first | (refine Eq.trans (World.cell?_alloc_at _ _ _ _ ?hh) ?_; (case hh => (simp; done)); rfl) | refine cell_alloc_keep _ ?_)), (by repeat (first | (refine Eq.trans (World.cell?_alloc_at _ _ _ _ ?hh) ?_; (case hh => (simp; done)); rfl) | refine cell_alloc_keep _ ?_)), (by repeat (first | (refine World.frozen?_alloc_at _ _ _ _ ?hh; case hh => (simp; done)) | (refine frozen_alloc_lt _ ?hh ?_; case hh => first | omega | (simp <;> omega)))), (by repeat (first | (refine World.frozen?_alloc_at _ _ _ _ ?hh; case hh => (simp; done)) | (refine frozen_alloc_lt _ ?hh ?_; case hh => first | omega | (simp <;> omega)))), World.ownsRow_nil _ _ _ _, World.ownsRow_nil _ _ _ _, apart_nil _, (show Below _ _ _ from by rw [HW0.out]; exact (by repeat (first | exact Below.refl _ _ | assumption | refine Below.drew ?_ | refine below_drewN ?_ _ | refine Below.alloc ?_ (by first | omega | (simp <;> omega)) _ | refine Below.setCell ?_ (by first | omega | (simp <;> omega)) _ | refine Below.trans ?_ (Below.mono (by assumption) (by first | omega | (simp <;> omega)))))), by simp⟩
  case round =>
    obtain ⟨k, vx, vz, hk, rfl, c0, c1, c2, f1, f2, hox, hoz, hap, hbel, hsz⟩ := hrel
    by_cases hlt : k < n
    · skip
      have bw := Lib.hid (show Below w.heap.size w wr from Below.trans BW.out (hbel.out.mono (by omega)))
      have swo : w.heap.size + 2 ≤ W0.heap.size := by have := SW.out; omega
      have t0 := (hbel.out.cell (p := ⟨w.heap.size, 0, none⟩) (by dsimp only; omega)).trans T0.out
      have t1 := (hbel.out.cell (p := ⟨w.heap.size, 1, none⟩) (by dsimp only; omega)).trans T1.out
      have t2 := (hbel.out.cell (p := ⟨w.heap.size, 2, none⟩) (by dsimp only; omega)).trans T2.out
      have NX := Lib.hid (invXs_succ X Z n k); have NZ := Lib.hid (invZs_succ X Z n k)
      obtain ⟨p1, p2⟩ := pow_small5 (show k ≤ 5 by omega)
      have hw : IntKind.i64.wrap ((2 : Int) ^ k) = (2 : Int) ^ k := IntWalk.i64_in _ (by omega)
      have hwu : IntKind.u64.wrap (k : Int) = (k : Int) := IntWalk.u64_in _ (by omega)
      have hmk : min k 64 = k := by omega
      have PB := Lib.hid (show (2 : Nat) ^ k < 2 ^ n from Nat.pow_lt_pow_right (by omega) hlt)
      have PC := Lib.hid (show (2 : Int) ^ k = (((2 : Nat) ^ k : Nat) : Int) from by simp)
      obtain ⟨Ra, hRa⟩ : ∃ R, R = invN X Z n ⟨0, 2 ^ k, 0⟩ := ⟨_, rfl⟩
      obtain ⟨Rb, hRb⟩ : ∃ R, R = invN X Z n ⟨0, 0, 2 ^ k⟩ := ⟨_, rfl⟩
      rw [← hRa] at NX; rw [← hRb] at NZ
      have HRa := Lib.hid hRa; have HRb := Lib.hid hRb
      have i1 : (k : Int) < (n : Int) := by omega
      have i2 : (0 : Int) ≤ (k : Int) := by omega
      clear hRa hRb
      go_wp2_with fail
      refine AnyB.begin (S := (fun w' => w'.cell? ⟨w.heap.size + 1 + 1, 1, none⟩ = some (vx) ∧ w'.cell? ⟨w.heap.size, 0, none⟩ = some (.int .i64 (n : Int)) ∧ w'.cell? ⟨w.heap.size, 1, none⟩ = some (.slice A n cA) ∧ w'.cell? ⟨w.heap.size, 2, none⟩ = some (.slice A2 n cB))) [11] (by kernel_rfl) ?_ (fun hHeld0 => ?_)
      · ((try dsimp only); (first | exact ⟨c1, t0, t1, t2⟩ | exact ⟨cell_alloc_keep _ c1, cell_alloc_keep _ t0, cell_alloc_keep _ t1, cell_alloc_keep _ t2⟩))
      refine AnyB.takeQ (i := 0) (oi := _) (v := ?_) (by simp only [List.getElem?_toArray, List.getElem?_cons_zero, List.getElem?_cons_succ]; rfl) (by kernel_rfl) (by kernel_rfl) (by kernel_rfl) (by intro _ _ _ h; exact h) (Or.inl ⟨by rfl, ?_⟩) ?_
      rotate_left
      · (intro w hSw; (try dsimp only at hSw); go_simp; (try (with_reducible rfl)))
      try simp only [Act.put, List.setIfInBounds_toArray, List.set_cons_zero, List.set_cons_succ]
      refine AnyB.take (i := 1) (oi := _) (v := ?_) (by simp only [List.getElem?_toArray, List.getElem?_cons_zero, List.getElem?_cons_succ]; rfl) (by kernel_rfl) (by kernel_rfl) (by kernel_rfl) (by kernel_rfl) (by kernel_rfl) (by intro _ _ _ h; exact h) (Or.inl ⟨by rfl, ?_⟩) (by assumption) ?_
      rotate_left
      · (intro w hSw; (try dsimp only at hSw); go_simp; (try (with_reducible rfl)))
      try simp only [Act.put, List.setIfInBounds_toArray, List.set_cons_zero, List.set_cons_succ]
      refine AnyB.take (i := 2) (oi := _) (v := ?_) (by simp only [List.getElem?_toArray, List.getElem?_cons_zero, List.getElem?_cons_succ]; rfl) (by kernel_rfl) (by kernel_rfl) (by kernel_rfl) (by kernel_rfl) (by kernel_rfl) (by intro _ _ _ h; exact h) (Or.inl ⟨by rfl, ?_⟩) (by assumption) ?_
      rotate_left
      · (intro w hSw; (try dsimp only at hSw); go_simp; (try (with_reducible rfl)))
      try simp only [Act.put, List.setIfInBounds_toArray, List.set_cons_zero, List.set_cons_succ]
      refine AnyB.takeQ (i := 3) (oi := _) (v := ?_) (by simp only [List.getElem?_toArray, List.getElem?_cons_zero, List.getElem?_cons_succ]; rfl) (by kernel_rfl) (by kernel_rfl) (by kernel_rfl) (by intro _ _ _ h; exact h) (Or.inl ⟨by rfl, ?_⟩) ?_
      rotate_left
      · (intro w hSw; (try dsimp only at hSw); go_simp; (try (with_reducible rfl)))
      try simp only [Act.put, List.setIfInBounds_toArray, List.set_cons_zero, List.set_cons_succ]
      refine AnyB.takeQ (i := 4) (oi := _) (v := ?_) (by simp only [List.getElem?_toArray, List.getElem?_cons_zero, List.getElem?_cons_succ]; rfl) (by kernel_rfl) (by kernel_rfl) (by kernel_rfl) (by intro _ _ _ h; exact h) (Or.inl ⟨by rfl, ?_⟩) ?_
      rotate_left
      · (intro w hSw; (try dsimp only at hSw); go_simp; (try (with_reducible rfl)))
      try simp only [Act.put, List.setIfInBounds_toArray, List.set_cons_zero, List.set_cons_succ]
      refine AnyB.takeQ (i := 5) (oi := _) (v := ?_) (by simp only [List.getElem?_toArray, List.getElem?_cons_zero, List.getElem?_cons_succ]; rfl) (by kernel_rfl) (by kernel_rfl) (by kernel_rfl) (by intro _ _ _ h; exact h) (Or.inl ⟨by rfl, ?_⟩) ?_
      rotate_left
      · (intro w hSw; (try dsimp only at hSw); go_simp; (try (with_reducible rfl)))
      try simp only [Act.put, List.setIfInBounds_toArray, List.set_cons_zero, List.set_cons_succ]
      refine AnyB.takeQ (i := 6) (oi := _) (v := ?_) (by simp only [List.getElem?_toArray, List.getElem?_cons_zero, List.getElem?_cons_succ]; rfl) (by kernel_rfl) (by kernel_rfl) (by kernel_rfl) (by intro _ _ _ h; exact h) (Or.inl ⟨by rfl, ?_⟩) ?_
      rotate_left
      · (intro w hSw; (try dsimp only at hSw); go_simp; (try (with_reducible rfl)))
      try simp only [Act.put, List.setIfInBounds_toArray, List.set_cons_zero, List.set_cons_succ]
      refine AnyB.each (rs := [7]) (by kernel_rfl) (by simp) ?_
      refine EachB.cons rfl (fun K hK hB => ?_) ?_
      · skip
        (go_simp; go_at_call 55; refine (spec_l7Before_any n X Z ⟨0, 2 ^ k, 0⟩ _ _ _ _ _ _ HS.out ⟨PB.out, Nat.two_pow_pos n⟩ rfl (by simp) PC.out (by simp) (Rd.below HK0.out (show Below w.heap.size w wr.drew from Below.trans BW.out ((show Below (w.heap.size + 1 + 1) W0 wr.drew from Below.drew hbel.out).mono (by omega))) rfl) (Rd.below HK1.out (show Below w.heap.size w wr.drew from Below.trans BW.out ((show Below (w.heap.size + 1 + 1) W0 wr.drew from Below.drew hbel.out).mono (by omega))) rfl)).mono ?_; rw [← HRa.out]; rintro e xA ⟨rfl, hxA⟩; have yA := hxA.size; (simp at yA); replace c0 := below_cell hxA rfl (cell_drew c0); replace c1 := below_cell hxA rfl (cell_drew c1); replace c2 := below_cell hxA rfl (cell_drew c2); replace t0 := below_cell hxA rfl (cell_drew t0); replace t1 := below_cell hxA rfl (cell_drew t1); replace t2 := below_cell hxA rfl (cell_drew t2); replace f1 := below_frz hxA rfl (by first | omega | (simp; omega)) (frz_drew f1); replace f2 := below_frz hxA rfl (by first | omega | (simp; omega)) (frz_drew f2); replace hox := Lib.hid (own_below hox.out (show Below wr.heap.size wr xA from Below.trans (show Below wr.heap.size wr wr.drew from (by repeat (first | exact Below.refl _ _ | assumption | refine Below.drew ?_ | refine below_drewN ?_ _ | refine Below.alloc ?_ (by first | omega | (simp <;> omega)) _ | refine Below.setCell ?_ (by first | omega | (simp <;> omega)) _ | refine Below.trans ?_ (Below.mono (by assumption) (by first | omega | (simp <;> omega)))))) (hxA.mono (by first | omega | (simp)))) rfl); replace hoz := Lib.hid (own_below hoz.out (show Below wr.heap.size wr xA from Below.trans (show Below wr.heap.size wr wr.drew from (by repeat (first | exact Below.refl _ _ | assumption | refine Below.drew ?_ | refine below_drewN ?_ _ | refine Below.alloc ?_ (by first | omega | (simp <;> omega)) _ | refine Below.setCell ?_ (by first | omega | (simp <;> omega)) _ | refine Below.trans ?_ (Below.mono (by assumption) (by first | omega | (simp <;> omega)))))) (hxA.mono (by first | omega | (simp)))) rfl); replace hbel := Lib.hid (show Below (w.heap.size + 1 + 1) W0 xA from Below.trans (Below.drew hbel.out) (hxA.mono (by first | omega | (simp; omega)))); clear hxA; dsimp only)
        refine hK.out _ _ ?_ (fun hHeld1 => ?_)
        · ((try dsimp only); (first | exact ⟨c1, t0, t1, t2⟩ | exact ⟨cell_alloc_keep _ c1, cell_alloc_keep _ t0, cell_alloc_keep _ t1, cell_alloc_keep _ t2⟩))
        clear hB hK K hHeld0
        refine AnyB.each (rs := [8]) (by kernel_rfl) (by simp) ?_
        refine EachB.cons rfl (fun K hK hB => ?_) ?_
        · skip
          go_simp
          refine hK.out _ _ ?_ (fun hHeld2 => ?_)
          · ((try dsimp only); (first | exact ⟨c1, t0, t1, t2⟩ | exact ⟨cell_alloc_keep _ c1, cell_alloc_keep _ t0, cell_alloc_keep _ t1, cell_alloc_keep _ t2⟩))
          clear hB hK K hHeld1
          refine AnyB.each (rs := [9]) (by kernel_rfl) (by simp) ?_
          refine EachB.cons rfl (fun K hK hB => ?_) ?_
          · skip
            (refine step_append_lies _ (by rfl) (.tmp 15) (.tmp 22) 28 (by rfl) (w.heap.size + 1 + 1 + 1) 62 i0 (.agg #[.int .i64 0, .int .i64 0, .int .i64 0]) 3 24 Try.underlying28 hi hz0 hz1 hz2 rfl (by omega) vx k _ (by rfl) (hox.out.alloc _) _ 1 1 [.int .i64 ((Ra).p : Int), .int .i64 ((Ra).x : Int), .int .i64 ((Ra).z : Int)] (by rfl) (by rfl) (news_cells xA [.int .i64 ((Ra).p : Int), .int .i64 ((Ra).x : Int), .int .i64 ((Ra).z : Int)] 62) (E3.one (Ra).e) (by omega) (by unfold maxLen; omega) (by omega) (by simp; omega) _ rfl ?_; intro g1 cp1 w9 hown1 hgr1 hat1 hlt1; have zz1 := hgr1.size; (simp at zz1); replace c0 := grown_lo (hox.out.alloc _) hgr1 (by first | omega | (simp; omega)) (cell_alloc_keep _ c0); replace c1 := grown_lo (hox.out.alloc _) hgr1 (by first | omega | (simp; omega)) (cell_alloc_keep _ c1); replace c2 := grown_lo (hox.out.alloc _) hgr1 (by first | omega | (simp; omega)) (cell_alloc_keep _ c2); replace t0 := grown_lo (hox.out.alloc _) hgr1 (by first | omega | (simp; omega)) (cell_alloc_keep _ t0); replace t1 := grown_lo (hox.out.alloc _) hgr1 (by first | omega | (simp; omega)) (cell_alloc_keep _ t1); replace t2 := grown_lo (hox.out.alloc _) hgr1 (by first | omega | (simp; omega)) (cell_alloc_keep _ t2); replace f1 := frz_grown hgr1 (by simp; omega) (frozen_alloc_lt _ (by omega) f1) (fun h => by have := (hox.out.lt _ h).1; omega); replace f2 := frz_grown hgr1 (by simp; omega) (frozen_alloc_lt _ (by omega) f2) (fun h => by have := (hox.out.lt _ h).1; omega); have hq1 := Lib.hid (own_other hgr1 (hoz.out.alloc _) (fun g a b => hap.out g b a)); have hp1 := Lib.hid (apart_app (n := k + 1) (c := cp1) hap.out.symm (fun g hg => Nat.lt_of_lt_of_le (hoz.out.lt g hg).2 (Nat.le_succ _)) (by simpa using hat1)); replace hbel := Lib.hid (show Below (w.heap.size + 1 + 1) W0 w9 from (hbel.out.alloc (by omega) _).grown hgr1 (by simp; omega) (fun b hb => by have := (hox.out.lt b hb).1; omega)); replace hox := Lib.hid hown1; replace hoz := hq1; replace hap := Lib.hid (show Apart _ _ from hp1.out.symm); clear hown1 hgr1 hat1 hq1 hp1)
            refine hK.out _ _ ?_ (fun hHeld3 => ?_)
            · ((try dsimp only); (first | exact ⟨c1, t0, t1, t2⟩ | exact ⟨cell_alloc_keep _ c1, cell_alloc_keep _ t0, cell_alloc_keep _ t1, cell_alloc_keep _ t2⟩))
            clear hB hK K hHeld2
            refine AnyB.takeQ (i := 10) (oi := _) (v := ?_) (by simp only [List.getElem?_toArray, List.getElem?_cons_zero, List.getElem?_cons_succ]; rfl) (by kernel_rfl) (by kernel_rfl) (by kernel_rfl) (by intro _ _ _ h; exact h) (Or.inl ⟨by rfl, ?_⟩) ?_
            rotate_left
            · (intro w hSw; (try dsimp only at hSw); go_simp; (try (with_reducible rfl)))
            try simp only [Act.put, List.setIfInBounds_toArray, List.set_cons_zero, List.set_cons_succ]
            refine AnyB.each (rs := [11]) (by kernel_rfl) (by simp) ?_
            refine EachB.cons rfl (fun K hK hB => ?_) ?_
            · skip
              go_simp
              refine hB.out _ _ rfl ?_
              clear hB hK K
              refine AnyB.none (by kernel_rfl) ?_ _
              replace c0 := cell_set_other (o2 := 1) (v := (.slice (some ⟨g1, 0, none⟩) (k + 1) cp1)) c0
              replace c1 := World.cell?_setCell_same w9 ⟨w.heap.size + 1 + 1, 1, none⟩ (.slice (some ⟨g1, 0, none⟩) (k + 1) cp1) c1
              replace c2 := cell_set_other (o2 := 1) (v := (.slice (some ⟨g1, 0, none⟩) (k + 1) cp1)) c2
              replace t0 := cell_set_far (nb := w.heap.size + 1 + 1) (o2 := 1) (v := (.slice (some ⟨g1, 0, none⟩) (k + 1) cp1)) (by omega) t0
              replace t1 := cell_set_far (nb := w.heap.size + 1 + 1) (o2 := 1) (v := (.slice (some ⟨g1, 0, none⟩) (k + 1) cp1)) (by omega) t1
              replace t2 := cell_set_far (nb := w.heap.size + 1 + 1) (o2 := 1) (v := (.slice (some ⟨g1, 0, none⟩) (k + 1) cp1)) (by omega) t2
              replace f1 : (w9.setCell ⟨w.heap.size + 1 + 1, 1, none⟩ (.slice (some ⟨g1, 0, none⟩) (k + 1) cp1)).frozen? ⟨w.heap.size + 1 + 1, 1, none⟩ = false := by rw [World.frozen?_setCell]; exact f1
              replace f2 : (w9.setCell ⟨w.heap.size + 1 + 1, 1, none⟩ (.slice (some ⟨g1, 0, none⟩) (k + 1) cp1)).frozen? ⟨w.heap.size + 1 + 1, 2, none⟩ = false := by rw [World.frozen?_setCell]; exact f2
              replace hox := Lib.hid (ownsRow_setCell_below hox.out (show (⟨w.heap.size + 1 + 1, 1, none⟩ : Addr).block < w.heap.size + 1 + 1 + 1 from by simp) (.slice (some ⟨g1, 0, none⟩) (k + 1) cp1))
              replace hoz := Lib.hid (ownsRow_setCell_below hoz.out (show (⟨w.heap.size + 1 + 1, 1, none⟩ : Addr).block < w.heap.size + 1 + 1 + 1 from by simp) (.slice (some ⟨g1, 0, none⟩) (k + 1) cp1))
              replace hbel := Lib.hid (show Below (w.heap.size + 1 + 1) W0 (w9.setCell ⟨w.heap.size + 1 + 1, 1, none⟩ (.slice (some ⟨g1, 0, none⟩) (k + 1) cp1)) from Below.setCell hbel.out (by simp) _)
              have sz1 : w9.heap.size = (w9.setCell ⟨w.heap.size + 1 + 1, 1, none⟩ (.slice (some ⟨g1, 0, none⟩) (k + 1) cp1)).heap.size := by simp
              obtain ⟨W1, hW1⟩ : ∃ W, W = w9.setCell ⟨w.heap.size + 1 + 1, 1, none⟩ (.slice (some ⟨g1, 0, none⟩) (k + 1) cp1) := ⟨_, rfl⟩
              go_wp2_with fail
              rw [← hW1] at c0 c1 c2 t0 t1 t2 f1 f2 hox hoz hbel sz1 ⊢
              have HW1 := Lib.hid hW1; clear hW1
              refine AnyB.begin (S := (fun w' => w'.cell? ⟨w.heap.size + 1 + 1, 2, none⟩ = some (vz) ∧ w'.cell? ⟨w.heap.size, 0, none⟩ = some (.int .i64 (n : Int)) ∧ w'.cell? ⟨w.heap.size, 1, none⟩ = some (.slice A n cA) ∧ w'.cell? ⟨w.heap.size, 2, none⟩ = some (.slice A2 n cB))) [11] (by kernel_rfl) ?_ (fun hHeld0 => ?_)
              · ((try dsimp only); (first | exact ⟨c2, t0, t1, t2⟩ | exact ⟨cell_alloc_keep _ c2, cell_alloc_keep _ t0, cell_alloc_keep _ t1, cell_alloc_keep _ t2⟩))
              refine AnyB.takeQ (i := 0) (oi := _) (v := ?_) (by simp only [List.getElem?_toArray, List.getElem?_cons_zero, List.getElem?_cons_succ]; rfl) (by kernel_rfl) (by kernel_rfl) (by kernel_rfl) (by intro _ _ _ h; exact h) (Or.inl ⟨by rfl, ?_⟩) ?_
              rotate_left
              · (intro w hSw; (try dsimp only at hSw); go_simp; (try (with_reducible rfl)))
              try simp only [Act.put, List.setIfInBounds_toArray, List.set_cons_zero, List.set_cons_succ]
              refine AnyB.take (i := 1) (oi := _) (v := ?_) (by simp only [List.getElem?_toArray, List.getElem?_cons_zero, List.getElem?_cons_succ]; rfl) (by kernel_rfl) (by kernel_rfl) (by kernel_rfl) (by kernel_rfl) (by kernel_rfl) (by intro _ _ _ h; exact h) (Or.inl ⟨by rfl, ?_⟩) (by assumption) ?_
              rotate_left
              · (intro w hSw; (try dsimp only at hSw); go_simp; (try (with_reducible rfl)))
              try simp only [Act.put, List.setIfInBounds_toArray, List.set_cons_zero, List.set_cons_succ]
              refine AnyB.take (i := 2) (oi := _) (v := ?_) (by simp only [List.getElem?_toArray, List.getElem?_cons_zero, List.getElem?_cons_succ]; rfl) (by kernel_rfl) (by kernel_rfl) (by kernel_rfl) (by kernel_rfl) (by kernel_rfl) (by intro _ _ _ h; exact h) (Or.inl ⟨by rfl, ?_⟩) (by assumption) ?_
              rotate_left
              · (intro w hSw; (try dsimp only at hSw); go_simp; (try (with_reducible rfl)))
              try simp only [Act.put, List.setIfInBounds_toArray, List.set_cons_zero, List.set_cons_succ]
              refine AnyB.takeQ (i := 3) (oi := _) (v := ?_) (by simp only [List.getElem?_toArray, List.getElem?_cons_zero, List.getElem?_cons_succ]; rfl) (by kernel_rfl) (by kernel_rfl) (by kernel_rfl) (by intro _ _ _ h; exact h) (Or.inl ⟨by rfl, ?_⟩) ?_
              rotate_left
              · (intro w hSw; (try dsimp only at hSw); go_simp; (try (with_reducible rfl)))
              try simp only [Act.put, List.setIfInBounds_toArray, List.set_cons_zero, List.set_cons_succ]
              refine AnyB.takeQ (i := 4) (oi := _) (v := ?_) (by simp only [List.getElem?_toArray, List.getElem?_cons_zero, List.getElem?_cons_succ]; rfl) (by kernel_rfl) (by kernel_rfl) (by kernel_rfl) (by intro _ _ _ h; exact h) (Or.inl ⟨by rfl, ?_⟩) ?_
              rotate_left
              · (intro w hSw; (try dsimp only at hSw); go_simp; (try (with_reducible rfl)))
              try simp only [Act.put, List.setIfInBounds_toArray, List.set_cons_zero, List.set_cons_succ]
              refine AnyB.takeQ (i := 5) (oi := _) (v := ?_) (by simp only [List.getElem?_toArray, List.getElem?_cons_zero, List.getElem?_cons_succ]; rfl) (by kernel_rfl) (by kernel_rfl) (by kernel_rfl) (by intro _ _ _ h; exact h) (Or.inl ⟨by rfl, ?_⟩) ?_
              rotate_left
              · (intro w hSw; (try dsimp only at hSw); go_simp; (try (with_reducible rfl)))
              try simp only [Act.put, List.setIfInBounds_toArray, List.set_cons_zero, List.set_cons_succ]
              refine AnyB.takeQ (i := 6) (oi := _) (v := ?_) (by simp only [List.getElem?_toArray, List.getElem?_cons_zero, List.getElem?_cons_succ]; rfl) (by kernel_rfl) (by kernel_rfl) (by kernel_rfl) (by intro _ _ _ h; exact h) (Or.inl ⟨by rfl, ?_⟩) ?_
              rotate_left
              · (intro w hSw; (try dsimp only at hSw); go_simp; (try (with_reducible rfl)))
              try simp only [Act.put, List.setIfInBounds_toArray, List.set_cons_zero, List.set_cons_succ]
              refine AnyB.each (rs := [7]) (by kernel_rfl) (by simp) ?_
              refine EachB.cons rfl (fun K hK hB => ?_) ?_
              · skip
                (go_simp; go_at_call 55; refine (spec_l7Before_any n X Z ⟨0, 0, 2 ^ k⟩ _ _ _ _ _ _ HS.out ⟨Nat.two_pow_pos n, PB.out⟩ rfl (by simp) (by simp) PC.out (Rd.below HK0.out (show Below w.heap.size w W1.drew from Below.trans BW.out ((show Below (w.heap.size + 1 + 1) W0 W1.drew from Below.drew hbel.out).mono (by omega))) rfl) (Rd.below HK1.out (show Below w.heap.size w W1.drew from Below.trans BW.out ((show Below (w.heap.size + 1 + 1) W0 W1.drew from Below.drew hbel.out).mono (by omega))) rfl)).mono ?_; rw [← HRb.out]; rintro e xB ⟨rfl, hxB⟩; have yB := hxB.size; (simp at yB); replace c0 := below_cell hxB rfl (cell_drew c0); replace c1 := below_cell hxB rfl (cell_drew c1); replace c2 := below_cell hxB rfl (cell_drew c2); replace t0 := below_cell hxB rfl (cell_drew t0); replace t1 := below_cell hxB rfl (cell_drew t1); replace t2 := below_cell hxB rfl (cell_drew t2); replace f1 := below_frz hxB rfl (by first | omega | (simp; omega)) (frz_drew f1); replace f2 := below_frz hxB rfl (by first | omega | (simp; omega)) (frz_drew f2); replace hox := Lib.hid (own_below hox.out (show Below W1.heap.size W1 xB from Below.trans (show Below W1.heap.size W1 W1.drew from (by repeat (first | exact Below.refl _ _ | assumption | refine Below.drew ?_ | refine below_drewN ?_ _ | refine Below.alloc ?_ (by first | omega | (simp <;> omega)) _ | refine Below.setCell ?_ (by first | omega | (simp <;> omega)) _ | refine Below.trans ?_ (Below.mono (by assumption) (by first | omega | (simp <;> omega)))))) (hxB.mono (by first | omega | (simp)))) rfl); replace hoz := Lib.hid (own_below hoz.out (show Below W1.heap.size W1 xB from Below.trans (show Below W1.heap.size W1 W1.drew from (by repeat (first | exact Below.refl _ _ | assumption | refine Below.drew ?_ | refine below_drewN ?_ _ | refine Below.alloc ?_ (by first | omega | (simp <;> omega)) _ | refine Below.setCell ?_ (by first | omega | (simp <;> omega)) _ | refine Below.trans ?_ (Below.mono (by assumption) (by first | omega | (simp <;> omega)))))) (hxB.mono (by first | omega | (simp)))) rfl); replace hbel := Lib.hid (show Below (w.heap.size + 1 + 1) W0 xB from Below.trans (Below.drew hbel.out) (hxB.mono (by first | omega | (simp; omega)))); clear hxB; dsimp only)
                refine hK.out _ _ ?_ (fun hHeld1 => ?_)
                · ((try dsimp only); (first | exact ⟨c2, t0, t1, t2⟩ | exact ⟨cell_alloc_keep _ c2, cell_alloc_keep _ t0, cell_alloc_keep _ t1, cell_alloc_keep _ t2⟩))
                clear hB hK K hHeld0
                refine AnyB.each (rs := [8]) (by kernel_rfl) (by simp) ?_
                refine EachB.cons rfl (fun K hK hB => ?_) ?_
                · skip
                  go_simp
                  refine hK.out _ _ ?_ (fun hHeld2 => ?_)
                  · ((try dsimp only); (first | exact ⟨c2, t0, t1, t2⟩ | exact ⟨cell_alloc_keep _ c2, cell_alloc_keep _ t0, cell_alloc_keep _ t1, cell_alloc_keep _ t2⟩))
                  clear hB hK K hHeld1
                  refine AnyB.each (rs := [9]) (by kernel_rfl) (by simp) ?_
                  refine EachB.cons rfl (fun K hK hB => ?_) ?_
                  · skip
                    (refine step_append_lies _ (by rfl) (.tmp 26) (.tmp 33) 28 (by rfl) (w.heap.size + 1 + 1 + 1) 62 i0 (.agg #[.int .i64 0, .int .i64 0, .int .i64 0]) 3 24 Try.underlying28 hi hz0 hz1 hz2 rfl (by omega) vz k _ (by rfl) (hoz.out.alloc _) _ 1 1 [.int .i64 ((Rb).p : Int), .int .i64 ((Rb).x : Int), .int .i64 ((Rb).z : Int)] (by rfl) (by rfl) (news_cells xB [.int .i64 ((Rb).p : Int), .int .i64 ((Rb).x : Int), .int .i64 ((Rb).z : Int)] 62) (E3.one (Rb).e) (by omega) (by unfold maxLen; omega) (by omega) (by simp; omega) _ rfl ?_; intro g2 cp2 w8 hown2 hgr2 hat2 hlt2; have zz2 := hgr2.size; (simp at zz2); replace c0 := grown_lo (hoz.out.alloc _) hgr2 (by first | omega | (simp; omega)) (cell_alloc_keep _ c0); replace c1 := grown_lo (hoz.out.alloc _) hgr2 (by first | omega | (simp; omega)) (cell_alloc_keep _ c1); replace c2 := grown_lo (hoz.out.alloc _) hgr2 (by first | omega | (simp; omega)) (cell_alloc_keep _ c2); replace t0 := grown_lo (hoz.out.alloc _) hgr2 (by first | omega | (simp; omega)) (cell_alloc_keep _ t0); replace t1 := grown_lo (hoz.out.alloc _) hgr2 (by first | omega | (simp; omega)) (cell_alloc_keep _ t1); replace t2 := grown_lo (hoz.out.alloc _) hgr2 (by first | omega | (simp; omega)) (cell_alloc_keep _ t2); replace f1 := frz_grown hgr2 (by simp; omega) (frozen_alloc_lt _ (by omega) f1) (fun h => by have := (hoz.out.lt _ h).1; omega); replace f2 := frz_grown hgr2 (by simp; omega) (frozen_alloc_lt _ (by omega) f2) (fun h => by have := (hoz.out.lt _ h).1; omega); have hq2 := Lib.hid (own_other hgr2 (hox.out.alloc _) (fun g a b => hap.out g a b)); have hp2 := Lib.hid (apart_app (n := k + 1) (c := cp2) hap.out (fun g hg => Nat.lt_of_lt_of_le (hox.out.lt g hg).2 (Nat.le_succ _)) (by simpa using hat2)); replace hbel := Lib.hid (show Below (w.heap.size + 1 + 1) W0 w8 from (hbel.out.alloc (by omega) _).grown hgr2 (by simp; omega) (fun b hb => by have := (hoz.out.lt b hb).1; omega)); replace hoz := Lib.hid hown2; replace hox := hq2; replace hap := Lib.hid (show Apart _ _ from hp2.out); clear hown2 hgr2 hat2 hq2 hp2)
                    refine hK.out _ _ ?_ (fun hHeld3 => ?_)
                    · ((try dsimp only); (first | exact ⟨c2, t0, t1, t2⟩ | exact ⟨cell_alloc_keep _ c2, cell_alloc_keep _ t0, cell_alloc_keep _ t1, cell_alloc_keep _ t2⟩))
                    clear hB hK K hHeld2
                    refine AnyB.takeQ (i := 10) (oi := _) (v := ?_) (by simp only [List.getElem?_toArray, List.getElem?_cons_zero, List.getElem?_cons_succ]; rfl) (by kernel_rfl) (by kernel_rfl) (by kernel_rfl) (by intro _ _ _ h; exact h) (Or.inl ⟨by rfl, ?_⟩) ?_
                    rotate_left
                    · (intro w hSw; (try dsimp only at hSw); go_simp; (try (with_reducible rfl)))
                    try simp only [Act.put, List.setIfInBounds_toArray, List.set_cons_zero, List.set_cons_succ]
                    refine AnyB.each (rs := [11]) (by kernel_rfl) (by simp) ?_
                    refine EachB.cons rfl (fun K hK hB => ?_) ?_
                    · skip
                      go_simp
                      refine hB.out _ _ rfl ?_
                      clear hB hK K
                      refine AnyB.none (by kernel_rfl) ?_ _
                      go_wp2_with fail
                      go_roundw
                      case rel => exact ⟨k + 1, (.slice (some ⟨g1, 0, none⟩) (k + 1) cp1), (.slice (some ⟨g2, 0, none⟩) (k + 1) cp2), by omega, by go_num, cell_set_other c0, cell_set_other c1, World.cell?_setCell_same _ _ _ c2, by rw [World.frozen?_setCell]; exact f1, by rw [World.frozen?_setCell]; exact f2, (show World.ownsRow _ _ _ _ _ _ _ from by rw [NX.out]; exact ownsRow_setCell_below hox.out (by simp) _), (show World.ownsRow _ _ _ _ _ _ _ from by rw [NZ.out]; exact ownsRow_setCell_below hoz.out (by simp) _), hap, (show Below _ _ _ from Below.setCell hbel.out (by simp) _), by simp; omega⟩
                      case measure => simp [intOf]; omega
                    exact EachB.nil
                  exact EachB.nil
                exact EachB.nil
              exact EachB.nil
            exact EachB.nil
          exact EachB.nil
        exact EachB.nil
      exact EachB.nil
    · have e : k = n := by omega
      subst e
      have swo : w.heap.size + 2 ≤ W0.heap.size := by have := SW.out; omega
      have r0 := (hbel.out.cell (p := ⟨w.heap.size + 1, 0, none⟩) (by dsimp only; omega)).trans R0.out; have q0 := (hbel.out.frozen (p := ⟨w.heap.size + 1, 0, none⟩) (by dsimp only; omega)).trans Q0.out
      have r1 := (hbel.out.cell (p := ⟨w.heap.size + 1, 1, none⟩) (by dsimp only; omega)).trans R1.out; have q1 := (hbel.out.frozen (p := ⟨w.heap.size + 1, 1, none⟩) (by dsimp only; omega)).trans Q1.out
      have r2 := (hbel.out.cell (p := ⟨w.heap.size + 1, 2, none⟩) (by dsimp only; omega)).trans R2.out; have q2 := (hbel.out.frozen (p := ⟨w.heap.size + 1, 2, none⟩) (by dsimp only; omega)).trans Q2.out
      have bw := Lib.hid (show Below w.heap.size w wr from Below.trans BW.out (hbel.out.mono (by omega)))
      have t0 := (hbel.out.cell (p := ⟨w.heap.size, 0, none⟩) (by dsimp only; omega)).trans T0.out
      obtain ⟨a9, cp9, rfl⟩ := own_form hox.out
      obtain ⟨b9, cq9, rfl⟩ := own_form hoz.out
      have hZ := box_set3 (w3 := wr) (nb := w.heap.size + 1) (.int .i64 (k : Int)) (.slice a9 k cp9) (.slice b9 k cq9) r0 r1 r2
      have HX := Lib.hid (show (pes (invXs X Z k k)).length = k from by rw [pes_len, invXs_len]); have HZ := Lib.hid (show (pes (invZs X Z k k)).length = k from by rw [pes_len, invZs_len])
      go_wp2_with fail
      refine bodyPost_ret (v := .agg #[.int .i64 (k : Int), .slice a9 k cp9, .slice b9 k cq9]) (by simp [results, Try.results32, go_sem, hZ]) rfl ⟨_, _, rfl, ?_, ?_, hap.out, ?_⟩
      · unfold OwnE; rw [HX.out]; exact own_le (ownsRow_setCell_below (ownsRow_setCell_below (ownsRow_setCell_below hox.out (by simp) _) (by simp) _) (by simp) _) (by omega)
      · unfold OwnE; rw [HZ.out]; exact own_le (ownsRow_setCell_below (ownsRow_setCell_below (ownsRow_setCell_below hoz.out (by simp) _) (by simp) _) (by simp) _) (by omega)
      · have bq := bw.out; exact (by repeat (first | exact Below.refl _ _ | assumption | refine Below.drew ?_ | refine below_drewN ?_ _ | refine Below.alloc ?_ (by first | omega | (simp <;> omega)) _ | refine Below.setCell ?_ (by first | omega | (simp <;> omega)) _ | refine Below.trans ?_ (Below.mono (by assumption) (by first | omega | (simp <;> omega)))))
end Go.Proofs.Ytjdffjnennodaaa
