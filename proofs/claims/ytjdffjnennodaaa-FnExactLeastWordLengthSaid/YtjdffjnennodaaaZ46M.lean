/- SignOnly in the program. -/
import Derived.Test.YtjdffjnennodaaaZ28M
import Derived.Test.YtjdffjnennodaaaZ11Brk
import Derived.BigQuiet
import Derived.Deep.QuietTactic
import Derived.Test.YtjdffjnennodaaaZ14Img2
import Derived.Test.YtjdffjnennodaaaZ09Pau3
import Derived.Test.YtjdffjnennodaaaZ19M
import Derived.BigRegion
import Derived.Deep.DeepMust
import Derived.Deep.RegionHeld3
namespace Go.Proofs.Ytjdffjnennodaaa
set_option linter.unusedSimpArgs false
set_option linter.unusedVariables false
set_option linter.unnecessarySimpa false
set_option maxRecDepth 200000
open Go.ChangeShapes Go.WideShapes Go.ChangeAt Go.RowKit

/-- The images of a qubit are the generators, up to sign. -/
def sgnQ (X Z : List PN) (q : Nat) : Bool :=
  ((X.getD q ⟨0, 0, 0⟩).x == 2 ^ q && (X.getD q ⟨0, 0, 0⟩).z == 0) && ((Z.getD q ⟨0, 0, 0⟩).x == 0 && (Z.getD q ⟨0, 0, 0⟩).z == 2 ^ q)
def sgnAll (X Z : List PN) (n : Nat) : Bool := (List.range n).all (sgnQ X Z)
def SgnTo (X Z : List PN) (k : Nat) : Prop := ∀ q, q < k → sgnQ X Z q = true
theorem sgn_yes {X Z : List PN} {n k : Nat} (h : SgnTo X Z k) (hk : n ≤ k) : true = sgnAll X Z n := by
  symm; unfold sgnAll; rw [List.all_eq_true]
  intro q hq
  exact h q (by have := List.mem_range.1 hq; omega)
theorem sgn_no {X Z : List PN} {n k : Nat} (hk : k < n) (h : sgnQ X Z k = false) : false = sgnAll X Z n := by
  symm; unfold sgnAll; rw [List.all_eq_false]
  exact ⟨k, List.mem_range.2 hk, by simp [h]⟩
theorem SgnTo.next {X Z : List PN} {k : Nat} (h : SgnTo X Z k) (h2 : sgnQ X Z k = true) : SgnTo X Z (k + 1) := by
  intro q hq
  by_cases e : q = k
  · subst e; exact h2
  · exact h q (by omega)
noncomputable def sgnG (d : Tab) : Option Bool := if TabOk d then some (sgnAll (d.xs.map tn) (d.zs.map tn) d.n.toNat) else none
theorem ne_pow (x k : Nat) : ((x : Int) != (2 : Int) ^ k) = !(x == 2 ^ k) := by
  rw [show (2 : Int) ^ k = ((2 ^ k : Nat) : Int) from by simp]
  generalize 2 ^ k = y
  rw [Bool.eq_iff_iff]
  simp
  omega
theorem ne_zero (x : Nat) : ((x : Int) != 0) = !(x == 0) := by
  rw [Bool.eq_iff_iff]; simp
theorem quad (a b c d : Bool) : a = false ∨ (a = true ∧ b = false) ∨ (a = true ∧ b = true ∧ c = false) ∨ (a = true ∧ b = true ∧ c = true ∧ d = false) ∨ (a = true ∧ b = true ∧ c = true ∧ d = true) := by
  cases a <;> cases b <;> cases c <;> cases d <;> simp
theorem ret_two {a b : Bool} (h : a = b) : Ending.returned (.tuple #[.bool a, .bool true]) = .returned (.tuple #[.bool ((some b).getD false), .bool (some b).isSome]) := by rw [h]; rfl
end Go.Proofs.Ytjdffjnennodaaa
namespace Go.Proofs.Ytjdffjnennodaaa
set_option linter.unusedSimpArgs false
set_option linter.unusedVariables false
set_option linter.unnecessarySimpa false
set_option maxRecDepth 200000
open Go.ChangeShapes Go.WideShapes Go.ChangeAt Go.RowKit

theorem pow_5n {m : Nat} (h : m ≤ 5) : (2 : Nat) ^ m ≤ 32 := by
  have : (2 : Nat) ^ m ≤ 2 ^ 5 := Nat.pow_le_pow_right (by omega) h
  omega
set_option maxHeartbeats 16000000 in
theorem spec_l7Before_any (m : Nat) (X Z : List PN) (P : PN) (p0 px pz : Int) (v0 v1 : Value) (w : World) (S : Sym m X Z) (hP : P.x < 2 ^ m ∧ P.z < 2 ^ m) (hp : P.p = 0) (e0 : p0 = (P.p : Int)) (ex : px = (P.x : Int)) (ez : pz = (P.z : Int)) (h0 : RdE w v0 E3.cs 3 (pes X)) (h1 : RdE w v1 E3.cs 3 (pes Z)) :
    Calls Try.prog 55 #[.agg #[.int .i64 (m : Int), v0, v1], .agg #[.int .i64 p0, .int .i64 px, .int .i64 pz]] w fun e w' => e = .returned (.agg #[.int .i64 ((invN X Z m P).p : Int), .int .i64 ((invN X Z m P).x : Int), .int .i64 ((invN X Z m P).z : Int)]) ∧ Below w.heap.size w w' := by
  have HK0 := Lib.hid h0; have HK1 := Lib.hid h1
  obtain ⟨A, cA, rfl, _⟩ := pes_at h0
  obtain ⟨A2, cB, rfl, _⟩ := pes_at h1
  rw [S.lx] at HK0 ⊢; rw [S.lz] at HK1 ⊢
  have m5 := S.m5
  have m1 := S.m1
  have HS := Lib.hid S
  have q32 := pow_5n m5
  obtain ⟨Q, hQ⟩ : ∃ Q, Q = 2 ^ m := ⟨_, rfl⟩
  have HQ := Lib.hid hQ
  have hQi : (2 : Int) ^ m = (Q : Int) := by rw [hQ]; simp
  have HPL := Lib.hid hP
  have Hpx := Lib.hid ex; have Hpz := Lib.hid ez
  obtain rfl : p0 = 0 := by rw [e0, hp]; rfl
  have qx : preB Z P m < Q := by rw [hQ]; exact preB_lt _ _ _
  have qz : preB X P m < Q := by rw [hQ]; exact preB_lt _ _ _
  rw [← hQ] at q32
  obtain ⟨p1, p2⟩ := pow_small5 m5
  clear h0 h1 S hP hp e0 ex ez hQ
  go_enter Try.func55, Try.ntmps55
  go_wp2_with fail
  obtain ⟨W0, hW0⟩ : ∃ W0, W0 = (((w.alloc (.cells #[.int .i64 (m : Int), .slice A m cA, .slice A2 m cB] 30)).alloc (.cells #[.int .i64 0, .int .i64 px, .int .i64 pz] 62)).alloc (.cells #[.int .i64 0, .int .i64 0, .int .i64 0] 62)) := ⟨_, rfl⟩
  have BW := Lib.hid (show Below w.heap.size w W0 from by rw [hW0]; exact (by repeat (first | exact Below.refl _ _ | assumption | refine Below.drew ?_ | refine below_drewN ?_ _ | refine Below.alloc ?_ (by first | omega | (simp <;> omega)) _ | refine Below.setCell ?_ (by first | omega | (simp <;> omega)) _ | refine Below.trans ?_ (Below.mono (by assumption) (by first | omega | (simp <;> omega))))))
  have SW := Lib.hid (show W0.heap.size = w.heap.size + 3 from by rw [hW0]; simp)
  have T0 := Lib.hid (show W0.cell? ⟨w.heap.size, 0, none⟩ = some (.int .i64 (m : Int)) from by rw [hW0]; exact (by repeat (first | (refine Eq.trans (World.cell?_alloc_at _ _ _ _ ?hh) ?_; (case hh => (simp; done)); rfl) | refine cell_alloc_keep _ ?_)))
  have T1 := Lib.hid (show W0.cell? ⟨w.heap.size, 1, none⟩ = some (.slice A m cA) from by rw [hW0]; exact (by repeat (first | (refine Eq.trans (World.cell?_alloc_at _ _ _ _ ?hh) ?_; (case hh => (simp; done)); rfl) | refine cell_alloc_keep _ ?_)))
  have T2 := Lib.hid (show W0.cell? ⟨w.heap.size, 2, none⟩ = some (.slice A2 m cB) from by rw [hW0]; exact (by repeat (first | (refine Eq.trans (World.cell?_alloc_at _ _ _ _ ?hh) ?_; (case hh => (simp; done)); rfl) | refine cell_alloc_keep _ ?_)))
  have S0 := Lib.hid (show W0.cell? ⟨w.heap.size + 1, 0, none⟩ = some (.int .i64 0) from by rw [hW0]; exact (by repeat (first | (refine Eq.trans (World.cell?_alloc_at _ _ _ _ ?hh) ?_; (case hh => (simp; done)); rfl) | refine cell_alloc_keep _ ?_)))
  have S1 := Lib.hid (show W0.cell? ⟨w.heap.size + 1, 1, none⟩ = some (.int .i64 px) from by rw [hW0]; exact (by repeat (first | (refine Eq.trans (World.cell?_alloc_at _ _ _ _ ?hh) ?_; (case hh => (simp; done)); rfl) | refine cell_alloc_keep _ ?_)))
  have S2 := Lib.hid (show W0.cell? ⟨w.heap.size + 1, 2, none⟩ = some (.int .i64 pz) from by rw [hW0]; exact (by repeat (first | (refine Eq.trans (World.cell?_alloc_at _ _ _ _ ?hh) ?_; (case hh => (simp; done)); rfl) | refine cell_alloc_keep _ ?_)))
  have R0 := Lib.hid (show W0.cell? ⟨w.heap.size + 1 + 1, 0, none⟩ = some (.int .i64 0) from by rw [hW0]; exact (by repeat (first | (refine Eq.trans (World.cell?_alloc_at _ _ _ _ ?hh) ?_; (case hh => (simp; done)); rfl) | refine cell_alloc_keep _ ?_)))
  have R1 := Lib.hid (show W0.cell? ⟨w.heap.size + 1 + 1, 1, none⟩ = some (.int .i64 0) from by rw [hW0]; exact (by repeat (first | (refine Eq.trans (World.cell?_alloc_at _ _ _ _ ?hh) ?_; (case hh => (simp; done)); rfl) | refine cell_alloc_keep _ ?_)))
  have R2 := Lib.hid (show W0.cell? ⟨w.heap.size + 1 + 1, 2, none⟩ = some (.int .i64 0) from by rw [hW0]; exact (by repeat (first | (refine Eq.trans (World.cell?_alloc_at _ _ _ _ ?hh) ?_; (case hh => (simp; done)); rfl) | refine cell_alloc_keep _ ?_)))
  have Q0 := Lib.hid (show W0.frozen? ⟨w.heap.size + 1 + 1, 0, none⟩ = false from by rw [hW0]; exact (by repeat (first | (refine World.frozen?_alloc_at _ _ _ _ ?hh; case hh => (simp; done)) | (refine frozen_alloc_lt _ ?hh ?_; case hh => first | omega | (simp <;> omega)))))
  have Q1 := Lib.hid (show W0.frozen? ⟨w.heap.size + 1 + 1, 1, none⟩ = false from by rw [hW0]; exact (by repeat (first | (refine World.frozen?_alloc_at _ _ _ _ ?hh; case hh => (simp; done)) | (refine frozen_alloc_lt _ ?hh ?_; case hh => first | omega | (simp <;> omega)))))
  have Q2 := Lib.hid (show W0.frozen? ⟨w.heap.size + 1 + 1, 2, none⟩ = false from by rw [hW0]; exact (by repeat (first | (refine World.frozen?_alloc_at _ _ _ _ ?hh; case hh => (simp; done)) | (refine frozen_alloc_lt _ ?hh ?_; case hh => first | omega | (simp <;> omega)))))
  rw [← hW0]
  clear hW0
  go_loopw [5] (fun i wr => ∃ x : Nat, x ≤ preB Z P m ∧ i = .int .i64 x ∧ Hid (Below W0.heap.size W0 wr)) (fun i _ => Q - (intOf i).toNat)
  case atStart => exact ⟨0, Nat.zero_le _, rfl, (show Below _ _ _ from Below.refl _ _)⟩
  case round =>
    obtain ⟨x, hx, rfl, hbel⟩ := hrel
    have swo : w.heap.size + 3 ≤ W0.heap.size := by have := SW.out; omega
    have t0 := below_cell hbel.out rfl T0.out
    have i1 : (x : Int) < (Q : Int) := by omega
    obtain ⟨wo, rfl⟩ : ∃ wo : World, wo = wr := ⟨_, rfl⟩
    go_wp2_with fail
    clear t0 i1
    go_loopw [6] (fun i wr => ∃ z : Nat, z ≤ Q ∧ (x < preB Z P m ∨ z ≤ preB X P m) ∧ i = .int .i64 z ∧ Hid (Below W0.heap.size W0 wr)) (fun i _ => Q - (intOf i).toNat)
    case atStart => exact ⟨0, Nat.zero_le _, .inr (Nat.zero_le _), rfl, hbel.out⟩
    case round =>
      clear hbel
      obtain ⟨z, hz, hor, rfl, hbel⟩ := hrel
      have Hor := Lib.hid hor; clear hor
      have t0 := below_cell hbel.out rfl T0.out
      have t1 := below_cell hbel.out rfl T1.out
      have t2 := below_cell hbel.out rfl T2.out
      have s0 := below_cell hbel.out rfl S0.out
      have s1 := below_cell hbel.out rfl S1.out
      have s2 := below_cell hbel.out rfl S2.out
      have bw := Lib.hid (show Below w.heap.size w wr from Below.trans BW.out (hbel.out.mono (by omega)))
      have zr := hbel.out.size
      by_cases hlt : z < Q
      · have i1 : (z : Int) < (Q : Int) := by omega
        have hx2 : x < 2 ^ m := by rw [← HQ.out]; omega
        have hz2 : z < 2 ^ m := by rw [← HQ.out]; omega
        have HX2 := Lib.hid hx2; have HZ2 := Lib.hid hz2; clear hx2 hz2
        have RA := Lib.hid (Rd.below HK0.out bw.out rfl); have RB := Lib.hid (Rd.below HK1.out bw.out rfl)
        have OO := Lib.hid (show PNok ⟨0, x, z⟩ from ⟨by simp, by dsimp only; omega, by dsimp only; omega⟩)
        go_wp2_with fail
        refine (spec_l7Image_any m X Z ⟨0, x, z⟩ _ _ _ m5 HS.out.lx HS.out.lz HS.out.ltx.ok HS.out.ltz.ok OO.out RA.out RB.out).mono ?_; rintro e w2 ⟨rfl, hb2⟩
        rw [img_same X Z (p := ⟨0, x, z⟩) (by simp) HX2.out (by omega)]
        have HEV := Lib.hid (HS.out.img_even (z := z) HX2.out)
        have HY := Lib.hid (HS.out.okN ⟨0, x, z⟩ m)
        have HON := Lib.hid (fun a b => HS.out.only (p := P) HX2.out HZ2.out a b)
        have HEX := Lib.hid (HS.out.exists HPL.out)
        replace t0 := below_cell hb2 rfl t0; replace t1 := below_cell hb2 rfl t1; replace t2 := below_cell hb2 rfl t2
        replace s0 := below_cell hb2 rfl s0; replace s1 := below_cell hb2 rfl s1; replace s2 := below_cell hb2 rfl s2
        have y2 := hb2.size
        replace hbel := Lib.hid (show Below W0.heap.size W0 w2 from Below.trans hbel.out (hb2.mono zr))
        clear hb2 bw RA RB OO
        by_cases hm : (imgN X Z ⟨0, x, z⟩ m).x = P.x ∧ (imgN X Z ⟨0, x, z⟩ m).z = P.z
        · have HR : Hid (invN X Z m P = ⟨(imgN X Z ⟨0, x, z⟩ m).p, x, z⟩) := by
            show _ = _
            obtain ⟨a, b⟩ := HON.out hm.1 hm.2
            unfold invN; rw [← a, ← b]
          obtain ⟨Y, hY⟩ : ∃ Y, Y = imgN X Z ⟨0, x, z⟩ m := ⟨_, rfl⟩
          rw [← hY] at hm HR HEV HY ⊢
          clear hY HON HEX
          have hyp : Y.p = 0 ∨ Y.p = 2 := by have := HEV.out; have := HY.out.p; omega
          obtain ⟨yx, hyx⟩ : ∃ t : Int, t = (Y.x : Int) := ⟨_, rfl⟩
          obtain ⟨yz, hyz⟩ : ∃ t : Int, t = (Y.z : Int) := ⟨_, rfl⟩
          have q1 : (yx == px) = true := by rw [hyx, Hpx.out, hm.1]; simp
          have q2 : (yz == pz) = true := by rw [hyz, Hpz.out, hm.2]; simp
          rw [← hyx, ← hyz]
          have HPP := Lib.hid hyp
          obtain ⟨yp, hyy⟩ : ∃ t : Int, t = (Y.p : Int) := ⟨_, rfl⟩
          rw [← hyy]
          have hyp2 : yp = 0 ∨ yp = 2 := by omega
          have HYP := Lib.hid hyy
          clear hm hyx hyz hyp hyy
          have r0 := below_cell hbel.out rfl R0.out; have r1 := below_cell hbel.out rfl R1.out; have r2 := below_cell hbel.out rfl R2.out
          have u0 := below_frz hbel.out rfl (by omega) Q0.out; have u1 := below_frz hbel.out rfl (by omega) Q1.out; have u2 := below_frz hbel.out rfl (by omega) Q2.out
          have bq : Below w.heap.size w w2 := Below.trans BW.out (hbel.out.mono (by omega))
          rcases hyp2 with h9 | h9
          · rw [h9] at HYP ⊢
            have ss1 := cell_alloc_keep (.cells #[.int .i64 0, .int .i64 yx, .int .i64 yz] 62) s1; have ss2 := cell_alloc_keep (.cells #[.int .i64 0, .int .i64 yx, .int .i64 yz] 62) s2; have ss0 := cell_alloc_keep (.cells #[.int .i64 0, .int .i64 yx, .int .i64 yz] 62) s0
            have rr0 := cell_alloc_keep (.cells #[.int .i64 0, .int .i64 yx, .int .i64 yz] 62) r0
            have rr1 := cell_alloc_keep (.cells #[.int .i64 0, .int .i64 yx, .int .i64 yz] 62) r1
            have rr2 := cell_alloc_keep (.cells #[.int .i64 0, .int .i64 yx, .int .i64 yz] 62) r2
            have uu0 := frozen_alloc_keep (.cells #[.int .i64 0, .int .i64 yx, .int .i64 yz] 62) r0 u0
            have uu1 := frozen_alloc_keep (.cells #[.int .i64 0, .int .i64 yx, .int .i64 yz] 62) r1 u1
            have uu2 := frozen_alloc_keep (.cells #[.int .i64 0, .int .i64 yx, .int .i64 yz] 62) r2 u2
            have hZ := box_set3 (nb := w.heap.size + 1 + 1) (.int .i64 0) (.int .i64 (x : Int)) (.int .i64 (z : Int)) rr0 rr1 rr2
            have HE := Lib.hid (show (Y.p : Int) = 0 from by have := HYP.out; omega)
            clear h9
            go_wp2_with fail
            refine bodyPost_ret (v := .agg #[.int .i64 0, .int .i64 (x : Int), .int .i64 (z : Int)]) (by simp [results, Try.results55, go_sem, hZ]) rfl ⟨by rw [HR.out]; dsimp only; rw [HE.out], (by repeat (first | exact Below.refl _ _ | assumption | refine Below.drew ?_ | refine below_drewN ?_ _ | refine Below.alloc ?_ (by first | omega | (simp <;> omega)) _ | refine Below.setCell ?_ (by first | omega | (simp <;> omega)) _ | refine Below.trans ?_ (Below.mono (by assumption) (by first | omega | (simp <;> omega)))))⟩
          · rw [h9] at HYP ⊢
            have ss1 := cell_alloc_keep (.cells #[.int .i64 2, .int .i64 yx, .int .i64 yz] 62) s1; have ss2 := cell_alloc_keep (.cells #[.int .i64 2, .int .i64 yx, .int .i64 yz] 62) s2; have ss0 := cell_alloc_keep (.cells #[.int .i64 2, .int .i64 yx, .int .i64 yz] 62) s0
            have rr0 := cell_alloc_keep (.cells #[.int .i64 2, .int .i64 yx, .int .i64 yz] 62) r0
            have rr1 := cell_alloc_keep (.cells #[.int .i64 2, .int .i64 yx, .int .i64 yz] 62) r1
            have rr2 := cell_alloc_keep (.cells #[.int .i64 2, .int .i64 yx, .int .i64 yz] 62) r2
            have uu0 := frozen_alloc_keep (.cells #[.int .i64 2, .int .i64 yx, .int .i64 yz] 62) r0 u0
            have uu1 := frozen_alloc_keep (.cells #[.int .i64 2, .int .i64 yx, .int .i64 yz] 62) r1 u1
            have uu2 := frozen_alloc_keep (.cells #[.int .i64 2, .int .i64 yx, .int .i64 yz] 62) r2 u2
            have hZ := box_set3 (nb := w.heap.size + 1 + 1) (.int .i64 2) (.int .i64 (x : Int)) (.int .i64 (z : Int)) rr0 rr1 rr2
            have HE := Lib.hid (show (Y.p : Int) = 2 from by have := HYP.out; omega)
            clear h9
            go_wp2_with fail
            refine bodyPost_ret (v := .agg #[.int .i64 2, .int .i64 (x : Int), .int .i64 (z : Int)]) (by simp [results, Try.results55, go_sem, hZ]) rfl ⟨by rw [HR.out]; dsimp only; rw [HE.out], (by repeat (first | exact Below.refl _ _ | assumption | refine Below.drew ?_ | refine below_drewN ?_ _ | refine Below.alloc ?_ (by first | omega | (simp <;> omega)) _ | refine Below.setCell ?_ (by first | omega | (simp <;> omega)) _ | refine Below.trans ?_ (Below.mono (by assumption) (by first | omega | (simp <;> omega)))))⟩
        · have HNX := Lib.hid (show x < preB Z P m ∨ z + 1 ≤ preB X P m from by
            rcases Hor.out with h | h
            · exact .inl h
            · by_cases h7 : x = preB Z P m
              · by_cases h8 : z = preB X P m
                · exact absurd (by rw [h7, h8]; exact HEX.out) hm
                · exact .inr (by omega)
              · exact .inl (by omega))
          obtain ⟨Y, hY⟩ : ∃ Y, Y = imgN X Z ⟨0, x, z⟩ m := ⟨_, rfl⟩
          rw [← hY] at hm ⊢
          clear hY HON HEX HEV HY
          obtain ⟨yx, hyx⟩ : ∃ t : Int, t = (Y.x : Int) := ⟨_, rfl⟩
          obtain ⟨yz, hyz⟩ : ∃ t : Int, t = (Y.z : Int) := ⟨_, rfl⟩
          have q1 : (yx == px) = false ∨ ((yx == px) = true ∧ (yz == pz) = false) := by
            by_cases h7 : Y.x = P.x
            · have h8 : ¬ Y.z = P.z := fun h => hm ⟨h7, h⟩
              refine .inr ⟨by rw [hyx, Hpx.out, h7]; simp, by rw [hyz, Hpz.out]; simp; omega⟩
            · exact .inl (by rw [hyx, Hpx.out]; simp; omega)
          rw [← hyx, ← hyz]
          clear hm hyx hyz
          have ss1 := cell_alloc_keep (.cells #[.int .i64 (Y.p : Int), .int .i64 yx, .int .i64 yz] 62) s1; have ss2 := cell_alloc_keep (.cells #[.int .i64 (Y.p : Int), .int .i64 yx, .int .i64 yz] 62) s2
          rcases q1 with q1 | ⟨q1, q2⟩
          all_goals
            go_wp2_with fail
            go_roundw
            case rel => exact ⟨z + 1, by omega, HNX.out, by go_num, (show Below _ _ _ from Below.trans hbel.out (show Below W0.heap.size w2 _ from Below.alloc (Below.refl _ _) (by omega) _))⟩
            case measure => simp [intOf]; omega
      · have hx3 : x < preB Z P m := by rcases Hor.out with h | h <;> omega
        have i1 : ¬ (z : Int) < (Q : Int) := by omega
        go_wp2_with fail
        go_roundw
        case rel => exact ⟨x + 1, by omega, by go_num, hbel⟩
        case measure => simp [intOf]; omega
end Go.Proofs.Ytjdffjnennodaaa
