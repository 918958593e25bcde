/- Two tableaux, one after the other: ComposeTableaux in the program and in the reference. -/
import Derived.Test.YtpeodfiapofagaaComp2
import Derived.Test.YtpeodfiapofagaaImg3
import Derived.Test.YtpeodfiapofagaaTab3a
namespace Go.Proofs.Ytpeodfiapofagaa
set_option linter.unusedSimpArgs false
set_option linter.unusedVariables false
set_option linter.unnecessarySimpa false
set_option maxRecDepth 200000
open Go.ChangeShapes Go.WideShapes Go.ChangeAt Go.RowKit

noncomputable def cmpG (d1 d2 : Tab) : Option Tab := if TabOk d1 ∧ TabOk d2 ∧ d1.n = d2.n then some ⟨d1.n, pes (compL imgN (d2.xs.map tn) (d2.zs.map tn) d1.n.toNat (d1.xs.map tn)), pes (compL imgN (d2.xs.map tn) (d2.zs.map tn) d1.n.toNat (d1.zs.map tn))⟩ else none
theorem cmpG_some {d1 d2 : Tab} (h1 : TabOk d1) (h2 : TabOk d2) (h3 : d1.n = d2.n) : cmpG d1 d2 = some ⟨d1.n, pes (compL imgN (d2.xs.map tn) (d2.zs.map tn) d1.n.toNat (d1.xs.map tn)), pes (compL imgN (d2.xs.map tn) (d2.zs.map tn) d1.n.toNat (d1.zs.map tn))⟩ := if_pos ⟨h1, h2, h3⟩
theorem cmpG_len (d1 d2 : Tab) : ((cmpG d1 d2).getD Tab.zero).xs.length ≤ 1000000 ∧ ((cmpG d1 d2).getD Tab.zero).zs.length ≤ 1000000 := by
  unfold cmpG; split
  · next h =>
    obtain ⟨⟨a1, a2⟩, a3, a4, _⟩ := h.1
    simp [pes, compL]; omega
  · simp [Tab.zero]
theorem compL_same {n : Nat} {X Z : List PN} (hn : n ≤ 5) {L : List PN} (h : PLok L) (hl : ∀ a ∈ L, a.x < 2 ^ n) : compL imgS X Z n L = compL imgN X Z n L := by
  unfold compL
  apply List.map_congr_left
  intro a ha
  exact img_same X Z (h.all a ha).p (hl a ha) (by omega)
theorem tab_lt {d : Tab} {m : Nat} (h : TabOk d) (hm : d.n = (m : Int)) : (∀ a ∈ d.xs.map tn, a.x < 2 ^ m) ∧ (∀ a ∈ d.zs.map tn, a.x < 2 ^ m) := by
  obtain ⟨⟨h1, h2⟩, h3, h4, h5, _⟩ := h
  constructor
  · intro a ha
    obtain ⟨g, hg, rfl⟩ := List.mem_map.1 ha
    obtain ⟨i, hi, rfl⟩ := List.mem_iff_getElem.1 hg
    have h6 := (h5 i (by omega)).1
    have e : (d.xs ++ d.zs).getD i ⟨0, 0, 0⟩ = d.xs[i] := by simp [List.getD, List.getElem?_append_left hi, hi]
    rw [e] at h6
    exact pau_lt (by omega) h6 hm rfl
  · intro a ha
    obtain ⟨g, hg, rfl⟩ := List.mem_map.1 ha
    obtain ⟨i, hi, rfl⟩ := List.mem_iff_getElem.1 hg
    have h6 := (h5 (d.xs.length + i) (by omega)).1
    have e : (d.xs ++ d.zs).getD (d.xs.length + i) ⟨0, 0, 0⟩ = d.zs[i] := by simp [List.getD, List.getElem?_append_right, hi]
    rw [e] at h6
    exact pau_lt (by omega) h6 hm rfl
set_option maxHeartbeats 4000000 in
theorem spec_ComposeTableaux_any (d1 d2 : Tab) (v0 v1 u0 u1 : Value) (w : World) (h0 : RdE w v0 E3.cs 3 d1.xs) (h1 : RdE w v1 E3.cs 3 d1.zs) (k0 : RdE w u0 E3.cs 3 d2.xs) (k1 : RdE w u1 E3.cs 3 d2.zs) (n0 : d1.xs.length ≤ 1048576) (n1 : d1.zs.length ≤ 1048576) (m0 : d2.xs.length ≤ 1048576) (m1 : d2.zs.length ≤ 1048576) :
    Calls Try.prog 22 #[.agg #[.int .i64 d1.n, v0, v1], .agg #[.int .i64 d2.n, u0, u1]] w (TabPost w (cmpG d1 d2)) := by
  have H0 := Lib.hid h0; have H1 := Lib.hid h1; have K0 := Lib.hid k0; have K1 := Lib.hid k1
  obtain ⟨A, c, rfl, _⟩ := h0.form
  obtain ⟨A2, c2, rfl, _⟩ := h1.form
  obtain ⟨C, c3, rfl, _⟩ := k0.form
  obtain ⟨C2, c4, rfl, _⟩ := k1.form
  clear h0 h1 k0 k1
  by_cases ht : TabOk d1
  · have HT1 := Lib.hid (show tabB d1 = true from decide_eq_true ht)
    by_cases ht2 : TabOk d2
    · have HT2 := Lib.hid (show tabB d2 = true from decide_eq_true ht2)
      by_cases hn : d1.n = d2.n
      · have HG := Lib.hid (cmpG_some ht ht2 hn)
        obtain ⟨m, hm, q1, q5, ex, ez, lx, lz, okx, okz⟩ := ht.parts
        obtain ⟨m2, hm2, _, _, fx, fz, kx, kz, pkx, pkz⟩ := ht2.parts
        obtain rfl : m2 = m := by omega
        have RX := Lib.hid (show RdE w (.slice A d1.xs.length c) E3.cs 3 (pes (d1.xs.map tn)) from by rw [← ex]; exact H0.out)
        have RZ := Lib.hid (show RdE w (.slice A2 d1.zs.length c2) E3.cs 3 (pes (d1.zs.map tn)) from by rw [← ez]; exact H1.out)
        have SX := Lib.hid (show RdE w (.slice C d2.xs.length c3) E3.cs 3 (pes (d2.xs.map tn)) from by rw [← fx]; exact K0.out)
        have SZ := Lib.hid (show RdE w (.slice C2 d2.zs.length c4) E3.cs 3 (pes (d2.zs.map tn)) from by rw [← fz]; exact K1.out)
        have HLX := Lib.hid lx; have HLZ := Lib.hid lz; have HOX := Lib.hid okx; have HOZ := Lib.hid okz
        have HKX := Lib.hid kx; have HKZ := Lib.hid kz; have HPX := Lib.hid pkx; have HPZ := Lib.hid pkz
        have hd : (d1.n != d2.n) = false := by simpa using hn
        have HM := Lib.hid hm; have HM2 := Lib.hid hm2
        have SA := Lib.hid (compL_same (n := m2) (X := d2.xs.map tn) (Z := d2.zs.map tn) q5 (L := d1.xs.map tn) okx (tab_lt ht hm).1)
        have SB := Lib.hid (compL_same (n := m2) (X := d2.xs.map tn) (Z := d2.zs.map tn) q5 (L := d1.zs.map tn) okz (tab_lt ht hm).2)
        rw [hm] at HG
        rw [Int.toNat_natCast] at HG
        clear hm hm2 ex ez lx lz okx okz fx fz kx kz pkx pkz ht ht2 hn
        go_enter Try.func22, Try.ntmps22
        go_wp2_with fail
        refine (spec_l7Good_any d1 _ _ _ (Rd.below H0.out (show Below w.heap.size w _ from (by repeat (first | exact Below.refl _ _ | assumption | refine Below.drew ?_ | refine below_drewN ?_ _ | refine Below.alloc ?_ (by first | omega | (simp <;> omega)) _ | refine Below.setCell ?_ (by first | omega | (simp <;> omega)) _ | refine Below.trans ?_ (Below.mono (by assumption) (by first | omega | (simp <;> omega)))))) rfl) (Rd.below H1.out (show Below w.heap.size w _ from (by repeat (first | exact Below.refl _ _ | assumption | refine Below.drew ?_ | refine below_drewN ?_ _ | refine Below.alloc ?_ (by first | omega | (simp <;> omega)) _ | refine Below.setCell ?_ (by first | omega | (simp <;> omega)) _ | refine Below.trans ?_ (Below.mono (by assumption) (by first | omega | (simp <;> omega)))))) rfl) n0 n1).mono ?_; rintro e w1 ⟨rfl, hb1⟩; rw [HT1.out]
        have r0 : w1.cell? ⟨w.heap.size + 1 + 1, 0, none⟩ = some (.int .i64 0) := below_cell hb1 rfl (by repeat (first | (refine Eq.trans (World.cell?_alloc_at _ _ _ _ ?hh) ?_; (case hh => (simp; done)); rfl) | refine cell_alloc_keep _ ?_))
        have r1 : w1.cell? ⟨w.heap.size + 1 + 1, 1, none⟩ = some (.slice none 0 0) := below_cell hb1 rfl (by repeat (first | (refine Eq.trans (World.cell?_alloc_at _ _ _ _ ?hh) ?_; (case hh => (simp; done)); rfl) | refine cell_alloc_keep _ ?_))
        have r2 : w1.cell? ⟨w.heap.size + 1 + 1, 2, none⟩ = some (.slice none 0 0) := below_cell hb1 rfl (by repeat (first | (refine Eq.trans (World.cell?_alloc_at _ _ _ _ ?hh) ?_; (case hh => (simp; done)); rfl) | refine cell_alloc_keep _ ?_))
        obtain ⟨hc_hb1, hf_hb1⟩ := bcell hb1; have hz_hb1 := hb1.size; (try simp at hz_hb1); have hs0_hb1 : w.heap.size < w1.heap.size := (by omega); have hs1_hb1 : w.heap.size + 1 < w1.heap.size := (by omega); have hs2_hb1 : w.heap.size + 1 + 1 < w1.heap.size := (by omega)
        go_wp2_with fail
        refine (spec_l7Good_any d2 _ _ _ (Rd.below K0.out (show Below w.heap.size w _ from (by repeat (first | exact Below.refl _ _ | assumption | refine Below.drew ?_ | refine below_drewN ?_ _ | refine Below.alloc ?_ (by first | omega | (simp <;> omega)) _ | refine Below.setCell ?_ (by first | omega | (simp <;> omega)) _ | refine Below.trans ?_ (Below.mono (by assumption) (by first | omega | (simp <;> omega)))))) rfl) (Rd.below K1.out (show Below w.heap.size w _ from (by repeat (first | exact Below.refl _ _ | assumption | refine Below.drew ?_ | refine below_drewN ?_ _ | refine Below.alloc ?_ (by first | omega | (simp <;> omega)) _ | refine Below.setCell ?_ (by first | omega | (simp <;> omega)) _ | refine Below.trans ?_ (Below.mono (by assumption) (by first | omega | (simp <;> omega)))))) rfl) m0 m1).mono ?_; rintro e w2 ⟨rfl, hb2⟩; rw [HT2.out]
        replace r0 := below_cell hb2 rfl r0
        replace r1 := below_cell hb2 rfl r1
        replace r2 := below_cell hb2 rfl r2
        obtain ⟨hc_hb2, hf_hb2⟩ := bcell hb2; have hz_hb2 := hb2.size; (try simp at hz_hb2); have hs0_hb2 : w.heap.size < w2.heap.size := (by omega); have hs1_hb2 : w.heap.size + 1 < w2.heap.size := (by omega); have hs2_hb2 : w.heap.size + 1 + 1 < w2.heap.size := (by omega)
        go_wp2_with fail
        rw [HM.out, HM2.out]
        refine (spec_l7Then_any m2 (d1.xs.map tn) (d1.zs.map tn) (d2.xs.map tn) (d2.zs.map tn) _ _ _ _ _ q5 HLX.out HLZ.out HKX.out HKZ.out HOX.out HOZ.out HPX.out HPZ.out (Rd.below RX.out (show Below w.heap.size w w2 from (by repeat (first | exact Below.refl _ _ | assumption | refine Below.drew ?_ | refine below_drewN ?_ _ | refine Below.alloc ?_ (by first | omega | (simp <;> omega)) _ | refine Below.setCell ?_ (by first | omega | (simp <;> omega)) _ | refine Below.trans ?_ (Below.mono (by assumption) (by first | omega | (simp <;> omega)))))) rfl) (Rd.below RZ.out (show Below w.heap.size w w2 from (by repeat (first | exact Below.refl _ _ | assumption | refine Below.drew ?_ | refine below_drewN ?_ _ | refine Below.alloc ?_ (by first | omega | (simp <;> omega)) _ | refine Below.setCell ?_ (by first | omega | (simp <;> omega)) _ | refine Below.trans ?_ (Below.mono (by assumption) (by first | omega | (simp <;> omega)))))) rfl) (Rd.below SX.out (show Below w.heap.size w w2 from (by repeat (first | exact Below.refl _ _ | assumption | refine Below.drew ?_ | refine below_drewN ?_ _ | refine Below.alloc ?_ (by first | omega | (simp <;> omega)) _ | refine Below.setCell ?_ (by first | omega | (simp <;> omega)) _ | refine Below.trans ?_ (Below.mono (by assumption) (by first | omega | (simp <;> omega)))))) rfl) (Rd.below SZ.out (show Below w.heap.size w w2 from (by repeat (first | exact Below.refl _ _ | assumption | refine Below.drew ?_ | refine below_drewN ?_ _ | refine Below.alloc ?_ (by first | omega | (simp <;> omega)) _ | refine Below.setCell ?_ (by first | omega | (simp <;> omega)) _ | refine Below.trans ?_ (Below.mono (by assumption) (by first | omega | (simp <;> omega)))))) rfl)).mono ?_; rintro e w3 ⟨r3, r4, rfl, ho0, ho1, hap, hb3⟩
        rw [SA.out] at ho0; rw [SB.out] at ho1
        obtain ⟨a3, p3, rfl⟩ := own_form ho0
        obtain ⟨a4, p4, rfl⟩ := own_form ho1
        have HO0 := Lib.hid (OwnE.le ho0 (base' := w.heap.size + 3) (by omega)); have HO1 := Lib.hid (OwnE.le ho1 (base' := w.heap.size + 3) (by omega)); have HAP := Lib.hid hap
        clear ho0 ho1 hap
        replace r0 := below_cell hb3 rfl r0; replace r1 := below_cell hb3 rfl r1; replace r2 := below_cell hb3 rfl r2
        obtain ⟨hc_hb3, hf_hb3⟩ := bcell hb3; have hz_hb3 := hb3.size; (try simp at hz_hb3); have hs0_hb3 : w.heap.size < w3.heap.size := (by omega); have hs1_hb3 : w.heap.size + 1 < w3.heap.size := (by omega); have hs2_hb3 : w.heap.size + 1 + 1 < w3.heap.size := (by omega)
        generalize (pes (compL imgN (d2.xs.map tn) (d2.zs.map tn) m2 (d1.xs.map tn))) = PX at *
        generalize (pes (compL imgN (d2.xs.map tn) (d2.zs.map tn) m2 (d1.zs.map tn))) = PZ at *
        go_wp2_with fail
        have hZ := box_set3 (nb := w.heap.size + 1 + 1) (.int .i64 (m2 : Int)) (.slice a3 PX.length p3) (.slice a4 PZ.length p4) r0 r1 r2
        exact bodyPost_ret (v := .tuple #[.agg #[.int .i64 (m2 : Int), .slice a3 PX.length p3, .slice a4 PZ.length p4], .bool true]) (by simp [results, Try.results22, go_sem, hZ]) rfl (TabPost.some (t := ⟨(m2 : Int), PX, PZ⟩) HG.out (OwnE.le (OwnE.set (OwnE.set (OwnE.set HO0.out (by simp) _) (by simp) _) (by simp) _) (by omega)) (OwnE.le (OwnE.set (OwnE.set (OwnE.set HO1.out (by simp) _) (by simp) _) (by simp) _) (by omega)) HAP.out (by repeat (first | exact Below.refl _ _ | assumption | refine Below.drew ?_ | refine below_drewN ?_ _ | refine Below.alloc ?_ (by first | omega | (simp <;> omega)) _ | refine Below.setCell ?_ (by first | omega | (simp <;> omega)) _ | refine Below.trans ?_ (Below.mono (by assumption) (by first | omega | (simp <;> omega))))))
      · have HG := Lib.hid (show cmpG d1 d2 = none from if_neg fun k => hn k.2.2)
        have hd : (d1.n != d2.n) = true := by simpa using hn
        clear ht ht2 hn
        go_enter Try.func22, Try.ntmps22
        go_wp2_with fail
        refine (spec_l7Good_any d1 _ _ _ (Rd.below H0.out (show Below w.heap.size w _ from (by repeat (first | exact Below.refl _ _ | assumption | refine Below.drew ?_ | refine below_drewN ?_ _ | refine Below.alloc ?_ (by first | omega | (simp <;> omega)) _ | refine Below.setCell ?_ (by first | omega | (simp <;> omega)) _ | refine Below.trans ?_ (Below.mono (by assumption) (by first | omega | (simp <;> omega)))))) rfl) (Rd.below H1.out (show Below w.heap.size w _ from (by repeat (first | exact Below.refl _ _ | assumption | refine Below.drew ?_ | refine below_drewN ?_ _ | refine Below.alloc ?_ (by first | omega | (simp <;> omega)) _ | refine Below.setCell ?_ (by first | omega | (simp <;> omega)) _ | refine Below.trans ?_ (Below.mono (by assumption) (by first | omega | (simp <;> omega)))))) rfl) n0 n1).mono ?_; rintro e w1 ⟨rfl, hb1⟩; rw [HT1.out]
        have r0 : w1.cell? ⟨w.heap.size + 1 + 1, 0, none⟩ = some (.int .i64 0) := below_cell hb1 rfl (by repeat (first | (refine Eq.trans (World.cell?_alloc_at _ _ _ _ ?hh) ?_; (case hh => (simp; done)); rfl) | refine cell_alloc_keep _ ?_))
        have r1 : w1.cell? ⟨w.heap.size + 1 + 1, 1, none⟩ = some (.slice none 0 0) := below_cell hb1 rfl (by repeat (first | (refine Eq.trans (World.cell?_alloc_at _ _ _ _ ?hh) ?_; (case hh => (simp; done)); rfl) | refine cell_alloc_keep _ ?_))
        have r2 : w1.cell? ⟨w.heap.size + 1 + 1, 2, none⟩ = some (.slice none 0 0) := below_cell hb1 rfl (by repeat (first | (refine Eq.trans (World.cell?_alloc_at _ _ _ _ ?hh) ?_; (case hh => (simp; done)); rfl) | refine cell_alloc_keep _ ?_))
        obtain ⟨hc_hb1, hf_hb1⟩ := bcell hb1; have hz_hb1 := hb1.size; (try simp at hz_hb1); have hs0_hb1 : w.heap.size < w1.heap.size := (by omega); have hs1_hb1 : w.heap.size + 1 < w1.heap.size := (by omega); have hs2_hb1 : w.heap.size + 1 + 1 < w1.heap.size := (by omega)
        go_wp2_with fail
        refine (spec_l7Good_any d2 _ _ _ (Rd.below K0.out (show Below w.heap.size w _ from (by repeat (first | exact Below.refl _ _ | assumption | refine Below.drew ?_ | refine below_drewN ?_ _ | refine Below.alloc ?_ (by first | omega | (simp <;> omega)) _ | refine Below.setCell ?_ (by first | omega | (simp <;> omega)) _ | refine Below.trans ?_ (Below.mono (by assumption) (by first | omega | (simp <;> omega)))))) rfl) (Rd.below K1.out (show Below w.heap.size w _ from (by repeat (first | exact Below.refl _ _ | assumption | refine Below.drew ?_ | refine below_drewN ?_ _ | refine Below.alloc ?_ (by first | omega | (simp <;> omega)) _ | refine Below.setCell ?_ (by first | omega | (simp <;> omega)) _ | refine Below.trans ?_ (Below.mono (by assumption) (by first | omega | (simp <;> omega)))))) rfl) m0 m1).mono ?_; rintro e w2 ⟨rfl, hb2⟩; rw [HT2.out]
        replace r0 := below_cell hb2 rfl r0
        replace r1 := below_cell hb2 rfl r1
        replace r2 := below_cell hb2 rfl r2
        obtain ⟨hc_hb2, hf_hb2⟩ := bcell hb2; have hz_hb2 := hb2.size; (try simp at hz_hb2); have hs0_hb2 : w.heap.size < w2.heap.size := (by omega); have hs1_hb2 : w.heap.size + 1 < w2.heap.size := (by omega); have hs2_hb2 : w.heap.size + 1 + 1 < w2.heap.size := (by omega)
        go_wp2_with fail
        have hZ := box_set3 (nb := w.heap.size + 1 + 1) (.int .i64 0) (.slice none 0 0) (.slice none 0 0) r0 r1 r2
        exact bodyPost_ret (v := .tuple #[.agg #[.int .i64 0, .slice none 0 0, .slice none 0 0], .bool false]) (by simp [results, Try.results22, go_sem, hZ]) rfl (TabPost.none HG.out (by repeat (first | exact Below.refl _ _ | assumption | refine Below.drew ?_ | refine below_drewN ?_ _ | refine Below.alloc ?_ (by first | omega | (simp <;> omega)) _ | refine Below.setCell ?_ (by first | omega | (simp <;> omega)) _ | refine Below.trans ?_ (Below.mono (by assumption) (by first | omega | (simp <;> omega))))))
    · have HT2 := Lib.hid (show tabB d2 = false from decide_eq_false ht2)
      have HG := Lib.hid (show cmpG d1 d2 = none from if_neg fun k => ht2 k.2.1)
      clear ht ht2
      go_enter Try.func22, Try.ntmps22
      go_wp2_with fail
      refine (spec_l7Good_any d1 _ _ _ (Rd.below H0.out (show Below w.heap.size w _ from (by repeat (first | exact Below.refl _ _ | assumption | refine Below.drew ?_ | refine below_drewN ?_ _ | refine Below.alloc ?_ (by first | omega | (simp <;> omega)) _ | refine Below.setCell ?_ (by first | omega | (simp <;> omega)) _ | refine Below.trans ?_ (Below.mono (by assumption) (by first | omega | (simp <;> omega)))))) rfl) (Rd.below H1.out (show Below w.heap.size w _ from (by repeat (first | exact Below.refl _ _ | assumption | refine Below.drew ?_ | refine below_drewN ?_ _ | refine Below.alloc ?_ (by first | omega | (simp <;> omega)) _ | refine Below.setCell ?_ (by first | omega | (simp <;> omega)) _ | refine Below.trans ?_ (Below.mono (by assumption) (by first | omega | (simp <;> omega)))))) rfl) n0 n1).mono ?_; rintro e w1 ⟨rfl, hb1⟩; rw [HT1.out]
      have r0 : w1.cell? ⟨w.heap.size + 1 + 1, 0, none⟩ = some (.int .i64 0) := below_cell hb1 rfl (by repeat (first | (refine Eq.trans (World.cell?_alloc_at _ _ _ _ ?hh) ?_; (case hh => (simp; done)); rfl) | refine cell_alloc_keep _ ?_))
      have r1 : w1.cell? ⟨w.heap.size + 1 + 1, 1, none⟩ = some (.slice none 0 0) := below_cell hb1 rfl (by repeat (first | (refine Eq.trans (World.cell?_alloc_at _ _ _ _ ?hh) ?_; (case hh => (simp; done)); rfl) | refine cell_alloc_keep _ ?_))
      have r2 : w1.cell? ⟨w.heap.size + 1 + 1, 2, none⟩ = some (.slice none 0 0) := below_cell hb1 rfl (by repeat (first | (refine Eq.trans (World.cell?_alloc_at _ _ _ _ ?hh) ?_; (case hh => (simp; done)); rfl) | refine cell_alloc_keep _ ?_))
      obtain ⟨hc_hb1, hf_hb1⟩ := bcell hb1; have hz_hb1 := hb1.size; (try simp at hz_hb1); have hs0_hb1 : w.heap.size < w1.heap.size := (by omega); have hs1_hb1 : w.heap.size + 1 < w1.heap.size := (by omega); have hs2_hb1 : w.heap.size + 1 + 1 < w1.heap.size := (by omega)
      go_wp2_with fail
      refine (spec_l7Good_any d2 _ _ _ (Rd.below K0.out (show Below w.heap.size w _ from (by repeat (first | exact Below.refl _ _ | assumption | refine Below.drew ?_ | refine below_drewN ?_ _ | refine Below.alloc ?_ (by first | omega | (simp <;> omega)) _ | refine Below.setCell ?_ (by first | omega | (simp <;> omega)) _ | refine Below.trans ?_ (Below.mono (by assumption) (by first | omega | (simp <;> omega)))))) rfl) (Rd.below K1.out (show Below w.heap.size w _ from (by repeat (first | exact Below.refl _ _ | assumption | refine Below.drew ?_ | refine below_drewN ?_ _ | refine Below.alloc ?_ (by first | omega | (simp <;> omega)) _ | refine Below.setCell ?_ (by first | omega | (simp <;> omega)) _ | refine Below.trans ?_ (Below.mono (by assumption) (by first | omega | (simp <;> omega)))))) rfl) m0 m1).mono ?_; rintro e w2 ⟨rfl, hb2⟩; rw [HT2.out]
      replace r0 := below_cell hb2 rfl r0
      replace r1 := below_cell hb2 rfl r1
      replace r2 := below_cell hb2 rfl r2
      obtain ⟨hc_hb2, hf_hb2⟩ := bcell hb2; have hz_hb2 := hb2.size; (try simp at hz_hb2); have hs0_hb2 : w.heap.size < w2.heap.size := (by omega); have hs1_hb2 : w.heap.size + 1 < w2.heap.size := (by omega); have hs2_hb2 : w.heap.size + 1 + 1 < w2.heap.size := (by omega)
      go_wp2_with fail
      have hZ := box_set3 (nb := w.heap.size + 1 + 1) (.int .i64 0) (.slice none 0 0) (.slice none 0 0) r0 r1 r2
      exact bodyPost_ret (v := .tuple #[.agg #[.int .i64 0, .slice none 0 0, .slice none 0 0], .bool false]) (by simp [results, Try.results22, go_sem, hZ]) rfl (TabPost.none HG.out (by repeat (first | exact Below.refl _ _ | assumption | refine Below.drew ?_ | refine below_drewN ?_ _ | refine Below.alloc ?_ (by first | omega | (simp <;> omega)) _ | refine Below.setCell ?_ (by first | omega | (simp <;> omega)) _ | refine Below.trans ?_ (Below.mono (by assumption) (by first | omega | (simp <;> omega))))))
  · have HT1 := Lib.hid (show tabB d1 = false from decide_eq_false ht)
    have HG := Lib.hid (show cmpG d1 d2 = none from if_neg fun k => ht k.1)
    clear ht
    go_enter Try.func22, Try.ntmps22
    go_wp2_with fail
    refine (spec_l7Good_any d1 _ _ _ (Rd.below H0.out (show Below w.heap.size w _ from (by repeat (first | exact Below.refl _ _ | assumption | refine Below.drew ?_ | refine below_drewN ?_ _ | refine Below.alloc ?_ (by first | omega | (simp <;> omega)) _ | refine Below.setCell ?_ (by first | omega | (simp <;> omega)) _ | refine Below.trans ?_ (Below.mono (by assumption) (by first | omega | (simp <;> omega)))))) rfl) (Rd.below H1.out (show Below w.heap.size w _ from (by repeat (first | exact Below.refl _ _ | assumption | refine Below.drew ?_ | refine below_drewN ?_ _ | refine Below.alloc ?_ (by first | omega | (simp <;> omega)) _ | refine Below.setCell ?_ (by first | omega | (simp <;> omega)) _ | refine Below.trans ?_ (Below.mono (by assumption) (by first | omega | (simp <;> omega)))))) rfl) n0 n1).mono ?_; rintro e w1 ⟨rfl, hb1⟩; rw [HT1.out]
    have r0 : w1.cell? ⟨w.heap.size + 1 + 1, 0, none⟩ = some (.int .i64 0) := below_cell hb1 rfl (by repeat (first | (refine Eq.trans (World.cell?_alloc_at _ _ _ _ ?hh) ?_; (case hh => (simp; done)); rfl) | refine cell_alloc_keep _ ?_))
    have r1 : w1.cell? ⟨w.heap.size + 1 + 1, 1, none⟩ = some (.slice none 0 0) := below_cell hb1 rfl (by repeat (first | (refine Eq.trans (World.cell?_alloc_at _ _ _ _ ?hh) ?_; (case hh => (simp; done)); rfl) | refine cell_alloc_keep _ ?_))
    have r2 : w1.cell? ⟨w.heap.size + 1 + 1, 2, none⟩ = some (.slice none 0 0) := below_cell hb1 rfl (by repeat (first | (refine Eq.trans (World.cell?_alloc_at _ _ _ _ ?hh) ?_; (case hh => (simp; done)); rfl) | refine cell_alloc_keep _ ?_))
    obtain ⟨hc_hb1, hf_hb1⟩ := bcell hb1; have hz_hb1 := hb1.size; (try simp at hz_hb1); have hs0_hb1 : w.heap.size < w1.heap.size := (by omega); have hs1_hb1 : w.heap.size + 1 < w1.heap.size := (by omega); have hs2_hb1 : w.heap.size + 1 + 1 < w1.heap.size := (by omega)
    go_wp2_with fail
    have hZ := box_set3 (nb := w.heap.size + 1 + 1) (.int .i64 0) (.slice none 0 0) (.slice none 0 0) r0 r1 r2
    exact bodyPost_ret (v := .tuple #[.agg #[.int .i64 0, .slice none 0 0, .slice none 0 0], .bool false]) (by simp [results, Try.results22, go_sem, hZ]) rfl (TabPost.none HG.out (by repeat (first | exact Below.refl _ _ | assumption | refine Below.drew ?_ | refine below_drewN ?_ _ | refine Below.alloc ?_ (by first | omega | (simp <;> omega)) _ | refine Below.setCell ?_ (by first | omega | (simp <;> omega)) _ | refine Below.trans ?_ (Below.mono (by assumption) (by first | omega | (simp <;> omega))))))
set_option maxHeartbeats 4000000 in
theorem impl_ComposeTableaux_any (d1 d2 : Tab) (v0 v1 u0 u1 : Value) (w : World) (h0 : RdE w v0 E3.cs 3 d1.xs) (h1 : RdE w v1 E3.cs 3 d1.zs) (k0 : RdE w u0 E3.cs 3 d2.xs) (k1 : RdE w u1 E3.cs 3 d2.zs) (n0 : d1.xs.length ≤ 1048576) (n1 : d1.zs.length ≤ 1048576) (m0 : d2.xs.length ≤ 1048576) (m1 : d2.zs.length ≤ 1048576) :
    Calls Try.prog 23 #[.agg #[.int .i64 d1.n, v0, v1], .agg #[.int .i64 d2.n, u0, u1]] w (TabPost w (cmpG d1 d2)) := by
  have H0 := Lib.hid h0; have H1 := Lib.hid h1; have K0 := Lib.hid k0; have K1 := Lib.hid k1
  obtain ⟨A, c, rfl, _⟩ := h0.form
  obtain ⟨A2, c2, rfl, _⟩ := h1.form
  obtain ⟨C, c3, rfl, _⟩ := k0.form
  obtain ⟨C2, c4, rfl, _⟩ := k1.form
  clear h0 h1 k0 k1
  by_cases ht : TabOk d1
  · have HT1 := Lib.hid (show tabB d1 = true from decide_eq_true ht)
    by_cases ht2 : TabOk d2
    · have HT2 := Lib.hid (show tabB d2 = true from decide_eq_true ht2)
      by_cases hn : d1.n = d2.n
      · have HG := Lib.hid (cmpG_some ht ht2 hn)
        obtain ⟨m, hm, q1, q5, ex, ez, lx, lz, okx, okz⟩ := ht.parts
        obtain ⟨m2, hm2, _, _, fx, fz, kx, kz, pkx, pkz⟩ := ht2.parts
        obtain rfl : m2 = m := by omega
        have RX := Lib.hid (show RdE w (.slice A d1.xs.length c) E3.cs 3 (pes (d1.xs.map tn)) from by rw [← ex]; exact H0.out)
        have RZ := Lib.hid (show RdE w (.slice A2 d1.zs.length c2) E3.cs 3 (pes (d1.zs.map tn)) from by rw [← ez]; exact H1.out)
        have SX := Lib.hid (show RdE w (.slice C d2.xs.length c3) E3.cs 3 (pes (d2.xs.map tn)) from by rw [← fx]; exact K0.out)
        have SZ := Lib.hid (show RdE w (.slice C2 d2.zs.length c4) E3.cs 3 (pes (d2.zs.map tn)) from by rw [← fz]; exact K1.out)
        have HLX := Lib.hid lx; have HLZ := Lib.hid lz; have HOX := Lib.hid okx; have HOZ := Lib.hid okz
        have HKX := Lib.hid kx; have HKZ := Lib.hid kz; have HPX := Lib.hid pkx; have HPZ := Lib.hid pkz
        have hd : (d1.n != d2.n) = false := by simpa using hn
        have HM := Lib.hid hm; have HM2 := Lib.hid hm2
        rw [hm] at HG
        rw [Int.toNat_natCast] at HG
        clear hm hm2 ex ez lx lz okx okz fx fz kx kz pkx pkz ht ht2 hn
        go_enter Try.func23, Try.ntmps23
        go_wp2_with fail
        refine (impl_IsValidTableau_any d1 _ _ _ (Rd.below H0.out (show Below w.heap.size w _ from (by repeat (first | exact Below.refl _ _ | assumption | refine Below.drew ?_ | refine below_drewN ?_ _ | refine Below.alloc ?_ (by first | omega | (simp <;> omega)) _ | refine Below.setCell ?_ (by first | omega | (simp <;> omega)) _ | refine Below.trans ?_ (Below.mono (by assumption) (by first | omega | (simp <;> omega)))))) rfl) (Rd.below H1.out (show Below w.heap.size w _ from (by repeat (first | exact Below.refl _ _ | assumption | refine Below.drew ?_ | refine below_drewN ?_ _ | refine Below.alloc ?_ (by first | omega | (simp <;> omega)) _ | refine Below.setCell ?_ (by first | omega | (simp <;> omega)) _ | refine Below.trans ?_ (Below.mono (by assumption) (by first | omega | (simp <;> omega)))))) rfl) n0 n1).mono ?_; rintro e w1 ⟨rfl, hb1⟩; rw [HT1.out]
        have r0 : w1.cell? ⟨w.heap.size + 1 + 1, 0, none⟩ = some (.int .i64 0) := below_cell hb1 rfl (by repeat (first | (refine Eq.trans (World.cell?_alloc_at _ _ _ _ ?hh) ?_; (case hh => (simp; done)); rfl) | refine cell_alloc_keep _ ?_))
        have r1 : w1.cell? ⟨w.heap.size + 1 + 1, 1, none⟩ = some (.slice none 0 0) := below_cell hb1 rfl (by repeat (first | (refine Eq.trans (World.cell?_alloc_at _ _ _ _ ?hh) ?_; (case hh => (simp; done)); rfl) | refine cell_alloc_keep _ ?_))
        have r2 : w1.cell? ⟨w.heap.size + 1 + 1, 2, none⟩ = some (.slice none 0 0) := below_cell hb1 rfl (by repeat (first | (refine Eq.trans (World.cell?_alloc_at _ _ _ _ ?hh) ?_; (case hh => (simp; done)); rfl) | refine cell_alloc_keep _ ?_))
        obtain ⟨hc_hb1, hf_hb1⟩ := bcell hb1; have hz_hb1 := hb1.size; (try simp at hz_hb1); have hs0_hb1 : w.heap.size < w1.heap.size := (by omega); have hs1_hb1 : w.heap.size + 1 < w1.heap.size := (by omega); have hs2_hb1 : w.heap.size + 1 + 1 < w1.heap.size := (by omega)
        go_wp2_with fail
        refine (impl_IsValidTableau_any d2 _ _ _ (Rd.below K0.out (show Below w.heap.size w _ from (by repeat (first | exact Below.refl _ _ | assumption | refine Below.drew ?_ | refine below_drewN ?_ _ | refine Below.alloc ?_ (by first | omega | (simp <;> omega)) _ | refine Below.setCell ?_ (by first | omega | (simp <;> omega)) _ | refine Below.trans ?_ (Below.mono (by assumption) (by first | omega | (simp <;> omega)))))) rfl) (Rd.below K1.out (show Below w.heap.size w _ from (by repeat (first | exact Below.refl _ _ | assumption | refine Below.drew ?_ | refine below_drewN ?_ _ | refine Below.alloc ?_ (by first | omega | (simp <;> omega)) _ | refine Below.setCell ?_ (by first | omega | (simp <;> omega)) _ | refine Below.trans ?_ (Below.mono (by assumption) (by first | omega | (simp <;> omega)))))) rfl) m0 m1).mono ?_; rintro e w2 ⟨rfl, hb2⟩; rw [HT2.out]
        replace r0 := below_cell hb2 rfl r0
        replace r1 := below_cell hb2 rfl r1
        replace r2 := below_cell hb2 rfl r2
        obtain ⟨hc_hb2, hf_hb2⟩ := bcell hb2; have hz_hb2 := hb2.size; (try simp at hz_hb2); have hs0_hb2 : w.heap.size < w2.heap.size := (by omega); have hs1_hb2 : w.heap.size + 1 < w2.heap.size := (by omega); have hs2_hb2 : w.heap.size + 1 + 1 < w2.heap.size := (by omega)
        go_wp2_with fail
        rw [HM.out, HM2.out]
        refine (impl_compose_any m2 (d1.xs.map tn) (d1.zs.map tn) (d2.xs.map tn) (d2.zs.map tn) _ _ _ _ _ q5 HLX.out HLZ.out HKX.out HKZ.out HOX.out HOZ.out HPX.out HPZ.out (Rd.below RX.out (show Below w.heap.size w w2 from (by repeat (first | exact Below.refl _ _ | assumption | refine Below.drew ?_ | refine below_drewN ?_ _ | refine Below.alloc ?_ (by first | omega | (simp <;> omega)) _ | refine Below.setCell ?_ (by first | omega | (simp <;> omega)) _ | refine Below.trans ?_ (Below.mono (by assumption) (by first | omega | (simp <;> omega)))))) rfl) (Rd.below RZ.out (show Below w.heap.size w w2 from (by repeat (first | exact Below.refl _ _ | assumption | refine Below.drew ?_ | refine below_drewN ?_ _ | refine Below.alloc ?_ (by first | omega | (simp <;> omega)) _ | refine Below.setCell ?_ (by first | omega | (simp <;> omega)) _ | refine Below.trans ?_ (Below.mono (by assumption) (by first | omega | (simp <;> omega)))))) rfl) (Rd.below SX.out (show Below w.heap.size w w2 from (by repeat (first | exact Below.refl _ _ | assumption | refine Below.drew ?_ | refine below_drewN ?_ _ | refine Below.alloc ?_ (by first | omega | (simp <;> omega)) _ | refine Below.setCell ?_ (by first | omega | (simp <;> omega)) _ | refine Below.trans ?_ (Below.mono (by assumption) (by first | omega | (simp <;> omega)))))) rfl) (Rd.below SZ.out (show Below w.heap.size w w2 from (by repeat (first | exact Below.refl _ _ | assumption | refine Below.drew ?_ | refine below_drewN ?_ _ | refine Below.alloc ?_ (by first | omega | (simp <;> omega)) _ | refine Below.setCell ?_ (by first | omega | (simp <;> omega)) _ | refine Below.trans ?_ (Below.mono (by assumption) (by first | omega | (simp <;> omega)))))) rfl)).mono ?_; rintro e w3 ⟨r3, r4, rfl, ho0, ho1, hap, hb3⟩
        obtain ⟨a3, p3, rfl⟩ := own_form ho0
        obtain ⟨a4, p4, rfl⟩ := own_form ho1
        have HO0 := Lib.hid (OwnE.le ho0 (base' := w.heap.size + 3) (by omega)); have HO1 := Lib.hid (OwnE.le ho1 (base' := w.heap.size + 3) (by omega)); have HAP := Lib.hid hap
        clear ho0 ho1 hap
        replace r0 := below_cell hb3 rfl r0; replace r1 := below_cell hb3 rfl r1; replace r2 := below_cell hb3 rfl r2
        obtain ⟨hc_hb3, hf_hb3⟩ := bcell hb3; have hz_hb3 := hb3.size; (try simp at hz_hb3); have hs0_hb3 : w.heap.size < w3.heap.size := (by omega); have hs1_hb3 : w.heap.size + 1 < w3.heap.size := (by omega); have hs2_hb3 : w.heap.size + 1 + 1 < w3.heap.size := (by omega)
        generalize (pes (compL imgN (d2.xs.map tn) (d2.zs.map tn) m2 (d1.xs.map tn))) = PX at *
        generalize (pes (compL imgN (d2.xs.map tn) (d2.zs.map tn) m2 (d1.zs.map tn))) = PZ at *
        go_wp2_with fail
        have hZ := box_set3 (nb := w.heap.size + 1 + 1) (.int .i64 (m2 : Int)) (.slice a3 PX.length p3) (.slice a4 PZ.length p4) r0 r1 r2
        exact bodyPost_ret (v := .tuple #[.agg #[.int .i64 (m2 : Int), .slice a3 PX.length p3, .slice a4 PZ.length p4], .bool true]) (by simp [results, Try.results23, go_sem, hZ]) rfl (TabPost.some (t := ⟨(m2 : Int), PX, PZ⟩) HG.out (OwnE.le (OwnE.set (OwnE.set (OwnE.set HO0.out (by simp) _) (by simp) _) (by simp) _) (by omega)) (OwnE.le (OwnE.set (OwnE.set (OwnE.set HO1.out (by simp) _) (by simp) _) (by simp) _) (by omega)) HAP.out (by repeat (first | exact Below.refl _ _ | assumption | refine Below.drew ?_ | refine below_drewN ?_ _ | refine Below.alloc ?_ (by first | omega | (simp <;> omega)) _ | refine Below.setCell ?_ (by first | omega | (simp <;> omega)) _ | refine Below.trans ?_ (Below.mono (by assumption) (by first | omega | (simp <;> omega))))))
      · have HG := Lib.hid (show cmpG d1 d2 = none from if_neg fun k => hn k.2.2)
        have hd : (d1.n != d2.n) = true := by simpa using hn
        clear ht ht2 hn
        go_enter Try.func23, Try.ntmps23
        go_wp2_with fail
        refine (impl_IsValidTableau_any d1 _ _ _ (Rd.below H0.out (show Below w.heap.size w _ from (by repeat (first | exact Below.refl _ _ | assumption | refine Below.drew ?_ | refine below_drewN ?_ _ | refine Below.alloc ?_ (by first | omega | (simp <;> omega)) _ | refine Below.setCell ?_ (by first | omega | (simp <;> omega)) _ | refine Below.trans ?_ (Below.mono (by assumption) (by first | omega | (simp <;> omega)))))) rfl) (Rd.below H1.out (show Below w.heap.size w _ from (by repeat (first | exact Below.refl _ _ | assumption | refine Below.drew ?_ | refine below_drewN ?_ _ | refine Below.alloc ?_ (by first | omega | (simp <;> omega)) _ | refine Below.setCell ?_ (by first | omega | (simp <;> omega)) _ | refine Below.trans ?_ (Below.mono (by assumption) (by first | omega | (simp <;> omega)))))) rfl) n0 n1).mono ?_; rintro e w1 ⟨rfl, hb1⟩; rw [HT1.out]
        have r0 : w1.cell? ⟨w.heap.size + 1 + 1, 0, none⟩ = some (.int .i64 0) := below_cell hb1 rfl (by repeat (first | (refine Eq.trans (World.cell?_alloc_at _ _ _ _ ?hh) ?_; (case hh => (simp; done)); rfl) | refine cell_alloc_keep _ ?_))
        have r1 : w1.cell? ⟨w.heap.size + 1 + 1, 1, none⟩ = some (.slice none 0 0) := below_cell hb1 rfl (by repeat (first | (refine Eq.trans (World.cell?_alloc_at _ _ _ _ ?hh) ?_; (case hh => (simp; done)); rfl) | refine cell_alloc_keep _ ?_))
        have r2 : w1.cell? ⟨w.heap.size + 1 + 1, 2, none⟩ = some (.slice none 0 0) := below_cell hb1 rfl (by repeat (first | (refine Eq.trans (World.cell?_alloc_at _ _ _ _ ?hh) ?_; (case hh => (simp; done)); rfl) | refine cell_alloc_keep _ ?_))
        obtain ⟨hc_hb1, hf_hb1⟩ := bcell hb1; have hz_hb1 := hb1.size; (try simp at hz_hb1); have hs0_hb1 : w.heap.size < w1.heap.size := (by omega); have hs1_hb1 : w.heap.size + 1 < w1.heap.size := (by omega); have hs2_hb1 : w.heap.size + 1 + 1 < w1.heap.size := (by omega)
        go_wp2_with fail
        refine (impl_IsValidTableau_any d2 _ _ _ (Rd.below K0.out (show Below w.heap.size w _ from (by repeat (first | exact Below.refl _ _ | assumption | refine Below.drew ?_ | refine below_drewN ?_ _ | refine Below.alloc ?_ (by first | omega | (simp <;> omega)) _ | refine Below.setCell ?_ (by first | omega | (simp <;> omega)) _ | refine Below.trans ?_ (Below.mono (by assumption) (by first | omega | (simp <;> omega)))))) rfl) (Rd.below K1.out (show Below w.heap.size w _ from (by repeat (first | exact Below.refl _ _ | assumption | refine Below.drew ?_ | refine below_drewN ?_ _ | refine Below.alloc ?_ (by first | omega | (simp <;> omega)) _ | refine Below.setCell ?_ (by first | omega | (simp <;> omega)) _ | refine Below.trans ?_ (Below.mono (by assumption) (by first | omega | (simp <;> omega)))))) rfl) m0 m1).mono ?_; rintro e w2 ⟨rfl, hb2⟩; rw [HT2.out]
        replace r0 := below_cell hb2 rfl r0
        replace r1 := below_cell hb2 rfl r1
        replace r2 := below_cell hb2 rfl r2
        obtain ⟨hc_hb2, hf_hb2⟩ := bcell hb2; have hz_hb2 := hb2.size; (try simp at hz_hb2); have hs0_hb2 : w.heap.size < w2.heap.size := (by omega); have hs1_hb2 : w.heap.size + 1 < w2.heap.size := (by omega); have hs2_hb2 : w.heap.size + 1 + 1 < w2.heap.size := (by omega)
        go_wp2_with fail
        have hZ := box_set3 (nb := w.heap.size + 1 + 1) (.int .i64 0) (.slice none 0 0) (.slice none 0 0) r0 r1 r2
        exact bodyPost_ret (v := .tuple #[.agg #[.int .i64 0, .slice none 0 0, .slice none 0 0], .bool false]) (by simp [results, Try.results23, go_sem, hZ]) rfl (TabPost.none HG.out (by repeat (first | exact Below.refl _ _ | assumption | refine Below.drew ?_ | refine below_drewN ?_ _ | refine Below.alloc ?_ (by first | omega | (simp <;> omega)) _ | refine Below.setCell ?_ (by first | omega | (simp <;> omega)) _ | refine Below.trans ?_ (Below.mono (by assumption) (by first | omega | (simp <;> omega))))))
    · have HT2 := Lib.hid (show tabB d2 = false from decide_eq_false ht2)
      have HG := Lib.hid (show cmpG d1 d2 = none from if_neg fun k => ht2 k.2.1)
      clear ht ht2
      go_enter Try.func23, Try.ntmps23
      go_wp2_with fail
      refine (impl_IsValidTableau_any d1 _ _ _ (Rd.below H0.out (show Below w.heap.size w _ from (by repeat (first | exact Below.refl _ _ | assumption | refine Below.drew ?_ | refine below_drewN ?_ _ | refine Below.alloc ?_ (by first | omega | (simp <;> omega)) _ | refine Below.setCell ?_ (by first | omega | (simp <;> omega)) _ | refine Below.trans ?_ (Below.mono (by assumption) (by first | omega | (simp <;> omega)))))) rfl) (Rd.below H1.out (show Below w.heap.size w _ from (by repeat (first | exact Below.refl _ _ | assumption | refine Below.drew ?_ | refine below_drewN ?_ _ | refine Below.alloc ?_ (by first | omega | (simp <;> omega)) _ | refine Below.setCell ?_ (by first | omega | (simp <;> omega)) _ | refine Below.trans ?_ (Below.mono (by assumption) (by first | omega | (simp <;> omega)))))) rfl) n0 n1).mono ?_; rintro e w1 ⟨rfl, hb1⟩; rw [HT1.out]
      have r0 : w1.cell? ⟨w.heap.size + 1 + 1, 0, none⟩ = some (.int .i64 0) := below_cell hb1 rfl (by repeat (first | (refine Eq.trans (World.cell?_alloc_at _ _ _ _ ?hh) ?_; (case hh => (simp; done)); rfl) | refine cell_alloc_keep _ ?_))
      have r1 : w1.cell? ⟨w.heap.size + 1 + 1, 1, none⟩ = some (.slice none 0 0) := below_cell hb1 rfl (by repeat (first | (refine Eq.trans (World.cell?_alloc_at _ _ _ _ ?hh) ?_; (case hh => (simp; done)); rfl) | refine cell_alloc_keep _ ?_))
      have r2 : w1.cell? ⟨w.heap.size + 1 + 1, 2, none⟩ = some (.slice none 0 0) := below_cell hb1 rfl (by repeat (first | (refine Eq.trans (World.cell?_alloc_at _ _ _ _ ?hh) ?_; (case hh => (simp; done)); rfl) | refine cell_alloc_keep _ ?_))
      obtain ⟨hc_hb1, hf_hb1⟩ := bcell hb1; have hz_hb1 := hb1.size; (try simp at hz_hb1); have hs0_hb1 : w.heap.size < w1.heap.size := (by omega); have hs1_hb1 : w.heap.size + 1 < w1.heap.size := (by omega); have hs2_hb1 : w.heap.size + 1 + 1 < w1.heap.size := (by omega)
      go_wp2_with fail
      refine (impl_IsValidTableau_any d2 _ _ _ (Rd.below K0.out (show Below w.heap.size w _ from (by repeat (first | exact Below.refl _ _ | assumption | refine Below.drew ?_ | refine below_drewN ?_ _ | refine Below.alloc ?_ (by first | omega | (simp <;> omega)) _ | refine Below.setCell ?_ (by first | omega | (simp <;> omega)) _ | refine Below.trans ?_ (Below.mono (by assumption) (by first | omega | (simp <;> omega)))))) rfl) (Rd.below K1.out (show Below w.heap.size w _ from (by repeat (first | exact Below.refl _ _ | assumption | refine Below.drew ?_ | refine below_drewN ?_ _ | refine Below.alloc ?_ (by first | omega | (simp <;> omega)) _ | refine Below.setCell ?_ (by first | omega | (simp <;> omega)) _ | refine Below.trans ?_ (Below.mono (by assumption) (by first | omega | (simp <;> omega)))))) rfl) m0 m1).mono ?_; rintro e w2 ⟨rfl, hb2⟩; rw [HT2.out]
      replace r0 := below_cell hb2 rfl r0
      replace r1 := below_cell hb2 rfl r1
      replace r2 := below_cell hb2 rfl r2
      obtain ⟨hc_hb2, hf_hb2⟩ := bcell hb2; have hz_hb2 := hb2.size; (try simp at hz_hb2); have hs0_hb2 : w.heap.size < w2.heap.size := (by omega); have hs1_hb2 : w.heap.size + 1 < w2.heap.size := (by omega); have hs2_hb2 : w.heap.size + 1 + 1 < w2.heap.size := (by omega)
      go_wp2_with fail
      have hZ := box_set3 (nb := w.heap.size + 1 + 1) (.int .i64 0) (.slice none 0 0) (.slice none 0 0) r0 r1 r2
      exact bodyPost_ret (v := .tuple #[.agg #[.int .i64 0, .slice none 0 0, .slice none 0 0], .bool false]) (by simp [results, Try.results23, go_sem, hZ]) rfl (TabPost.none HG.out (by repeat (first | exact Below.refl _ _ | assumption | refine Below.drew ?_ | refine below_drewN ?_ _ | refine Below.alloc ?_ (by first | omega | (simp <;> omega)) _ | refine Below.setCell ?_ (by first | omega | (simp <;> omega)) _ | refine Below.trans ?_ (Below.mono (by assumption) (by first | omega | (simp <;> omega))))))
  · have HT1 := Lib.hid (show tabB d1 = false from decide_eq_false ht)
    have HG := Lib.hid (show cmpG d1 d2 = none from if_neg fun k => ht k.1)
    clear ht
    go_enter Try.func23, Try.ntmps23
    go_wp2_with fail
    refine (impl_IsValidTableau_any d1 _ _ _ (Rd.below H0.out (show Below w.heap.size w _ from (by repeat (first | exact Below.refl _ _ | assumption | refine Below.drew ?_ | refine below_drewN ?_ _ | refine Below.alloc ?_ (by first | omega | (simp <;> omega)) _ | refine Below.setCell ?_ (by first | omega | (simp <;> omega)) _ | refine Below.trans ?_ (Below.mono (by assumption) (by first | omega | (simp <;> omega)))))) rfl) (Rd.below H1.out (show Below w.heap.size w _ from (by repeat (first | exact Below.refl _ _ | assumption | refine Below.drew ?_ | refine below_drewN ?_ _ | refine Below.alloc ?_ (by first | omega | (simp <;> omega)) _ | refine Below.setCell ?_ (by first | omega | (simp <;> omega)) _ | refine Below.trans ?_ (Below.mono (by assumption) (by first | omega | (simp <;> omega)))))) rfl) n0 n1).mono ?_; rintro e w1 ⟨rfl, hb1⟩; rw [HT1.out]
    have r0 : w1.cell? ⟨w.heap.size + 1 + 1, 0, none⟩ = some (.int .i64 0) := below_cell hb1 rfl (by repeat (first | (refine Eq.trans (World.cell?_alloc_at _ _ _ _ ?hh) ?_; (case hh => (simp; done)); rfl) | refine cell_alloc_keep _ ?_))
    have r1 : w1.cell? ⟨w.heap.size + 1 + 1, 1, none⟩ = some (.slice none 0 0) := below_cell hb1 rfl (by repeat (first | (refine Eq.trans (World.cell?_alloc_at _ _ _ _ ?hh) ?_; (case hh => (simp; done)); rfl) | refine cell_alloc_keep _ ?_))
    have r2 : w1.cell? ⟨w.heap.size + 1 + 1, 2, none⟩ = some (.slice none 0 0) := below_cell hb1 rfl (by repeat (first | (refine Eq.trans (World.cell?_alloc_at _ _ _ _ ?hh) ?_; (case hh => (simp; done)); rfl) | refine cell_alloc_keep _ ?_))
    obtain ⟨hc_hb1, hf_hb1⟩ := bcell hb1; have hz_hb1 := hb1.size; (try simp at hz_hb1); have hs0_hb1 : w.heap.size < w1.heap.size := (by omega); have hs1_hb1 : w.heap.size + 1 < w1.heap.size := (by omega); have hs2_hb1 : w.heap.size + 1 + 1 < w1.heap.size := (by omega)
    go_wp2_with fail
    have hZ := box_set3 (nb := w.heap.size + 1 + 1) (.int .i64 0) (.slice none 0 0) (.slice none 0 0) r0 r1 r2
    exact bodyPost_ret (v := .tuple #[.agg #[.int .i64 0, .slice none 0 0, .slice none 0 0], .bool false]) (by simp [results, Try.results23, go_sem, hZ]) rfl (TabPost.none HG.out (by repeat (first | exact Below.refl _ _ | assumption | refine Below.drew ?_ | refine below_drewN ?_ _ | refine Below.alloc ?_ (by first | omega | (simp <;> omega)) _ | refine Below.setCell ?_ (by first | omega | (simp <;> omega)) _ | refine Below.trans ?_ (Below.mono (by assumption) (by first | omega | (simp <;> omega))))))
end Go.Proofs.Ytpeodfiapofagaa
