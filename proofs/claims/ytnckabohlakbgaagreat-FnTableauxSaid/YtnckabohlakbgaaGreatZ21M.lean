/- The image of an operator under a tableau: ImageOf in the program and in the reference. -/
import Derived.Test.YtnckabohlakbgaaGreatZ20M
import Derived.Test.YtnckabohlakbgaaGreatZ16Img2
import Derived.Test.YtnckabohlakbgaaGreatZ17M
import Derived.Test.YtnckabohlakbgaaGreatZ05M
import Derived.Test.YtnckabohlakbgaaGreatZ03M
import Derived.Test.YtnckabohlakbgaaGreatZ04M
import Derived.Deep.RegionLaw
namespace Go.Proofs.YtnckabohlakbgaaGreat
set_option linter.unusedSimpArgs false
set_option linter.unusedVariables false
set_option linter.unnecessarySimpa false
set_option maxRecDepth 200000
open Go.ChangeShapes Go.WideShapes Go.ChangeAt Go.RowKit

noncomputable def imgG (d : Tab) (x : E3) : Option E3 := if TabOk d ∧ PauOk d.n x then some (imgN (d.xs.map tn) (d.zs.map tn) (tn x) d.n.toNat).e else none
theorem pes_of {L : List E3} (h : ∀ i, i < L.length → L.getD i ⟨0, 0, 0⟩ = (tn (L.getD i ⟨0, 0, 0⟩)).e) : L = pes (L.map tn) := by
  unfold pes
  rw [List.map_map]
  apply List.ext_getElem
  · simp
  · intro i h1 h2
    have := h i h1
    rw [getD_E h1] at this
    simpa using this
theorem plok_of {L : List E3} (h : ∀ i, i < L.length → PNok (tn (L.getD i ⟨0, 0, 0⟩))) : PLok (L.map tn) := by
  refine ⟨fun a ha => ?_⟩
  obtain ⟨g, hg, rfl⟩ := List.mem_map.1 ha
  obtain ⟨i, hi, rfl⟩ := List.mem_iff_getElem.1 hg
  have := h i hi
  rwa [getD_E hi] at this
theorem TabOk.parts {d : Tab} (h : TabOk d) : ∃ m : Nat, d.n = (m : Int) ∧ 1 ≤ m ∧ m ≤ 5 ∧ d.xs = pes (d.xs.map tn) ∧ d.zs = pes (d.zs.map tn) ∧ (d.xs.map tn).length = m ∧ (d.zs.map tn).length = m ∧ PLok (d.xs.map tn) ∧ PLok (d.zs.map tn) := by
  obtain ⟨⟨h1, h2⟩, h3, h4, h5, _⟩ := h
  have hx : ∀ i, i < d.xs.length → d.xs.getD i ⟨0, 0, 0⟩ = (tn (d.xs.getD i ⟨0, 0, 0⟩)).e ∧ PNok (tn (d.xs.getD i ⟨0, 0, 0⟩)) := fun i hi => by
    have h6 := (h5 i (by omega)).1.nat h1 h2
    have e : (d.xs ++ d.zs).getD i ⟨0, 0, 0⟩ = d.xs.getD i ⟨0, 0, 0⟩ := by simp [List.getD, List.getElem?_append_left hi]
    rwa [e] at h6
  have hz : ∀ i, i < d.zs.length → d.zs.getD i ⟨0, 0, 0⟩ = (tn (d.zs.getD i ⟨0, 0, 0⟩)).e ∧ PNok (tn (d.zs.getD i ⟨0, 0, 0⟩)) := fun i hi => by
    have h6 := (h5 (d.xs.length + i) (by omega)).1.nat h1 h2
    have e : (d.xs ++ d.zs).getD (d.xs.length + i) ⟨0, 0, 0⟩ = d.zs.getD i ⟨0, 0, 0⟩ := by simp [List.getD, List.getElem?_append_right]
    rwa [e] at h6
  exact ⟨d.n.toNat, by omega, by omega, by omega, pes_of fun i hi => (hx i hi).1, pes_of fun i hi => (hz i hi).1, by simp; omega, by simp; omega, plok_of fun i hi => (hx i hi).2, plok_of fun i hi => (hz i hi).2⟩
theorem pau_lt {n : Int} {m : Nat} {x : E3} {P : PN} (m5 : m ≤ 5) (h : PauOk n x) (hm : n = (m : Int)) (hP : P = tn x) : P.x < 2 ^ m := by
  subst hP hm
  have h2 := h.2.1
  rw [Int.toNat_natCast] at h2
  have e : (2 : Int) ^ m = ((2 ^ m : Nat) : Int) := by simp
  rw [e] at h2
  show x.b.toNat < _
  omega
set_option maxHeartbeats 2000000 in
theorem spec_ImageOf_any (d : Tab) (x : E3) (v0 v1 : Value) (w : World) (h0 : RdE w v0 E3.cs 3 d.xs) (h1 : RdE w v1 E3.cs 3 d.zs) (n0 : d.xs.length ≤ 1048576) (n1 : d.zs.length ≤ 1048576) :
    Calls Tryz.prog 9 #[.agg #[.int .i64 d.n, v0, v1], .agg #[.int .i64 x.a, .int .i64 x.b, .int .i64 x.c]] w fun e w' => e = .returned (.tuple #[.agg #[.int .i64 ((imgG d x).getD ⟨0, 0, 0⟩).a, .int .i64 ((imgG d x).getD ⟨0, 0, 0⟩).b, .int .i64 ((imgG d x).getD ⟨0, 0, 0⟩).c], .bool (imgG d x).isSome]) ∧ Below w.heap.size w w' := by
  have H0 := Lib.hid h0; have H1 := Lib.hid h1
  obtain ⟨A, c, rfl, _⟩ := h0.form
  obtain ⟨A2, c2, rfl, _⟩ := h1.form
  clear h0 h1
  obtain ⟨pa, pb, pc⟩ := x
  dsimp only
  by_cases ht : TabOk d
  · have HT := Lib.hid (show tabB d = true from decide_eq_true ht)
    cases hp : pauB d.n ⟨pa, pb, pc⟩ with
    | false =>
      have HG := Lib.hid (show imgG d ⟨pa, pb, pc⟩ = none from if_neg fun k => by rw [show pauB d.n ⟨pa, pb, pc⟩ = true from decide_eq_true ⟨ht.1, k.2⟩] at hp; cases hp)
      have HP := Lib.hid hp; clear hp ht
      go_enter Tryz.func9, Tryz.ntmps9
      go_wp2_with fail
      refine (spec_l7Good_any d _ _ _ (Rd.below H0.out (show Below w.heap.size w _ from belo) rfl) (Rd.below H1.out (show Below w.heap.size w _ from belo) rfl) n0 n1).mono ?_; rintro e w1 ⟨rfl, hb1⟩; rw [HT.out]
      have r0 : w1.cell? ⟨w.heap.size + 1 + 1, 0, none⟩ = some (.int .i64 0) := below_cell hb1 rfl cela
      have r1 : w1.cell? ⟨w.heap.size + 1 + 1, 1, none⟩ = some (.int .i64 0) := below_cell hb1 rfl cela
      have r2 : w1.cell? ⟨w.heap.size + 1 + 1, 2, none⟩ = some (.int .i64 0) := below_cell hb1 rfl cela
      obtain ⟨hc_hb1, hf_hb1⟩ := bcell hb1; have hz_hb1 := hb1.size; (try simp at hz_hb1); have hs0_hb1 : w.heap.size < w1.heap.size := (by omega); have hs1_hb1 : w.heap.size + 1 < w1.heap.size := (by omega); have hs2_hb1 : w.heap.size + 1 + 1 < w1.heap.size := (by omega)
      go_wp2_with fail
      refine (spec_l7Valid_any d.n ⟨pa, pb, pc⟩ _).mono ?_; rintro e w2 ⟨rfl, hb2⟩; rw [HP.out]
      replace r0 := below_cell hb2 rfl r0; replace r1 := below_cell hb2 rfl r1; replace r2 := below_cell hb2 rfl r2
      obtain ⟨hc_hb2, hf_hb2⟩ := bcell hb2; have hz_hb2 := hb2.size; (try simp at hz_hb2); have hs0_hb2 : w.heap.size < w2.heap.size := (by omega); have hs1_hb2 : w.heap.size + 1 < w2.heap.size := (by omega); have hs2_hb2 : w.heap.size + 1 + 1 < w2.heap.size := (by omega)
      go_wp2_with fail
      have hZ := box_set3 (nb := w.heap.size + 1 + 1) (.int .i64 0) (.int .i64 0) (.int .i64 0) r0 r1 r2
      refine bodyPost_ret (v := .tuple #[.agg #[.int .i64 0, .int .i64 0, .int .i64 0], .bool false]) (by simp [results, Tryz.results9, go_sem, hZ]) rfl ⟨by rw [HG.out]; rfl, belo⟩
    | true =>
      have HG := Lib.hid (show imgG d ⟨pa, pb, pc⟩ = some (imgN (d.xs.map tn) (d.zs.map tn) (tn ⟨pa, pb, pc⟩) d.n.toNat).e from if_pos ⟨ht, pauB_ok hp⟩)
      have HP := Lib.hid hp
      obtain ⟨m, hm, m1, m5, ex, ez, lx, lz, okx, okz⟩ := ht.parts
      obtain ⟨hye, okp⟩ := (pauB_ok hp).nat (by omega) (by omega)
      have HPL := Lib.hid (pauB_ok hp)
      obtain ⟨P, hP⟩ : ∃ P, P = tn ⟨pa, pb, pc⟩ := ⟨_, rfl⟩
      rw [← hP] at hye okp HG
      unfold PN.e at hye
      injection hye with e1 e2 e3
      subst e1 e2 e3
      have RX := Lib.hid (show RdE w (.slice A d.xs.length c) E3.cs 3 (pes (d.xs.map tn)) from by rw [← ex]; exact H0.out)
      have RZ := Lib.hid (show RdE w (.slice A2 d.zs.length c2) E3.cs 3 (pes (d.zs.map tn)) from by rw [← ez]; exact H1.out)
      have HLX := Lib.hid lx; have HLZ := Lib.hid lz; have HOX := Lib.hid okx; have HOZ := Lib.hid okz; have HOP := Lib.hid okp
      have HS := Lib.hid (img_same (d.xs.map tn) (d.zs.map tn) (p := P) (n := m) okp.p (pau_lt m5 HPL.out hm hP) (by omega))
      rw [hm] at HG
      rw [Int.toNat_natCast] at HG
      have HM := Lib.hid hm
      clear hm ex ez lx lz okx okz okp hP hp ht
      have HPV : Hid (pauB d.n ⟨(P.p : Int), (P.x : Int), (P.z : Int)⟩ = true) := HP
      go_enter Tryz.func9, Tryz.ntmps9
      go_wp2_with fail
      refine (spec_l7Good_any d _ _ _ (Rd.below H0.out (show Below w.heap.size w _ from belo) rfl) (Rd.below H1.out (show Below w.heap.size w _ from belo) rfl) n0 n1).mono ?_; rintro e w1 ⟨rfl, hb1⟩; rw [HT.out]
      have r0 : w1.cell? ⟨w.heap.size + 1 + 1, 0, none⟩ = some (.int .i64 0) := below_cell hb1 rfl cela
      have r1 : w1.cell? ⟨w.heap.size + 1 + 1, 1, none⟩ = some (.int .i64 0) := below_cell hb1 rfl cela
      have r2 : w1.cell? ⟨w.heap.size + 1 + 1, 2, none⟩ = some (.int .i64 0) := below_cell hb1 rfl cela
      obtain ⟨hc_hb1, hf_hb1⟩ := bcell hb1; have hz_hb1 := hb1.size; (try simp at hz_hb1); have hs0_hb1 : w.heap.size < w1.heap.size := (by omega); have hs1_hb1 : w.heap.size + 1 < w1.heap.size := (by omega); have hs2_hb1 : w.heap.size + 1 + 1 < w1.heap.size := (by omega)
      go_wp2_with fail
      refine (spec_l7Valid_any d.n ⟨(P.p : Int), (P.x : Int), (P.z : Int)⟩ _).mono ?_; rintro e w2 ⟨rfl, hb2⟩; rw [HPV.out]
      replace r0 := below_cell hb2 rfl r0; replace r1 := below_cell hb2 rfl r1; replace r2 := below_cell hb2 rfl r2
      obtain ⟨hc_hb2, hf_hb2⟩ := bcell hb2; have hz_hb2 := hb2.size; (try simp at hz_hb2); have hs0_hb2 : w.heap.size < w2.heap.size := (by omega); have hs1_hb2 : w.heap.size + 1 < w2.heap.size := (by omega); have hs2_hb2 : w.heap.size + 1 + 1 < w2.heap.size := (by omega)
      go_wp2_with fail
      rw [HM.out]
      refine (spec_l7Image_any m (d.xs.map tn) (d.zs.map tn) P _ _ _ m5 HLX.out HLZ.out HOX.out HOZ.out HOP.out (Rd.below RX.out (show Below w.heap.size w w2 from belo) rfl) (Rd.below RZ.out (show Below w.heap.size w w2 from belo) rfl)).mono ?_; rintro e w3 ⟨rfl, hb3⟩
      rw [HS.out]
      replace r0 := below_cell hb3 rfl r0; replace r1 := below_cell hb3 rfl r1; replace r2 := below_cell hb3 rfl r2
      obtain ⟨hc_hb3, hf_hb3⟩ := bcell hb3; have hz_hb3 := hb3.size; (try simp at hz_hb3); have hs0_hb3 : w.heap.size < w3.heap.size := (by omega); have hs1_hb3 : w.heap.size + 1 < w3.heap.size := (by omega); have hs2_hb3 : w.heap.size + 1 + 1 < w3.heap.size := (by omega)
      obtain ⟨R, hR⟩ : ∃ R, R = imgN (d.xs.map tn) (d.zs.map tn) P m := ⟨_, rfl⟩
      rw [← hR] at HG ⊢
      clear hR
      go_wp2_with fail
      have hZ := box_set3 (nb := w.heap.size + 1 + 1) (.int .i64 (R.p : Int)) (.int .i64 (R.x : Int)) (.int .i64 (R.z : Int)) r0 r1 r2
      refine bodyPost_ret (v := .tuple #[.agg #[.int .i64 (R.p : Int), .int .i64 (R.x : Int), .int .i64 (R.z : Int)], .bool true]) (by simp [results, Tryz.results9, go_sem, hZ]) rfl ⟨by rw [HG.out]; rfl, belo⟩
  · have HT := Lib.hid (show tabB d = false from decide_eq_false ht)
    have HG := Lib.hid (show imgG d ⟨pa, pb, pc⟩ = none from if_neg fun k => ht k.1)
    clear ht
    go_enter Tryz.func9, Tryz.ntmps9
    go_wp2_with fail
    refine (spec_l7Good_any d _ _ _ (Rd.below H0.out (show Below w.heap.size w _ from belo) rfl) (Rd.below H1.out (show Below w.heap.size w _ from belo) rfl) n0 n1).mono ?_; rintro e w1 ⟨rfl, hb1⟩; rw [HT.out]
    have r0 : w1.cell? ⟨w.heap.size + 1 + 1, 0, none⟩ = some (.int .i64 0) := below_cell hb1 rfl cela
    have r1 : w1.cell? ⟨w.heap.size + 1 + 1, 1, none⟩ = some (.int .i64 0) := below_cell hb1 rfl cela
    have r2 : w1.cell? ⟨w.heap.size + 1 + 1, 2, none⟩ = some (.int .i64 0) := below_cell hb1 rfl cela
    obtain ⟨hc_hb1, hf_hb1⟩ := bcell hb1; have hz_hb1 := hb1.size; (try simp at hz_hb1); have hs0_hb1 : w.heap.size < w1.heap.size := (by omega); have hs1_hb1 : w.heap.size + 1 < w1.heap.size := (by omega); have hs2_hb1 : w.heap.size + 1 + 1 < w1.heap.size := (by omega)
    go_wp2_with fail
    have hZ := box_set3 (nb := w.heap.size + 1 + 1) (.int .i64 0) (.int .i64 0) (.int .i64 0) r0 r1 r2
    refine bodyPost_ret (v := .tuple #[.agg #[.int .i64 0, .int .i64 0, .int .i64 0], .bool false]) (by simp [results, Tryz.results9, go_sem, hZ]) rfl ⟨by rw [HG.out]; rfl, belo⟩
set_option maxHeartbeats 2000000 in
theorem impl_ImageOf_any (d : Tab) (x : E3) (v0 v1 : Value) (w : World) (h0 : RdE w v0 E3.cs 3 d.xs) (h1 : RdE w v1 E3.cs 3 d.zs) (n0 : d.xs.length ≤ 1048576) (n1 : d.zs.length ≤ 1048576) :
    Calls Tryz.prog 8 #[.agg #[.int .i64 d.n, v0, v1], .agg #[.int .i64 x.a, .int .i64 x.b, .int .i64 x.c]] w fun e w' => e = .returned (.tuple #[.agg #[.int .i64 ((imgG d x).getD ⟨0, 0, 0⟩).a, .int .i64 ((imgG d x).getD ⟨0, 0, 0⟩).b, .int .i64 ((imgG d x).getD ⟨0, 0, 0⟩).c], .bool (imgG d x).isSome]) ∧ Below w.heap.size w w' := by
  have H0 := Lib.hid h0; have H1 := Lib.hid h1
  obtain ⟨A, c, rfl, _⟩ := h0.form
  obtain ⟨A2, c2, rfl, _⟩ := h1.form
  clear h0 h1
  obtain ⟨pa, pb, pc⟩ := x
  dsimp only
  by_cases ht : TabOk d
  · have HT := Lib.hid (show tabB d = true from decide_eq_true ht)
    cases hp : pauB d.n ⟨pa, pb, pc⟩ with
    | false =>
      have HG := Lib.hid (show imgG d ⟨pa, pb, pc⟩ = none from if_neg fun k => by rw [show pauB d.n ⟨pa, pb, pc⟩ = true from decide_eq_true ⟨ht.1, k.2⟩] at hp; cases hp)
      have HP := Lib.hid hp; clear hp ht
      go_enter Tryz.func8, Tryz.ntmps8
      go_wp2_with fail
      refine (impl_IsValidTableau_any d _ _ _ (Rd.below H0.out (show Below w.heap.size w _ from belo) rfl) (Rd.below H1.out (show Below w.heap.size w _ from belo) rfl) n0 n1).mono ?_; rintro e w1 ⟨rfl, hb1⟩; rw [HT.out]
      have r0 : w1.cell? ⟨w.heap.size + 1 + 1, 0, none⟩ = some (.int .i64 0) := below_cell hb1 rfl cela
      have r1 : w1.cell? ⟨w.heap.size + 1 + 1, 1, none⟩ = some (.int .i64 0) := below_cell hb1 rfl cela
      have r2 : w1.cell? ⟨w.heap.size + 1 + 1, 2, none⟩ = some (.int .i64 0) := below_cell hb1 rfl cela
      obtain ⟨hc_hb1, hf_hb1⟩ := bcell hb1; have hz_hb1 := hb1.size; (try simp at hz_hb1); have hs0_hb1 : w.heap.size < w1.heap.size := (by omega); have hs1_hb1 : w.heap.size + 1 < w1.heap.size := (by omega); have hs2_hb1 : w.heap.size + 1 + 1 < w1.heap.size := (by omega)
      go_wp2_with fail
      refine (impl_IsValidPauli_any d.n ⟨pa, pb, pc⟩ _).mono ?_; rintro e w2 ⟨rfl, hb2⟩; rw [HP.out]
      replace r0 := below_cell hb2 rfl r0; replace r1 := below_cell hb2 rfl r1; replace r2 := below_cell hb2 rfl r2
      obtain ⟨hc_hb2, hf_hb2⟩ := bcell hb2; have hz_hb2 := hb2.size; (try simp at hz_hb2); have hs0_hb2 : w.heap.size < w2.heap.size := (by omega); have hs1_hb2 : w.heap.size + 1 < w2.heap.size := (by omega); have hs2_hb2 : w.heap.size + 1 + 1 < w2.heap.size := (by omega)
      go_wp2_with fail
      have hZ := box_set3 (nb := w.heap.size + 1 + 1) (.int .i64 0) (.int .i64 0) (.int .i64 0) r0 r1 r2
      refine bodyPost_ret (v := .tuple #[.agg #[.int .i64 0, .int .i64 0, .int .i64 0], .bool false]) (by simp [results, Tryz.results8, go_sem, hZ]) rfl ⟨by rw [HG.out]; rfl, belo⟩
    | true =>
      have HG := Lib.hid (show imgG d ⟨pa, pb, pc⟩ = some (imgN (d.xs.map tn) (d.zs.map tn) (tn ⟨pa, pb, pc⟩) d.n.toNat).e from if_pos ⟨ht, pauB_ok hp⟩)
      have HP := Lib.hid hp
      obtain ⟨m, hm, m1, m5, ex, ez, lx, lz, okx, okz⟩ := ht.parts
      obtain ⟨hye, okp⟩ := (pauB_ok hp).nat (by omega) (by omega)
      have HPL := Lib.hid (pauB_ok hp)
      obtain ⟨P, hP⟩ : ∃ P, P = tn ⟨pa, pb, pc⟩ := ⟨_, rfl⟩
      rw [← hP] at hye okp HG
      unfold PN.e at hye
      injection hye with e1 e2 e3
      subst e1 e2 e3
      have RX := Lib.hid (show RdE w (.slice A d.xs.length c) E3.cs 3 (pes (d.xs.map tn)) from by rw [← ex]; exact H0.out)
      have RZ := Lib.hid (show RdE w (.slice A2 d.zs.length c2) E3.cs 3 (pes (d.zs.map tn)) from by rw [← ez]; exact H1.out)
      have HLX := Lib.hid lx; have HLZ := Lib.hid lz; have HOX := Lib.hid okx; have HOZ := Lib.hid okz; have HOP := Lib.hid okp
      rw [hm] at HG
      rw [Int.toNat_natCast] at HG
      have HM := Lib.hid hm
      clear hm ex ez lx lz okx okz okp hP hp ht
      have HPV : Hid (pauB d.n ⟨(P.p : Int), (P.x : Int), (P.z : Int)⟩ = true) := HP
      go_enter Tryz.func8, Tryz.ntmps8
      go_wp2_with fail
      refine (impl_IsValidTableau_any d _ _ _ (Rd.below H0.out (show Below w.heap.size w _ from belo) rfl) (Rd.below H1.out (show Below w.heap.size w _ from belo) rfl) n0 n1).mono ?_; rintro e w1 ⟨rfl, hb1⟩; rw [HT.out]
      have r0 : w1.cell? ⟨w.heap.size + 1 + 1, 0, none⟩ = some (.int .i64 0) := below_cell hb1 rfl cela
      have r1 : w1.cell? ⟨w.heap.size + 1 + 1, 1, none⟩ = some (.int .i64 0) := below_cell hb1 rfl cela
      have r2 : w1.cell? ⟨w.heap.size + 1 + 1, 2, none⟩ = some (.int .i64 0) := below_cell hb1 rfl cela
      obtain ⟨hc_hb1, hf_hb1⟩ := bcell hb1; have hz_hb1 := hb1.size; (try simp at hz_hb1); have hs0_hb1 : w.heap.size < w1.heap.size := (by omega); have hs1_hb1 : w.heap.size + 1 < w1.heap.size := (by omega); have hs2_hb1 : w.heap.size + 1 + 1 < w1.heap.size := (by omega)
      go_wp2_with fail
      refine (impl_IsValidPauli_any d.n ⟨(P.p : Int), (P.x : Int), (P.z : Int)⟩ _).mono ?_; rintro e w2 ⟨rfl, hb2⟩; rw [HPV.out]
      replace r0 := below_cell hb2 rfl r0; replace r1 := below_cell hb2 rfl r1; replace r2 := below_cell hb2 rfl r2
      obtain ⟨hc_hb2, hf_hb2⟩ := bcell hb2; have hz_hb2 := hb2.size; (try simp at hz_hb2); have hs0_hb2 : w.heap.size < w2.heap.size := (by omega); have hs1_hb2 : w.heap.size + 1 < w2.heap.size := (by omega); have hs2_hb2 : w.heap.size + 1 + 1 < w2.heap.size := (by omega)
      go_wp2_with fail
      rw [HM.out]
      refine (impl_image_any m (d.xs.map tn) (d.zs.map tn) P _ _ _ m5 HLX.out HLZ.out HOX.out HOZ.out HOP.out (Rd.below RX.out (show Below w.heap.size w w2 from belo) rfl) (Rd.below RZ.out (show Below w.heap.size w w2 from belo) rfl)).mono ?_; rintro e w3 ⟨rfl, hb3⟩
      replace r0 := below_cell hb3 rfl r0; replace r1 := below_cell hb3 rfl r1; replace r2 := below_cell hb3 rfl r2
      obtain ⟨hc_hb3, hf_hb3⟩ := bcell hb3; have hz_hb3 := hb3.size; (try simp at hz_hb3); have hs0_hb3 : w.heap.size < w3.heap.size := (by omega); have hs1_hb3 : w.heap.size + 1 < w3.heap.size := (by omega); have hs2_hb3 : w.heap.size + 1 + 1 < w3.heap.size := (by omega)
      obtain ⟨R, hR⟩ : ∃ R, R = imgN (d.xs.map tn) (d.zs.map tn) P m := ⟨_, rfl⟩
      rw [← hR] at HG ⊢
      clear hR
      go_wp2_with fail
      have hZ := box_set3 (nb := w.heap.size + 1 + 1) (.int .i64 (R.p : Int)) (.int .i64 (R.x : Int)) (.int .i64 (R.z : Int)) r0 r1 r2
      refine bodyPost_ret (v := .tuple #[.agg #[.int .i64 (R.p : Int), .int .i64 (R.x : Int), .int .i64 (R.z : Int)], .bool true]) (by simp [results, Tryz.results8, go_sem, hZ]) rfl ⟨by rw [HG.out]; rfl, belo⟩
  · have HT := Lib.hid (show tabB d = false from decide_eq_false ht)
    have HG := Lib.hid (show imgG d ⟨pa, pb, pc⟩ = none from if_neg fun k => ht k.1)
    clear ht
    go_enter Tryz.func8, Tryz.ntmps8
    go_wp2_with fail
    refine (impl_IsValidTableau_any d _ _ _ (Rd.below H0.out (show Below w.heap.size w _ from belo) rfl) (Rd.below H1.out (show Below w.heap.size w _ from belo) rfl) n0 n1).mono ?_; rintro e w1 ⟨rfl, hb1⟩; rw [HT.out]
    have r0 : w1.cell? ⟨w.heap.size + 1 + 1, 0, none⟩ = some (.int .i64 0) := below_cell hb1 rfl cela
    have r1 : w1.cell? ⟨w.heap.size + 1 + 1, 1, none⟩ = some (.int .i64 0) := below_cell hb1 rfl cela
    have r2 : w1.cell? ⟨w.heap.size + 1 + 1, 2, none⟩ = some (.int .i64 0) := below_cell hb1 rfl cela
    obtain ⟨hc_hb1, hf_hb1⟩ := bcell hb1; have hz_hb1 := hb1.size; (try simp at hz_hb1); have hs0_hb1 : w.heap.size < w1.heap.size := (by omega); have hs1_hb1 : w.heap.size + 1 < w1.heap.size := (by omega); have hs2_hb1 : w.heap.size + 1 + 1 < w1.heap.size := (by omega)
    go_wp2_with fail
    have hZ := box_set3 (nb := w.heap.size + 1 + 1) (.int .i64 0) (.int .i64 0) (.int .i64 0) r0 r1 r2
    refine bodyPost_ret (v := .tuple #[.agg #[.int .i64 0, .int .i64 0, .int .i64 0], .bool false]) (by simp [results, Tryz.results8, go_sem, hZ]) rfl ⟨by rw [HG.out]; rfl, belo⟩
end Go.Proofs.YtnckabohlakbgaaGreat
namespace Go.Proofs.YtnckabohlakbgaaGreat
set_option linter.unusedSimpArgs false
set_option linter.unusedVariables false
set_option linter.unnecessarySimpa false
set_option maxRecDepth 200000
open Go.ChangeShapes Go.WideShapes Go.ChangeAt Go.RowKit

end Go.Proofs.YtnckabohlakbgaaGreat
namespace Go.Proofs.YtnckabohlakbgaaGreat
set_option linter.unusedSimpArgs false
set_option linter.unusedVariables false
set_option linter.unnecessarySimpa false
set_option maxRecDepth 200000
open Go.ChangeShapes Go.WideShapes Go.ChangeAt Go.RowKit

def idX (n : Nat) : List E3 := (List.range n).map fun q : Nat => ⟨0, (2 : Int) ^ q, 0⟩
def idZ (n : Nat) : List E3 := (List.range n).map fun q : Nat => ⟨0, 0, (2 : Int) ^ q⟩
theorem idX_len (n : Nat) : (idX n).length = n := by simp [idX]
theorem idZ_len (n : Nat) : (idZ n).length = n := by simp [idZ]
theorem idX_succ (n : Nat) : idX (n + 1) = idX n ++ [⟨0, (2 : Int) ^ n, 0⟩] := by simp [idX, List.range_succ]
theorem idZ_succ (n : Nat) : idZ (n + 1) = idZ n ++ [⟨0, 0, (2 : Int) ^ n⟩] := by simp [idZ, List.range_succ]
def idT (n : Int) : Tab := ⟨n, idX n.toNat, idZ n.toNat⟩
/-- What a call has just laid into a block of its own reads. -/
theorem news_reads (w : World) (us : List Value) (t : TypeId) (sz m : Nat) (h : us.length = m * sz) : Reads (w.alloc (.cells us.toArray t)) (w.heap.size + 1) sz (some ⟨w.heap.size, 0, none⟩) m us :=
  ⟨h, fun _ => ⟨_, rfl, by simp, news_cells w us t⟩⟩
set_option maxHeartbeats 1000000 in
theorem spec_l7Identity_any (n : Int) (w : World) (h0 : 0 ≤ n) (h1 : n ≤ 60) :
    Calls Tryz.prog 66 #[.int .i64 n] w fun e w' => ∃ u0 u1, e = .returned (.agg #[.int .i64 n, u0, u1]) ∧ OwnE w' w.heap.size 33 u0 E3.cs 3 (idX n.toNat) ∧ OwnE w' w.heap.size 33 u1 E3.cs 3 (idZ n.toNat) ∧ Apart u0 u1 ∧ Below w.heap.size w w' := by
  obtain ⟨m, rfl⟩ := Int.eq_ofNat_of_zero_le h0
  rw [Int.toNat_natCast]
  obtain ⟨i0, hi, hz0, hz1, hz2⟩ := info_parts info_Pauli
  go_enter Tryz.func66, Tryz.ntmps66
  go_wp2_with fail
  go_loopw [4] (fun i wr => ∃ (k : Nat) (vx vz : Value), k ≤ m ∧ i = .int .i64 k ∧ wr.cell? ⟨w.heap.size + 1, 0, none⟩ = some (.int .i64 m) ∧ wr.cell? ⟨w.heap.size + 1, 1, none⟩ = some vx ∧ wr.cell? ⟨w.heap.size + 1, 2, none⟩ = some vz ∧ wr.frozen? ⟨w.heap.size + 1, 1, none⟩ = false ∧ wr.frozen? ⟨w.heap.size + 1, 2, none⟩ = false ∧ Hid (wr.ownsRow (w.heap.size + 2) 33 3 vx k ((idX k).flatMap E3.cs)) ∧ Hid (wr.ownsRow (w.heap.size + 2) 33 3 vz k ((idZ k).flatMap E3.cs)) ∧ Hid (Apart vx vz) ∧ Below (w.heap.size + 1) (w.alloc (.cells #[.int .i64 0, .slice none 0 0, .slice none 0 0] 29)) wr ∧ w.heap.size + 2 ≤ wr.heap.size) (fun i _ => m - (intOf i).toNat)
  case atStart => exact ⟨0, .slice none 0 0, .slice none 0 0, Nat.zero_le _, rfl, by simp, by simp, by simp, by simp, by simp, World.ownsRow_nil _ _ _ _, World.ownsRow_nil _ _ _ _, apart_nil _, belo, by simp⟩
  case round =>
    obtain ⟨k, vx, vz, hk, rfl, c0, c1, c2, f1, f2, hox, hoz, hap, hbel, hsz⟩ := hrel
    by_cases hlt : k < m
    · have i1 : (k : Int) < (m : Int) := by omega
      obtain ⟨p1, p2⟩ := pow_small k (by omega)
      have lx : Hid (∀ g, vx.ownBlock = some g → w.heap.size + 2 ≤ g ∧ g < wr.heap.size) := fun g hg => hox.out.lt g hg
      have lz : Hid (∀ g, vz.ownBlock = some g → w.heap.size + 2 ≤ g ∧ g < wr.heap.size) := fun g hg => hoz.out.lt g hg
      have nx : vx.ownBlock ≠ some (w.heap.size + 1) := fun h => by have := lx.out _ h; omega
      have nz : vz.ownBlock ≠ some (w.heap.size + 1) := fun h => by have := lz.out _ h; omega
      have Nx := Lib.hid nx; have Nz := Lib.hid nz; clear nx nz
      go_wp2_with (first
        | (at_builtin; refine wpList_append_any _ rfl (.tmp 13) (.tmp 18) 27 rfl (w.heap.size + 2) 33 i0 (.agg #[.int .i64 0, .int .i64 0, .int .i64 0]) 3 24 Tryz.underlying27 hi hz0 hz1 hz2 rfl (by decide) vx k _ rfl (hox.out.alloc _) (wr.heap.size + 1) (some ⟨wr.heap.size, 0, none⟩) 1 1 (E3.cs ⟨0, 2 ^ k, 0⟩) rfl (news_reads wr (E3.cs ⟨0, 2 ^ k, 0⟩) 33 3 1 rfl) (E3.one _) (by unfold maxLen; omega) (by omega) (by simp; omega) ?_; intro vx' w1 hox1 hg1 hat1; obtain ⟨g1, cp1, rfl⟩ := Go.Joins.ownsRow_form hox1 (by omega); have hsz1 := hg1.size; (simp at hsz1); have d0 := cell_grown hg1 (cell_alloc_keep _ c0) Nx.out; have d1 := cell_grown hg1 (cell_alloc_keep _ c1) Nx.out; have d2 := cell_grown hg1 (cell_alloc_keep _ c2) Nx.out; have e1 := frz_grown hg1 (by simp; omega) (frozen_alloc_keep _ c1 f1) Nx.out; have e2 := frz_grown hg1 (by simp; omega) (frozen_alloc_keep _ c2 f2) Nx.out; have hoz1 := Lib.hid (ownsRow_setCell_below (own_other hg1 (hoz.out.alloc _) (fun g a b => hap.out g b a)) (show (⟨w.heap.size + 1, 1, none⟩ : Addr).block < w.heap.size + 2 from by simp) (.slice (some ⟨g1, 0, none⟩) (k + 1) cp1)); have hap1 := Lib.hid (apart_new hap.out.symm (fun g hg => (show g < wr.heap.size + 1 from by have := lz.out g hg; omega)) (by simpa using hat1)))
        | (at_builtin; go_must (refine wpList_append_any _ rfl (.tmp 22) (.tmp 27) 27 rfl (w.heap.size + 2) 33 i0 (.agg #[.int .i64 0, .int .i64 0, .int .i64 0]) 3 24 Tryz.underlying27 hi hz0 hz1 hz2 rfl (by decide) vz k _ rfl (hoz1.out.alloc _) (w1.heap.size + 1) (some ⟨w1.heap.size, 0, none⟩) 1 1 (E3.cs ⟨0, 0, 2 ^ k⟩) rfl (by have := news_reads (w1.setCell ⟨w.heap.size + 1, 1, none⟩ (.slice (some ⟨g1, 0, none⟩) (k + 1) cp1)) (E3.cs ⟨0, 0, 2 ^ k⟩) 33 3 1 rfl; simpa [E3.cs] using this) (E3.one _) (by unfold maxLen; omega) (by omega) (by simp; omega) ?_; intro vz' w2 hoz2 hg2 hat2; obtain ⟨g2, cp2, rfl⟩ := Go.Joins.ownsRow_form hoz2 (by omega); have hsz2 := hg2.size; (simp at hsz2); have Nz2 : vz.ownBlock ≠ some (w.heap.size + 1) := Nz.out; have b0 := cell_grown hg2 (cell_alloc_keep _ (cell_set_other d0)) Nz2; have b1 := cell_grown hg2 (cell_alloc_keep _ (World.cell?_setCell_same _ _ _ d1)) Nz2; have b2 := cell_grown hg2 (cell_alloc_keep _ (cell_set_other d2)) Nz2; have a1 := frz_grown hg2 (by simp; omega) (frozen_alloc_lt (b := w.heap.size + 1) (o := 1) _ (by simp; omega) (by rw [World.frozen?_setCell]; exact e1)) Nz2; have a2 := frz_grown hg2 (by simp; omega) (frozen_alloc_lt (b := w.heap.size + 1) (o := 2) _ (by simp; omega) (by rw [World.frozen?_setCell]; exact e2)) Nz2; clear Nz2)))
      go_roundw
      case rel =>
        have hoxA := ownsRow_setCell_below hox1 (show (⟨w.heap.size + 1, 1, none⟩ : Addr).block < w.heap.size + 2 from by simp) (.slice (some ⟨g1, 0, none⟩) (k + 1) cp1)
        have hoxB := own_other hg2 (hoxA.alloc _) (fun g a b => hap1.out g b a)
        have lx1 := hox1.lt
        have hapF := apart_new hap1.out.symm (H := w1.heap.size + 1) (fun g hg => by have := (lx1 g hg).2; omega) (by simpa using hat2)
        have bA : Below (w.heap.size + 1) (w.alloc (.cells #[.int .i64 0, .slice none 0 0, .slice none 0 0] 29)) (w1.setCell ⟨w.heap.size + 1, 1, none⟩ (.slice (some ⟨g1, 0, none⟩) (k + 1) cp1)) := Below.setCell (grown_below (hbel.alloc (by omega) _) (hox.out.alloc _) hg1 (by omega) (by simp; omega)) (by simp) _
        have bB := grown_below (bA.alloc (by simp; omega) (.cells #[.int .i64 0, .int .i64 0, .int .i64 (2 ^ k)] 33)) (hoz1.out.alloc _) hg2 (by omega) (by simp; omega)
        refine ⟨k + 1, _, _, by omega, by go_num, cell_set_other b0, cell_set_other b1, World.cell?_setCell_same _ _ _ b2, by rw [World.frozen?_setCell]; exact a1, by rw [World.frozen?_setCell]; exact a2, ?_, ?_, hapF, Below.setCell bB (by simp) _, by simp; omega⟩
        · show World.ownsRow _ _ _ _ _ _ _
          rw [idX_succ, List.flatMap_append]
          exact ownsRow_setCell_below hoxB (by simp) _
        · show World.ownsRow _ _ _ _ _ _ _
          rw [idZ_succ, List.flatMap_append]
          exact ownsRow_setCell_below hoz2 (by simp) _
      case measure => simp [intOf]; omega
    · have e : k = m := by omega
      subst e
      have r0 : wr.cell? ⟨w.heap.size, 0, none⟩ = some (.int .i64 0) := by rw [hbel.cell (p := ⟨w.heap.size, 0, none⟩) (by simp)]; exact cela
      have r1 : wr.cell? ⟨w.heap.size, 1, none⟩ = some (.slice none 0 0) := by rw [hbel.cell (p := ⟨w.heap.size, 1, none⟩) (by simp)]; exact cela
      have r2 : wr.cell? ⟨w.heap.size, 2, none⟩ = some (.slice none 0 0) := by rw [hbel.cell (p := ⟨w.heap.size, 2, none⟩) (by simp)]; exact cela
      have q0 : wr.frozen? ⟨w.heap.size, 0, none⟩ = false := by rw [hbel.frozen (p := ⟨w.heap.size, 0, none⟩) (by simp)]; exact froza
      have q1 : wr.frozen? ⟨w.heap.size, 1, none⟩ = false := by rw [hbel.frozen (p := ⟨w.heap.size, 1, none⟩) (by simp)]; exact froza
      have q2 : wr.frozen? ⟨w.heap.size, 2, none⟩ = false := by rw [hbel.frozen (p := ⟨w.heap.size, 2, none⟩) (by simp)]; exact froza
      obtain ⟨a9, cp9, rfl⟩ := own_form hox.out
      obtain ⟨b9, cq9, rfl⟩ := own_form hoz.out
      have hZ := box_set3 (.int .i64 (k : Int)) (.slice a9 k cp9) (.slice b9 k cq9) r0 r1 r2
      go_wp2_with fail
      refine bodyPost_ret (v := .agg #[.int .i64 (k : Int), .slice a9 k cp9, .slice b9 k cq9]) (by simp [results, Tryz.results66, go_sem, hZ]) rfl ⟨_, _, rfl, ?_, ?_, hap.out, belo⟩
      · unfold OwnE; rw [idX_len]
        exact own_le (ownsRow_setCell_below (ownsRow_setCell_below (ownsRow_setCell_below hox.out (by simp) _) (by simp) _) (by simp) _) (by omega)
      · unfold OwnE; rw [idZ_len]
        exact own_le (ownsRow_setCell_below (ownsRow_setCell_below (ownsRow_setCell_below hoz.out (by simp) _) (by simp) _) (by simp) _) (by omega)
end Go.Proofs.YtnckabohlakbgaaGreat
namespace Go.Proofs.YtnckabohlakbgaaGreat
set_option linter.unusedSimpArgs false
set_option linter.unusedVariables false
set_option linter.unnecessarySimpa false
set_option maxRecDepth 200000
open Go.ChangeShapes Go.WideShapes Go.ChangeAt Go.RowKit

/-- What a function that answers a tableau and 'ok' leaves. -/
def TabPost (w : World) (r : Option Tab) (e : Ending) (w' : World) : Prop :=
  ∃ u0 u1, e = .returned (.tuple #[.agg #[.int .i64 (r.getD Tab.zero).n, u0, u1], .bool r.isSome]) ∧ OwnE w' w.heap.size 33 u0 E3.cs 3 (r.getD Tab.zero).xs ∧ OwnE w' w.heap.size 33 u1 E3.cs 3 (r.getD Tab.zero).zs ∧ Apart u0 u1 ∧ Below w.heap.size w w'
def idTab (n : Int) : Option Tab := if inB n 1 5 then some (idT n) else none
theorem ownE_nil (w : World) (base : Nat) (t : TypeId) : OwnE w base t (.slice none 0 0) E3.cs 3 [] := World.ownsRow_nil _ _ _ _
theorem TabPost.none {w w' : World} {r : Option Tab} (hr : r = none) (hb : Below w.heap.size w w') : TabPost w r (.returned (.tuple #[.agg #[.int .i64 0, .slice none 0 0, .slice none 0 0], .bool false])) w' := by
  subst hr; exact ⟨_, _, rfl, ownE_nil _ _ _, ownE_nil _ _ _, apart_nil _, hb⟩
theorem TabPost.some {w w' : World} {r : Option Tab} {t : Tab} {u0 u1 : Value} (hr : r = some t) (h0 : OwnE w' w.heap.size 33 u0 E3.cs 3 t.xs) (h1 : OwnE w' w.heap.size 33 u1 E3.cs 3 t.zs) (ha : Apart u0 u1) (hb : Below w.heap.size w w') : TabPost w r (.returned (.tuple #[.agg #[.int .i64 t.n, u0, u1], .bool true])) w' := by
  subst hr; exact ⟨_, _, rfl, h0, h1, ha, hb⟩
end Go.Proofs.YtnckabohlakbgaaGreat
