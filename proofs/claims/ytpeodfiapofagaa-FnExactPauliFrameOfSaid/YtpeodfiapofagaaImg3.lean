/- The image of an operator under a tableau: ImageOf in the program and in the reference. -/
import Derived.Test.YtpeodfiapofagaaPau8
import Derived.Test.YtpeodfiapofagaaImg2
namespace Go.Proofs.Ytpeodfiapofagaa
set_option linter.unusedSimpArgs false
set_option linter.unusedVariables false
set_option linter.unnecessarySimpa false
set_option maxRecDepth 200000
open Go.ChangeShapes Go.WideShapes Go.ChangeAt Go.RowKit

noncomputable def imgG (d : Tab) (x : E3) : Option E3 := if TabOk d ∧ PauOk d.n x then some (imgN (d.xs.map tn) (d.zs.map tn) (tn x) d.n.toNat).e else none
theorem pes_of {L : List E3} (h : ∀ i, i < L.length → L.getD i ⟨0, 0, 0⟩ = (tn (L.getD i ⟨0, 0, 0⟩)).e) : L = pes (L.map tn) := by
  unfold pes
  rw [List.map_map]
  apply List.ext_getElem
  · simp
  · intro i h1 h2
    have := h i h1
    rw [getD_E h1] at this
    simpa using this
theorem plok_of {L : List E3} (h : ∀ i, i < L.length → PNok (tn (L.getD i ⟨0, 0, 0⟩))) : PLok (L.map tn) := by
  refine ⟨fun a ha => ?_⟩
  obtain ⟨g, hg, rfl⟩ := List.mem_map.1 ha
  obtain ⟨i, hi, rfl⟩ := List.mem_iff_getElem.1 hg
  have := h i hi
  rwa [getD_E hi] at this
theorem TabOk.parts {d : Tab} (h : TabOk d) : ∃ m : Nat, d.n = (m : Int) ∧ 1 ≤ m ∧ m ≤ 5 ∧ d.xs = pes (d.xs.map tn) ∧ d.zs = pes (d.zs.map tn) ∧ (d.xs.map tn).length = m ∧ (d.zs.map tn).length = m ∧ PLok (d.xs.map tn) ∧ PLok (d.zs.map tn) := by
  obtain ⟨⟨h1, h2⟩, h3, h4, h5, _⟩ := h
  have hx : ∀ i, i < d.xs.length → d.xs.getD i ⟨0, 0, 0⟩ = (tn (d.xs.getD i ⟨0, 0, 0⟩)).e ∧ PNok (tn (d.xs.getD i ⟨0, 0, 0⟩)) := fun i hi => by
    have h6 := (h5 i (by omega)).1.nat h1 h2
    have e : (d.xs ++ d.zs).getD i ⟨0, 0, 0⟩ = d.xs.getD i ⟨0, 0, 0⟩ := by simp [List.getD, List.getElem?_append_left hi]
    rwa [e] at h6
  have hz : ∀ i, i < d.zs.length → d.zs.getD i ⟨0, 0, 0⟩ = (tn (d.zs.getD i ⟨0, 0, 0⟩)).e ∧ PNok (tn (d.zs.getD i ⟨0, 0, 0⟩)) := fun i hi => by
    have h6 := (h5 (d.xs.length + i) (by omega)).1.nat h1 h2
    have e : (d.xs ++ d.zs).getD (d.xs.length + i) ⟨0, 0, 0⟩ = d.zs.getD i ⟨0, 0, 0⟩ := by simp [List.getD, List.getElem?_append_right]
    rwa [e] at h6
  exact ⟨d.n.toNat, by omega, by omega, by omega, pes_of fun i hi => (hx i hi).1, pes_of fun i hi => (hz i hi).1, by simp; omega, by simp; omega, plok_of fun i hi => (hx i hi).2, plok_of fun i hi => (hz i hi).2⟩
theorem pau_lt {n : Int} {m : Nat} {x : E3} {P : PN} (m5 : m ≤ 5) (h : PauOk n x) (hm : n = (m : Int)) (hP : P = tn x) : P.x < 2 ^ m := by
  subst hP hm
  have h2 := h.2.1
  rw [Int.toNat_natCast] at h2
  have e : (2 : Int) ^ m = ((2 ^ m : Nat) : Int) := by simp
  rw [e] at h2
  show x.b.toNat < _
  omega
set_option maxHeartbeats 2000000 in
theorem spec_ImageOf_any (d : Tab) (x : E3) (v0 v1 : Value) (w : World) (h0 : RdE w v0 E3.cs 3 d.xs) (h1 : RdE w v1 E3.cs 3 d.zs) (n0 : d.xs.length ≤ 1048576) (n1 : d.zs.length ≤ 1048576) :
    Calls Try.prog 32 #[.agg #[.int .i64 d.n, v0, v1], .agg #[.int .i64 x.a, .int .i64 x.b, .int .i64 x.c]] w fun e w' => e = .returned (.tuple #[.agg #[.int .i64 ((imgG d x).getD ⟨0, 0, 0⟩).a, .int .i64 ((imgG d x).getD ⟨0, 0, 0⟩).b, .int .i64 ((imgG d x).getD ⟨0, 0, 0⟩).c], .bool (imgG d x).isSome]) ∧ Below w.heap.size w w' := by
  have H0 := Lib.hid h0; have H1 := Lib.hid h1
  obtain ⟨A, c, rfl, _⟩ := h0.form
  obtain ⟨A2, c2, rfl, _⟩ := h1.form
  clear h0 h1
  obtain ⟨pa, pb, pc⟩ := x
  dsimp only
  by_cases ht : TabOk d
  · have HT := Lib.hid (show tabB d = true from decide_eq_true ht)
    cases hp : pauB d.n ⟨pa, pb, pc⟩ with
    | false =>
      have HG := Lib.hid (show imgG d ⟨pa, pb, pc⟩ = none from if_neg fun k => by rw [show pauB d.n ⟨pa, pb, pc⟩ = true from decide_eq_true ⟨ht.1, k.2⟩] at hp; cases hp)
      have HP := Lib.hid hp; clear hp ht
      go_enter Try.func32, Try.ntmps32
      go_wp2_with fail
      refine (spec_l7Good_any d _ _ _ (Rd.below H0.out (show Below w.heap.size w _ from (by repeat (first | exact Below.refl _ _ | assumption | refine Below.drew ?_ | refine below_drewN ?_ _ | refine Below.alloc ?_ (by first | omega | (simp <;> omega)) _ | refine Below.setCell ?_ (by first | omega | (simp <;> omega)) _ | refine Below.trans ?_ (Below.mono (by assumption) (by first | omega | (simp <;> omega)))))) rfl) (Rd.below H1.out (show Below w.heap.size w _ from (by repeat (first | exact Below.refl _ _ | assumption | refine Below.drew ?_ | refine below_drewN ?_ _ | refine Below.alloc ?_ (by first | omega | (simp <;> omega)) _ | refine Below.setCell ?_ (by first | omega | (simp <;> omega)) _ | refine Below.trans ?_ (Below.mono (by assumption) (by first | omega | (simp <;> omega)))))) rfl) n0 n1).mono ?_; rintro e w1 ⟨rfl, hb1⟩; rw [HT.out]
      have r0 : w1.cell? ⟨w.heap.size + 1 + 1, 0, none⟩ = some (.int .i64 0) := below_cell hb1 rfl (by repeat (first | (refine Eq.trans (World.cell?_alloc_at _ _ _ _ ?hh) ?_; (case hh => (simp; done)); rfl) | refine cell_alloc_keep _ ?_))
      have r1 : w1.cell? ⟨w.heap.size + 1 + 1, 1, none⟩ = some (.int .i64 0) := below_cell hb1 rfl (by repeat (first | (refine Eq.trans (World.cell?_alloc_at _ _ _ _ ?hh) ?_; (case hh => (simp; done)); rfl) | refine cell_alloc_keep _ ?_))
      have r2 : w1.cell? ⟨w.heap.size + 1 + 1, 2, none⟩ = some (.int .i64 0) := below_cell hb1 rfl (by repeat (first | (refine Eq.trans (World.cell?_alloc_at _ _ _ _ ?hh) ?_; (case hh => (simp; done)); rfl) | refine cell_alloc_keep _ ?_))
      obtain ⟨hc_hb1, hf_hb1⟩ := bcell hb1; have hz_hb1 := hb1.size; (try simp at hz_hb1); have hs0_hb1 : w.heap.size < w1.heap.size := (by omega); have hs1_hb1 : w.heap.size + 1 < w1.heap.size := (by omega); have hs2_hb1 : w.heap.size + 1 + 1 < w1.heap.size := (by omega)
      go_wp2_with fail
      refine (spec_l7Valid_any d.n ⟨pa, pb, pc⟩ _).mono ?_; rintro e w2 ⟨rfl, hb2⟩; rw [HP.out]
      replace r0 := below_cell hb2 rfl r0; replace r1 := below_cell hb2 rfl r1; replace r2 := below_cell hb2 rfl r2
      obtain ⟨hc_hb2, hf_hb2⟩ := bcell hb2; have hz_hb2 := hb2.size; (try simp at hz_hb2); have hs0_hb2 : w.heap.size < w2.heap.size := (by omega); have hs1_hb2 : w.heap.size + 1 < w2.heap.size := (by omega); have hs2_hb2 : w.heap.size + 1 + 1 < w2.heap.size := (by omega)
      go_wp2_with fail
      have hZ := box_set3 (nb := w.heap.size + 1 + 1) (.int .i64 0) (.int .i64 0) (.int .i64 0) r0 r1 r2
      refine bodyPost_ret (v := .tuple #[.agg #[.int .i64 0, .int .i64 0, .int .i64 0], .bool false]) (by simp [results, Try.results32, go_sem, hZ]) rfl ⟨by rw [HG.out]; rfl, (by repeat (first | exact Below.refl _ _ | assumption | refine Below.drew ?_ | refine below_drewN ?_ _ | refine Below.alloc ?_ (by first | omega | (simp <;> omega)) _ | refine Below.setCell ?_ (by first | omega | (simp <;> omega)) _ | refine Below.trans ?_ (Below.mono (by assumption) (by first | omega | (simp <;> omega)))))⟩
    | true =>
      have HG := Lib.hid (show imgG d ⟨pa, pb, pc⟩ = some (imgN (d.xs.map tn) (d.zs.map tn) (tn ⟨pa, pb, pc⟩) d.n.toNat).e from if_pos ⟨ht, pauB_ok hp⟩)
      have HP := Lib.hid hp
      obtain ⟨m, hm, m1, m5, ex, ez, lx, lz, okx, okz⟩ := ht.parts
      obtain ⟨hye, okp⟩ := (pauB_ok hp).nat (by omega) (by omega)
      have HPL := Lib.hid (pauB_ok hp)
      obtain ⟨P, hP⟩ : ∃ P, P = tn ⟨pa, pb, pc⟩ := ⟨_, rfl⟩
      rw [← hP] at hye okp HG
      unfold PN.e at hye
      injection hye with e1 e2 e3
      subst e1 e2 e3
      have RX := Lib.hid (show RdE w (.slice A d.xs.length c) E3.cs 3 (pes (d.xs.map tn)) from by rw [← ex]; exact H0.out)
      have RZ := Lib.hid (show RdE w (.slice A2 d.zs.length c2) E3.cs 3 (pes (d.zs.map tn)) from by rw [← ez]; exact H1.out)
      have HLX := Lib.hid lx; have HLZ := Lib.hid lz; have HOX := Lib.hid okx; have HOZ := Lib.hid okz; have HOP := Lib.hid okp
      have HS := Lib.hid (img_same (d.xs.map tn) (d.zs.map tn) (p := P) (n := m) okp.p (pau_lt m5 HPL.out hm hP) (by omega))
      rw [hm] at HG
      rw [Int.toNat_natCast] at HG
      have HM := Lib.hid hm
      clear hm ex ez lx lz okx okz okp hP hp ht
      have HPV : Hid (pauB d.n ⟨(P.p : Int), (P.x : Int), (P.z : Int)⟩ = true) := HP
      go_enter Try.func32, Try.ntmps32
      go_wp2_with fail
      refine (spec_l7Good_any d _ _ _ (Rd.below H0.out (show Below w.heap.size w _ from (by repeat (first | exact Below.refl _ _ | assumption | refine Below.drew ?_ | refine below_drewN ?_ _ | refine Below.alloc ?_ (by first | omega | (simp <;> omega)) _ | refine Below.setCell ?_ (by first | omega | (simp <;> omega)) _ | refine Below.trans ?_ (Below.mono (by assumption) (by first | omega | (simp <;> omega)))))) rfl) (Rd.below H1.out (show Below w.heap.size w _ from (by repeat (first | exact Below.refl _ _ | assumption | refine Below.drew ?_ | refine below_drewN ?_ _ | refine Below.alloc ?_ (by first | omega | (simp <;> omega)) _ | refine Below.setCell ?_ (by first | omega | (simp <;> omega)) _ | refine Below.trans ?_ (Below.mono (by assumption) (by first | omega | (simp <;> omega)))))) rfl) n0 n1).mono ?_; rintro e w1 ⟨rfl, hb1⟩; rw [HT.out]
      have r0 : w1.cell? ⟨w.heap.size + 1 + 1, 0, none⟩ = some (.int .i64 0) := below_cell hb1 rfl (by repeat (first | (refine Eq.trans (World.cell?_alloc_at _ _ _ _ ?hh) ?_; (case hh => (simp; done)); rfl) | refine cell_alloc_keep _ ?_))
      have r1 : w1.cell? ⟨w.heap.size + 1 + 1, 1, none⟩ = some (.int .i64 0) := below_cell hb1 rfl (by repeat (first | (refine Eq.trans (World.cell?_alloc_at _ _ _ _ ?hh) ?_; (case hh => (simp; done)); rfl) | refine cell_alloc_keep _ ?_))
      have r2 : w1.cell? ⟨w.heap.size + 1 + 1, 2, none⟩ = some (.int .i64 0) := below_cell hb1 rfl (by repeat (first | (refine Eq.trans (World.cell?_alloc_at _ _ _ _ ?hh) ?_; (case hh => (simp; done)); rfl) | refine cell_alloc_keep _ ?_))
      obtain ⟨hc_hb1, hf_hb1⟩ := bcell hb1; have hz_hb1 := hb1.size; (try simp at hz_hb1); have hs0_hb1 : w.heap.size < w1.heap.size := (by omega); have hs1_hb1 : w.heap.size + 1 < w1.heap.size := (by omega); have hs2_hb1 : w.heap.size + 1 + 1 < w1.heap.size := (by omega)
      go_wp2_with fail
      refine (spec_l7Valid_any d.n ⟨(P.p : Int), (P.x : Int), (P.z : Int)⟩ _).mono ?_; rintro e w2 ⟨rfl, hb2⟩; rw [HPV.out]
      replace r0 := below_cell hb2 rfl r0; replace r1 := below_cell hb2 rfl r1; replace r2 := below_cell hb2 rfl r2
      obtain ⟨hc_hb2, hf_hb2⟩ := bcell hb2; have hz_hb2 := hb2.size; (try simp at hz_hb2); have hs0_hb2 : w.heap.size < w2.heap.size := (by omega); have hs1_hb2 : w.heap.size + 1 < w2.heap.size := (by omega); have hs2_hb2 : w.heap.size + 1 + 1 < w2.heap.size := (by omega)
      go_wp2_with fail
      rw [HM.out]
      refine (spec_l7Image_any m (d.xs.map tn) (d.zs.map tn) P _ _ _ m5 HLX.out HLZ.out HOX.out HOZ.out HOP.out (Rd.below RX.out (show Below w.heap.size w w2 from (by repeat (first | exact Below.refl _ _ | assumption | refine Below.drew ?_ | refine below_drewN ?_ _ | refine Below.alloc ?_ (by first | omega | (simp <;> omega)) _ | refine Below.setCell ?_ (by first | omega | (simp <;> omega)) _ | refine Below.trans ?_ (Below.mono (by assumption) (by first | omega | (simp <;> omega)))))) rfl) (Rd.below RZ.out (show Below w.heap.size w w2 from (by repeat (first | exact Below.refl _ _ | assumption | refine Below.drew ?_ | refine below_drewN ?_ _ | refine Below.alloc ?_ (by first | omega | (simp <;> omega)) _ | refine Below.setCell ?_ (by first | omega | (simp <;> omega)) _ | refine Below.trans ?_ (Below.mono (by assumption) (by first | omega | (simp <;> omega)))))) rfl)).mono ?_; rintro e w3 ⟨rfl, hb3⟩
      rw [HS.out]
      replace r0 := below_cell hb3 rfl r0; replace r1 := below_cell hb3 rfl r1; replace r2 := below_cell hb3 rfl r2
      obtain ⟨hc_hb3, hf_hb3⟩ := bcell hb3; have hz_hb3 := hb3.size; (try simp at hz_hb3); have hs0_hb3 : w.heap.size < w3.heap.size := (by omega); have hs1_hb3 : w.heap.size + 1 < w3.heap.size := (by omega); have hs2_hb3 : w.heap.size + 1 + 1 < w3.heap.size := (by omega)
      obtain ⟨R, hR⟩ : ∃ R, R = imgN (d.xs.map tn) (d.zs.map tn) P m := ⟨_, rfl⟩
      rw [← hR] at HG ⊢
      clear hR
      go_wp2_with fail
      have hZ := box_set3 (nb := w.heap.size + 1 + 1) (.int .i64 (R.p : Int)) (.int .i64 (R.x : Int)) (.int .i64 (R.z : Int)) r0 r1 r2
      refine bodyPost_ret (v := .tuple #[.agg #[.int .i64 (R.p : Int), .int .i64 (R.x : Int), .int .i64 (R.z : Int)], .bool true]) (by simp [results, Try.results32, go_sem, hZ]) rfl ⟨by rw [HG.out]; rfl, (by repeat (first | exact Below.refl _ _ | assumption | refine Below.drew ?_ | refine below_drewN ?_ _ | refine Below.alloc ?_ (by first | omega | (simp <;> omega)) _ | refine Below.setCell ?_ (by first | omega | (simp <;> omega)) _ | refine Below.trans ?_ (Below.mono (by assumption) (by first | omega | (simp <;> omega)))))⟩
  · have HT := Lib.hid (show tabB d = false from decide_eq_false ht)
    have HG := Lib.hid (show imgG d ⟨pa, pb, pc⟩ = none from if_neg fun k => ht k.1)
    clear ht
    go_enter Try.func32, Try.ntmps32
    go_wp2_with fail
    refine (spec_l7Good_any d _ _ _ (Rd.below H0.out (show Below w.heap.size w _ from (by repeat (first | exact Below.refl _ _ | assumption | refine Below.drew ?_ | refine below_drewN ?_ _ | refine Below.alloc ?_ (by first | omega | (simp <;> omega)) _ | refine Below.setCell ?_ (by first | omega | (simp <;> omega)) _ | refine Below.trans ?_ (Below.mono (by assumption) (by first | omega | (simp <;> omega)))))) rfl) (Rd.below H1.out (show Below w.heap.size w _ from (by repeat (first | exact Below.refl _ _ | assumption | refine Below.drew ?_ | refine below_drewN ?_ _ | refine Below.alloc ?_ (by first | omega | (simp <;> omega)) _ | refine Below.setCell ?_ (by first | omega | (simp <;> omega)) _ | refine Below.trans ?_ (Below.mono (by assumption) (by first | omega | (simp <;> omega)))))) rfl) n0 n1).mono ?_; rintro e w1 ⟨rfl, hb1⟩; rw [HT.out]
    have r0 : w1.cell? ⟨w.heap.size + 1 + 1, 0, none⟩ = some (.int .i64 0) := below_cell hb1 rfl (by repeat (first | (refine Eq.trans (World.cell?_alloc_at _ _ _ _ ?hh) ?_; (case hh => (simp; done)); rfl) | refine cell_alloc_keep _ ?_))
    have r1 : w1.cell? ⟨w.heap.size + 1 + 1, 1, none⟩ = some (.int .i64 0) := below_cell hb1 rfl (by repeat (first | (refine Eq.trans (World.cell?_alloc_at _ _ _ _ ?hh) ?_; (case hh => (simp; done)); rfl) | refine cell_alloc_keep _ ?_))
    have r2 : w1.cell? ⟨w.heap.size + 1 + 1, 2, none⟩ = some (.int .i64 0) := below_cell hb1 rfl (by repeat (first | (refine Eq.trans (World.cell?_alloc_at _ _ _ _ ?hh) ?_; (case hh => (simp; done)); rfl) | refine cell_alloc_keep _ ?_))
    obtain ⟨hc_hb1, hf_hb1⟩ := bcell hb1; have hz_hb1 := hb1.size; (try simp at hz_hb1); have hs0_hb1 : w.heap.size < w1.heap.size := (by omega); have hs1_hb1 : w.heap.size + 1 < w1.heap.size := (by omega); have hs2_hb1 : w.heap.size + 1 + 1 < w1.heap.size := (by omega)
    go_wp2_with fail
    have hZ := box_set3 (nb := w.heap.size + 1 + 1) (.int .i64 0) (.int .i64 0) (.int .i64 0) r0 r1 r2
    refine bodyPost_ret (v := .tuple #[.agg #[.int .i64 0, .int .i64 0, .int .i64 0], .bool false]) (by simp [results, Try.results32, go_sem, hZ]) rfl ⟨by rw [HG.out]; rfl, (by repeat (first | exact Below.refl _ _ | assumption | refine Below.drew ?_ | refine below_drewN ?_ _ | refine Below.alloc ?_ (by first | omega | (simp <;> omega)) _ | refine Below.setCell ?_ (by first | omega | (simp <;> omega)) _ | refine Below.trans ?_ (Below.mono (by assumption) (by first | omega | (simp <;> omega)))))⟩
set_option maxHeartbeats 2000000 in
theorem impl_ImageOf_any (d : Tab) (x : E3) (v0 v1 : Value) (w : World) (h0 : RdE w v0 E3.cs 3 d.xs) (h1 : RdE w v1 E3.cs 3 d.zs) (n0 : d.xs.length ≤ 1048576) (n1 : d.zs.length ≤ 1048576) :
    Calls Try.prog 34 #[.agg #[.int .i64 d.n, v0, v1], .agg #[.int .i64 x.a, .int .i64 x.b, .int .i64 x.c]] w fun e w' => e = .returned (.tuple #[.agg #[.int .i64 ((imgG d x).getD ⟨0, 0, 0⟩).a, .int .i64 ((imgG d x).getD ⟨0, 0, 0⟩).b, .int .i64 ((imgG d x).getD ⟨0, 0, 0⟩).c], .bool (imgG d x).isSome]) ∧ Below w.heap.size w w' := by
  have H0 := Lib.hid h0; have H1 := Lib.hid h1
  obtain ⟨A, c, rfl, _⟩ := h0.form
  obtain ⟨A2, c2, rfl, _⟩ := h1.form
  clear h0 h1
  obtain ⟨pa, pb, pc⟩ := x
  dsimp only
  by_cases ht : TabOk d
  · have HT := Lib.hid (show tabB d = true from decide_eq_true ht)
    cases hp : pauB d.n ⟨pa, pb, pc⟩ with
    | false =>
      have HG := Lib.hid (show imgG d ⟨pa, pb, pc⟩ = none from if_neg fun k => by rw [show pauB d.n ⟨pa, pb, pc⟩ = true from decide_eq_true ⟨ht.1, k.2⟩] at hp; cases hp)
      have HP := Lib.hid hp; clear hp ht
      go_enter Try.func34, Try.ntmps34
      go_wp2_with fail
      refine (impl_IsValidTableau_any d _ _ _ (Rd.below H0.out (show Below w.heap.size w _ from (by repeat (first | exact Below.refl _ _ | assumption | refine Below.drew ?_ | refine below_drewN ?_ _ | refine Below.alloc ?_ (by first | omega | (simp <;> omega)) _ | refine Below.setCell ?_ (by first | omega | (simp <;> omega)) _ | refine Below.trans ?_ (Below.mono (by assumption) (by first | omega | (simp <;> omega)))))) rfl) (Rd.below H1.out (show Below w.heap.size w _ from (by repeat (first | exact Below.refl _ _ | assumption | refine Below.drew ?_ | refine below_drewN ?_ _ | refine Below.alloc ?_ (by first | omega | (simp <;> omega)) _ | refine Below.setCell ?_ (by first | omega | (simp <;> omega)) _ | refine Below.trans ?_ (Below.mono (by assumption) (by first | omega | (simp <;> omega)))))) rfl) n0 n1).mono ?_; rintro e w1 ⟨rfl, hb1⟩; rw [HT.out]
      have r0 : w1.cell? ⟨w.heap.size + 1 + 1, 0, none⟩ = some (.int .i64 0) := below_cell hb1 rfl (by repeat (first | (refine Eq.trans (World.cell?_alloc_at _ _ _ _ ?hh) ?_; (case hh => (simp; done)); rfl) | refine cell_alloc_keep _ ?_))
      have r1 : w1.cell? ⟨w.heap.size + 1 + 1, 1, none⟩ = some (.int .i64 0) := below_cell hb1 rfl (by repeat (first | (refine Eq.trans (World.cell?_alloc_at _ _ _ _ ?hh) ?_; (case hh => (simp; done)); rfl) | refine cell_alloc_keep _ ?_))
      have r2 : w1.cell? ⟨w.heap.size + 1 + 1, 2, none⟩ = some (.int .i64 0) := below_cell hb1 rfl (by repeat (first | (refine Eq.trans (World.cell?_alloc_at _ _ _ _ ?hh) ?_; (case hh => (simp; done)); rfl) | refine cell_alloc_keep _ ?_))
      obtain ⟨hc_hb1, hf_hb1⟩ := bcell hb1; have hz_hb1 := hb1.size; (try simp at hz_hb1); have hs0_hb1 : w.heap.size < w1.heap.size := (by omega); have hs1_hb1 : w.heap.size + 1 < w1.heap.size := (by omega); have hs2_hb1 : w.heap.size + 1 + 1 < w1.heap.size := (by omega)
      go_wp2_with fail
      refine (impl_IsValidPauli_any d.n ⟨pa, pb, pc⟩ _).mono ?_; rintro e w2 ⟨rfl, hb2⟩; rw [HP.out]
      replace r0 := below_cell hb2 rfl r0; replace r1 := below_cell hb2 rfl r1; replace r2 := below_cell hb2 rfl r2
      obtain ⟨hc_hb2, hf_hb2⟩ := bcell hb2; have hz_hb2 := hb2.size; (try simp at hz_hb2); have hs0_hb2 : w.heap.size < w2.heap.size := (by omega); have hs1_hb2 : w.heap.size + 1 < w2.heap.size := (by omega); have hs2_hb2 : w.heap.size + 1 + 1 < w2.heap.size := (by omega)
      go_wp2_with fail
      have hZ := box_set3 (nb := w.heap.size + 1 + 1) (.int .i64 0) (.int .i64 0) (.int .i64 0) r0 r1 r2
      refine bodyPost_ret (v := .tuple #[.agg #[.int .i64 0, .int .i64 0, .int .i64 0], .bool false]) (by simp [results, Try.results34, go_sem, hZ]) rfl ⟨by rw [HG.out]; rfl, (by repeat (first | exact Below.refl _ _ | assumption | refine Below.drew ?_ | refine below_drewN ?_ _ | refine Below.alloc ?_ (by first | omega | (simp <;> omega)) _ | refine Below.setCell ?_ (by first | omega | (simp <;> omega)) _ | refine Below.trans ?_ (Below.mono (by assumption) (by first | omega | (simp <;> omega)))))⟩
    | true =>
      have HG := Lib.hid (show imgG d ⟨pa, pb, pc⟩ = some (imgN (d.xs.map tn) (d.zs.map tn) (tn ⟨pa, pb, pc⟩) d.n.toNat).e from if_pos ⟨ht, pauB_ok hp⟩)
      have HP := Lib.hid hp
      obtain ⟨m, hm, m1, m5, ex, ez, lx, lz, okx, okz⟩ := ht.parts
      obtain ⟨hye, okp⟩ := (pauB_ok hp).nat (by omega) (by omega)
      have HPL := Lib.hid (pauB_ok hp)
      obtain ⟨P, hP⟩ : ∃ P, P = tn ⟨pa, pb, pc⟩ := ⟨_, rfl⟩
      rw [← hP] at hye okp HG
      unfold PN.e at hye
      injection hye with e1 e2 e3
      subst e1 e2 e3
      have RX := Lib.hid (show RdE w (.slice A d.xs.length c) E3.cs 3 (pes (d.xs.map tn)) from by rw [← ex]; exact H0.out)
      have RZ := Lib.hid (show RdE w (.slice A2 d.zs.length c2) E3.cs 3 (pes (d.zs.map tn)) from by rw [← ez]; exact H1.out)
      have HLX := Lib.hid lx; have HLZ := Lib.hid lz; have HOX := Lib.hid okx; have HOZ := Lib.hid okz; have HOP := Lib.hid okp
      rw [hm] at HG
      rw [Int.toNat_natCast] at HG
      have HM := Lib.hid hm
      clear hm ex ez lx lz okx okz okp hP hp ht
      have HPV : Hid (pauB d.n ⟨(P.p : Int), (P.x : Int), (P.z : Int)⟩ = true) := HP
      go_enter Try.func34, Try.ntmps34
      go_wp2_with fail
      refine (impl_IsValidTableau_any d _ _ _ (Rd.below H0.out (show Below w.heap.size w _ from (by repeat (first | exact Below.refl _ _ | assumption | refine Below.drew ?_ | refine below_drewN ?_ _ | refine Below.alloc ?_ (by first | omega | (simp <;> omega)) _ | refine Below.setCell ?_ (by first | omega | (simp <;> omega)) _ | refine Below.trans ?_ (Below.mono (by assumption) (by first | omega | (simp <;> omega)))))) rfl) (Rd.below H1.out (show Below w.heap.size w _ from (by repeat (first | exact Below.refl _ _ | assumption | refine Below.drew ?_ | refine below_drewN ?_ _ | refine Below.alloc ?_ (by first | omega | (simp <;> omega)) _ | refine Below.setCell ?_ (by first | omega | (simp <;> omega)) _ | refine Below.trans ?_ (Below.mono (by assumption) (by first | omega | (simp <;> omega)))))) rfl) n0 n1).mono ?_; rintro e w1 ⟨rfl, hb1⟩; rw [HT.out]
      have r0 : w1.cell? ⟨w.heap.size + 1 + 1, 0, none⟩ = some (.int .i64 0) := below_cell hb1 rfl (by repeat (first | (refine Eq.trans (World.cell?_alloc_at _ _ _ _ ?hh) ?_; (case hh => (simp; done)); rfl) | refine cell_alloc_keep _ ?_))
      have r1 : w1.cell? ⟨w.heap.size + 1 + 1, 1, none⟩ = some (.int .i64 0) := below_cell hb1 rfl (by repeat (first | (refine Eq.trans (World.cell?_alloc_at _ _ _ _ ?hh) ?_; (case hh => (simp; done)); rfl) | refine cell_alloc_keep _ ?_))
      have r2 : w1.cell? ⟨w.heap.size + 1 + 1, 2, none⟩ = some (.int .i64 0) := below_cell hb1 rfl (by repeat (first | (refine Eq.trans (World.cell?_alloc_at _ _ _ _ ?hh) ?_; (case hh => (simp; done)); rfl) | refine cell_alloc_keep _ ?_))
      obtain ⟨hc_hb1, hf_hb1⟩ := bcell hb1; have hz_hb1 := hb1.size; (try simp at hz_hb1); have hs0_hb1 : w.heap.size < w1.heap.size := (by omega); have hs1_hb1 : w.heap.size + 1 < w1.heap.size := (by omega); have hs2_hb1 : w.heap.size + 1 + 1 < w1.heap.size := (by omega)
      go_wp2_with fail
      refine (impl_IsValidPauli_any d.n ⟨(P.p : Int), (P.x : Int), (P.z : Int)⟩ _).mono ?_; rintro e w2 ⟨rfl, hb2⟩; rw [HPV.out]
      replace r0 := below_cell hb2 rfl r0; replace r1 := below_cell hb2 rfl r1; replace r2 := below_cell hb2 rfl r2
      obtain ⟨hc_hb2, hf_hb2⟩ := bcell hb2; have hz_hb2 := hb2.size; (try simp at hz_hb2); have hs0_hb2 : w.heap.size < w2.heap.size := (by omega); have hs1_hb2 : w.heap.size + 1 < w2.heap.size := (by omega); have hs2_hb2 : w.heap.size + 1 + 1 < w2.heap.size := (by omega)
      go_wp2_with fail
      rw [HM.out]
      refine (impl_image_any m (d.xs.map tn) (d.zs.map tn) P _ _ _ m5 HLX.out HLZ.out HOX.out HOZ.out HOP.out (Rd.below RX.out (show Below w.heap.size w w2 from (by repeat (first | exact Below.refl _ _ | assumption | refine Below.drew ?_ | refine below_drewN ?_ _ | refine Below.alloc ?_ (by first | omega | (simp <;> omega)) _ | refine Below.setCell ?_ (by first | omega | (simp <;> omega)) _ | refine Below.trans ?_ (Below.mono (by assumption) (by first | omega | (simp <;> omega)))))) rfl) (Rd.below RZ.out (show Below w.heap.size w w2 from (by repeat (first | exact Below.refl _ _ | assumption | refine Below.drew ?_ | refine below_drewN ?_ _ | refine Below.alloc ?_ (by first | omega | (simp <;> omega)) _ | refine Below.setCell ?_ (by first | omega | (simp <;> omega)) _ | refine Below.trans ?_ (Below.mono (by assumption) (by first | omega | (simp <;> omega)))))) rfl)).mono ?_; rintro e w3 ⟨rfl, hb3⟩
      replace r0 := below_cell hb3 rfl r0; replace r1 := below_cell hb3 rfl r1; replace r2 := below_cell hb3 rfl r2
      obtain ⟨hc_hb3, hf_hb3⟩ := bcell hb3; have hz_hb3 := hb3.size; (try simp at hz_hb3); have hs0_hb3 : w.heap.size < w3.heap.size := (by omega); have hs1_hb3 : w.heap.size + 1 < w3.heap.size := (by omega); have hs2_hb3 : w.heap.size + 1 + 1 < w3.heap.size := (by omega)
      obtain ⟨R, hR⟩ : ∃ R, R = imgN (d.xs.map tn) (d.zs.map tn) P m := ⟨_, rfl⟩
      rw [← hR] at HG ⊢
      clear hR
      go_wp2_with fail
      have hZ := box_set3 (nb := w.heap.size + 1 + 1) (.int .i64 (R.p : Int)) (.int .i64 (R.x : Int)) (.int .i64 (R.z : Int)) r0 r1 r2
      refine bodyPost_ret (v := .tuple #[.agg #[.int .i64 (R.p : Int), .int .i64 (R.x : Int), .int .i64 (R.z : Int)], .bool true]) (by simp [results, Try.results34, go_sem, hZ]) rfl ⟨by rw [HG.out]; rfl, (by repeat (first | exact Below.refl _ _ | assumption | refine Below.drew ?_ | refine below_drewN ?_ _ | refine Below.alloc ?_ (by first | omega | (simp <;> omega)) _ | refine Below.setCell ?_ (by first | omega | (simp <;> omega)) _ | refine Below.trans ?_ (Below.mono (by assumption) (by first | omega | (simp <;> omega)))))⟩
  · have HT := Lib.hid (show tabB d = false from decide_eq_false ht)
    have HG := Lib.hid (show imgG d ⟨pa, pb, pc⟩ = none from if_neg fun k => ht k.1)
    clear ht
    go_enter Try.func34, Try.ntmps34
    go_wp2_with fail
    refine (impl_IsValidTableau_any d _ _ _ (Rd.below H0.out (show Below w.heap.size w _ from (by repeat (first | exact Below.refl _ _ | assumption | refine Below.drew ?_ | refine below_drewN ?_ _ | refine Below.alloc ?_ (by first | omega | (simp <;> omega)) _ | refine Below.setCell ?_ (by first | omega | (simp <;> omega)) _ | refine Below.trans ?_ (Below.mono (by assumption) (by first | omega | (simp <;> omega)))))) rfl) (Rd.below H1.out (show Below w.heap.size w _ from (by repeat (first | exact Below.refl _ _ | assumption | refine Below.drew ?_ | refine below_drewN ?_ _ | refine Below.alloc ?_ (by first | omega | (simp <;> omega)) _ | refine Below.setCell ?_ (by first | omega | (simp <;> omega)) _ | refine Below.trans ?_ (Below.mono (by assumption) (by first | omega | (simp <;> omega)))))) rfl) n0 n1).mono ?_; rintro e w1 ⟨rfl, hb1⟩; rw [HT.out]
    have r0 : w1.cell? ⟨w.heap.size + 1 + 1, 0, none⟩ = some (.int .i64 0) := below_cell hb1 rfl (by repeat (first | (refine Eq.trans (World.cell?_alloc_at _ _ _ _ ?hh) ?_; (case hh => (simp; done)); rfl) | refine cell_alloc_keep _ ?_))
    have r1 : w1.cell? ⟨w.heap.size + 1 + 1, 1, none⟩ = some (.int .i64 0) := below_cell hb1 rfl (by repeat (first | (refine Eq.trans (World.cell?_alloc_at _ _ _ _ ?hh) ?_; (case hh => (simp; done)); rfl) | refine cell_alloc_keep _ ?_))
    have r2 : w1.cell? ⟨w.heap.size + 1 + 1, 2, none⟩ = some (.int .i64 0) := below_cell hb1 rfl (by repeat (first | (refine Eq.trans (World.cell?_alloc_at _ _ _ _ ?hh) ?_; (case hh => (simp; done)); rfl) | refine cell_alloc_keep _ ?_))
    obtain ⟨hc_hb1, hf_hb1⟩ := bcell hb1; have hz_hb1 := hb1.size; (try simp at hz_hb1); have hs0_hb1 : w.heap.size < w1.heap.size := (by omega); have hs1_hb1 : w.heap.size + 1 < w1.heap.size := (by omega); have hs2_hb1 : w.heap.size + 1 + 1 < w1.heap.size := (by omega)
    go_wp2_with fail
    have hZ := box_set3 (nb := w.heap.size + 1 + 1) (.int .i64 0) (.int .i64 0) (.int .i64 0) r0 r1 r2
    refine bodyPost_ret (v := .tuple #[.agg #[.int .i64 0, .int .i64 0, .int .i64 0], .bool false]) (by simp [results, Try.results34, go_sem, hZ]) rfl ⟨by rw [HG.out]; rfl, (by repeat (first | exact Below.refl _ _ | assumption | refine Below.drew ?_ | refine below_drewN ?_ _ | refine Below.alloc ?_ (by first | omega | (simp <;> omega)) _ | refine Below.setCell ?_ (by first | omega | (simp <;> omega)) _ | refine Below.trans ?_ (Below.mono (by assumption) (by first | omega | (simp <;> omega)))))⟩
end Go.Proofs.Ytpeodfiapofagaa
