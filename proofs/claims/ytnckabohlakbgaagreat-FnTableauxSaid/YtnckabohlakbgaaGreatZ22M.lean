/- Two tableaux, one after the other: ComposeTableaux in the program and in the reference. -/
import Derived.Test.YtnckabohlakbgaaGreatZ18M
import Derived.Test.YtnckabohlakbgaaGreatZ21M
import Derived.Test.YtnckabohlakbgaaGreatZ17M
import Derived.Test.YtnckabohlakbgaaGreatZ05M
import Derived.BigQuiet
import Derived.Deep.QuietTactic
namespace Go.Proofs.YtnckabohlakbgaaGreat
set_option linter.unusedSimpArgs false
set_option linter.unusedVariables false
set_option linter.unnecessarySimpa false
set_option maxRecDepth 200000
open Go.ChangeShapes Go.WideShapes Go.ChangeAt Go.RowKit

noncomputable def cmpG (d1 d2 : Tab) : Option Tab := if TabOk d1 ∧ TabOk d2 ∧ d1.n = d2.n then some ⟨d1.n, pes (compL imgN (d2.xs.map tn) (d2.zs.map tn) d1.n.toNat (d1.xs.map tn)), pes (compL imgN (d2.xs.map tn) (d2.zs.map tn) d1.n.toNat (d1.zs.map tn))⟩ else none
theorem cmpG_some {d1 d2 : Tab} (h1 : TabOk d1) (h2 : TabOk d2) (h3 : d1.n = d2.n) : cmpG d1 d2 = some ⟨d1.n, pes (compL imgN (d2.xs.map tn) (d2.zs.map tn) d1.n.toNat (d1.xs.map tn)), pes (compL imgN (d2.xs.map tn) (d2.zs.map tn) d1.n.toNat (d1.zs.map tn))⟩ := if_pos ⟨h1, h2, h3⟩
theorem compL_same {n : Nat} {X Z : List PN} (hn : n ≤ 5) {L : List PN} (h : PLok L) (hl : ∀ a ∈ L, a.x < 2 ^ n) : compL imgS X Z n L = compL imgN X Z n L := by
  unfold compL
  apply List.map_congr_left
  intro a ha
  exact img_same X Z (h.all a ha).p (hl a ha) (by omega)
set_option maxHeartbeats 4000000 in
theorem impl_ComposeTableaux_any (d1 d2 : Tab) (v0 v1 u0 u1 : Value) (w : World) (h0 : RdE w v0 E3.cs 3 d1.xs) (h1 : RdE w v1 E3.cs 3 d1.zs) (k0 : RdE w u0 E3.cs 3 d2.xs) (k1 : RdE w u1 E3.cs 3 d2.zs) (n0 : d1.xs.length ≤ 1048576) (n1 : d1.zs.length ≤ 1048576) (m0 : d2.xs.length ≤ 1048576) (m1 : d2.zs.length ≤ 1048576) :
    Calls Tryz.prog 12 #[.agg #[.int .i64 d1.n, v0, v1], .agg #[.int .i64 d2.n, u0, u1]] w (TabPost w (cmpG d1 d2)) := by
  have H0 := Lib.hid h0; have H1 := Lib.hid h1; have K0 := Lib.hid k0; have K1 := Lib.hid k1
  obtain ⟨A, c, rfl, _⟩ := h0.form
  obtain ⟨A2, c2, rfl, _⟩ := h1.form
  obtain ⟨C, c3, rfl, _⟩ := k0.form
  obtain ⟨C2, c4, rfl, _⟩ := k1.form
  clear h0 h1 k0 k1
  by_cases ht : TabOk d1
  · have HT1 := Lib.hid (show tabB d1 = true from decide_eq_true ht)
    by_cases ht2 : TabOk d2
    · have HT2 := Lib.hid (show tabB d2 = true from decide_eq_true ht2)
      by_cases hn : d1.n = d2.n
      · have HG := Lib.hid (cmpG_some ht ht2 hn)
        obtain ⟨m, hm, q1, q5, ex, ez, lx, lz, okx, okz⟩ := ht.parts
        obtain ⟨m2, hm2, _, _, fx, fz, kx, kz, pkx, pkz⟩ := ht2.parts
        obtain rfl : m2 = m := by omega
        have RX := Lib.hid (show RdE w (.slice A d1.xs.length c) E3.cs 3 (pes (d1.xs.map tn)) from by rw [← ex]; exact H0.out)
        have RZ := Lib.hid (show RdE w (.slice A2 d1.zs.length c2) E3.cs 3 (pes (d1.zs.map tn)) from by rw [← ez]; exact H1.out)
        have SX := Lib.hid (show RdE w (.slice C d2.xs.length c3) E3.cs 3 (pes (d2.xs.map tn)) from by rw [← fx]; exact K0.out)
        have SZ := Lib.hid (show RdE w (.slice C2 d2.zs.length c4) E3.cs 3 (pes (d2.zs.map tn)) from by rw [← fz]; exact K1.out)
        have HLX := Lib.hid lx; have HLZ := Lib.hid lz; have HOX := Lib.hid okx; have HOZ := Lib.hid okz
        have HKX := Lib.hid kx; have HKZ := Lib.hid kz; have HPX := Lib.hid pkx; have HPZ := Lib.hid pkz
        have hd : (d1.n != d2.n) = false := by simpa using hn
        have HM := Lib.hid hm; have HM2 := Lib.hid hm2
        rw [hm] at HG
        rw [Int.toNat_natCast] at HG
        clear hm hm2 ex ez lx lz okx okz fx fz kx kz pkx pkz ht ht2 hn
        go_enter Tryz.func12, Tryz.ntmps12
        go_wp2_with fail
        refine (impl_IsValidTableau_any d1 _ _ _ (Rd.below H0.out (show Below w.heap.size w _ from belo) rfl) (Rd.below H1.out (show Below w.heap.size w _ from belo) rfl) n0 n1).mono ?_; rintro e w1 ⟨rfl, hb1⟩; rw [HT1.out]
        have r0 : w1.cell? ⟨w.heap.size + 1 + 1, 0, none⟩ = some (.int .i64 0) := below_cell hb1 rfl cela
        have r1 : w1.cell? ⟨w.heap.size + 1 + 1, 1, none⟩ = some (.slice none 0 0) := below_cell hb1 rfl cela
        have r2 : w1.cell? ⟨w.heap.size + 1 + 1, 2, none⟩ = some (.slice none 0 0) := below_cell hb1 rfl cela
        obtain ⟨hc_hb1, hf_hb1⟩ := bcell hb1; have hz_hb1 := hb1.size; (try simp at hz_hb1); have hs0_hb1 : w.heap.size < w1.heap.size := (by omega); have hs1_hb1 : w.heap.size + 1 < w1.heap.size := (by omega); have hs2_hb1 : w.heap.size + 1 + 1 < w1.heap.size := (by omega)
        go_wp2_with fail
        refine (impl_IsValidTableau_any d2 _ _ _ (Rd.below K0.out (show Below w.heap.size w _ from belo) rfl) (Rd.below K1.out (show Below w.heap.size w _ from belo) rfl) m0 m1).mono ?_; rintro e w2 ⟨rfl, hb2⟩; rw [HT2.out]
        replace r0 := below_cell hb2 rfl r0
        replace r1 := below_cell hb2 rfl r1
        replace r2 := below_cell hb2 rfl r2
        obtain ⟨hc_hb2, hf_hb2⟩ := bcell hb2; have hz_hb2 := hb2.size; (try simp at hz_hb2); have hs0_hb2 : w.heap.size < w2.heap.size := (by omega); have hs1_hb2 : w.heap.size + 1 < w2.heap.size := (by omega); have hs2_hb2 : w.heap.size + 1 + 1 < w2.heap.size := (by omega)
        go_wp2_with fail
        rw [HM.out, HM2.out]
        refine (impl_compose_any m2 (d1.xs.map tn) (d1.zs.map tn) (d2.xs.map tn) (d2.zs.map tn) _ _ _ _ _ q5 HLX.out HLZ.out HKX.out HKZ.out HOX.out HOZ.out HPX.out HPZ.out (Rd.below RX.out (show Below w.heap.size w w2 from belo) rfl) (Rd.below RZ.out (show Below w.heap.size w w2 from belo) rfl) (Rd.below SX.out (show Below w.heap.size w w2 from belo) rfl) (Rd.below SZ.out (show Below w.heap.size w w2 from belo) rfl)).mono ?_; rintro e w3 ⟨r3, r4, rfl, ho0, ho1, hap, hb3⟩
        obtain ⟨a3, p3, rfl⟩ := own_form ho0
        obtain ⟨a4, p4, rfl⟩ := own_form ho1
        have HO0 := Lib.hid (OwnE.le ho0 (base' := w.heap.size + 3) (by omega)); have HO1 := Lib.hid (OwnE.le ho1 (base' := w.heap.size + 3) (by omega)); have HAP := Lib.hid hap
        clear ho0 ho1 hap
        replace r0 := below_cell hb3 rfl r0; replace r1 := below_cell hb3 rfl r1; replace r2 := below_cell hb3 rfl r2
        obtain ⟨hc_hb3, hf_hb3⟩ := bcell hb3; have hz_hb3 := hb3.size; (try simp at hz_hb3); have hs0_hb3 : w.heap.size < w3.heap.size := (by omega); have hs1_hb3 : w.heap.size + 1 < w3.heap.size := (by omega); have hs2_hb3 : w.heap.size + 1 + 1 < w3.heap.size := (by omega)
        generalize (pes (compL imgN (d2.xs.map tn) (d2.zs.map tn) m2 (d1.xs.map tn))) = PX at *
        generalize (pes (compL imgN (d2.xs.map tn) (d2.zs.map tn) m2 (d1.zs.map tn))) = PZ at *
        go_wp2_with fail
        have hZ := box_set3 (nb := w.heap.size + 1 + 1) (.int .i64 (m2 : Int)) (.slice a3 PX.length p3) (.slice a4 PZ.length p4) r0 r1 r2
        exact bodyPost_ret (v := .tuple #[.agg #[.int .i64 (m2 : Int), .slice a3 PX.length p3, .slice a4 PZ.length p4], .bool true]) (by simp [results, Tryz.results12, go_sem, hZ]) rfl (TabPost.some (t := ⟨(m2 : Int), PX, PZ⟩) HG.out (OwnE.le (OwnE.set (OwnE.set (OwnE.set HO0.out (by simp) _) (by simp) _) (by simp) _) (by omega)) (OwnE.le (OwnE.set (OwnE.set (OwnE.set HO1.out (by simp) _) (by simp) _) (by simp) _) (by omega)) HAP.out belo)
      · have HG := Lib.hid (show cmpG d1 d2 = none from if_neg fun k => hn k.2.2)
        have hd : (d1.n != d2.n) = true := by simpa using hn
        clear ht ht2 hn
        go_enter Tryz.func12, Tryz.ntmps12
        go_wp2_with fail
        refine (impl_IsValidTableau_any d1 _ _ _ (Rd.below H0.out (show Below w.heap.size w _ from belo) rfl) (Rd.below H1.out (show Below w.heap.size w _ from belo) rfl) n0 n1).mono ?_; rintro e w1 ⟨rfl, hb1⟩; rw [HT1.out]
        have r0 : w1.cell? ⟨w.heap.size + 1 + 1, 0, none⟩ = some (.int .i64 0) := below_cell hb1 rfl cela
        have r1 : w1.cell? ⟨w.heap.size + 1 + 1, 1, none⟩ = some (.slice none 0 0) := below_cell hb1 rfl cela
        have r2 : w1.cell? ⟨w.heap.size + 1 + 1, 2, none⟩ = some (.slice none 0 0) := below_cell hb1 rfl cela
        obtain ⟨hc_hb1, hf_hb1⟩ := bcell hb1; have hz_hb1 := hb1.size; (try simp at hz_hb1); have hs0_hb1 : w.heap.size < w1.heap.size := (by omega); have hs1_hb1 : w.heap.size + 1 < w1.heap.size := (by omega); have hs2_hb1 : w.heap.size + 1 + 1 < w1.heap.size := (by omega)
        go_wp2_with fail
        refine (impl_IsValidTableau_any d2 _ _ _ (Rd.below K0.out (show Below w.heap.size w _ from belo) rfl) (Rd.below K1.out (show Below w.heap.size w _ from belo) rfl) m0 m1).mono ?_; rintro e w2 ⟨rfl, hb2⟩; rw [HT2.out]
        replace r0 := below_cell hb2 rfl r0
        replace r1 := below_cell hb2 rfl r1
        replace r2 := below_cell hb2 rfl r2
        obtain ⟨hc_hb2, hf_hb2⟩ := bcell hb2; have hz_hb2 := hb2.size; (try simp at hz_hb2); have hs0_hb2 : w.heap.size < w2.heap.size := (by omega); have hs1_hb2 : w.heap.size + 1 < w2.heap.size := (by omega); have hs2_hb2 : w.heap.size + 1 + 1 < w2.heap.size := (by omega)
        go_wp2_with fail
        have hZ := box_set3 (nb := w.heap.size + 1 + 1) (.int .i64 0) (.slice none 0 0) (.slice none 0 0) r0 r1 r2
        exact bodyPost_ret (v := .tuple #[.agg #[.int .i64 0, .slice none 0 0, .slice none 0 0], .bool false]) (by simp [results, Tryz.results12, go_sem, hZ]) rfl (TabPost.none HG.out belo)
    · have HT2 := Lib.hid (show tabB d2 = false from decide_eq_false ht2)
      have HG := Lib.hid (show cmpG d1 d2 = none from if_neg fun k => ht2 k.2.1)
      clear ht ht2
      go_enter Tryz.func12, Tryz.ntmps12
      go_wp2_with fail
      refine (impl_IsValidTableau_any d1 _ _ _ (Rd.below H0.out (show Below w.heap.size w _ from belo) rfl) (Rd.below H1.out (show Below w.heap.size w _ from belo) rfl) n0 n1).mono ?_; rintro e w1 ⟨rfl, hb1⟩; rw [HT1.out]
      have r0 : w1.cell? ⟨w.heap.size + 1 + 1, 0, none⟩ = some (.int .i64 0) := below_cell hb1 rfl cela
      have r1 : w1.cell? ⟨w.heap.size + 1 + 1, 1, none⟩ = some (.slice none 0 0) := below_cell hb1 rfl cela
      have r2 : w1.cell? ⟨w.heap.size + 1 + 1, 2, none⟩ = some (.slice none 0 0) := below_cell hb1 rfl cela
      obtain ⟨hc_hb1, hf_hb1⟩ := bcell hb1; have hz_hb1 := hb1.size; (try simp at hz_hb1); have hs0_hb1 : w.heap.size < w1.heap.size := (by omega); have hs1_hb1 : w.heap.size + 1 < w1.heap.size := (by omega); have hs2_hb1 : w.heap.size + 1 + 1 < w1.heap.size := (by omega)
      go_wp2_with fail
      refine (impl_IsValidTableau_any d2 _ _ _ (Rd.below K0.out (show Below w.heap.size w _ from belo) rfl) (Rd.below K1.out (show Below w.heap.size w _ from belo) rfl) m0 m1).mono ?_; rintro e w2 ⟨rfl, hb2⟩; rw [HT2.out]
      replace r0 := below_cell hb2 rfl r0
      replace r1 := below_cell hb2 rfl r1
      replace r2 := below_cell hb2 rfl r2
      obtain ⟨hc_hb2, hf_hb2⟩ := bcell hb2; have hz_hb2 := hb2.size; (try simp at hz_hb2); have hs0_hb2 : w.heap.size < w2.heap.size := (by omega); have hs1_hb2 : w.heap.size + 1 < w2.heap.size := (by omega); have hs2_hb2 : w.heap.size + 1 + 1 < w2.heap.size := (by omega)
      go_wp2_with fail
      have hZ := box_set3 (nb := w.heap.size + 1 + 1) (.int .i64 0) (.slice none 0 0) (.slice none 0 0) r0 r1 r2
      exact bodyPost_ret (v := .tuple #[.agg #[.int .i64 0, .slice none 0 0, .slice none 0 0], .bool false]) (by simp [results, Tryz.results12, go_sem, hZ]) rfl (TabPost.none HG.out belo)
  · have HT1 := Lib.hid (show tabB d1 = false from decide_eq_false ht)
    have HG := Lib.hid (show cmpG d1 d2 = none from if_neg fun k => ht k.1)
    clear ht
    go_enter Tryz.func12, Tryz.ntmps12
    go_wp2_with fail
    refine (impl_IsValidTableau_any d1 _ _ _ (Rd.below H0.out (show Below w.heap.size w _ from belo) rfl) (Rd.below H1.out (show Below w.heap.size w _ from belo) rfl) n0 n1).mono ?_; rintro e w1 ⟨rfl, hb1⟩; rw [HT1.out]
    have r0 : w1.cell? ⟨w.heap.size + 1 + 1, 0, none⟩ = some (.int .i64 0) := below_cell hb1 rfl cela
    have r1 : w1.cell? ⟨w.heap.size + 1 + 1, 1, none⟩ = some (.slice none 0 0) := below_cell hb1 rfl cela
    have r2 : w1.cell? ⟨w.heap.size + 1 + 1, 2, none⟩ = some (.slice none 0 0) := below_cell hb1 rfl cela
    obtain ⟨hc_hb1, hf_hb1⟩ := bcell hb1; have hz_hb1 := hb1.size; (try simp at hz_hb1); have hs0_hb1 : w.heap.size < w1.heap.size := (by omega); have hs1_hb1 : w.heap.size + 1 < w1.heap.size := (by omega); have hs2_hb1 : w.heap.size + 1 + 1 < w1.heap.size := (by omega)
    go_wp2_with fail
    have hZ := box_set3 (nb := w.heap.size + 1 + 1) (.int .i64 0) (.slice none 0 0) (.slice none 0 0) r0 r1 r2
    exact bodyPost_ret (v := .tuple #[.agg #[.int .i64 0, .slice none 0 0, .slice none 0 0], .bool false]) (by simp [results, Tryz.results12, go_sem, hZ]) rfl (TabPost.none HG.out belo)
end Go.Proofs.YtnckabohlakbgaaGreat
namespace Go.Proofs.YtnckabohlakbgaaGreat
set_option linter.unusedSimpArgs false
set_option linter.unusedVariables false
set_option linter.unnecessarySimpa false
set_option maxRecDepth 200000
open Go.ChangeShapes Go.WideShapes Go.ChangeAt Go.RowKit

/-- Operators whose masks lie below 2^n. -/
structure LtL (n : Nat) (L : List PN) : Prop where
  ok : PLok L
  lt : ∀ a ∈ L, a.x < 2 ^ n ∧ a.z < 2 ^ n
theorem LtL.get {n : Nat} {L : List PN} (h : LtL n L) (i : Nat) : (L.getD i ⟨0, 0, 0⟩).x < 2 ^ n ∧ (L.getD i ⟨0, 0, 0⟩).z < 2 ^ n := by
  by_cases hi : i < L.length
  · have e : L.getD i ⟨0, 0, 0⟩ = L[i] := by simp [List.getD, hi]
    rw [e]; exact h.lt _ (List.getElem_mem hi)
  · have e : L.getD i ⟨0, 0, 0⟩ = ⟨0, 0, 0⟩ := by simp [List.getD, hi]
    rw [e]; exact ⟨Nat.two_pow_pos n, Nat.two_pow_pos n⟩
theorem mulN_lt {n : Nat} {a b : PN} (ha : a.x < 2 ^ n ∧ a.z < 2 ^ n) (hb : b.x < 2 ^ n ∧ b.z < 2 ^ n) : (mulN a b).x < 2 ^ n ∧ (mulN a b).z < 2 ^ n :=
  ⟨Nat.xor_lt_two_pow ha.1 hb.1, Nat.xor_lt_two_pow ha.2 hb.2⟩
theorem imgN_lt {n : Nat} {X Z : List PN} (hX : LtL n X) (hZ : LtL n Z) (p : PN) : ∀ k, (imgN X Z p k).x < 2 ^ n ∧ (imgN X Z p k).z < 2 ^ n
  | 0 => ⟨Nat.two_pow_pos n, Nat.two_pow_pos n⟩
  | k + 1 => by
    have ih := imgN_lt hX hZ p k
    unfold imgN
    dsimp only
    split
    · split
      · exact mulN_lt (mulN_lt ih (hX.get k)) (hZ.get k)
      · exact mulN_lt ih (hZ.get k)
    · split
      · exact mulN_lt ih (hX.get k)
      · exact ih
theorem LtL.comp {n : Nat} {X Z L : List PN} (hX : LtL n X) (hZ : LtL n Z) : LtL n (compL imgN X Z n L) := by
  refine ⟨⟨fun a ha => ?_⟩, fun a ha => ?_⟩
  · obtain ⟨p, _, rfl⟩ := List.mem_map.1 ha; exact imgN_ok hX.ok hZ.ok n
  · obtain ⟨p, _, rfl⟩ := List.mem_map.1 ha; exact imgN_lt hX hZ p n
theorem compL_len (f : List PN → List PN → PN → Nat → PN) (X Z : List PN) (n : Nat) (L : List PN) : (compL f X Z n L).length = L.length := by simp [compL]
theorem TabOk.lt {d : Tab} {m : Nat} (h : TabOk d) (hm : d.n = (m : Int)) : LtL m (d.xs.map tn) ∧ LtL m (d.zs.map tn) := by
  obtain ⟨m2, hm2, _, _, _, _, _, _, okx, okz⟩ := h.parts
  obtain rfl : m2 = m := by omega
  obtain ⟨⟨h1, h2⟩, h3, h4, h5, _⟩ := h
  have key : ∀ g : E3, PauOk d.n g → (tn g).x < 2 ^ m2 ∧ (tn g).z < 2 ^ m2 := by
    intro g hg
    obtain ⟨_, ⟨b0, b1⟩, c0, c1⟩ := hg
    rw [hm2, Int.toNat_natCast] at b1 c1
    have e : (2 : Int) ^ m2 = ((2 ^ m2 : Nat) : Int) := by simp
    rw [e] at b1 c1
    have hp := Nat.two_pow_pos m2
    unfold tn; dsimp only
    generalize 2 ^ m2 = q at *
    omega
  refine ⟨⟨okx, fun a ha => ?_⟩, ⟨okz, fun a ha => ?_⟩⟩
  · obtain ⟨g, hg, rfl⟩ := List.mem_map.1 ha
    obtain ⟨i, hi, rfl⟩ := List.mem_iff_getElem.1 hg
    have h6 := (h5 i (by omega)).1
    have e : (d.xs ++ d.zs).getD i ⟨0, 0, 0⟩ = d.xs[i] := by simp [List.getD, List.getElem?_append_left hi, hi]
    rw [e] at h6
    exact key _ h6
  · obtain ⟨g, hg, rfl⟩ := List.mem_map.1 ha
    obtain ⟨i, hi, rfl⟩ := List.mem_iff_getElem.1 hg
    have h6 := (h5 (d.xs.length + i) (by omega)).1
    have e : (d.xs ++ d.zs).getD (d.xs.length + i) ⟨0, 0, 0⟩ = d.zs[i] := by simp [List.getD, List.getElem?_append_right, hi]
    rw [e] at h6
    exact key _ h6
theorem compL_samet {n : Nat} {X Z : List PN} (hn : n ≤ 5) {L : List PN} (h : LtL n L) : compL imgS X Z n L = compL imgN X Z n L :=
  compL_same hn h.ok (fun a ha => (h.lt a ha).1)
/-- The identity's images. -/
def idPX (n : Nat) : List PN := (List.range n).map fun q => ⟨0, 2 ^ q, 0⟩
def idPZ (n : Nat) : List PN := (List.range n).map fun q => ⟨0, 0, 2 ^ q⟩
theorem idPX_len (n : Nat) : (idPX n).length = n := by simp [idPX]
theorem idPZ_len (n : Nat) : (idPZ n).length = n := by simp [idPZ]
theorem idX_pes (n : Nat) : idX n = pes (idPX n) := by
  unfold idX pes idPX; rw [List.map_map]; apply List.map_congr_left; intro q _; simp [PN.e]
theorem idZ_pes (n : Nat) : idZ n = pes (idPZ n) := by
  unfold idZ pes idPZ; rw [List.map_map]; apply List.map_congr_left; intro q _; simp [PN.e]
theorem idPX_lt {n : Nat} (h : n ≤ 5) : LtL n (idPX n) := by
  refine ⟨⟨fun a ha => ?_⟩, fun a ha => ?_⟩
  all_goals
    obtain ⟨q, hq, rfl⟩ := List.mem_map.1 ha
    have hq := List.mem_range.1 hq
    have h2 : 2 ^ q < 2 ^ n := Nat.pow_lt_pow_right (by omega) hq
    have h3 : 2 ^ n ≤ 2 ^ 5 := Nat.pow_le_pow_right (by omega) h
  · exact ⟨by simp, by dsimp only; omega, by simp⟩
  · exact ⟨h2, Nat.two_pow_pos n⟩
theorem idPZ_lt {n : Nat} (h : n ≤ 5) : LtL n (idPZ n) := by
  refine ⟨⟨fun a ha => ?_⟩, fun a ha => ?_⟩
  all_goals
    obtain ⟨q, hq, rfl⟩ := List.mem_map.1 ha
    have hq := List.mem_range.1 hq
    have h2 : 2 ^ q < 2 ^ n := Nat.pow_lt_pow_right (by omega) hq
    have h3 : 2 ^ n ≤ 2 ^ 5 := Nat.pow_le_pow_right (by omega) h
  · exact ⟨by simp, by simp, by dsimp only; omega⟩
  · exact ⟨Nat.two_pow_pos n, h2⟩
/-- The power k + 1 of a tableau. -/
def powX (X Z : List PN) (n : Nat) : Nat → List PN
  | 0 => X
  | k + 1 => compL imgN X Z n (powX X Z n k)
def powZ (X Z : List PN) (n : Nat) : Nat → List PN
  | 0 => Z
  | k + 1 => compL imgN X Z n (powZ X Z n k)
/-- Is the power k + 1 the identity? -/
def ordAt (X Z : List PN) (n k : Nat) : Bool := decide (powX X Z n k = idPX n ∧ powZ X Z n k = idPZ n)
def OrdTo (X Z : List PN) (n k : Nat) : Prop := ∀ j, j < k → ordAt X Z n j = false
theorem OrdTo.next {X Z : List PN} {n k : Nat} (h : OrdTo X Z n k) (h2 : ordAt X Z n k = false) : OrdTo X Z n (k + 1) := by
  intro j hj
  by_cases e : j = k
  · subst e; exact h2
  · exact h j (by omega)
end Go.Proofs.YtnckabohlakbgaaGreat
namespace Go.Proofs.YtnckabohlakbgaaGreat
set_option linter.unusedSimpArgs false
set_option linter.unusedVariables false
set_option linter.unnecessarySimpa false
set_option maxRecDepth 200000
open Go.ChangeShapes Go.WideShapes Go.ChangeAt Go.RowKit

end Go.Proofs.YtnckabohlakbgaaGreat
namespace Go.Proofs.YtnckabohlakbgaaGreat
set_option linter.unusedSimpArgs false
set_option linter.unusedVariables false
set_option linter.unnecessarySimpa false
set_option maxRecDepth 200000
open Go.ChangeShapes Go.WideShapes Go.ChangeAt Go.RowKit

def SameTo (xs ys : List E3) (k : Nat) : Prop := ∀ j, j < k → xs.getD j ⟨0, 0, 0⟩ = ys.getD j ⟨0, 0, 0⟩
theorem SameTo.next {xs ys : List E3} {k : Nat} (h : SameTo xs ys k) (h2 : xs.getD k ⟨0, 0, 0⟩ = ys.getD k ⟨0, 0, 0⟩) : SameTo xs ys (k + 1) := by
  intro j hj
  by_cases e : j = k
  · subst e; exact h2
  · exact h j (by omega)
theorem SameTo.all {xs ys : List E3} {m : Nat} (h : SameTo xs ys m) (hx : xs.length = m) (hy : ys.length = m) : xs = ys := by
  apply List.ext_getElem (by omega)
  intro i h1 h2
  have := h i (by omega)
  simpa [List.getD, h1, h2] using this
theorem E3.eq_of {x y : E3} (h : (x.a == y.a) = true) (h1 : (x.b == y.b) = true) (h2 : (x.c == y.c) = true) : x = y := by
  cases x; cases y; simp only [E3.mk.injEq]; exact ⟨LawfulBEq.eq_of_beq h, LawfulBEq.eq_of_beq h1, LawfulBEq.eq_of_beq h2⟩
end Go.Proofs.YtnckabohlakbgaaGreat
