/- ComposeLinear in the program and in the reference. -/
import Derived.Test.YtdgghpbcinmbhaaLin5
import Derived.Deep.RegionLaw
namespace Go.Proofs.Ytdgghpbcinmbhaa
set_option linter.unusedSimpArgs false
set_option linter.unusedVariables false
set_option linter.unnecessarySimpa false
set_option maxRecDepth 200000
open Go.ChangeShapes Go.WideShapes Go.ChangeAt Go.RowKit

def natL (zs : List Int) : List Nat := zs.map Int.toNat
theorem natL_len (zs : List Int) : (natL zs).length = zs.length := by simp [natL]
noncomputable def compG (f s : List Int) : Option (List Int) := if LinOk f ∧ LinOk s ∧ f.length = s.length then some (ints (thenN (natL f) (natL s))) else none
theorem compG_none {f s : List Int} (h : ¬ (LinOk f ∧ LinOk s ∧ f.length = s.length)) : compG f s = none := if_neg h
theorem compG_some {f s : List Int} (h : LinOk f ∧ LinOk s ∧ f.length = s.length) : compG f s = some (ints (thenN (natL f) (natL s))) := if_pos h
theorem compG_len (f s : List Int) : ((compG f s).getD []).length ≤ 1000000 := by
  unfold compG
  split
  · next h => simp [ints_len, thenN_len, natL_len]; have := h.2.1.1; omega
  · simp
theorem rows_lt {f s : List Int} (h : LinOk f ∧ LinOk s ∧ f.length = s.length) : ∀ y ∈ natL s, y < 2 ^ (natL f).length := by
  intro y hy
  obtain ⟨z, hz, rfl⟩ := List.mem_map.1 hy
  have h1 := allIn_iff.1 h.2.1.2.1 z hz
  rw [natL_len, h.2.2]
  have h5 := h.2.1.1.2
  have : s.length = 0 ∨ s.length = 1 ∨ s.length = 2 ∨ s.length = 3 ∨ s.length = 4 ∨ s.length = 5 := by omega
  rcases this with e | e | e | e | e | e <;> rw [e] at h1 ⊢ <;> simp at h1 ⊢ <;> omega
set_option maxHeartbeats 1000000 in
theorem spec_ComposeLinear_any (v u : Value) (f s : List Int) (w : World) (h : RdI w v f) (hu : RdI w u s) (hn : f.length ≤ 1048576) (hm : s.length ≤ 1048576) :
    Calls Try.prog 28 #[.agg #[v], .agg #[u]] w (LinPost w (compG f s)) := by
  have H := Lib.hid h; have HU := Lib.hid hu
  obtain ⟨A, c, rfl, _⟩ := h.form
  obtain ⟨A2, c2, rfl, _⟩ := hu.form
  clear h hu
  by_cases hv : LinOk f
  · by_cases hq : LinOk s
    · by_cases hl : f.length = s.length
      · have HG := Lib.hid (compG_some ⟨hv, hq, hl⟩)
        have Hv := Lib.hid (linB_true hv); have Hq := Lib.hid (linB_true hq)
        have g1 : ((f.length : Int) != (s.length : Int)) = false := by simp; omega
        have Hr := Lib.hid (rows_lt ⟨hv, hq, hl⟩)
        have Hz := Lib.hid hv.nat.1; have Hs := Lib.hid hv.nat.2; have Hz2 := Lib.hid hq.nat.1; have Hs2 := Lib.hid hq.nat.2
        have l1 := hv.1; have l2 := hq.1
        obtain ⟨l1a, l1b⟩ := l1; obtain ⟨l2a, l2b⟩ := l2
        clear hv hq hl
        go_enter Try.func28, Try.ntmps28
        go_wp2_with fail
        refine (spec_l12Valid_any _ f _ (Rd.below H.out (show Below w.heap.size w _ from (by repeat (first | exact Below.refl _ _ | assumption | refine Below.drew ?_ | refine below_drewN ?_ _ | refine Below.alloc ?_ (by first | omega | (simp <;> omega)) _ | refine Below.setCell ?_ (by first | omega | (simp <;> omega)) _ | refine Below.trans ?_ (Below.mono (by assumption) (by first | omega | (simp <;> omega)))))) rfl) hn).mono ?_; rintro e w1 ⟨rfl, hb1⟩
        rw [Hv.out]
        have r1 : w1.cell? ⟨w.heap.size + 1 + 1, 0, none⟩ = some (.slice none 0 0) := below_cell hb1 rfl (by repeat (first | (refine Eq.trans (World.cell?_alloc_at _ _ _ _ ?hh) ?_; (case hh => (simp; done)); rfl) | refine cell_alloc_keep _ ?_))
        obtain ⟨hc_hb1, hf_hb1⟩ := bcell hb1; have hz_hb1 := hb1.size; (try simp at hz_hb1); have hs0_hb1 : w.heap.size < w1.heap.size := (by omega); have hs1_hb1 : w.heap.size + 1 < w1.heap.size := (by omega); have hs2_hb1 : w.heap.size + 1 + 1 < w1.heap.size := (by omega)
        go_wp2_with fail
        refine (spec_l12Valid_any _ s _ (Rd.below HU.out (show Below w.heap.size w _ from (by repeat (first | exact Below.refl _ _ | assumption | refine Below.drew ?_ | refine below_drewN ?_ _ | refine Below.alloc ?_ (by first | omega | (simp <;> omega)) _ | refine Below.setCell ?_ (by first | omega | (simp <;> omega)) _ | refine Below.trans ?_ (Below.mono (by assumption) (by first | omega | (simp <;> omega)))))) rfl) hm).mono ?_; rintro e w2 ⟨rfl, hb2⟩
        rw [Hq.out]
        replace r1 := below_cell hb2 rfl r1
        obtain ⟨hc_hb2, hf_hb2⟩ := bcell hb2; have hz_hb2 := hb2.size; (try simp at hz_hb2); have hs0_hb2 : w.heap.size < w2.heap.size := (by omega); have hs1_hb2 : w.heap.size + 1 < w2.heap.size := (by omega); have hs2_hb2 : w.heap.size + 1 + 1 < w2.heap.size := (by omega)
        go_wp2_with fail
        refine (spec_l12Then_any _ _ (natL f) (natL s) _ (by unfold natL; rw [← Hz.out]; exact Rd.below H.out (show Below w.heap.size w _ from (by repeat (first | exact Below.refl _ _ | assumption | refine Below.drew ?_ | refine below_drewN ?_ _ | refine Below.alloc ?_ (by first | omega | (simp <;> omega)) _ | refine Below.setCell ?_ (by first | omega | (simp <;> omega)) _ | refine Below.trans ?_ (Below.mono (by assumption) (by first | omega | (simp <;> omega)))))) rfl) (by unfold natL; rw [← Hz2.out]; exact Rd.below HU.out (show Below w.heap.size w _ from (by repeat (first | exact Below.refl _ _ | assumption | refine Below.drew ?_ | refine below_drewN ?_ _ | refine Below.alloc ?_ (by first | omega | (simp <;> omega)) _ | refine Below.setCell ?_ (by first | omega | (simp <;> omega)) _ | refine Below.trans ?_ (Below.mono (by assumption) (by first | omega | (simp <;> omega)))))) rfl) Hs.out Hr.out (by rw [natL_len]; omega) (by rw [natL_len]; omega) (by rw [natL_len]; omega) (by rw [natL_len]; omega)).mono ?_; rintro e w3 ⟨v2, rfl, ho, hb3⟩
        obtain ⟨a2, cap2, rfl⟩ := ho.forms
        have Ho := Lib.hid (OwnI.le ho (base' := w.heap.size + 3) (by omega)); clear ho
        replace r1 := below_cell hb3 rfl r1
        obtain ⟨hc_hb3, hf_hb3⟩ := bcell hb3; have hz_hb3 := hb3.size; (try simp at hz_hb3); have hs0_hb3 : w.heap.size < w3.heap.size := (by omega); have hs1_hb3 : w.heap.size + 1 < w3.heap.size := (by omega); have hs2_hb3 : w.heap.size + 1 + 1 < w3.heap.size := (by omega)
        go_wp2_with fail
        exact bodyPost_ret (v := .tuple #[.agg #[.slice a2 (ints (thenN (natL f) (natL s))).length cap2], .bool true]) (by simp [results, Try.results28, go_sem, r1]) rfl (LinPost.some HG.out (OwnI.le (OwnI.set Ho.out (by simp) _) (by omega)) (by repeat (first | exact Below.refl _ _ | assumption | refine Below.drew ?_ | refine below_drewN ?_ _ | refine Below.alloc ?_ (by first | omega | (simp <;> omega)) _ | refine Below.setCell ?_ (by first | omega | (simp <;> omega)) _ | refine Below.trans ?_ (Below.mono (by assumption) (by first | omega | (simp <;> omega))))))
      · have HG := Lib.hid (compG_none (fun k => hl k.2.2) : compG f s = none)
        have Hv := Lib.hid (linB_true hv); have Hq := Lib.hid (linB_true hq)
        have g1 : ((f.length : Int) != (s.length : Int)) = true := by simp; omega
        clear hv hq hl
        go_enter Try.func28, Try.ntmps28
        go_wp2_with fail
        refine (spec_l12Valid_any _ f _ (Rd.below H.out (show Below w.heap.size w _ from (by repeat (first | exact Below.refl _ _ | assumption | refine Below.drew ?_ | refine below_drewN ?_ _ | refine Below.alloc ?_ (by first | omega | (simp <;> omega)) _ | refine Below.setCell ?_ (by first | omega | (simp <;> omega)) _ | refine Below.trans ?_ (Below.mono (by assumption) (by first | omega | (simp <;> omega)))))) rfl) hn).mono ?_; rintro e w1 ⟨rfl, hb1⟩
        rw [Hv.out]
        have r1 : w1.cell? ⟨w.heap.size + 1 + 1, 0, none⟩ = some (.slice none 0 0) := below_cell hb1 rfl (by repeat (first | (refine Eq.trans (World.cell?_alloc_at _ _ _ _ ?hh) ?_; (case hh => (simp; done)); rfl) | refine cell_alloc_keep _ ?_))
        obtain ⟨hc_hb1, hf_hb1⟩ := bcell hb1; have hz_hb1 := hb1.size; (try simp at hz_hb1); have hs0_hb1 : w.heap.size < w1.heap.size := (by omega); have hs1_hb1 : w.heap.size + 1 < w1.heap.size := (by omega); have hs2_hb1 : w.heap.size + 1 + 1 < w1.heap.size := (by omega)
        go_wp2_with fail
        refine (spec_l12Valid_any _ s _ (Rd.below HU.out (show Below w.heap.size w _ from (by repeat (first | exact Below.refl _ _ | assumption | refine Below.drew ?_ | refine below_drewN ?_ _ | refine Below.alloc ?_ (by first | omega | (simp <;> omega)) _ | refine Below.setCell ?_ (by first | omega | (simp <;> omega)) _ | refine Below.trans ?_ (Below.mono (by assumption) (by first | omega | (simp <;> omega)))))) rfl) hm).mono ?_; rintro e w2 ⟨rfl, hb2⟩
        rw [Hq.out]
        replace r1 := below_cell hb2 rfl r1
        obtain ⟨hc_hb2, hf_hb2⟩ := bcell hb2; have hz_hb2 := hb2.size; (try simp at hz_hb2); have hs0_hb2 : w.heap.size < w2.heap.size := (by omega); have hs1_hb2 : w.heap.size + 1 < w2.heap.size := (by omega); have hs2_hb2 : w.heap.size + 1 + 1 < w2.heap.size := (by omega)
        go_wp2_with fail
        exact bodyPost_ret (v := .tuple #[.agg #[.slice none 0 0], .bool false]) (by simp [results, Try.results28, go_sem, r1]) rfl (LinPost.none HG.out (by repeat (first | exact Below.refl _ _ | assumption | refine Below.drew ?_ | refine below_drewN ?_ _ | refine Below.alloc ?_ (by first | omega | (simp <;> omega)) _ | refine Below.setCell ?_ (by first | omega | (simp <;> omega)) _ | refine Below.trans ?_ (Below.mono (by assumption) (by first | omega | (simp <;> omega))))))
    · have HG := Lib.hid (compG_none (fun k => hq k.2.1) : compG f s = none)
      have Hv := Lib.hid (linB_true hv); have Hq := Lib.hid (linB_false hq)
      clear hv hq
      go_enter Try.func28, Try.ntmps28
      go_wp2_with fail
      refine (spec_l12Valid_any _ f _ (Rd.below H.out (show Below w.heap.size w _ from (by repeat (first | exact Below.refl _ _ | assumption | refine Below.drew ?_ | refine below_drewN ?_ _ | refine Below.alloc ?_ (by first | omega | (simp <;> omega)) _ | refine Below.setCell ?_ (by first | omega | (simp <;> omega)) _ | refine Below.trans ?_ (Below.mono (by assumption) (by first | omega | (simp <;> omega)))))) rfl) hn).mono ?_; rintro e w1 ⟨rfl, hb1⟩
      rw [Hv.out]
      have r1 : w1.cell? ⟨w.heap.size + 1 + 1, 0, none⟩ = some (.slice none 0 0) := below_cell hb1 rfl (by repeat (first | (refine Eq.trans (World.cell?_alloc_at _ _ _ _ ?hh) ?_; (case hh => (simp; done)); rfl) | refine cell_alloc_keep _ ?_))
      obtain ⟨hc_hb1, hf_hb1⟩ := bcell hb1; have hz_hb1 := hb1.size; (try simp at hz_hb1); have hs0_hb1 : w.heap.size < w1.heap.size := (by omega); have hs1_hb1 : w.heap.size + 1 < w1.heap.size := (by omega); have hs2_hb1 : w.heap.size + 1 + 1 < w1.heap.size := (by omega)
      go_wp2_with fail
      refine (spec_l12Valid_any _ s _ (Rd.below HU.out (show Below w.heap.size w _ from (by repeat (first | exact Below.refl _ _ | assumption | refine Below.drew ?_ | refine below_drewN ?_ _ | refine Below.alloc ?_ (by first | omega | (simp <;> omega)) _ | refine Below.setCell ?_ (by first | omega | (simp <;> omega)) _ | refine Below.trans ?_ (Below.mono (by assumption) (by first | omega | (simp <;> omega)))))) rfl) hm).mono ?_; rintro e w2 ⟨rfl, hb2⟩
      rw [Hq.out]
      replace r1 := below_cell hb2 rfl r1
      obtain ⟨hc_hb2, hf_hb2⟩ := bcell hb2; have hz_hb2 := hb2.size; (try simp at hz_hb2); have hs0_hb2 : w.heap.size < w2.heap.size := (by omega); have hs1_hb2 : w.heap.size + 1 < w2.heap.size := (by omega); have hs2_hb2 : w.heap.size + 1 + 1 < w2.heap.size := (by omega)
      go_wp2_with fail
      exact bodyPost_ret (v := .tuple #[.agg #[.slice none 0 0], .bool false]) (by simp [results, Try.results28, go_sem, r1]) rfl (LinPost.none HG.out (by repeat (first | exact Below.refl _ _ | assumption | refine Below.drew ?_ | refine below_drewN ?_ _ | refine Below.alloc ?_ (by first | omega | (simp <;> omega)) _ | refine Below.setCell ?_ (by first | omega | (simp <;> omega)) _ | refine Below.trans ?_ (Below.mono (by assumption) (by first | omega | (simp <;> omega))))))
  · have HG := Lib.hid (compG_none (fun k => hv k.1) : compG f s = none)
    have Hv := Lib.hid (linB_false hv); clear hv
    go_enter Try.func28, Try.ntmps28
    go_wp2_with fail
    refine (spec_l12Valid_any _ f _ (Rd.below H.out (show Below w.heap.size w _ from (by repeat (first | exact Below.refl _ _ | assumption | refine Below.drew ?_ | refine below_drewN ?_ _ | refine Below.alloc ?_ (by first | omega | (simp <;> omega)) _ | refine Below.setCell ?_ (by first | omega | (simp <;> omega)) _ | refine Below.trans ?_ (Below.mono (by assumption) (by first | omega | (simp <;> omega)))))) rfl) hn).mono ?_; rintro e w1 ⟨rfl, hb1⟩
    rw [Hv.out]
    have r1 : w1.cell? ⟨w.heap.size + 1 + 1, 0, none⟩ = some (.slice none 0 0) := below_cell hb1 rfl (by repeat (first | (refine Eq.trans (World.cell?_alloc_at _ _ _ _ ?hh) ?_; (case hh => (simp; done)); rfl) | refine cell_alloc_keep _ ?_))
    obtain ⟨hc_hb1, hf_hb1⟩ := bcell hb1; have hz_hb1 := hb1.size; (try simp at hz_hb1); have hs0_hb1 : w.heap.size < w1.heap.size := (by omega); have hs1_hb1 : w.heap.size + 1 < w1.heap.size := (by omega); have hs2_hb1 : w.heap.size + 1 + 1 < w1.heap.size := (by omega)
    go_wp2_with fail
    exact bodyPost_ret (v := .tuple #[.agg #[.slice none 0 0], .bool false]) (by simp [results, Try.results28, go_sem, r1]) rfl (LinPost.none HG.out (by repeat (first | exact Below.refl _ _ | assumption | refine Below.drew ?_ | refine below_drewN ?_ _ | refine Below.alloc ?_ (by first | omega | (simp <;> omega)) _ | refine Below.setCell ?_ (by first | omega | (simp <;> omega)) _ | refine Below.trans ?_ (Below.mono (by assumption) (by first | omega | (simp <;> omega))))))
set_option maxHeartbeats 4000000 in
theorem impl_ComposeLinear_any (v u : Value) (f s : List Int) (w : World) (h : RdI w v f) (hu : RdI w u s) (hn : f.length ≤ 1048576) (hm : s.length ≤ 1048576) :
    Calls Try.prog 29 #[.agg #[v], .agg #[u]] w (LinPost w (compG f s)) := by
  have H := Lib.hid h; have HU := Lib.hid hu
  obtain ⟨A, c, rfl, _⟩ := h.form
  obtain ⟨A2, c2, rfl, _⟩ := hu.form
  clear h hu
  by_cases hv : LinOk f
  · by_cases hq : LinOk s
    · by_cases hl : f.length = s.length
      · have HG := Lib.hid (compG_some ⟨hv, hq, hl⟩)
        have Hv := Lib.hid (linB_true hv); have Hq := Lib.hid (linB_true hq)
        have g1 : ((f.length : Int) != (s.length : Int)) = false := by simp; omega
        have Hr := Lib.hid (rows_lt ⟨hv, hq, hl⟩)
        have Hz := Lib.hid hv.nat.1; have Hs := Lib.hid hv.nat.2; have Hz2 := Lib.hid hq.nat.1; have Hs2 := Lib.hid hq.nat.2
        have l1 := hv.1; have l2 := hq.1
        obtain ⟨l1a, l1b⟩ := l1; obtain ⟨l2a, l2b⟩ := l2
        clear hv hq hl
        go_enter Try.func29, Try.ntmps29
        go_wp2_with fail
        refine (impl_IsValidLinear_any _ f _ (Rd.below H.out (show Below w.heap.size w _ from (by repeat (first | exact Below.refl _ _ | assumption | refine Below.drew ?_ | refine below_drewN ?_ _ | refine Below.alloc ?_ (by first | omega | (simp <;> omega)) _ | refine Below.setCell ?_ (by first | omega | (simp <;> omega)) _ | refine Below.trans ?_ (Below.mono (by assumption) (by first | omega | (simp <;> omega)))))) rfl) hn).mono ?_; rintro e w1 ⟨rfl, hb1⟩
        rw [Hv.out]
        have r1 : w1.cell? ⟨w.heap.size + 1 + 1, 0, none⟩ = some (.slice none 0 0) := below_cell hb1 rfl (by repeat (first | (refine Eq.trans (World.cell?_alloc_at _ _ _ _ ?hh) ?_; (case hh => (simp; done)); rfl) | refine cell_alloc_keep _ ?_))
        obtain ⟨hc_hb1, hf_hb1⟩ := bcell hb1; have hz_hb1 := hb1.size; (try simp at hz_hb1); have hs0_hb1 : w.heap.size < w1.heap.size := (by omega); have hs1_hb1 : w.heap.size + 1 < w1.heap.size := (by omega); have hs2_hb1 : w.heap.size + 1 + 1 < w1.heap.size := (by omega)
        go_wp2_with fail
        refine (impl_IsValidLinear_any _ s _ (Rd.below HU.out (show Below w.heap.size w _ from (by repeat (first | exact Below.refl _ _ | assumption | refine Below.drew ?_ | refine below_drewN ?_ _ | refine Below.alloc ?_ (by first | omega | (simp <;> omega)) _ | refine Below.setCell ?_ (by first | omega | (simp <;> omega)) _ | refine Below.trans ?_ (Below.mono (by assumption) (by first | omega | (simp <;> omega)))))) rfl) hm).mono ?_; rintro e w2 ⟨rfl, hb2⟩
        rw [Hq.out]
        replace r1 := below_cell hb2 rfl r1
        obtain ⟨hc_hb2, hf_hb2⟩ := bcell hb2; have hz_hb2 := hb2.size; (try simp at hz_hb2); have hs0_hb2 : w.heap.size < w2.heap.size := (by omega); have hs1_hb2 : w.heap.size + 1 < w2.heap.size := (by omega); have hs2_hb2 : w.heap.size + 1 + 1 < w2.heap.size := (by omega)
        go_wp2_with fail
        obtain ⟨b2, off2, cap2, e2, hb2', hlc2, hm2, hc2⟩ := rd_small (show RdI w (.slice A2 s.length c2) (ints (natL s)) from by unfold natL; rw [← Hz2.out]; exact HU.out) (by rw [natL_len]; omega)
        injection e2 with e2 en e3; subst e2; subst e3
        clear en
        rw [natL_len] at hc2 hlc2
        have Hc2 := Lib.hid hc2; clear hc2
        have HF := Lib.hid (show RdI w (.slice A f.length c) (ints (natL f)) from by unfold natL; rw [← Hz.out]; exact H.out)
        have Hlt := Lib.hid (show ∀ k, k < s.length → (natL s).getD k 0 ≤ 31 from fun k hk => Hs2.out.get k)
        have c0 : w2.cell? ⟨w.heap.size, 0, none⟩ = some (.slice A f.length c) := below_cell hb2 rfl (below_cell hb1 rfl (by repeat (first | (refine Eq.trans (World.cell?_alloc_at _ _ _ _ ?hh) ?_; (case hh => (simp; done)); rfl) | refine cell_alloc_keep _ ?_)))
        have r2 : w2.frozen? ⟨w.heap.size + 1 + 1, 0, none⟩ = false := below_frz hb2 rfl (by omega) (below_frz hb1 rfl (by simp) (by repeat (first | (refine World.frozen?_alloc_at _ _ _ _ ?hh; case hh => (simp; done)) | (refine frozen_alloc_lt _ ?hh ?_; case hh => first | omega | (simp <;> omega)))))
        have bw : Below w.heap.size w (w2.alloc (.cells #[.slice none 0 0] 32)) := (by repeat (first | exact Below.refl _ _ | assumption | refine Below.drew ?_ | refine below_drewN ?_ _ | refine Below.alloc ?_ (by first | omega | (simp <;> omega)) _ | refine Below.setCell ?_ (by first | omega | (simp <;> omega)) _ | refine Below.trans ?_ (Below.mono (by assumption) (by first | omega | (simp <;> omega)))))
        have hLf : 0 < (natL f).length := by rw [natL_len]; omega
        have hLf2 : (natL f).length ≤ 60 := by rw [natL_len]; omega
        obtain ⟨i0, hi, hz0, hz1, hz2⟩ := info_parts info_int
        have z1 : w.heap.size + 3 ≤ w2.heap.size := by omega
        clear hb1 hb2 hc_hb1 hf_hb1 hc_hb2 hf_hb2 HU H
        go_loopw [31] (fun i wr => ∃ (k : Nat) (vv : Value), k ≤ s.length ∧ i = .int .i64 k ∧ wr.cell? ⟨w2.heap.size, 0, none⟩ = some vv ∧ wr.frozen? ⟨w2.heap.size, 0, none⟩ = false ∧ Hid (wr.ownsRow (w2.heap.size + 1) 3 1 vv k ((ints (thenN (natL f) ((natL s).take k))).map (Value.int .i64))) ∧ Below w2.heap.size (w2.alloc (.cells #[.slice none 0 0] 32)) wr ∧ w2.heap.size + 1 ≤ wr.heap.size) (fun i _ => s.length - (intOf i).toNat)
        case atStart => exact ⟨0, .slice none 0 0, Nat.zero_le _, rfl, (by repeat (first | (refine Eq.trans (World.cell?_alloc_at _ _ _ _ ?hh) ?_; (case hh => (simp; done)); rfl) | refine cell_alloc_keep _ ?_)), (by repeat (first | (refine World.frozen?_alloc_at _ _ _ _ ?hh; case hh => (simp; done)) | (refine frozen_alloc_lt _ ?hh ?_; case hh => first | omega | (simp <;> omega)))), World.ownsRow_nil _ _ _ _, Below.refl _ _, by simp⟩
        case round =>
          obtain ⟨k, vv, hk, rfl, hcb, hfb, hown, hbel, hsz⟩ := hrel
          have c0r : wr.cell? ⟨w.heap.size, 0, none⟩ = some (.slice A f.length c) := (hbel.cell (p := ⟨w.heap.size, 0, none⟩) (show w.heap.size < w2.heap.size by omega)).trans (cell_alloc_keep _ c0)
          have r1r : wr.cell? ⟨w.heap.size + 1 + 1, 0, none⟩ = some (.slice none 0 0) := (hbel.cell (p := ⟨w.heap.size + 1 + 1, 0, none⟩) (show w.heap.size + 1 + 1 < w2.heap.size by omega)).trans (cell_alloc_keep _ r1)
          have r2r : wr.frozen? ⟨w.heap.size + 1 + 1, 0, none⟩ = false := (hbel.frozen (p := ⟨w.heap.size + 1 + 1, 0, none⟩) (show w.heap.size + 1 + 1 < w2.heap.size by omega)).trans (frozen_alloc_keep _ r1 r2)
          have belw : Below w.heap.size w wr := Below.trans bw (Below.mono hbel (by omega))
          by_cases hlt : k < s.length
          · have g2 := (belw.cell (p := ⟨b2, off2 + k, none⟩) hb2').trans (Hc2.out k hlt)
            have i1 : (k : Int) < (s.length : Int) := by omega
            obtain ⟨y, hy⟩ : ∃ y, y = (natL s).getD k 0 := ⟨_, rfl⟩
            have hy31 : y ≤ 31 := by rw [hy]; exact Hlt.out k hlt
            rw [← hy] at g2
            have hsucc := Lib.hid (show ints (thenN (natL f) ((natL s).take (k + 1))) = ints (thenN (natL f) ((natL s).take k)) ++ [(thr (natL f) y : Int)] from by rw [hy]; exact thenN_succ (by rw [natL_len]; exact hlt))
            have HFr := Lib.hid (Rd.below HF.out (show Below w.heap.size w wr.drew from (by repeat (first | exact Below.refl _ _ | assumption | refine Below.drew ?_ | refine below_drewN ?_ _ | refine Below.alloc ?_ (by first | omega | (simp <;> omega)) _ | refine Below.setCell ?_ (by first | omega | (simp <;> omega)) _ | refine Below.trans ?_ (Below.mono (by assumption) (by first | omega | (simp <;> omega)))))) rfl)
            clear hy belw
            go_wp2_with fail
            go_region_law ((first
              | (refine step_append_lies _ (by rfl) _ _ 22 (by rfl) (w2.heap.size + 1) 3 i0 (.int .i64 0) 1 8 Try.underlying22 hi hz0 hz1 hz2 rfl (by omega) vv k _ (by rfl) (own3.out.alloc _) ⟨w3.heap.size, 0, none⟩ 1 1 [.int .i64 ((thr (natL f) y : Nat) : Int)] (by rfl) (by rfl) (news_cells w3 [_] 3) (fun x hx => by simp at hx; subst hx; rfl) (by omega) (by unfold maxLen; omega) (by omega) (by simp; omega) (w3.heap.size + 1) (by simp) ?_; intro g cap9 w4 hown4 hgr4 hat hsz4; obtain ⟨hc4, hf4⟩ := grown_same (own3.out.alloc _) hgr4 (cell_alloc_keep _ cb3) (frozen_alloc_keep _ cb3 fb3) (by omega))
              | (go_simp; go_at_call 74; refine (impl_through_any _ (natL f) y _ HFr.out Hs.out (by omega) hLf hLf2).mono ?_; rintro e w3 ⟨rfl, hb9⟩; have own3 := Lib.hid (own_below (own_below hown.out (show Below wr.heap.size wr wr.drew from (by repeat (first | exact Below.refl _ _ | assumption | refine Below.drew ?_ | refine below_drewN ?_ _ | refine Below.alloc ?_ (by first | omega | (simp <;> omega)) _ | refine Below.setCell ?_ (by first | omega | (simp <;> omega)) _ | refine Below.trans ?_ (Below.mono (by assumption) (by first | omega | (simp <;> omega)))))) rfl) hb9 rfl); have cb3 := below_cell hb9 rfl hcb; have fb3 := below_frz hb9 rfl (by simp; omega) hfb; have hca : ∀ X, (w3.alloc X).cell? ⟨w2.heap.size, 0, none⟩ = some vv := fun X => cell_alloc_keep X cb3; have hz9 := hb9.size; (try simp at hz9); dsimp only)))
            all_goals
              go_wp2_with fail
              go_roundw
              case rel =>
                have hb4 := grown_below (show Below w2.heap.size (w2.alloc (.cells #[.slice none 0 0] 32)) (w3.alloc (.cells #[.int .i64 ((thr (natL f) y : Nat) : Int)] 3)) from (by repeat (first | exact Below.refl _ _ | assumption | refine Below.drew ?_ | refine below_drewN ?_ _ | refine Below.alloc ?_ (by first | omega | (simp <;> omega)) _ | refine Below.setCell ?_ (by first | omega | (simp <;> omega)) _ | refine Below.trans ?_ (Below.mono (by assumption) (by first | omega | (simp <;> omega)))))) (own3.out.alloc _) hgr4 (by omega) (by simp; omega)
                have hz4 : w2.heap.size + 1 ≤ w4.heap.size := by have := hgr4.size; simp at this; omega
                refine ⟨k + 1, _, by omega, by go_num, World.cell?_setCell_same _ _ _ hc4, by rw [World.frozen?_setCell]; exact hf4, ?_, (by repeat (first | exact Below.refl _ _ | assumption | refine Below.drew ?_ | refine below_drewN ?_ _ | refine Below.alloc ?_ (by first | omega | (simp <;> omega)) _ | refine Below.setCell ?_ (by first | omega | (simp <;> omega)) _ | refine Below.trans ?_ (Below.mono (by assumption) (by first | omega | (simp <;> omega))))), by simpa using hz4⟩
                show World.ownsRow _ _ _ _ _ _ _
                rw [hsucc.out, List.map_append]
                exact ownsRow_setCell_below hown4 (by simp) _
              case measure => simp [intOf]; omega
          · have e : k = s.length := by omega
            subst e
            have htk : (natL s).take s.length = natL s := List.take_of_length_le (by rw [natL_len]; exact Nat.le_refl _)
            rw [htk] at hown
            rcases Go.Joins.ownsRow_forms hown.out with ⟨rfl, hk0⟩ | ⟨g, cap9, rfl⟩
            · omega
            · have bel9 : Below w.heap.size w wr := belw
              go_wp2_with fail
              refine bodyPost_ret (v := .tuple #[.agg #[.slice (some ⟨g, 0, none⟩) s.length cap9], .bool true]) (by simp [results, Try.results29, go_sem, r1r]) rfl (LinPost.some HG.out ?_ (by repeat (first | exact Below.refl _ _ | assumption | refine Below.drew ?_ | refine below_drewN ?_ _ | refine Below.alloc ?_ (by first | omega | (simp <;> omega)) _ | refine Below.setCell ?_ (by first | omega | (simp <;> omega)) _ | refine Below.trans ?_ (Below.mono (by assumption) (by first | omega | (simp <;> omega))))))
              unfold OwnI
              rw [ints_len, thenN_len, natL_len]
              exact own_le (ownsRow_setCell_below hown.out (by simp; omega) _) (by omega)
      · have HG := Lib.hid (compG_none (fun k => hl k.2.2) : compG f s = none)
        have Hv := Lib.hid (linB_true hv); have Hq := Lib.hid (linB_true hq)
        have g1 : ((f.length : Int) != (s.length : Int)) = true := by simp; omega
        clear hv hq hl
        go_enter Try.func29, Try.ntmps29
        go_wp2_with fail
        refine (impl_IsValidLinear_any _ f _ (Rd.below H.out (show Below w.heap.size w _ from (by repeat (first | exact Below.refl _ _ | assumption | refine Below.drew ?_ | refine below_drewN ?_ _ | refine Below.alloc ?_ (by first | omega | (simp <;> omega)) _ | refine Below.setCell ?_ (by first | omega | (simp <;> omega)) _ | refine Below.trans ?_ (Below.mono (by assumption) (by first | omega | (simp <;> omega)))))) rfl) hn).mono ?_; rintro e w1 ⟨rfl, hb1⟩
        rw [Hv.out]
        have r1 : w1.cell? ⟨w.heap.size + 1 + 1, 0, none⟩ = some (.slice none 0 0) := below_cell hb1 rfl (by repeat (first | (refine Eq.trans (World.cell?_alloc_at _ _ _ _ ?hh) ?_; (case hh => (simp; done)); rfl) | refine cell_alloc_keep _ ?_))
        obtain ⟨hc_hb1, hf_hb1⟩ := bcell hb1; have hz_hb1 := hb1.size; (try simp at hz_hb1); have hs0_hb1 : w.heap.size < w1.heap.size := (by omega); have hs1_hb1 : w.heap.size + 1 < w1.heap.size := (by omega); have hs2_hb1 : w.heap.size + 1 + 1 < w1.heap.size := (by omega)
        go_wp2_with fail
        refine (impl_IsValidLinear_any _ s _ (Rd.below HU.out (show Below w.heap.size w _ from (by repeat (first | exact Below.refl _ _ | assumption | refine Below.drew ?_ | refine below_drewN ?_ _ | refine Below.alloc ?_ (by first | omega | (simp <;> omega)) _ | refine Below.setCell ?_ (by first | omega | (simp <;> omega)) _ | refine Below.trans ?_ (Below.mono (by assumption) (by first | omega | (simp <;> omega)))))) rfl) hm).mono ?_; rintro e w2 ⟨rfl, hb2⟩
        rw [Hq.out]
        replace r1 := below_cell hb2 rfl r1
        obtain ⟨hc_hb2, hf_hb2⟩ := bcell hb2; have hz_hb2 := hb2.size; (try simp at hz_hb2); have hs0_hb2 : w.heap.size < w2.heap.size := (by omega); have hs1_hb2 : w.heap.size + 1 < w2.heap.size := (by omega); have hs2_hb2 : w.heap.size + 1 + 1 < w2.heap.size := (by omega)
        go_wp2_with fail
        exact bodyPost_ret (v := .tuple #[.agg #[.slice none 0 0], .bool false]) (by simp [results, Try.results29, go_sem, r1]) rfl (LinPost.none HG.out (by repeat (first | exact Below.refl _ _ | assumption | refine Below.drew ?_ | refine below_drewN ?_ _ | refine Below.alloc ?_ (by first | omega | (simp <;> omega)) _ | refine Below.setCell ?_ (by first | omega | (simp <;> omega)) _ | refine Below.trans ?_ (Below.mono (by assumption) (by first | omega | (simp <;> omega))))))
    · have HG := Lib.hid (compG_none (fun k => hq k.2.1) : compG f s = none)
      have Hv := Lib.hid (linB_true hv); have Hq := Lib.hid (linB_false hq)
      clear hv hq
      go_enter Try.func29, Try.ntmps29
      go_wp2_with fail
      refine (impl_IsValidLinear_any _ f _ (Rd.below H.out (show Below w.heap.size w _ from (by repeat (first | exact Below.refl _ _ | assumption | refine Below.drew ?_ | refine below_drewN ?_ _ | refine Below.alloc ?_ (by first | omega | (simp <;> omega)) _ | refine Below.setCell ?_ (by first | omega | (simp <;> omega)) _ | refine Below.trans ?_ (Below.mono (by assumption) (by first | omega | (simp <;> omega)))))) rfl) hn).mono ?_; rintro e w1 ⟨rfl, hb1⟩
      rw [Hv.out]
      have r1 : w1.cell? ⟨w.heap.size + 1 + 1, 0, none⟩ = some (.slice none 0 0) := below_cell hb1 rfl (by repeat (first | (refine Eq.trans (World.cell?_alloc_at _ _ _ _ ?hh) ?_; (case hh => (simp; done)); rfl) | refine cell_alloc_keep _ ?_))
      obtain ⟨hc_hb1, hf_hb1⟩ := bcell hb1; have hz_hb1 := hb1.size; (try simp at hz_hb1); have hs0_hb1 : w.heap.size < w1.heap.size := (by omega); have hs1_hb1 : w.heap.size + 1 < w1.heap.size := (by omega); have hs2_hb1 : w.heap.size + 1 + 1 < w1.heap.size := (by omega)
      go_wp2_with fail
      refine (impl_IsValidLinear_any _ s _ (Rd.below HU.out (show Below w.heap.size w _ from (by repeat (first | exact Below.refl _ _ | assumption | refine Below.drew ?_ | refine below_drewN ?_ _ | refine Below.alloc ?_ (by first | omega | (simp <;> omega)) _ | refine Below.setCell ?_ (by first | omega | (simp <;> omega)) _ | refine Below.trans ?_ (Below.mono (by assumption) (by first | omega | (simp <;> omega)))))) rfl) hm).mono ?_; rintro e w2 ⟨rfl, hb2⟩
      rw [Hq.out]
      replace r1 := below_cell hb2 rfl r1
      obtain ⟨hc_hb2, hf_hb2⟩ := bcell hb2; have hz_hb2 := hb2.size; (try simp at hz_hb2); have hs0_hb2 : w.heap.size < w2.heap.size := (by omega); have hs1_hb2 : w.heap.size + 1 < w2.heap.size := (by omega); have hs2_hb2 : w.heap.size + 1 + 1 < w2.heap.size := (by omega)
      go_wp2_with fail
      exact bodyPost_ret (v := .tuple #[.agg #[.slice none 0 0], .bool false]) (by simp [results, Try.results29, go_sem, r1]) rfl (LinPost.none HG.out (by repeat (first | exact Below.refl _ _ | assumption | refine Below.drew ?_ | refine below_drewN ?_ _ | refine Below.alloc ?_ (by first | omega | (simp <;> omega)) _ | refine Below.setCell ?_ (by first | omega | (simp <;> omega)) _ | refine Below.trans ?_ (Below.mono (by assumption) (by first | omega | (simp <;> omega))))))
  · have HG := Lib.hid (compG_none (fun k => hv k.1) : compG f s = none)
    have Hv := Lib.hid (linB_false hv); clear hv
    go_enter Try.func29, Try.ntmps29
    go_wp2_with fail
    refine (impl_IsValidLinear_any _ f _ (Rd.below H.out (show Below w.heap.size w _ from (by repeat (first | exact Below.refl _ _ | assumption | refine Below.drew ?_ | refine below_drewN ?_ _ | refine Below.alloc ?_ (by first | omega | (simp <;> omega)) _ | refine Below.setCell ?_ (by first | omega | (simp <;> omega)) _ | refine Below.trans ?_ (Below.mono (by assumption) (by first | omega | (simp <;> omega)))))) rfl) hn).mono ?_; rintro e w1 ⟨rfl, hb1⟩
    rw [Hv.out]
    have r1 : w1.cell? ⟨w.heap.size + 1 + 1, 0, none⟩ = some (.slice none 0 0) := below_cell hb1 rfl (by repeat (first | (refine Eq.trans (World.cell?_alloc_at _ _ _ _ ?hh) ?_; (case hh => (simp; done)); rfl) | refine cell_alloc_keep _ ?_))
    obtain ⟨hc_hb1, hf_hb1⟩ := bcell hb1; have hz_hb1 := hb1.size; (try simp at hz_hb1); have hs0_hb1 : w.heap.size < w1.heap.size := (by omega); have hs1_hb1 : w.heap.size + 1 < w1.heap.size := (by omega); have hs2_hb1 : w.heap.size + 1 + 1 < w1.heap.size := (by omega)
    go_wp2_with fail
    exact bodyPost_ret (v := .tuple #[.agg #[.slice none 0 0], .bool false]) (by simp [results, Try.results29, go_sem, r1]) rfl (LinPost.none HG.out (by repeat (first | exact Below.refl _ _ | assumption | refine Below.drew ?_ | refine below_drewN ?_ _ | refine Below.alloc ?_ (by first | omega | (simp <;> omega)) _ | refine Below.setCell ?_ (by first | omega | (simp <;> omega)) _ | refine Below.trans ?_ (Below.mono (by assumption) (by first | omega | (simp <;> omega))))))
end Go.Proofs.Ytdgghpbcinmbhaa
