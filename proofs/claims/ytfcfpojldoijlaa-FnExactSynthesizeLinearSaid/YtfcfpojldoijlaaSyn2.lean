/- SynthesizeLinear in the program. -/
import Derived.Test.YtfcfpojldoijlaaSyn1
import Derived.Test.YtfcfpojldoijlaaRed4
import Derived.Test.YtfcfpojldoijlaaBrk
namespace Go.Proofs.Ytfcfpojldoijlaa
set_option linter.unusedSimpArgs false
set_option linter.unusedVariables false
set_option linter.unnecessarySimpa false
set_option maxRecDepth 200000
open Go.ChangeShapes Go.WideShapes Go.ChangeAt Go.RowKit

set_option maxHeartbeats 4000000 in
theorem impl_synthesized_any (v : Value) (L : List Nat) (w : World) (h : RdI w v (ints L)) (hs : Small L) (n1 : 1 ≤ L.length) (n5 : L.length ≤ 5) :
    Calls Try.prog 70 #[.agg #[v]] w fun e w' => ∃ u, e = .returned u ∧ OwnE w' w.heap.size 96 u E3.cs 3 (redG L).reverse ∧ Below w.heap.size w w' := by
  have H := Lib.hid h
  obtain ⟨A, c, rfl, _⟩ := h.form
  clear h
  rw [ints_len] at *
  have HS := Lib.hid hs; clear hs
  have HF := red_few HS.out n5
  by_cases h0 : (redG L).length = 0
  · have HN := Lib.hid (List.eq_nil_of_length_eq_zero h0)
    clear h0
    go_enter Try.func70, Try.ntmps70
    go_wp2_with fail
    refine (impl_eliminated_any _ L L.length _ (Rd.below H.out (show Below w.heap.size w _ from (by repeat (first | exact Below.refl _ _ | assumption | refine Below.drew ?_ | refine below_drewN ?_ _ | refine Below.alloc ?_ (by first | omega | (simp <;> omega)) _ | refine Below.setCell ?_ (by first | omega | (simp <;> omega)) _ | refine Below.trans ?_ (Below.mono (by assumption) (by first | omega | (simp <;> omega)))))) rfl) HS.out rfl n1 n5).mono ?_; rintro e w1 ⟨u, rfl, ho, hb1⟩
    rw [HN.out] at ho
    obtain ⟨aU, cU, rfl⟩ := ho.forms
    have HO := Lib.hid (OwnE.le ho (base' := w.heap.size) (by simp)); clear ho
    obtain ⟨hc_hb1, hf_hb1⟩ := bcell hb1; have hz_hb1 := hb1.size; (try simp at hz_hb1); have hs0_hb1 : w.heap.size < w1.heap.size := (by omega)
    go_wp2_with fail
    refine (slices_Reverse_nil _ ⟨aU, cU, rfl⟩ _).mono ?_; rintro e w' ⟨rfl, rfl⟩
    go_wp2_with fail
    go_ret
    exact ⟨_, rfl, by rw [HN.out]; exact HO.out, (by repeat (first | exact Below.refl _ _ | assumption | refine Below.drew ?_ | refine below_drewN ?_ _ | refine Below.alloc ?_ (by first | omega | (simp <;> omega)) _ | refine Below.setCell ?_ (by first | omega | (simp <;> omega)) _ | refine Below.trans ?_ (Below.mono (by assumption) (by first | omega | (simp <;> omega)))))⟩
  · go_enter Try.func70, Try.ntmps70
    go_wp2_with fail
    refine (impl_eliminated_any _ L L.length _ (Rd.below H.out (show Below w.heap.size w _ from (by repeat (first | exact Below.refl _ _ | assumption | refine Below.drew ?_ | refine below_drewN ?_ _ | refine Below.alloc ?_ (by first | omega | (simp <;> omega)) _ | refine Below.setCell ?_ (by first | omega | (simp <;> omega)) _ | refine Below.trans ?_ (Below.mono (by assumption) (by first | omega | (simp <;> omega)))))) rfl) HS.out rfl n1 n5).mono ?_; rintro e w1 ⟨u, rfl, ho, hb1⟩
    obtain ⟨g, cap, rfl⟩ := Go.Joins.ownsRow_form ho (by omega)
    have HO := Lib.hid (OwnG.of (OwnE.le ho (base' := w.heap.size) (by simp)) rfl)
    have hg := (ho.lt g rfl).1
    (simp at hg)
    clear ho
    have bw1 := Lib.hid (show Below w.heap.size w w1 from (by repeat (first | exact Below.refl _ _ | assumption | refine Below.drew ?_ | refine below_drewN ?_ _ | refine Below.alloc ?_ (by first | omega | (simp <;> omega)) _ | refine Below.setCell ?_ (by first | omega | (simp <;> omega)) _ | refine Below.trans ?_ (Below.mono (by assumption) (by first | omega | (simp <;> omega))))))
    have z1 := hb1.size; (simp at z1)
    clear hb1
    go_wp2_with fail
    refine (slices_Reverse_Gate w.heap.size g _ cap (redG L) _ HO.out (by omega) (by omega)).mono ?_; rintro e w2 ⟨rfl, hO2, hg2⟩
    have HO2 := Lib.hid hO2.own; clear hO2
    have bw2 := Lib.hid (show Below w.heap.size w w2 from bw1.out.grown hg2 (by omega) (fun k hk => by injection hk with hk; omega))
    clear hg2
    go_wp2_with fail
    go_ret
    exact ⟨_, rfl, HO2.out, bw2.out⟩
theorem syn_ok {L : List Nat} (h : Small L) (n1 : 1 ≤ L.length) (n5 : L.length ≤ 5) : circB ⟨(L.length : Int), (redG L).reverse⟩ = true := by
  refine decide_eq_true ⟨⟨by dsimp only; omega, by dsimp only; omega⟩, ?_, fun g hg => ?_⟩
  · have := red_few h n5; dsimp only; rw [List.length_reverse]; omega
  · have hg2 : g ∈ redG L := by simpa using hg
    obtain ⟨h1, h2, h3, h4, h5, h6⟩ := (redG_ok h).gates g hg2
    unfold GateOk
    dsimp only
    omega
set_option maxHeartbeats 8000000 in
theorem impl_SynthesizeLinear_any (v : Value) (zs : List Int) (w : World) (h : RdI w v zs) (hn : zs.length ≤ 1048576) :
    Calls Try.prog 27 #[.agg #[v]] w (CircPost w (synLG zs)) := by
  have H := Lib.hid h
  obtain ⟨A, c, rfl, _⟩ := h.form
  clear h
  by_cases hk : LinOk zs
  · have HB := Lib.hid (linB_true hk)
    obtain ⟨n1, n5⟩ := hk.small.1
    have HG0 := Lib.hid (show synLG zs = some ⟨(zs.length : Int), (redG (zs.map Int.toNat)).reverse⟩ from if_pos hk)
    obtain ⟨hz, hs⟩ := hk.nat
    clear hk
    generalize zs.map Int.toNat = L at *
    subst hz
    rw [ints_len] at *
    have HG := Lib.hid (show synLG (ints L) = circIf (L.length : Int) (redG L).reverse from by rw [HG0.out]; unfold circIf; rw [syn_ok hs n1 n5]; rfl)
    have HS := Lib.hid hs; clear hs HG0
    have hF := red_few HS.out n5
    go_enter Try.func27, Try.ntmps27
    go_wp2_with fail
    refine (impl_IsValidLinear_any _ (ints L) _ (Rd.below H.out (show Below w.heap.size w _ from (by repeat (first | exact Below.refl _ _ | assumption | refine Below.drew ?_ | refine below_drewN ?_ _ | refine Below.alloc ?_ (by first | omega | (simp <;> omega)) _ | refine Below.setCell ?_ (by first | omega | (simp <;> omega)) _ | refine Below.trans ?_ (Below.mono (by assumption) (by first | omega | (simp <;> omega)))))) rfl) (by rw [ints_len]; omega)).mono ?_; rintro e w1 ⟨rfl, hb1⟩; rw [HB.out]
    have t0 := below_cell hb1 rfl (show ((w.alloc (.cells #[.slice A L.length c] 56)).alloc (.cells #[.int .i64 0, .slice none 0 0] 42)).cell? ⟨w.heap.size, 0, none⟩ = some (.slice A L.length c) from (by repeat (first | (refine Eq.trans (World.cell?_alloc_at _ _ _ _ ?hh) ?_; (case hh => (simp; done)); rfl) | refine cell_alloc_keep _ ?_)))
    have r0 := below_cell hb1 rfl (show ((w.alloc (.cells #[.slice A L.length c] 56)).alloc (.cells #[.int .i64 0, .slice none 0 0] 42)).cell? ⟨w.heap.size + 1, 0, none⟩ = some (.int .i64 0) from (by repeat (first | (refine Eq.trans (World.cell?_alloc_at _ _ _ _ ?hh) ?_; (case hh => (simp; done)); rfl) | refine cell_alloc_keep _ ?_)))
    have r1 := below_cell hb1 rfl (show ((w.alloc (.cells #[.slice A L.length c] 56)).alloc (.cells #[.int .i64 0, .slice none 0 0] 42)).cell? ⟨w.heap.size + 1, 1, none⟩ = some (.slice none 0 0) from (by repeat (first | (refine Eq.trans (World.cell?_alloc_at _ _ _ _ ?hh) ?_; (case hh => (simp; done)); rfl) | refine cell_alloc_keep _ ?_)))
    have f0 := below_frz hb1 rfl (by simp) (show ((w.alloc (.cells #[.slice A L.length c] 56)).alloc (.cells #[.int .i64 0, .slice none 0 0] 42)).frozen? ⟨w.heap.size + 1, 0, none⟩ = false from (by repeat (first | (refine World.frozen?_alloc_at _ _ _ _ ?hh; case hh => (simp; done)) | (refine frozen_alloc_lt _ ?hh ?_; case hh => first | omega | (simp <;> omega)))))
    have f1 := below_frz hb1 rfl (by simp) (show ((w.alloc (.cells #[.slice A L.length c] 56)).alloc (.cells #[.int .i64 0, .slice none 0 0] 42)).frozen? ⟨w.heap.size + 1, 1, none⟩ = false from (by repeat (first | (refine World.frozen?_alloc_at _ _ _ _ ?hh; case hh => (simp; done)) | (refine frozen_alloc_lt _ ?hh ?_; case hh => first | omega | (simp <;> omega)))))
    have z1 := hb1.size; (simp at z1)
    have bw1 := Lib.hid (show Below w.heap.size w w1 from (by repeat (first | exact Below.refl _ _ | assumption | refine Below.drew ?_ | refine below_drewN ?_ _ | refine Below.alloc ?_ (by first | omega | (simp <;> omega)) _ | refine Below.setCell ?_ (by first | omega | (simp <;> omega)) _ | refine Below.trans ?_ (Below.mono (by assumption) (by first | omega | (simp <;> omega)))))); clear hb1
    go_wp2_with fail
    have bd := Lib.hid (show Below w.heap.size w w1.drew from Below.drew bw1.out)
    refine AnyB.begin (S := (fun w' => w'.cell? ⟨w.heap.size, 0, none⟩ = some (.slice A L.length c))) [] (by kernel_rfl) ?_ (fun hHeld0 => ?_)
    · ((try dsimp only); (first | exact t0 | exact cell_set_far (nb := w.heap.size + 1) (by omega) (cell_set_far (nb := w.heap.size + 1) (by omega) t0)))
    refine AnyB.takeQ (i := 0) (oi := _) (v := ?_) (by simp only [List.getElem?_toArray, List.getElem?_cons_zero, List.getElem?_cons_succ]; rfl) (by kernel_rfl) (by kernel_rfl) (by kernel_rfl) (by intro _ _ _ h; exact h) (Or.inl ⟨by rfl, ?_⟩) ?_
    rotate_left
    · (intro w hSw; (try dsimp only at hSw); go_simp; (try (with_reducible rfl)))
    try simp only [Act.put, List.setIfInBounds_toArray, List.set_cons_zero, List.set_cons_succ]
    refine AnyB.take (i := 1) (oi := _) (v := ?_) (by simp only [List.getElem?_toArray, List.getElem?_cons_zero, List.getElem?_cons_succ]; rfl) (by kernel_rfl) (by kernel_rfl) (by kernel_rfl) (by kernel_rfl) (by kernel_rfl) (by intro _ _ _ h; exact h) (Or.inl ⟨by rfl, ?_⟩) (by assumption) ?_
    rotate_left
    · (intro w hSw; (try dsimp only at hSw); go_simp; (try (with_reducible rfl)))
    try simp only [Act.put, List.setIfInBounds_toArray, List.set_cons_zero, List.set_cons_succ]
    refine AnyB.takeQ (i := 2) (oi := _) (v := ?_) (by simp only [List.getElem?_toArray, List.getElem?_cons_zero, List.getElem?_cons_succ]; rfl) (by kernel_rfl) (by kernel_rfl) (by kernel_rfl) (by intro _ _ _ h; exact h) (Or.inl ⟨by rfl, ?_⟩) ?_
    rotate_left
    · (intro w hSw; (try dsimp only at hSw); go_simp; (try (with_reducible rfl)))
    try simp only [Act.put, List.setIfInBounds_toArray, List.set_cons_zero, List.set_cons_succ]
    refine AnyB.take (i := 3) (oi := _) (v := ?_) (by simp only [List.getElem?_toArray, List.getElem?_cons_zero, List.getElem?_cons_succ]; rfl) (by kernel_rfl) (by kernel_rfl) (by kernel_rfl) (by kernel_rfl) (by kernel_rfl) (by intro _ _ _ h; exact h) (Or.inl ⟨by rfl, ?_⟩) (by assumption) ?_
    rotate_left
    · (intro w hSw; (try dsimp only at hSw); go_simp; (try (with_reducible rfl)))
    try simp only [Act.put, List.setIfInBounds_toArray, List.set_cons_zero, List.set_cons_succ]
    refine AnyB.each (rs := [4]) (by kernel_rfl) (by simp) ?_
    refine EachB.cons rfl (fun K hK hB => ?_) ?_
    · skip
      (go_simp; go_at_call 70; refine (impl_synthesized_any _ L _ (Rd.below H.out bd.out rfl) HS.out n1 n5).mono ?_; rintro e w2 ⟨u2, rfl, ho2, hb2⟩; obtain ⟨aU, cU, rfl⟩ := ho2.forms; have HO2 := Lib.hid (OwnE.rd ho2); rw [List.length_reverse] at HO2; clear ho2; have y2 := hb2.size; (try simp at y2); replace t0 := below_cell hb2 rfl (cell_drew t0); replace r0 := below_cell hb2 rfl (cell_drew r0); replace r1 := below_cell hb2 rfl (cell_drew r1); replace f0 := below_frz hb2 rfl (by first | omega | (simp; omega)) (frz_drew f0); replace f1 := below_frz hb2 rfl (by first | omega | (simp; omega)) (frz_drew f1); have bw2 := Lib.hid (show Below w.heap.size w w2 from Below.trans bd.out (hb2.mono (by first | omega | (simp; omega)))); clear hb2; dsimp only)
      refine hK.out _ _ ?_ (fun hHeld1 => ?_)
      · ((try dsimp only); (first | exact t0 | exact cell_set_far (nb := w.heap.size + 1) (by omega) (cell_set_far (nb := w.heap.size + 1) (by omega) t0)))
      clear hB hK K hHeld0
      refine AnyB.each (rs := [5]) (by kernel_rfl) (by simp) ?_
      refine EachB.cons rfl (fun K hK hB => ?_) ?_
      · skip
        (go_simp; go_at_call 69; refine (impl_circuitIf_any (L.length : Int) _ (redG L).reverse _ HO2.out (by rw [List.length_reverse]; omega)).mono ?_; obtain ⟨SG, hSG⟩ : ∃ SG, SG = synLG (ints L) := ⟨_, rfl⟩; have HSG := Lib.hid hSG; rw [← HG.out, ← hSG]; clear hSG; rintro e w3 ⟨u3, rfl, ho3, hb3⟩; obtain ⟨aV, cV, rfl⟩ := ho3.forms; have y3 := hb3.size; replace t0 := below_cell hb3 rfl t0; replace r0 := below_cell hb3 rfl r0; replace r1 := below_cell hb3 rfl r1; replace f0 := below_frz hb3 rfl (by omega) f0; replace f1 := below_frz hb3 rfl (by omega) f1; have HO3 := Lib.hid (OwnE.le ho3 (base' := w.heap.size + 2) (by omega)); clear ho3; have bw3 := Lib.hid (show Below w.heap.size w w3 from Below.trans bw2.out (hb3.mono (by omega))); clear hb3; dsimp only)
        refine hK.out _ _ ?_ (fun hHeld2 => ?_)
        · ((try dsimp only); (first | exact t0 | exact cell_set_far (nb := w.heap.size + 1) (by omega) (cell_set_far (nb := w.heap.size + 1) (by omega) t0)))
        clear hB hK K hHeld1
        refine AnyB.takeQ (i := 6) (oi := _) (v := ?_) (by simp only [List.getElem?_toArray, List.getElem?_cons_zero, List.getElem?_cons_succ]; rfl) (by kernel_rfl) (by kernel_rfl) (by kernel_rfl) (by intro _ _ _ h; exact h) (Or.inl ⟨by rfl, ?_⟩) ?_
        rotate_left
        · (intro w hSw; (try dsimp only at hSw); go_simp; (try (with_reducible rfl)))
        try simp only [Act.put, List.setIfInBounds_toArray, List.set_cons_zero, List.set_cons_succ]
        refine AnyB.takeQ (i := 7) (oi := _) (v := ?_) (by simp only [List.getElem?_toArray, List.getElem?_cons_zero, List.getElem?_cons_succ]; rfl) (by kernel_rfl) (by kernel_rfl) (by kernel_rfl) (by intro _ _ _ h; exact h) (Or.inl ⟨by rfl, ?_⟩) ?_
        rotate_left
        · (intro w hSw; (try dsimp only at hSw); go_simp; (try (with_reducible rfl)))
        try simp only [Act.put, List.setIfInBounds_toArray, List.set_cons_zero, List.set_cons_succ]
        refine AnyB.each (rs := [8]) (by kernel_rfl) (by simp) ?_
        refine EachB.cons rfl (fun K hK hB => ?_) ?_
        · skip
          go_simp
          refine hK.out _ _ ?_ (fun hHeld3 => ?_)
          · ((try dsimp only); (first | exact t0 | exact cell_set_far (nb := w.heap.size + 1) (by omega) (cell_set_far (nb := w.heap.size + 1) (by omega) t0)))
          clear hB hK K hHeld2
          refine AnyB.takeQ (i := 9) (oi := _) (v := ?_) (by simp only [List.getElem?_toArray, List.getElem?_cons_zero, List.getElem?_cons_succ]; rfl) (by kernel_rfl) (by kernel_rfl) (by kernel_rfl) (by intro _ _ _ h; exact h) (Or.inl ⟨by rfl, ?_⟩) ?_
          rotate_left
          · (intro w hSw; (try dsimp only at hSw); go_simp; (try (with_reducible rfl)))
          try simp only [Act.put, List.setIfInBounds_toArray, List.set_cons_zero, List.set_cons_succ]
          refine AnyB.none (by kernel_rfl) ?_ _
          have hZ := box_set2 (nb := w.heap.size + 1) (.int .i64 (SG.getD Circ.zero).n) (.slice aV (SG.getD Circ.zero).gs.length cV) r0 r1
          have bq := bw3.out
          go_wp2_with fail
          exact bodyPost_ret (v := .tuple #[.agg #[.int .i64 (SG.getD Circ.zero).n, .slice aV (SG.getD Circ.zero).gs.length cV], .bool SG.isSome]) (by simp [results, Try.results27, go_sem, hZ]) rfl (by rw [← HSG.out]; exact ⟨_, rfl, OwnE.le (OwnE.set (OwnE.set HO3.out (by simp) _) (by simp) _) (by omega), (by repeat (first | exact Below.refl _ _ | assumption | refine Below.drew ?_ | refine below_drewN ?_ _ | refine Below.alloc ?_ (by first | omega | (simp <;> omega)) _ | refine Below.setCell ?_ (by first | omega | (simp <;> omega)) _ | refine Below.trans ?_ (Below.mono (by assumption) (by first | omega | (simp <;> omega)))))⟩)
        exact EachB.nil
      exact EachB.nil
    exact EachB.nil
  · have HB := Lib.hid (linB_false hk)
    have HG := Lib.hid (show synLG zs = none from if_neg hk)
    clear hk
    go_enter Try.func27, Try.ntmps27
    go_wp2_with fail
    refine (impl_IsValidLinear_any _ zs _ (Rd.below H.out (show Below w.heap.size w _ from (by repeat (first | exact Below.refl _ _ | assumption | refine Below.drew ?_ | refine below_drewN ?_ _ | refine Below.alloc ?_ (by first | omega | (simp <;> omega)) _ | refine Below.setCell ?_ (by first | omega | (simp <;> omega)) _ | refine Below.trans ?_ (Below.mono (by assumption) (by first | omega | (simp <;> omega)))))) rfl) hn).mono ?_; rintro e w1 ⟨rfl, hb1⟩; rw [HB.out]
    have r0 := below_cell hb1 rfl (show ((w.alloc (.cells #[.slice A zs.length c] 56)).alloc (.cells #[.int .i64 0, .slice none 0 0] 42)).cell? ⟨w.heap.size + 1, 0, none⟩ = some (.int .i64 0) from (by repeat (first | (refine Eq.trans (World.cell?_alloc_at _ _ _ _ ?hh) ?_; (case hh => (simp; done)); rfl) | refine cell_alloc_keep _ ?_)))
    have r1 := below_cell hb1 rfl (show ((w.alloc (.cells #[.slice A zs.length c] 56)).alloc (.cells #[.int .i64 0, .slice none 0 0] 42)).cell? ⟨w.heap.size + 1, 1, none⟩ = some (.slice none 0 0) from (by repeat (first | (refine Eq.trans (World.cell?_alloc_at _ _ _ _ ?hh) ?_; (case hh => (simp; done)); rfl) | refine cell_alloc_keep _ ?_)))
    obtain ⟨hc_hb1, hf_hb1⟩ := bcell hb1; have hz_hb1 := hb1.size; (try simp at hz_hb1); have hs0_hb1 : w.heap.size < w1.heap.size := (by omega); have hs1_hb1 : w.heap.size + 1 < w1.heap.size := (by omega)
    go_wp2_with fail
    have hZ := box_set2 (nb := w.heap.size + 1) (.int .i64 0) (.slice none 0 0) r0 r1
    exact bodyPost_ret (v := .tuple #[.agg #[.int .i64 0, .slice none 0 0], .bool false]) (by simp [results, Try.results27, go_sem, hZ]) rfl (CircPost.none HG.out (by repeat (first | exact Below.refl _ _ | assumption | refine Below.drew ?_ | refine below_drewN ?_ _ | refine Below.alloc ?_ (by first | omega | (simp <;> omega)) _ | refine Below.setCell ?_ (by first | omega | (simp <;> omega)) _ | refine Below.trans ?_ (Below.mono (by assumption) (by first | omega | (simp <;> omega))))))
end Go.Proofs.Ytfcfpojldoijlaa
