/- SynthesizeLinear in the reference. -/
import Derived.Test.YtfcfpojldoijlaaRed3
import Derived.Test.YtfcfpojldoijlaaSyn0
import Derived.Test.YtfcfpojldoijlaaBrk
import Derived.Deep.RegionLaw
namespace Go.Proofs.Ytfcfpojldoijlaa
set_option linter.unusedSimpArgs false
set_option linter.unusedVariables false
set_option linter.unnecessarySimpa false
set_option maxRecDepth 200000
open Go.ChangeShapes Go.WideShapes Go.ChangeAt Go.RowKit

theorem grown_lo2 {w w' : World} {v u : Value} {base sz n b o : Nat} {e : TypeId} {xs : List Value} (hown : w.ownsRow base e sz v n xs) (hg : w.grownBy w' v.ownBlock) (hlt : b < base) (hc : w.cell? ⟨b, o, none⟩ = some u) : w'.cell? ⟨b, o, none⟩ = some u :=
  (grown_old hown hg hlt (World.block_lt_of_cell? w ⟨b, o, none⟩ hc)).1.trans hc
theorem rev_next {gs : List E3} {j q : Nat} (h : q + j + 1 = gs.length) : (gs.reverse.take (j + 1)).flatMap E3.cs = (gs.reverse.take j).flatMap E3.cs ++ (gs.getD q ⟨0, 0, 0⟩).cs := by
  have hj : j < gs.reverse.length := by simp; omega
  rw [List.take_succ_eq_append_getElem hj, List.flatMap_append]
  have e : gs.reverse[j] = gs.getD q ⟨0, 0, 0⟩ := by
    rw [List.getElem_reverse]
    simp [List.getD, show gs.length - 1 - j = q from by omega, show q < gs.length by omega]
  rw [e]; simp
set_option maxHeartbeats 16000000 in
theorem spec_l12Synthesize_any (v : Value) (L : List Nat) (w : World) (h : RdI w v (ints L)) (hs : Small L) (n1 : 1 ≤ L.length) (n5 : L.length ≤ 5) :
    Calls Try.prog 66 #[.agg #[v]] w fun e w' => ∃ u, e = .returned (.agg #[.int .i64 (L.length : Int), u]) ∧ OwnE w' w.heap.size 96 u E3.cs 3 (redG L).reverse ∧ Below w.heap.size w w' := by
  obtain ⟨i0, hi, hz0, hz1, hz2⟩ := info_parts info_Gate
  have H := Lib.hid h
  obtain ⟨A, c, rfl, _⟩ := h.form
  clear h
  rw [ints_len] at *
  have HS := Lib.hid hs; clear hs
  have HF := red_few HS.out n5
  obtain ⟨gs, hgs⟩ : ∃ gs, gs = redG L := ⟨_, rfl⟩
  rw [← hgs] at HF ⊢
  have HGS := Lib.hid hgs; clear hgs
  go_enter Try.func66, Try.ntmps66
  go_wp2_with fail
  refine (spec_l12Reduce_any _ L L.length _ (Rd.below H.out (show Below w.heap.size w _ from (by repeat (first | exact Below.refl _ _ | assumption | refine Below.drew ?_ | refine below_drewN ?_ _ | refine Below.alloc ?_ (by first | omega | (simp <;> omega)) _ | refine Below.setCell ?_ (by first | omega | (simp <;> omega)) _ | refine Below.trans ?_ (Below.mono (by assumption) (by first | omega | (simp <;> omega)))))) rfl) HS.out rfl n1 n5).mono ?_; rintro e w3 ⟨u3, rfl, ho3, hb3⟩
  rw [← HGS.out] at ho3
  obtain ⟨aG, cG, hu3, Hc⟩ := gate_at ho3.rd
  subst hu3
  have t0 := below_cell hb3 rfl (show ((w.alloc (.cells #[.slice A L.length c] 56)).alloc (.cells #[.int .i64 0, .slice none 0 0] 42)).cell? ⟨w.heap.size, 0, none⟩ = some (.slice A L.length c) from (by repeat (first | (refine Eq.trans (World.cell?_alloc_at _ _ _ _ ?hh) ?_; (case hh => (simp; done)); rfl) | refine cell_alloc_keep _ ?_)))
  have r0 := below_cell hb3 rfl (show ((w.alloc (.cells #[.slice A L.length c] 56)).alloc (.cells #[.int .i64 0, .slice none 0 0] 42)).cell? ⟨w.heap.size + 1, 0, none⟩ = some (.int .i64 0) from (by repeat (first | (refine Eq.trans (World.cell?_alloc_at _ _ _ _ ?hh) ?_; (case hh => (simp; done)); rfl) | refine cell_alloc_keep _ ?_)))
  have r1 := below_cell hb3 rfl (show ((w.alloc (.cells #[.slice A L.length c] 56)).alloc (.cells #[.int .i64 0, .slice none 0 0] 42)).cell? ⟨w.heap.size + 1, 1, none⟩ = some (.slice none 0 0) from (by repeat (first | (refine Eq.trans (World.cell?_alloc_at _ _ _ _ ?hh) ?_; (case hh => (simp; done)); rfl) | refine cell_alloc_keep _ ?_)))
  have f0 := below_frz hb3 rfl (by simp) (show ((w.alloc (.cells #[.slice A L.length c] 56)).alloc (.cells #[.int .i64 0, .slice none 0 0] 42)).frozen? ⟨w.heap.size + 1, 0, none⟩ = false from (by repeat (first | (refine World.frozen?_alloc_at _ _ _ _ ?hh; case hh => (simp; done)) | (refine frozen_alloc_lt _ ?hh ?_; case hh => first | omega | (simp <;> omega)))))
  have f1 := below_frz hb3 rfl (by simp) (show ((w.alloc (.cells #[.slice A L.length c] 56)).alloc (.cells #[.int .i64 0, .slice none 0 0] 42)).frozen? ⟨w.heap.size + 1, 1, none⟩ = false from (by repeat (first | (refine World.frozen?_alloc_at _ _ _ _ ?hh; case hh => (simp; done)) | (refine frozen_alloc_lt _ ?hh ?_; case hh => first | omega | (simp <;> omega)))))
  have z3 := hb3.size; (simp at z3)
  have bw3 := Lib.hid (show Below w.heap.size w w3 from (by repeat (first | exact Below.refl _ _ | assumption | refine Below.drew ?_ | refine below_drewN ?_ _ | refine Below.alloc ?_ (by first | omega | (simp <;> omega)) _ | refine Below.setCell ?_ (by first | omega | (simp <;> omega)) _ | refine Below.trans ?_ (Below.mono (by assumption) (by first | omega | (simp <;> omega))))))
  have R0 := Lib.hid r0; have R1 := Lib.hid r1; have F0 := Lib.hid f0; have F1 := Lib.hid f1
  clear hb3 ho3
  go_wp2_with fail
  clear t0 r0 r1 f0 f1
  clear HS HGS
  go_loopw [5] (fun i wr => ∃ (j : Nat) (q' : Int) (vx : Value), j ≤ gs.length ∧ i = .int .i64 q' ∧ (q' + (j : Int) + 1 ≤ (gs.length : Int) ∧ (gs.length : Int) ≤ q' + (j : Int) + 1) ∧ wr.cell? ⟨w3.heap.size, 0, none⟩ = some (.int .i64 (L.length : Int)) ∧ wr.cell? ⟨w3.heap.size, 1, none⟩ = some vx ∧ wr.frozen? ⟨w3.heap.size, 1, none⟩ = false ∧ Hid (wr.ownsRow (w3.heap.size + 1) 96 3 vx j ((gs.reverse.take j).flatMap E3.cs)) ∧ Hid (Below w3.heap.size w3 wr)) (fun i _ => (intOf i + 1).toNat)
  case atStart => exact ⟨0, (gs.length : Int) - 1, .slice none 0 0, Nat.zero_le _, rfl, by omega, (by repeat (first | (refine Eq.trans (World.cell?_alloc_at _ _ _ _ ?hh) ?_; (case hh => (simp; done)); rfl) | refine cell_alloc_keep _ ?_)), (by repeat (first | (refine Eq.trans (World.cell?_alloc_at _ _ _ _ ?hh) ?_; (case hh => (simp; done)); rfl) | refine cell_alloc_keep _ ?_)), (by repeat (first | (refine World.frozen?_alloc_at _ _ _ _ ?hh; case hh => (simp; done)) | (refine frozen_alloc_lt _ ?hh ?_; case hh => first | omega | (simp <;> omega)))), World.ownsRow_nil _ _ _ _, (show Below _ _ _ from (by repeat (first | exact Below.refl _ _ | assumption | refine Below.drew ?_ | refine below_drewN ?_ _ | refine Below.alloc ?_ (by first | omega | (simp <;> omega)) _ | refine Below.setCell ?_ (by first | omega | (simp <;> omega)) _ | refine Below.trans ?_ (Below.mono (by assumption) (by first | omega | (simp <;> omega))))))⟩
  case round =>
    obtain ⟨j, q', vx, hj, rfl, hq', c0, c1, ff, ho, hbel⟩ := hrel
    have L0 := World.block_lt_of_cell? _ _ c0
    by_cases hlt : j < gs.length
    · obtain ⟨q, rfl⟩ : ∃ q : Nat, q' = (q : Int) := ⟨q'.toNat, by omega⟩
      have hq : q + j + 1 = gs.length := by omega
      clear hq'
      have i0' : (0 : Int) ≤ (q : Int) := by omega
      have i1 : (q : Int) < (gs.length : Int) := by omega
      obtain ⟨b0, off, rfl, hb0, q0, q1, q2⟩ := Hc.out q (by omega)
      replace q0 := (hbel.out.cell hb0).trans q0; replace q1 := (hbel.out.cell hb0).trans q1; replace q2 := (hbel.out.cell hb0).trans q2
      have NX := Lib.hid (rev_next hq)
      have hb9 : b0 < w3.heap.size := hb0
      obtain ⟨y, hy⟩ : ∃ y, y = gs.getD q ⟨0, 0, 0⟩ := ⟨_, rfl⟩
      rw [← hy] at q0 q1 q2 NX
      clear hy
      go_wp2_with fail
      refine AnyB.begin (S := (fun w' => w'.cell? ⟨w3.heap.size, 1, none⟩ = some vx ∧ w'.cell? ⟨b0, off + q * 3, none⟩ = some (.int .i64 y.a) ∧ w'.cell? ⟨b0, off + q * 3 + 1, none⟩ = some (.int .i64 y.b) ∧ w'.cell? ⟨b0, off + q * 3 + 2, none⟩ = some (.int .i64 y.c))) [9] (by kernel_rfl) ?_ (fun hHeld0 => ?_)
      · ((try dsimp only); (first | exact ⟨c1, q0, q1, q2⟩ | exact ⟨cell_alloc_keep _ c1, cell_alloc_keep _ q0, cell_alloc_keep _ q1, cell_alloc_keep _ q2⟩))
      refine AnyB.takeQ (i := 0) (oi := _) (v := ?_) (by simp only [List.getElem?_toArray, List.getElem?_cons_zero, List.getElem?_cons_succ]; rfl) (by kernel_rfl) (by kernel_rfl) (by kernel_rfl) (by intro _ _ _ h; exact h) (Or.inl ⟨by rfl, ?_⟩) ?_
      rotate_left
      · (intro w hSw; (try dsimp only at hSw); go_simp; (try (with_reducible rfl)))
      try simp only [Act.put, List.setIfInBounds_toArray, List.set_cons_zero, List.set_cons_succ]
      refine AnyB.take (i := 1) (oi := _) (v := ?_) (by simp only [List.getElem?_toArray, List.getElem?_cons_zero, List.getElem?_cons_succ]; rfl) (by kernel_rfl) (by kernel_rfl) (by kernel_rfl) (by kernel_rfl) (by kernel_rfl) (by intro _ _ _ h; exact h) (Or.inl ⟨by rfl, ?_⟩) (by assumption) ?_
      rotate_left
      · (intro w hSw; (try dsimp only at hSw); go_simp; (try (with_reducible rfl)))
      try simp only [Act.put, List.setIfInBounds_toArray, List.set_cons_zero, List.set_cons_succ]
      refine AnyB.takeQ (i := 2) (oi := _) (v := ?_) (by simp only [List.getElem?_toArray, List.getElem?_cons_zero, List.getElem?_cons_succ]; rfl) (by kernel_rfl) (by kernel_rfl) (by kernel_rfl) (by intro _ _ _ h; exact h) (Or.inl ⟨by rfl, ?_⟩) ?_
      rotate_left
      · (intro w hSw; (try dsimp only at hSw); go_simp; (try (with_reducible rfl)))
      try simp only [Act.put, List.setIfInBounds_toArray, List.set_cons_zero, List.set_cons_succ]
      refine AnyB.takeQ (i := 3) (oi := _) (v := ?_) (by simp only [List.getElem?_toArray, List.getElem?_cons_zero, List.getElem?_cons_succ]; rfl) (by kernel_rfl) (by kernel_rfl) (by kernel_rfl) (by intro _ _ _ h; exact h) (Or.inl ⟨by rfl, ?_⟩) ?_
      rotate_left
      · (intro w hSw; (try dsimp only at hSw); go_simp; (try (with_reducible rfl)))
      try simp only [Act.put, List.setIfInBounds_toArray, List.set_cons_zero, List.set_cons_succ]
      refine AnyB.takeQ (i := 4) (oi := _) (v := ?_) (by simp only [List.getElem?_toArray, List.getElem?_cons_zero, List.getElem?_cons_succ]; rfl) (by kernel_rfl) (by kernel_rfl) (by kernel_rfl) (by intro _ _ _ h; exact h) (Or.inl ⟨by rfl, ?_⟩) ?_
      rotate_left
      · (intro w hSw; (try dsimp only at hSw); go_simp; (try (with_reducible rfl)))
      try simp only [Act.put, List.setIfInBounds_toArray, List.set_cons_zero, List.set_cons_succ]
      refine AnyB.take (i := 5) (oi := _) (v := ?_) (by simp only [List.getElem?_toArray, List.getElem?_cons_zero, List.getElem?_cons_succ]; rfl) (by kernel_rfl) (by kernel_rfl) (by kernel_rfl) (by kernel_rfl) (by kernel_rfl) (by intro _ _ _ h; exact h) (Or.inl ⟨by rfl, ?_⟩) (by assumption) ?_
      rotate_left
      · (intro w hSw; (try dsimp only at hSw); go_simp; (try (with_reducible rfl)))
      try simp only [Act.put, List.setIfInBounds_toArray, List.set_cons_zero, List.set_cons_succ]
      refine AnyB.each (rs := [6]) (by kernel_rfl) (by simp) ?_
      refine EachB.cons rfl (fun K hK hB => ?_) ?_
      · skip
        go_simp
        refine hK.out _ _ ?_ (fun hHeld1 => ?_)
        · ((try dsimp only); (first | exact ⟨c1, q0, q1, q2⟩ | exact ⟨cell_alloc_keep _ c1, cell_alloc_keep _ q0, cell_alloc_keep _ q1, cell_alloc_keep _ q2⟩))
        clear hB hK K hHeld0
        refine AnyB.each (rs := [7]) (by kernel_rfl) (by simp) ?_
        refine EachB.cons rfl (fun K hK hB => ?_) ?_
        · skip
          (refine step_append_lies _ (by rfl) (.tmp 20) (.tmp 25) 40 (by rfl) (w3.heap.size + 1) 96 i0 (.agg #[.int .i64 0, .int .i64 0, .int .i64 0]) 3 24 Try.underlying40 hi hz0 hz1 hz2 rfl (by omega) vx j _ (by rfl) ((own_below ho.out (show Below wr.heap.size wr wr.drew from (by repeat (first | exact Below.refl _ _ | assumption | refine Below.drew ?_ | refine below_drewN ?_ _ | refine Below.alloc ?_ (by first | omega | (simp <;> omega)) _ | refine Below.setCell ?_ (by first | omega | (simp <;> omega)) _ | refine Below.trans ?_ (Below.mono (by assumption) (by first | omega | (simp <;> omega)))))) rfl).alloc _) _ 1 1 [.int .i64 y.a, .int .i64 y.b, .int .i64 y.c] (by rfl) (by rfl) (news_cells wr.drew [.int .i64 y.a, .int .i64 y.b, .int .i64 y.c] 96) (E3.one y) (by omega) (by unfold maxLen; omega) (by omega) (by simp; omega) _ rfl ?_; intro g1 cp1 w9 hown1 hgr1 hat1 hlt1; have zz1 := hgr1.size; (simp at zz1); have hoa := (own_below ho.out (show Below wr.heap.size wr wr.drew from (by repeat (first | exact Below.refl _ _ | assumption | refine Below.drew ?_ | refine below_drewN ?_ _ | refine Below.alloc ?_ (by first | omega | (simp <;> omega)) _ | refine Below.setCell ?_ (by first | omega | (simp <;> omega)) _ | refine Below.trans ?_ (Below.mono (by assumption) (by first | omega | (simp <;> omega)))))) rfl).alloc (.cells #[.int .i64 y.a, .int .i64 y.b, .int .i64 y.c] 96); replace c0 := grown_lo2 hoa hgr1 (by omega) (cell_alloc_keep _ (cell_drew c0)); replace c1 := grown_lo2 hoa hgr1 (by omega) (cell_alloc_keep _ (cell_drew c1)); replace q0 := grown_lo2 hoa hgr1 (by omega) (cell_alloc_keep _ (cell_drew q0)); replace q1 := grown_lo2 hoa hgr1 (by omega) (cell_alloc_keep _ (cell_drew q1)); replace q2 := grown_lo2 hoa hgr1 (by omega) (cell_alloc_keep _ (cell_drew q2)); replace ff := frz_grown hgr1 (by simp; omega) (frozen_alloc_lt _ (by simpa using L0) (frz_drew ff)) (fun h => by have := (ho.out.lt _ h).1; omega); replace hbel := Lib.hid (show Below w3.heap.size w3 w9 from ((Below.drew hbel.out).alloc (by simp; omega) _).grown hgr1 (by simp; omega) (fun b hb => by have := (ho.out.lt b hb).1; omega)); replace ho := Lib.hid hown1; clear hown1 hgr1 hat1 hoa)
          refine hK.out _ _ ?_ (fun hHeld2 => ?_)
          · ((try dsimp only); (first | exact ⟨c1, q0, q1, q2⟩ | exact ⟨cell_alloc_keep _ c1, cell_alloc_keep _ q0, cell_alloc_keep _ q1, cell_alloc_keep _ q2⟩))
          clear hB hK K hHeld1
          refine AnyB.takeQ (i := 8) (oi := _) (v := ?_) (by simp only [List.getElem?_toArray, List.getElem?_cons_zero, List.getElem?_cons_succ]; rfl) (by kernel_rfl) (by kernel_rfl) (by kernel_rfl) (by intro _ _ _ h; exact h) (Or.inl ⟨by rfl, ?_⟩) ?_
          rotate_left
          · (intro w hSw; (try dsimp only at hSw); go_simp; (try (with_reducible rfl)))
          try simp only [Act.put, List.setIfInBounds_toArray, List.set_cons_zero, List.set_cons_succ]
          refine AnyB.each (rs := [9]) (by kernel_rfl) (by simp) ?_
          refine EachB.cons rfl (fun K hK hB => ?_) ?_
          · skip
            go_simp
            refine hB.out _ _ rfl ?_
            clear hB hK K
            refine AnyB.none (by kernel_rfl) ?_ _
            go_wp2_with fail
            go_roundw
            case rel => exact ⟨j + 1, (q : Int) - 1, (.slice (some ⟨g1, 0, none⟩) (j + 1) cp1), by omega, rfl, by omega, cell_set_other c0, World.cell?_setCell_same _ _ _ c1, by rw [World.frozen?_setCell]; exact ff, (show World.ownsRow _ _ _ _ _ _ _ from by rw [NX.out]; exact ownsRow_setCell_below ho.out (by simp) _), (show Below _ _ _ from Below.setCell hbel.out (by simp) _)⟩
            case measure => simp [intOf] <;> omega
          exact EachB.nil
        exact EachB.nil
      exact EachB.nil
    · obtain rfl : q' = -1 := by omega
      have HE := Lib.hid (show gs.reverse.take j = gs.reverse from List.take_of_length_le (by simp; omega))
      have i1 : ¬ (0 : Int) ≤ -1 := by omega
      have bw := Lib.hid (show Below w.heap.size w wr from Below.trans bw3.out (hbel.out.mono (by omega)))
      have r0 := below_cell hbel.out rfl R0.out
      have r1 := below_cell hbel.out rfl R1.out
      have rf0 := below_frz hbel.out rfl (by omega) F0.out
      have rf1 := below_frz hbel.out rfl (by omega) F1.out
      obtain ⟨a9, c9, rfl⟩ := own_form ho.out
      have hZ := box_set2 (nb := w.heap.size + 1) (.int .i64 (L.length : Int)) (.slice a9 j c9) r0 r1
      have bq := bw.out
      have hjl : Hid (j = gs.length) := (show _ = _ from by omega)
      go_wp2_with fail
      refine bodyPost_ret (v := .agg #[.int .i64 (L.length : Int), .slice a9 j c9]) (by simp [results, Try.results66, go_sem, hZ]) rfl ⟨_, rfl, ?_, (by repeat (first | exact Below.refl _ _ | assumption | refine Below.drew ?_ | refine below_drewN ?_ _ | refine Below.alloc ?_ (by first | omega | (simp <;> omega)) _ | refine Below.setCell ?_ (by first | omega | (simp <;> omega)) _ | refine Below.trans ?_ (Below.mono (by assumption) (by first | omega | (simp <;> omega)))))⟩
      have h9 : OwnE wr (w3.heap.size + 1) 96 (.slice a9 j c9) E3.cs 3 gs.reverse := by
        have h8 := ho.out
        rw [HE.out] at h8
        unfold OwnE
        rw [List.length_reverse, ← hjl.out]; exact h8
      exact OwnE.le (OwnE.set (OwnE.set h9 (by dsimp only; omega) _) (by dsimp only; omega) _) (by omega)
/-- What SynthesizeLinear answers. -/
noncomputable def synLG (zs : List Int) : Option Circ := if LinOk zs then some ⟨(zs.length : Int), (redG (zs.map Int.toNat)).reverse⟩ else none
theorem synLG_len (zs : List Int) : ((synLG zs).getD Circ.zero).gs.length ≤ 1000000 := by
  unfold synLG; split
  · next h =>
    have h5 := h.small.1.2
    have := red_few h.nat.2 (by rw [List.length_map]; exact h5)
    simp; omega
  · simp [Circ.zero]
set_option maxHeartbeats 4000000 in
theorem spec_SynthesizeLinear_any (v : Value) (zs : List Int) (w : World) (h : RdI w v zs) (hn : zs.length ≤ 1048576) :
    Calls Try.prog 25 #[.agg #[v]] w (CircPost w (synLG zs)) := by
  have H := Lib.hid h
  obtain ⟨A, c, rfl, _⟩ := h.form
  clear h
  by_cases hk : LinOk zs
  · have HB := Lib.hid (linB_true hk)
    have HG := Lib.hid (show synLG zs = some ⟨(zs.length : Int), (redG (zs.map Int.toNat)).reverse⟩ from if_pos hk)
    obtain ⟨n1, n5⟩ := hk.small.1
    obtain ⟨hz, hs⟩ := hk.nat
    clear hk
    generalize zs.map Int.toNat = L at *
    subst hz
    rw [ints_len] at *
    have HS := Lib.hid hs; clear hs
    go_enter Try.func25, Try.ntmps25
    go_wp2_with fail
    refine (spec_l12Valid_any _ (ints L) _ (Rd.below H.out (show Below w.heap.size w _ from (by repeat (first | exact Below.refl _ _ | assumption | refine Below.drew ?_ | refine below_drewN ?_ _ | refine Below.alloc ?_ (by first | omega | (simp <;> omega)) _ | refine Below.setCell ?_ (by first | omega | (simp <;> omega)) _ | refine Below.trans ?_ (Below.mono (by assumption) (by first | omega | (simp <;> omega)))))) rfl) (by rw [ints_len]; omega)).mono ?_; rintro e w1 ⟨rfl, hb1⟩; rw [HB.out]
    have r0 := below_cell hb1 rfl (show ((w.alloc (.cells #[.slice A L.length c] 56)).alloc (.cells #[.int .i64 0, .slice none 0 0] 42)).cell? ⟨w.heap.size + 1, 0, none⟩ = some (.int .i64 0) from (by repeat (first | (refine Eq.trans (World.cell?_alloc_at _ _ _ _ ?hh) ?_; (case hh => (simp; done)); rfl) | refine cell_alloc_keep _ ?_)))
    have r1 := below_cell hb1 rfl (show ((w.alloc (.cells #[.slice A L.length c] 56)).alloc (.cells #[.int .i64 0, .slice none 0 0] 42)).cell? ⟨w.heap.size + 1, 1, none⟩ = some (.slice none 0 0) from (by repeat (first | (refine Eq.trans (World.cell?_alloc_at _ _ _ _ ?hh) ?_; (case hh => (simp; done)); rfl) | refine cell_alloc_keep _ ?_)))
    obtain ⟨hc_hb1, hf_hb1⟩ := bcell hb1; have hz_hb1 := hb1.size; (try simp at hz_hb1); have hs0_hb1 : w.heap.size < w1.heap.size := (by omega); have hs1_hb1 : w.heap.size + 1 < w1.heap.size := (by omega)
    go_wp2_with fail
    refine (spec_l12Synthesize_any _ L _ (Rd.below H.out (show Below w.heap.size w w1 from (by repeat (first | exact Below.refl _ _ | assumption | refine Below.drew ?_ | refine below_drewN ?_ _ | refine Below.alloc ?_ (by first | omega | (simp <;> omega)) _ | refine Below.setCell ?_ (by first | omega | (simp <;> omega)) _ | refine Below.trans ?_ (Below.mono (by assumption) (by first | omega | (simp <;> omega)))))) rfl) HS.out n1 n5).mono ?_; rintro e w2 ⟨u, rfl, ho, hb2⟩
    generalize (redG L).reverse = PL at *
    obtain ⟨aU, cU, rfl⟩ := ho.forms
    have HO := Lib.hid (OwnE.le ho (base' := w.heap.size + 2) (by omega)); clear ho
    replace r0 := below_cell hb2 rfl r0
    replace r1 := below_cell hb2 rfl r1
    obtain ⟨hc_hb2, hf_hb2⟩ := bcell hb2; have hz_hb2 := hb2.size; (try simp at hz_hb2); have hs0_hb2 : w.heap.size < w2.heap.size := (by omega); have hs1_hb2 : w.heap.size + 1 < w2.heap.size := (by omega)
    go_wp2_with fail
    have hZ := box_set2 (nb := w.heap.size + 1) (.int .i64 (L.length : Int)) (.slice aU PL.length cU) r0 r1
    exact bodyPost_ret (v := .tuple #[.agg #[.int .i64 (L.length : Int), .slice aU PL.length cU], .bool true]) (by simp [results, Try.results25, go_sem, hZ]) rfl (CircPost.some HG.out (OwnE.le (OwnE.set (OwnE.set HO.out (by simp) _) (by simp) _) (by omega)) (by repeat (first | exact Below.refl _ _ | assumption | refine Below.drew ?_ | refine below_drewN ?_ _ | refine Below.alloc ?_ (by first | omega | (simp <;> omega)) _ | refine Below.setCell ?_ (by first | omega | (simp <;> omega)) _ | refine Below.trans ?_ (Below.mono (by assumption) (by first | omega | (simp <;> omega))))))
  · have HB := Lib.hid (linB_false hk)
    have HG := Lib.hid (show synLG zs = none from if_neg hk)
    clear hk
    go_enter Try.func25, Try.ntmps25
    go_wp2_with fail
    refine (spec_l12Valid_any _ zs _ (Rd.below H.out (show Below w.heap.size w _ from (by repeat (first | exact Below.refl _ _ | assumption | refine Below.drew ?_ | refine below_drewN ?_ _ | refine Below.alloc ?_ (by first | omega | (simp <;> omega)) _ | refine Below.setCell ?_ (by first | omega | (simp <;> omega)) _ | refine Below.trans ?_ (Below.mono (by assumption) (by first | omega | (simp <;> omega)))))) rfl) hn).mono ?_; rintro e w1 ⟨rfl, hb1⟩; rw [HB.out]
    have r0 := below_cell hb1 rfl (show ((w.alloc (.cells #[.slice A zs.length c] 56)).alloc (.cells #[.int .i64 0, .slice none 0 0] 42)).cell? ⟨w.heap.size + 1, 0, none⟩ = some (.int .i64 0) from (by repeat (first | (refine Eq.trans (World.cell?_alloc_at _ _ _ _ ?hh) ?_; (case hh => (simp; done)); rfl) | refine cell_alloc_keep _ ?_)))
    have r1 := below_cell hb1 rfl (show ((w.alloc (.cells #[.slice A zs.length c] 56)).alloc (.cells #[.int .i64 0, .slice none 0 0] 42)).cell? ⟨w.heap.size + 1, 1, none⟩ = some (.slice none 0 0) from (by repeat (first | (refine Eq.trans (World.cell?_alloc_at _ _ _ _ ?hh) ?_; (case hh => (simp; done)); rfl) | refine cell_alloc_keep _ ?_)))
    obtain ⟨hc_hb1, hf_hb1⟩ := bcell hb1; have hz_hb1 := hb1.size; (try simp at hz_hb1); have hs0_hb1 : w.heap.size < w1.heap.size := (by omega); have hs1_hb1 : w.heap.size + 1 < w1.heap.size := (by omega)
    go_wp2_with fail
    have hZ := box_set2 (nb := w.heap.size + 1) (.int .i64 0) (.slice none 0 0) r0 r1
    exact bodyPost_ret (v := .tuple #[.agg #[.int .i64 0, .slice none 0 0], .bool false]) (by simp [results, Try.results25, go_sem, hZ]) rfl (CircPost.none HG.out (by repeat (first | exact Below.refl _ _ | assumption | refine Below.drew ?_ | refine below_drewN ?_ _ | refine Below.alloc ?_ (by first | omega | (simp <;> omega)) _ | refine Below.setCell ?_ (by first | omega | (simp <;> omega)) _ | refine Below.trans ?_ (Below.mono (by assumption) (by first | omega | (simp <;> omega))))))
end Go.Proofs.Ytfcfpojldoijlaa
