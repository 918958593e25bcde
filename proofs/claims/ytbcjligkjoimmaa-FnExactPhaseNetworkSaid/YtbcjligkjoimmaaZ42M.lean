/- LinearOf in the reference. -/
import Derived.Test.YtbcjligkjoimmaaZ23M
import Derived.Test.YtbcjligkjoimmaaZ28Par2
import Derived.Test.YtbcjligkjoimmaaZ24M
import Derived.Test.YtbcjligkjoimmaaZ29Brk
namespace Go.Proofs.Ytbcjligkjoimmaa
set_option linter.unusedSimpArgs false
set_option linter.unusedVariables false
set_option linter.unnecessarySimpa false
set_option maxRecDepth 200000
open Go.ChangeShapes Go.WideShapes Go.ChangeAt Go.RowKit

theorem lo_gate {d : Circ} (h : CircOk d) {k : Nat} (hk : k < d.gs.length) (h9 : (d.gs.getD k ⟨0, 0, 0⟩).a = 9 ∨ (d.gs.getD k ⟨0, 0, 0⟩).a = 11) : ∃ a b : Nat, d.gs.getD k ⟨0, 0, 0⟩ = ⟨(d.gs.getD k ⟨0, 0, 0⟩).a, (a : Int), (b : Int)⟩ ∧ (a : Int) < d.n ∧ (b : Int) < d.n ∧ a ≠ b := by
  have e : d.gs.getD k ⟨0, 0, 0⟩ = d.gs[k] := by simp [List.getD, hk]
  have hg := h.2.2 d.gs[k] (List.getElem_mem hk)
  rw [e] at h9 ⊢
  generalize d.gs[k] = g at h9 hg ⊢
  obtain ⟨x, y, z⟩ := g
  unfold GateOk at hg
  dsimp only at hg h9 ⊢
  have hg2 : 0 ≤ y ∧ y ≤ d.n - 1 ∧ 0 ≤ z ∧ z ≤ d.n - 1 ∧ y ≠ z := by omega
  obtain ⟨a, rfl⟩ := Int.eq_ofNat_of_zero_le hg2.1
  obtain ⟨b, rfl⟩ := Int.eq_ofNat_of_zero_le hg2.2.2.1
  exact ⟨a, b, rfl, by omega, by omega, fun h => hg2.2.2.2.2 (by rw [h])⟩
set_option maxHeartbeats 8000000 in
theorem spec_LinearOf_any (v : Value) (d : Circ) (w : World) (h : RdE w v E3.cs 3 d.gs) (hl : d.gs.length ≤ 1048576) :
    Calls Try.prog 17 #[.agg #[.int .i64 d.n, v]] w (LinPost w (loG d)) := by
  have H := Lib.hid h
  obtain ⟨A, c, rfl, Hc⟩ := gate_at h
  clear h
  cases hb : circB d with
  | false =>
    have HG := Lib.hid (show loG d = none from by unfold loG; rw [hb]; rfl)
    have HB := Lib.hid hb; clear hb
    go_enter Try.func17, Try.ntmps17
    go_wp2_with fail
    refine (spec_IsValidCircuit_any _ d _ (Rd.below H.out (show Below w.heap.size w _ from (by repeat (first | exact Below.refl _ _ | assumption | refine Below.drew ?_ | refine below_drewN ?_ _ | refine Below.alloc ?_ (by first | omega | (simp <;> omega)) _ | refine Below.setCell ?_ (by first | omega | (simp <;> omega)) _ | refine Below.trans ?_ (Below.mono (by assumption) (by first | omega | (simp <;> omega)))))) rfl) hl).mono ?_; rintro e w1 ⟨rfl, hb1⟩; rw [HB.out]
    have r1 : w1.cell? ⟨w.heap.size + 1, 0, none⟩ = some (.slice none 0 0) := below_cell hb1 rfl (by repeat (first | (refine Eq.trans (World.cell?_alloc_at _ _ _ _ ?hh) ?_; (case hh => (simp; done)); rfl) | refine cell_alloc_keep _ ?_))
    obtain ⟨hc_hb1, hf_hb1⟩ := bcell hb1; have hz_hb1 := hb1.size; (try simp at hz_hb1); have hs0_hb1 : w.heap.size < w1.heap.size := (by omega); have hs1_hb1 : w.heap.size + 1 < w1.heap.size := (by omega)
    go_wp2_with fail
    exact bodyPost_ret (v := .tuple #[.agg #[.slice none 0 0], .bool false]) (by simp [results, Try.results17, go_sem, r1]) rfl (LinPost.none HG.out (by repeat (first | exact Below.refl _ _ | assumption | refine Below.drew ?_ | refine below_drewN ?_ _ | refine Below.alloc ?_ (by first | omega | (simp <;> omega)) _ | refine Below.setCell ?_ (by first | omega | (simp <;> omega)) _ | refine Below.trans ?_ (Below.mono (by assumption) (by first | omega | (simp <;> omega))))))
  | true =>
    have HG := Lib.hid (show loG d = (loTo d.n.toNat d.gs d.gs.length).map ints from by unfold loG; rw [hb]; rfl)
    have HOK := Lib.hid (show CircOk d from of_decide_eq_true hb)
    have HB := Lib.hid hb; clear hb
    obtain ⟨⟨n1, n2⟩, hl4, _⟩ := HOK.out
    obtain ⟨m, hm⟩ : ∃ m : Nat, d.n = (m : Int) := ⟨d.n.toNat, by omega⟩
    rw [hm, Int.toNat_natCast] at HG
    rw [hm] at n1 n2
    have m1 : 1 ≤ m := by omega
    have m5 : m ≤ 5 := by omega
    have HM := Lib.hid hm; clear hm
    go_enter Try.func17, Try.ntmps17
    go_wp2_with fail
    refine (spec_IsValidCircuit_any _ d _ (Rd.below H.out (show Below w.heap.size w _ from (by repeat (first | exact Below.refl _ _ | assumption | refine Below.drew ?_ | refine below_drewN ?_ _ | refine Below.alloc ?_ (by first | omega | (simp <;> omega)) _ | refine Below.setCell ?_ (by first | omega | (simp <;> omega)) _ | refine Below.trans ?_ (Below.mono (by assumption) (by first | omega | (simp <;> omega)))))) rfl) hl).mono ?_; rintro e w1 ⟨rfl, hb1⟩; rw [HB.out]
    have t0 : w1.cell? ⟨w.heap.size, 0, none⟩ = some (.int .i64 d.n) := below_cell hb1 rfl (by repeat (first | (refine Eq.trans (World.cell?_alloc_at _ _ _ _ ?hh) ?_; (case hh => (simp; done)); rfl) | refine cell_alloc_keep _ ?_))
    have t1 : w1.cell? ⟨w.heap.size, 1, none⟩ = some (.slice A d.gs.length c) := below_cell hb1 rfl (by repeat (first | (refine Eq.trans (World.cell?_alloc_at _ _ _ _ ?hh) ?_; (case hh => (simp; done)); rfl) | refine cell_alloc_keep _ ?_))
    have b1 := Lib.hid (show Below (w.heap.size + 2) ((w.alloc (.cells #[.int .i64 d.n, .slice A d.gs.length c] 31)).alloc (.cells #[.slice none 0 0] 35)) w1 from hb1.mono (by simp))
    have z1 := hb1.size; (simp at z1)
    clear hb1
    go_wp2_with fail
    rw [HM.out]
    refine (spec_l12Identity_any (m : Int) _ (by omega) (by omega)).mono ?_; rintro e w2 ⟨v1, rfl, ho1, hb2⟩
    rw [Int.toNat_natCast, idN_ints] at ho1
    obtain ⟨g1, cap1, rfl, hg1a, hg1b⟩ := own_ints ho1 (by rw [idN_len]; omega)
    rw [idN_len] at *
    have z2 := hb2.size
    replace t1 := below_cell hb2 rfl t1
    have b2 := Lib.hid (show Below (w.heap.size + 2) ((w.alloc (.cells #[.int .i64 d.n, .slice A d.gs.length c] 31)).alloc (.cells #[.slice none 0 0] 35)) w2 from Below.trans b1.out (hb2.mono (by omega)))
    have O1 := Lib.hid (OwnI.le ho1 (base' := w.heap.size + 2) (by omega))
    clear hb2 ho1 b1
    replace t1 := cell_alloc_keep (.cells #[.slice (some ⟨g1, 0, none⟩) m cap1] 35) t1
    go_wp2_with fail
    have hne0 : g1 ≠ w2.heap.size := by omega
    obtain ⟨W0, hW0⟩ : ∃ W0, W0 = ((w.alloc (.cells #[.int .i64 d.n, .slice A d.gs.length c] 31)).alloc (.cells #[.slice none 0 0] 35)) := ⟨_, rfl⟩
    have BW := Lib.hid (show Below w.heap.size w W0 from by rw [hW0]; exact (by repeat (first | exact Below.refl _ _ | assumption | refine Below.drew ?_ | refine below_drewN ?_ _ | refine Below.alloc ?_ (by first | omega | (simp <;> omega)) _ | refine Below.setCell ?_ (by first | omega | (simp <;> omega)) _ | refine Below.trans ?_ (Below.mono (by assumption) (by first | omega | (simp <;> omega))))))
    have R1 := Lib.hid (show W0.cell? ⟨w.heap.size + 1, 0, none⟩ = some (.slice none 0 0) from by rw [hW0]; exact (by repeat (first | (refine Eq.trans (World.cell?_alloc_at _ _ _ _ ?hh) ?_; (case hh => (simp; done)); rfl) | refine cell_alloc_keep _ ?_)))
    have RF := Lib.hid (show W0.frozen? ⟨w.heap.size + 1, 0, none⟩ = false from by rw [hW0]; exact (by repeat (first | (refine World.frozen?_alloc_at _ _ _ _ ?hh; case hh => (simp; done)) | (refine frozen_alloc_lt _ ?hh ?_; case hh => first | omega | (simp <;> omega)))))
    rw [← hW0] at b2
    have HW0 := Lib.hid hW0; clear hW0
    go_loopw [17] (fun i wr => ∃ (k g cap : Nat) (R : List Nat), k ≤ d.gs.length ∧ i = .int .i64 k ∧ Hid (loTo m d.gs k = some R) ∧ wr.cell? ⟨w2.heap.size, 0, none⟩ = some (.slice (some ⟨g, 0, none⟩) m cap) ∧ wr.frozen? ⟨w2.heap.size, 0, none⟩ = false ∧ Hid (OwnI wr (w.heap.size + 2) (.slice (some ⟨g, 0, none⟩) m cap) (ints R)) ∧ g ≠ w2.heap.size ∧ Hid (Below (w.heap.size + 2) W0 wr)) (fun i _ => d.gs.length - (intOf i).toNat)
    case atStart => exact ⟨0, g1, cap1, idN m, Nat.zero_le _, rfl, (show _ = _ from rfl), (by repeat (first | (refine Eq.trans (World.cell?_alloc_at _ _ _ _ ?hh) ?_; (case hh => (simp; done)); rfl) | refine cell_alloc_keep _ ?_)), (by repeat (first | (refine World.frozen?_alloc_at _ _ _ _ ?hh; case hh => (simp; done)) | (refine frozen_alloc_lt _ ?hh ?_; case hh => first | omega | (simp <;> omega)))), (OwnI.below O1.out (show Below w2.heap.size w2 _ from (by repeat (first | exact Below.refl _ _ | assumption | refine Below.drew ?_ | refine below_drewN ?_ _ | refine Below.alloc ?_ (by first | omega | (simp <;> omega)) _ | refine Below.setCell ?_ (by first | omega | (simp <;> omega)) _ | refine Below.trans ?_ (Below.mono (by assumption) (by first | omega | (simp <;> omega)))))) rfl), hne0, (show Below _ _ _ from Below.alloc b2.out (by omega) _)⟩
    case round =>
      obtain ⟨k, g, cap, R, hk, rfl, hR, c0, cf, hO, hne, hbel⟩ := hrel
      obtain ⟨hlen, hsm⟩ := loTo_ok m1 m5 d.gs k R hR.out
      have bw := Lib.hid (show Below w.heap.size w wr from Below.trans BW.out (hbel.out.mono (by omega)))
      have L0 := World.block_lt_of_cell? _ _ c0
      clear t0 t1
      by_cases hlt : k < d.gs.length
      · obtain ⟨b0, off, rfl, hb0, q0, q1, q2⟩ := Hc.out k hlt
        replace q0 := (bw.out.cell hb0).trans q0; replace q1 := (bw.out.cell hb0).trans q1; replace q2 := (bw.out.cell hb0).trans q2
        have i1 : (k : Int) < (d.gs.length : Int) := by omega
        have HST := Lib.hid (loTo_succ (n := m) hlt)
        have gOwn := Lib.hid (hO.out.lt g rfl)
        by_cases h9 : (d.gs.getD k ⟨0, 0, 0⟩).a = 9 ∨ (d.gs.getD k ⟨0, 0, 0⟩).a = 11
        · obtain ⟨a, b, hg, ha, hb, hab⟩ := lo_gate HOK.out hlt h9
          rw [HM.out] at ha hb
          rcases h9 with h9 | h9

          · rw [h9] at hg
            rw [hg] at q0 q1 q2 HST
            have HN := Lib.hid (show loTo m d.gs (k + 1) = some (cxN R a b) from by rw [HST.out, hR.out]; simp [loF])
            have HS := Lib.hid hsm; have hax : a < R.length := by omega
            have hbx : b < R.length := by omega
            have hab2 : a ≠ b := hab
            clear h9 hg hsm hab HST
            go_wp2_with fail
            have hRw := Lib.hid (OwnI.below hO.out (show Below wr.heap.size wr (wr.alloc (.cells #[.int .i64 9, .int .i64 (a : Int), .int .i64 (b : Int)] 58)) from (by repeat (first | exact Below.refl _ _ | assumption | refine Below.drew ?_ | refine below_drewN ?_ _ | refine Below.alloc ?_ (by first | omega | (simp <;> omega)) _ | refine Below.setCell ?_ (by first | omega | (simp <;> omega)) _ | refine Below.trans ?_ (Below.mono (by assumption) (by first | omega | (simp <;> omega)))))) rfl)
            refine (spec_l12CX_any _ R a b _ hRw.out.rd HS.out hax hbx (by omega)).mono ?_; rintro e x1 ⟨v', rfl, ho', hx1⟩
            obtain ⟨gN, capN, hvN, hgN1, hgN2⟩ := own_ints ho' (by rw [cxN_len]; omega)
            have hcl : (cxN R a b).length = m := by rw [cxN_len]; exact hlen
            rw [hcl] at hvN; subst hvN
            have zx := hx1.size; (try simp at zx); (try simp at hgN1)
            have d0 := below_cell hx1 rfl (cell_alloc_keep (.cells #[.int .i64 9, .int .i64 (a : Int), .int .i64 (b : Int)] 58) c0)
            have df := below_frz hx1 rfl (by simp; omega) (frozen_alloc_keep (.cells #[.int .i64 9, .int .i64 (a : Int), .int .i64 (b : Int)] 58) c0 cf)
            have N1 := Lib.hid (OwnI.le ho' (base' := w.heap.size + 2) (by simp; have := gOwn.out.1; omega))
            have bx := Lib.hid (show Below (w.heap.size + 2) W0 x1 from Below.trans (hbel.out.alloc (by omega) (.cells #[.int .i64 9, .int .i64 (a : Int), .int .i64 (b : Int)] 58)) (hx1.mono (by simp; omega)))
            clear hx1 ho' hRw hO c0 cf hbel bw
            go_wp2_with fail
            go_roundw
            case rel => exact ⟨k + 1, gN, capN, cxN R a b, by omega, by go_num, HN, World.cell?_setCell_same _ _ _ d0, by rw [World.frozen?_setCell]; exact df, (show OwnI _ _ _ _ from own_set_ne N1.out (fun g hg => by simp [Value.ownBlock] at hg; (try dsimp only); omega) _), by omega, (show Below _ _ _ from Below.setCell bx.out (by simp; omega) _)⟩
            case measure => simp [intOf]; omega
          · rw [h9] at hg
            rw [hg] at q0 q1 q2 HST
            have HN := Lib.hid (show loTo m d.gs (k + 1) = some (swapN R a b) from by rw [HST.out, hR.out]; simp [loF])
            have HS := Lib.hid hsm; have hax : a < R.length := by omega
            have hbx : b < R.length := by omega
            have hab2 : a ≠ b := hab
            clear h9 hg hsm hab HST
            go_wp2_with fail
            have c0a := cell_alloc_keep (.cells #[.int .i64 11, .int .i64 (a : Int), .int .i64 (b : Int)] 58) c0
            have ga : (wr.alloc (.cells #[.int .i64 11, .int .i64 (a : Int), .int .i64 (b : Int)] 58)).cell? ⟨wr.heap.size, 1, none⟩ = some (.int .i64 (a : Int)) := (by repeat (first | (refine Eq.trans (World.cell?_alloc_at _ _ _ _ ?hh) ?_; (case hh => (simp; done)); rfl) | refine cell_alloc_keep _ ?_))
            have gb : (wr.alloc (.cells #[.int .i64 11, .int .i64 (a : Int), .int .i64 (b : Int)] 58)).cell? ⟨wr.heap.size, 2, none⟩ = some (.int .i64 (b : Int)) := (by repeat (first | (refine Eq.trans (World.cell?_alloc_at _ _ _ _ ?hh) ?_; (case hh => (simp; done)); rfl) | refine cell_alloc_keep _ ?_))
            have fa := frozen_alloc_keep (.cells #[.int .i64 11, .int .i64 (a : Int), .int .i64 (b : Int)] 58) c0 cf
            have hRw := Lib.hid (OwnI.below hO.out (show Below wr.heap.size wr (wr.alloc (.cells #[.int .i64 11, .int .i64 (a : Int), .int .i64 (b : Int)] 58)).drew from (by repeat (first | exact Below.refl _ _ | assumption | refine Below.drew ?_ | refine below_drewN ?_ _ | refine Below.alloc ?_ (by first | omega | (simp <;> omega)) _ | refine Below.setCell ?_ (by first | omega | (simp <;> omega)) _ | refine Below.trans ?_ (Below.mono (by assumption) (by first | omega | (simp <;> omega)))))) rfl)
            have bxx := Lib.hid (show Below (w.heap.size + 2) W0 (wr.alloc (.cells #[.int .i64 11, .int .i64 (a : Int), .int .i64 (b : Int)] 58)).drew from Below.drew (hbel.out.alloc (by omega) _))
            refine AnyB.begin (S := (fun w' => w'.cell? ⟨w2.heap.size, 0, none⟩ = some (.slice (some ⟨g, 0, none⟩) m cap) ∧ w'.cell? ⟨wr.heap.size, 1, none⟩ = some (.int .i64 (a : Int)) ∧ w'.cell? ⟨wr.heap.size, 2, none⟩ = some (.int .i64 (b : Int)))) [16] (by kernel_rfl) ?_ (fun hHeld0 => ?_)
            · ((try dsimp only); (first | exact ⟨c0a, ga, gb⟩))
            refine AnyB.take (i := 0) (oi := _) (v := ?_) (by simp only [List.getElem?_toArray, List.getElem?_cons_zero, List.getElem?_cons_succ]; rfl) (by kernel_rfl) (by kernel_rfl) (by kernel_rfl) (by kernel_rfl) (by kernel_rfl) (by intro _ _ _ h; exact h) (Or.inl ⟨by rfl, ?_⟩) (by assumption) ?_
            rotate_left
            · (intro w hSw; (try dsimp only at hSw); go_simp; (try (with_reducible rfl)))
            try simp only [Act.put, List.setIfInBounds_toArray, List.set_cons_zero, List.set_cons_succ]
            refine AnyB.takeQ (i := 1) (oi := _) (v := ?_) (by simp only [List.getElem?_toArray, List.getElem?_cons_zero, List.getElem?_cons_succ]; rfl) (by kernel_rfl) (by kernel_rfl) (by kernel_rfl) (by intro _ _ _ h; exact h) (Or.inl ⟨by rfl, ?_⟩) ?_
            rotate_left
            · (intro w hSw; (try dsimp only at hSw); go_simp; (try (with_reducible rfl)))
            try simp only [Act.put, List.setIfInBounds_toArray, List.set_cons_zero, List.set_cons_succ]
            refine AnyB.take (i := 2) (oi := _) (v := ?_) (by simp only [List.getElem?_toArray, List.getElem?_cons_zero, List.getElem?_cons_succ]; rfl) (by kernel_rfl) (by kernel_rfl) (by kernel_rfl) (by kernel_rfl) (by kernel_rfl) (by intro _ _ _ h; exact h) (Or.inl ⟨by rfl, ?_⟩) (by assumption) ?_
            rotate_left
            · (intro w hSw; (try dsimp only at hSw); go_simp; (try (with_reducible rfl)))
            try simp only [Act.put, List.setIfInBounds_toArray, List.set_cons_zero, List.set_cons_succ]
            refine AnyB.takeQ (i := 3) (oi := _) (v := ?_) (by simp only [List.getElem?_toArray, List.getElem?_cons_zero, List.getElem?_cons_succ]; rfl) (by kernel_rfl) (by kernel_rfl) (by kernel_rfl) (by intro _ _ _ h; exact h) (Or.inl ⟨by rfl, ?_⟩) ?_
            rotate_left
            · (intro w hSw; (try dsimp only at hSw); go_simp; (try (with_reducible rfl)))
            try simp only [Act.put, List.setIfInBounds_toArray, List.set_cons_zero, List.set_cons_succ]
            refine AnyB.take (i := 4) (oi := _) (v := ?_) (by simp only [List.getElem?_toArray, List.getElem?_cons_zero, List.getElem?_cons_succ]; rfl) (by kernel_rfl) (by kernel_rfl) (by kernel_rfl) (by kernel_rfl) (by kernel_rfl) (by intro _ _ _ h; exact h) (Or.inl ⟨by rfl, ?_⟩) (by assumption) ?_
            rotate_left
            · (intro w hSw; (try dsimp only at hSw); go_simp; (try (with_reducible rfl)))
            try simp only [Act.put, List.setIfInBounds_toArray, List.set_cons_zero, List.set_cons_succ]
            refine AnyB.takeQ (i := 6) (oi := _) (v := ?_) (by simp only [List.getElem?_toArray, List.getElem?_cons_zero, List.getElem?_cons_succ]; rfl) (by kernel_rfl) (by kernel_rfl) (by kernel_rfl) (by intro _ _ _ h; exact h) (Or.inl ⟨by rfl, ?_⟩) ?_
            rotate_left
            · (intro w hSw; (try dsimp only at hSw); go_simp; (try (with_reducible rfl)))
            try simp only [Act.put, List.setIfInBounds_toArray, List.set_cons_zero, List.set_cons_succ]
            refine AnyB.take (i := 7) (oi := _) (v := ?_) (by simp only [List.getElem?_toArray, List.getElem?_cons_zero, List.getElem?_cons_succ]; rfl) (by kernel_rfl) (by kernel_rfl) (by kernel_rfl) (by kernel_rfl) (by kernel_rfl) (by intro _ _ _ h; exact h) (Or.inl ⟨by rfl, ?_⟩) (by assumption) ?_
            rotate_left
            · (intro w hSw; (try dsimp only at hSw); go_simp; (try (with_reducible rfl)))
            try simp only [Act.put, List.setIfInBounds_toArray, List.set_cons_zero, List.set_cons_succ]
            refine AnyB.takeQ (i := 8) (oi := _) (v := ?_) (by simp only [List.getElem?_toArray, List.getElem?_cons_zero, List.getElem?_cons_succ]; rfl) (by kernel_rfl) (by kernel_rfl) (by kernel_rfl) (by intro _ _ _ h; exact h) (Or.inl ⟨by rfl, ?_⟩) ?_
            rotate_left
            · (intro w hSw; (try dsimp only at hSw); go_simp; (try (with_reducible rfl)))
            try simp only [Act.put, List.setIfInBounds_toArray, List.set_cons_zero, List.set_cons_succ]
            refine AnyB.take (i := 9) (oi := _) (v := ?_) (by simp only [List.getElem?_toArray, List.getElem?_cons_zero, List.getElem?_cons_succ]; rfl) (by kernel_rfl) (by kernel_rfl) (by kernel_rfl) (by kernel_rfl) (by kernel_rfl) (by intro _ _ _ h; exact h) (Or.inl ⟨by rfl, ?_⟩) (by assumption) ?_
            rotate_left
            · (intro w hSw; (try dsimp only at hSw); go_simp; (try (with_reducible rfl)))
            try simp only [Act.put, List.setIfInBounds_toArray, List.set_cons_zero, List.set_cons_succ]
            refine AnyB.takeQ (i := 11) (oi := _) (v := ?_) (by simp only [List.getElem?_toArray, List.getElem?_cons_zero, List.getElem?_cons_succ]; rfl) (by kernel_rfl) (by kernel_rfl) (by kernel_rfl) (by intro _ _ _ h; exact h) (Or.inl ⟨by rfl, ?_⟩) ?_
            rotate_left
            · (intro w hSw; (try dsimp only at hSw); go_simp; (try (with_reducible rfl)))
            try simp only [Act.put, List.setIfInBounds_toArray, List.set_cons_zero, List.set_cons_succ]
            refine AnyB.take (i := 12) (oi := _) (v := ?_) (by simp only [List.getElem?_toArray, List.getElem?_cons_zero, List.getElem?_cons_succ]; rfl) (by kernel_rfl) (by kernel_rfl) (by kernel_rfl) (by kernel_rfl) (by kernel_rfl) (by intro _ _ _ h; exact h) (Or.inl ⟨by rfl, ?_⟩) (by assumption) ?_
            rotate_left
            · (intro w hSw; (try dsimp only at hSw); go_simp; (try (with_reducible rfl)))
            try simp only [Act.put, List.setIfInBounds_toArray, List.set_cons_zero, List.set_cons_succ]
            refine AnyB.takeQ (i := 13) (oi := _) (v := ?_) (by simp only [List.getElem?_toArray, List.getElem?_cons_zero, List.getElem?_cons_succ]; rfl) (by kernel_rfl) (by kernel_rfl) (by kernel_rfl) (by intro _ _ _ h; exact h) (Or.inl ⟨by rfl, ?_⟩) ?_
            rotate_left
            · (intro w hSw; (try dsimp only at hSw); go_simp; (try (with_reducible rfl)))
            try simp only [Act.put, List.setIfInBounds_toArray, List.set_cons_zero, List.set_cons_succ]
            refine AnyB.take (i := 14) (oi := _) (v := ?_) (by simp only [List.getElem?_toArray, List.getElem?_cons_zero, List.getElem?_cons_succ]; rfl) (by kernel_rfl) (by kernel_rfl) (by kernel_rfl) (by kernel_rfl) (by kernel_rfl) (by intro _ _ _ h; exact h) (Or.inl ⟨by rfl, ?_⟩) (by assumption) ?_
            rotate_left
            · (intro w hSw; (try dsimp only at hSw); go_simp; (try (with_reducible rfl)))
            try simp only [Act.put, List.setIfInBounds_toArray, List.set_cons_zero, List.set_cons_succ]
            refine AnyB.each (rs := [5]) (by kernel_rfl) (by simp) ?_
            refine EachB.cons rfl (fun K hK hB => ?_) ?_
            · skip
              (go_simp; go_at_call 51; refine (spec_l12CX_any _ (R) a b _ hRw.out.rd HS.out hax hbx (by first | omega | (simp [cxN_len]; omega))).mono ?_; rintro e x1 ⟨v1, rfl, ho1, hx1⟩; have y1 := hx1.size; (simp at y1); replace c0a := below_cell hx1 rfl (cell_drew c0a); replace ga := below_cell hx1 rfl (cell_drew ga); replace gb := below_cell hx1 rfl (cell_drew gb); replace fa := below_frz hx1 rfl (by first | omega | (simp; omega)) (frz_drew fa); obtain ⟨aV1, cV1, rfl⟩ := ho1.forms; have V1 := Lib.hid ho1; replace bxx := Lib.hid (show Below (w.heap.size + 2) W0 x1 from Below.trans bxx.out (hx1.mono (by first | omega | (simp; omega)))); clear hx1 ho1; dsimp only)
              refine hK.out _ _ ?_ (fun hHeld1 => ?_)
              · ((try dsimp only); (first | exact ⟨c0a, ga, gb⟩))
              clear hB hK K hHeld0
              refine AnyB.each (rs := [10]) (by kernel_rfl) (by simp) ?_
              refine EachB.cons rfl (fun K hK hB => ?_) ?_
              · skip
                (go_simp; go_at_call 51; refine (spec_l12CX_any _ (cxN R a b) b a _ V1.out.rd (HS.out.cx a b) (by simp [cxN_len]; omega) (by simp [cxN_len]; omega) (by first | omega | (simp [cxN_len]; omega))).mono ?_; rintro e x2 ⟨v2, rfl, ho2, hx2⟩; have y2 := hx2.size; replace c0a := below_cell hx2 rfl c0a; replace ga := below_cell hx2 rfl ga; replace gb := below_cell hx2 rfl gb; replace fa := below_frz hx2 rfl (by first | omega | (simp; omega)) fa; obtain ⟨aV2, cV2, rfl⟩ := ho2.forms; have V2 := Lib.hid ho2; replace bxx := Lib.hid (show Below (w.heap.size + 2) W0 x2 from Below.trans bxx.out (hx2.mono (by first | omega | (simp; omega)))); clear hx2 ho2; dsimp only)
                refine hK.out _ _ ?_ (fun hHeld2 => ?_)
                · ((try dsimp only); (first | exact ⟨c0a, ga, gb⟩))
                clear hB hK K hHeld1
                refine AnyB.each (rs := [15]) (by kernel_rfl) (by simp) ?_
                refine EachB.cons rfl (fun K hK hB => ?_) ?_
                · skip
                  (go_simp; go_at_call 51; refine (spec_l12CX_any _ (cxN (cxN R a b) b a) a b _ V2.out.rd ((HS.out.cx a b).cx b a) (by simp [cxN_len]; omega) (by simp [cxN_len]; omega) (by first | omega | (simp [cxN_len]; omega))).mono ?_; rintro e x3 ⟨v3, rfl, ho3, hx3⟩; have y3 := hx3.size; replace c0a := below_cell hx3 rfl c0a; replace ga := below_cell hx3 rfl ga; replace gb := below_cell hx3 rfl gb; replace fa := below_frz hx3 rfl (by first | omega | (simp; omega)) fa; obtain ⟨aV3, cV3, rfl⟩ := ho3.forms; have V3 := Lib.hid ho3; replace bxx := Lib.hid (show Below (w.heap.size + 2) W0 x3 from Below.trans bxx.out (hx3.mono (by first | omega | (simp; omega)))); clear hx3 ho3; dsimp only)
                  refine hK.out _ _ ?_ (fun hHeld3 => ?_)
                  · ((try dsimp only); (first | exact ⟨c0a, ga, gb⟩))
                  clear hB hK K hHeld2
                  refine AnyB.each (rs := [16]) (by kernel_rfl) (by simp) ?_
                  refine EachB.cons rfl (fun K hK hB => ?_) ?_
                  · skip
                    go_simp
                    refine hB.out _ _ rfl ?_
                    clear hB hK K
                    refine AnyB.none (by kernel_rfl) ?_ _
                    have V4 := Lib.hid (show OwnI x3 x2.heap.size _ (ints (swapN R a b)) from by rw [← swap_cx hax hbx hab2]; exact V3.out)
                    have hcl : (swapN R a b).length = m := by rw [swapN_len]; exact hlen
                    obtain ⟨gN, capN, hvN, hgN1, hgN2⟩ := own_ints V4.out (by omega)
                    rw [hcl] at hvN; injection hvN with hv1 hv2 hv3; subst hv1; subst hv3
                    rw [hv2] at V4 ⊢
                    clear hv2 V3 V2 V1 hRw hO c0 cf hbel bw ga gb
                    go_wp2_with fail
                    go_roundw
                    case rel => exact ⟨k + 1, gN, cV3, swapN R a b, by omega, by go_num, HN, World.cell?_setCell_same _ _ _ c0a, by rw [World.frozen?_setCell]; exact fa, (show OwnI _ _ _ _ from own_set_ne (OwnI.le V4.out (by have := gOwn.out.1; omega)) (fun g hg => by simp [Value.ownBlock] at hg; (try dsimp only); omega) _), by omega, (show Below _ _ _ from Below.setCell bxx.out (by simp; omega) _)⟩
                    case measure => simp [intOf]; omega
                  exact EachB.nil
                exact EachB.nil
              exact EachB.nil
            exact EachB.nil
        · have hno := not_or.1 h9
          obtain ⟨hno1, hno2⟩ := hno
          have HG2 := Lib.hid (show loG d = none from by
            rw [HG.out, loTo_bad (n := m) (gs := d.gs) (k := k + 1) (by rw [HST.out, hR.out]; show (if (d.gs.getD k ⟨0, 0, 0⟩).a = 9 then _ else if (d.gs.getD k ⟨0, 0, 0⟩).a = 11 then _ else none) = none; rw [if_neg hno1, if_neg hno2]) (by omega)]; rfl)
          obtain ⟨y, hy⟩ : ∃ y, y = d.gs.getD k ⟨0, 0, 0⟩ := ⟨_, rfl⟩
          rw [← hy] at q0 q1 q2 hno1 hno2
          have g9 : (y.a == 9) = false := by simpa using hno1
          have g11 : (y.a == 11) = false := by simpa using hno2
          have r1 := (hbel.out.cell (p := ⟨w.heap.size + 1, 0, none⟩) (by simp)).trans R1.out
          have rf := (hbel.out.frozen (p := ⟨w.heap.size + 1, 0, none⟩) (by simp)).trans RF.out
          have r1a := cell_alloc_keep (.cells #[.int .i64 y.a, .int .i64 y.b, .int .i64 y.c] 58) r1
          have rfa := frozen_alloc_keep (.cells #[.int .i64 y.a, .int .i64 y.b, .int .i64 y.c] 58) r1 rf
          have hZ := World.cell?_setCell_same _ _ (.slice none 0 0) r1a
          clear h9 hno1 hno2 hy
          have bq := bw.out
          go_wp2_with fail
          exact bodyPost_ret (v := .tuple #[.agg #[.slice none 0 0], .bool false]) (by simp [results, Try.results17, go_sem, hZ]) rfl (LinPost.none HG2.out (by repeat (first | exact Below.refl _ _ | assumption | refine Below.drew ?_ | refine below_drewN ?_ _ | refine Below.alloc ?_ (by first | omega | (simp <;> omega)) _ | refine Below.setCell ?_ (by first | omega | (simp <;> omega)) _ | refine Below.trans ?_ (Below.mono (by assumption) (by first | omega | (simp <;> omega))))))
      · have e9 : k = d.gs.length := by omega
        have HG2 := Lib.hid (show loG d = some (ints R) from by rw [HG.out, ← e9, hR.out]; rfl)
        have r1 := (hbel.out.cell (p := ⟨w.heap.size + 1, 0, none⟩) (by simp)).trans R1.out
        have rf := (hbel.out.frozen (p := ⟨w.heap.size + 1, 0, none⟩) (by simp)).trans RF.out
        have hx2 : w.heap.size + 1 ≠ w2.heap.size := by omega
        go_wp2_with fail
        have bq := bw.out
        exact bodyPost_ret (v := .tuple #[.agg #[.slice (some ⟨g, 0, none⟩) m cap], .bool true]) (by simp [results, Try.results17, go_sem, r1]) rfl (LinPost.some HG2.out (OwnI.le (OwnI.set hO.out (by simp) _) (by omega)) (by repeat (first | exact Below.refl _ _ | assumption | refine Below.drew ?_ | refine below_drewN ?_ _ | refine Below.alloc ?_ (by first | omega | (simp <;> omega)) _ | refine Below.setCell ?_ (by first | omega | (simp <;> omega)) _ | refine Below.trans ?_ (Below.mono (by assumption) (by first | omega | (simp <;> omega))))))
end Go.Proofs.Ytbcjligkjoimmaa
namespace Go.Proofs.Ytbcjligkjoimmaa
set_option linter.unusedSimpArgs false
set_option linter.unusedVariables false
set_option linter.unnecessarySimpa false
set_option maxRecDepth 200000
open Go.ChangeShapes Go.WideShapes Go.ChangeAt Go.RowKit

theorem loG_len (d : Circ) : ((loG d).getD []).length ≤ 1000000 := by
  unfold loG
  split
  · next h =>
    have hc : CircOk d := of_decide_eq_true h
    cases e : loTo d.n.toNat d.gs d.gs.length with
    | none => simp
    | some L =>
      have := (loTo_ok (n := d.n.toNat) (by have := hc.1.1; omega) (by have := hc.1.2; omega) d.gs _ L e).1
      have := hc.1.2
      simp [ints_len]; omega
  · simp
set_option maxHeartbeats 8000000 in
theorem impl_LinearOf_any (v : Value) (d : Circ) (w : World) (h : RdE w v E3.cs 3 d.gs) (hl : d.gs.length ≤ 1048576) :
    Calls Try.prog 27 #[.agg #[.int .i64 d.n, v]] w (LinPost w (loG d)) := by
  have H := Lib.hid h
  obtain ⟨A, c, rfl, Hc⟩ := gate_at h
  clear h
  cases hb : circB d with
  | false =>
    have HG := Lib.hid (show loG d = none from by unfold loG; rw [hb]; rfl)
    have HB := Lib.hid hb; clear hb
    go_enter Try.func27, Try.ntmps27
    go_wp2_with fail
    refine (impl_IsValidCircuit_any _ d _ (Rd.below H.out (show Below w.heap.size w _ from (by repeat (first | exact Below.refl _ _ | assumption | refine Below.drew ?_ | refine below_drewN ?_ _ | refine Below.alloc ?_ (by first | omega | (simp <;> omega)) _ | refine Below.setCell ?_ (by first | omega | (simp <;> omega)) _ | refine Below.trans ?_ (Below.mono (by assumption) (by first | omega | (simp <;> omega)))))) rfl) hl).mono ?_; rintro e w1 ⟨rfl, hb1⟩; rw [HB.out]
    have r1 : w1.cell? ⟨w.heap.size + 1, 0, none⟩ = some (.slice none 0 0) := below_cell hb1 rfl (by repeat (first | (refine Eq.trans (World.cell?_alloc_at _ _ _ _ ?hh) ?_; (case hh => (simp; done)); rfl) | refine cell_alloc_keep _ ?_))
    obtain ⟨hc_hb1, hf_hb1⟩ := bcell hb1; have hz_hb1 := hb1.size; (try simp at hz_hb1); have hs0_hb1 : w.heap.size < w1.heap.size := (by omega); have hs1_hb1 : w.heap.size + 1 < w1.heap.size := (by omega)
    go_wp2_with fail
    exact bodyPost_ret (v := .tuple #[.agg #[.slice none 0 0], .bool false]) (by simp [results, Try.results27, go_sem, r1]) rfl (LinPost.none HG.out (by repeat (first | exact Below.refl _ _ | assumption | refine Below.drew ?_ | refine below_drewN ?_ _ | refine Below.alloc ?_ (by first | omega | (simp <;> omega)) _ | refine Below.setCell ?_ (by first | omega | (simp <;> omega)) _ | refine Below.trans ?_ (Below.mono (by assumption) (by first | omega | (simp <;> omega))))))
  | true =>
    have HG := Lib.hid (show loG d = (loTo d.n.toNat d.gs d.gs.length).map ints from by unfold loG; rw [hb]; rfl)
    have HOK := Lib.hid (show CircOk d from of_decide_eq_true hb)
    have HB := Lib.hid hb; clear hb
    obtain ⟨⟨n1, n2⟩, hl4, _⟩ := HOK.out
    obtain ⟨m, hm⟩ : ∃ m : Nat, d.n = (m : Int) := ⟨d.n.toNat, by omega⟩
    rw [hm, Int.toNat_natCast] at HG
    rw [hm] at n1 n2
    have m1 : 1 ≤ m := by omega
    have m5 : m ≤ 5 := by omega
    have HM := Lib.hid hm; clear hm
    go_enter Try.func27, Try.ntmps27
    go_wp2_with fail
    refine (impl_IsValidCircuit_any _ d _ (Rd.below H.out (show Below w.heap.size w _ from (by repeat (first | exact Below.refl _ _ | assumption | refine Below.drew ?_ | refine below_drewN ?_ _ | refine Below.alloc ?_ (by first | omega | (simp <;> omega)) _ | refine Below.setCell ?_ (by first | omega | (simp <;> omega)) _ | refine Below.trans ?_ (Below.mono (by assumption) (by first | omega | (simp <;> omega)))))) rfl) hl).mono ?_; rintro e w1 ⟨rfl, hb1⟩; rw [HB.out]
    have t0 : w1.cell? ⟨w.heap.size, 0, none⟩ = some (.int .i64 d.n) := below_cell hb1 rfl (by repeat (first | (refine Eq.trans (World.cell?_alloc_at _ _ _ _ ?hh) ?_; (case hh => (simp; done)); rfl) | refine cell_alloc_keep _ ?_))
    have t1 : w1.cell? ⟨w.heap.size, 1, none⟩ = some (.slice A d.gs.length c) := below_cell hb1 rfl (by repeat (first | (refine Eq.trans (World.cell?_alloc_at _ _ _ _ ?hh) ?_; (case hh => (simp; done)); rfl) | refine cell_alloc_keep _ ?_))
    have b1 := Lib.hid (show Below (w.heap.size + 2) ((w.alloc (.cells #[.int .i64 d.n, .slice A d.gs.length c] 31)).alloc (.cells #[.slice none 0 0] 35)) w1 from hb1.mono (by simp))
    have z1 := hb1.size; (simp at z1)
    clear hb1
    go_wp2_with fail
    rw [HM.out]
    refine (impl_identityLinear_any (m : Int) _ (by omega) (by omega)).mono ?_; rintro e w2 ⟨v1, rfl, ho1, hb2⟩
    rw [Int.toNat_natCast, idN_ints] at ho1
    obtain ⟨g1, cap1, rfl, hg1a, hg1b⟩ := own_ints ho1 (by rw [idN_len]; omega)
    rw [idN_len] at *
    have z2 := hb2.size
    replace t1 := below_cell hb2 rfl t1
    have b2 := Lib.hid (show Below (w.heap.size + 2) ((w.alloc (.cells #[.int .i64 d.n, .slice A d.gs.length c] 31)).alloc (.cells #[.slice none 0 0] 35)) w2 from Below.trans b1.out (hb2.mono (by omega)))
    have O1 := Lib.hid (OwnI.le ho1 (base' := w.heap.size + 2) (by omega))
    clear hb2 ho1 b1
    replace t1 := cell_alloc_keep (.cells #[.slice (some ⟨g1, 0, none⟩) m cap1] 35) t1
    go_wp2_with fail
    have hne0 : g1 ≠ w2.heap.size := by omega
    obtain ⟨W0, hW0⟩ : ∃ W0, W0 = ((w.alloc (.cells #[.int .i64 d.n, .slice A d.gs.length c] 31)).alloc (.cells #[.slice none 0 0] 35)) := ⟨_, rfl⟩
    have BW := Lib.hid (show Below w.heap.size w W0 from by rw [hW0]; exact (by repeat (first | exact Below.refl _ _ | assumption | refine Below.drew ?_ | refine below_drewN ?_ _ | refine Below.alloc ?_ (by first | omega | (simp <;> omega)) _ | refine Below.setCell ?_ (by first | omega | (simp <;> omega)) _ | refine Below.trans ?_ (Below.mono (by assumption) (by first | omega | (simp <;> omega))))))
    have R1 := Lib.hid (show W0.cell? ⟨w.heap.size + 1, 0, none⟩ = some (.slice none 0 0) from by rw [hW0]; exact (by repeat (first | (refine Eq.trans (World.cell?_alloc_at _ _ _ _ ?hh) ?_; (case hh => (simp; done)); rfl) | refine cell_alloc_keep _ ?_)))
    have RF := Lib.hid (show W0.frozen? ⟨w.heap.size + 1, 0, none⟩ = false from by rw [hW0]; exact (by repeat (first | (refine World.frozen?_alloc_at _ _ _ _ ?hh; case hh => (simp; done)) | (refine frozen_alloc_lt _ ?hh ?_; case hh => first | omega | (simp <;> omega)))))
    rw [← hW0] at b2
    have HW0 := Lib.hid hW0; clear hW0
    go_loopw [17] (fun i wr => ∃ (k g cap : Nat) (R : List Nat), k ≤ d.gs.length ∧ i = .int .i64 k ∧ Hid (loTo m d.gs k = some R) ∧ wr.cell? ⟨w2.heap.size, 0, none⟩ = some (.slice (some ⟨g, 0, none⟩) m cap) ∧ wr.frozen? ⟨w2.heap.size, 0, none⟩ = false ∧ Hid (OwnI wr (w.heap.size + 2) (.slice (some ⟨g, 0, none⟩) m cap) (ints R)) ∧ g ≠ w2.heap.size ∧ Hid (Below (w.heap.size + 2) W0 wr)) (fun i _ => d.gs.length - (intOf i).toNat)
    case atStart => exact ⟨0, g1, cap1, idN m, Nat.zero_le _, rfl, (show _ = _ from rfl), (by repeat (first | (refine Eq.trans (World.cell?_alloc_at _ _ _ _ ?hh) ?_; (case hh => (simp; done)); rfl) | refine cell_alloc_keep _ ?_)), (by repeat (first | (refine World.frozen?_alloc_at _ _ _ _ ?hh; case hh => (simp; done)) | (refine frozen_alloc_lt _ ?hh ?_; case hh => first | omega | (simp <;> omega)))), (OwnI.below O1.out (show Below w2.heap.size w2 _ from (by repeat (first | exact Below.refl _ _ | assumption | refine Below.drew ?_ | refine below_drewN ?_ _ | refine Below.alloc ?_ (by first | omega | (simp <;> omega)) _ | refine Below.setCell ?_ (by first | omega | (simp <;> omega)) _ | refine Below.trans ?_ (Below.mono (by assumption) (by first | omega | (simp <;> omega)))))) rfl), hne0, (show Below _ _ _ from Below.alloc b2.out (by omega) _)⟩
    case round =>
      obtain ⟨k, g, cap, R, hk, rfl, hR, c0, cf, hO, hne, hbel⟩ := hrel
      obtain ⟨hlen, hsm⟩ := loTo_ok m1 m5 d.gs k R hR.out
      have bw := Lib.hid (show Below w.heap.size w wr from Below.trans BW.out (hbel.out.mono (by omega)))
      have L0 := World.block_lt_of_cell? _ _ c0
      clear t0 t1
      by_cases hlt : k < d.gs.length
      · obtain ⟨b0, off, rfl, hb0, q0, q1, q2⟩ := Hc.out k hlt
        replace q0 := (bw.out.cell hb0).trans q0; replace q1 := (bw.out.cell hb0).trans q1; replace q2 := (bw.out.cell hb0).trans q2
        have i1 : (k : Int) < (d.gs.length : Int) := by omega
        have HST := Lib.hid (loTo_succ (n := m) hlt)
        have gOwn := Lib.hid (hO.out.lt g rfl)
        by_cases h9 : (d.gs.getD k ⟨0, 0, 0⟩).a = 9 ∨ (d.gs.getD k ⟨0, 0, 0⟩).a = 11
        · obtain ⟨a, b, hg, ha, hb, hab⟩ := lo_gate HOK.out hlt h9
          rw [HM.out] at ha hb
          rcases h9 with h9 | h9

          · rw [h9] at hg
            rw [hg] at q0 q1 q2 HST
            have HN := Lib.hid (show loTo m d.gs (k + 1) = some (cxN R a b) from by rw [HST.out, hR.out]; simp [loF])
            have HS := Lib.hid hsm; have hax : a < R.length := by omega
            have hbx : b < R.length := by omega
            have hab2 : a ≠ b := hab
            clear h9 hg hsm hab HST
            go_wp2_with fail
            have hRw := Lib.hid (OwnI.below hO.out (show Below wr.heap.size wr (wr.alloc (.cells #[.int .i64 9, .int .i64 (a : Int), .int .i64 (b : Int)] 58)) from (by repeat (first | exact Below.refl _ _ | assumption | refine Below.drew ?_ | refine below_drewN ?_ _ | refine Below.alloc ?_ (by first | omega | (simp <;> omega)) _ | refine Below.setCell ?_ (by first | omega | (simp <;> omega)) _ | refine Below.trans ?_ (Below.mono (by assumption) (by first | omega | (simp <;> omega)))))) rfl)
            refine (impl_added_any _ R a b _ hRw.out.rd HS.out hax hbx (by omega)).mono ?_; rintro e x1 ⟨v', rfl, ho', hx1⟩
            obtain ⟨gN, capN, hvN, hgN1, hgN2⟩ := own_ints ho' (by rw [cxN_len]; omega)
            have hcl : (cxN R a b).length = m := by rw [cxN_len]; exact hlen
            rw [hcl] at hvN; subst hvN
            have zx := hx1.size; (try simp at zx); (try simp at hgN1)
            have d0 := below_cell hx1 rfl (cell_alloc_keep (.cells #[.int .i64 9, .int .i64 (a : Int), .int .i64 (b : Int)] 58) c0)
            have df := below_frz hx1 rfl (by simp; omega) (frozen_alloc_keep (.cells #[.int .i64 9, .int .i64 (a : Int), .int .i64 (b : Int)] 58) c0 cf)
            have N1 := Lib.hid (OwnI.le ho' (base' := w.heap.size + 2) (by simp; have := gOwn.out.1; omega))
            have bx := Lib.hid (show Below (w.heap.size + 2) W0 x1 from Below.trans (hbel.out.alloc (by omega) (.cells #[.int .i64 9, .int .i64 (a : Int), .int .i64 (b : Int)] 58)) (hx1.mono (by simp; omega)))
            clear hx1 ho' hRw hO c0 cf hbel bw
            go_wp2_with fail
            go_roundw
            case rel => exact ⟨k + 1, gN, capN, cxN R a b, by omega, by go_num, HN, World.cell?_setCell_same _ _ _ d0, by rw [World.frozen?_setCell]; exact df, (show OwnI _ _ _ _ from own_set_ne N1.out (fun g hg => by simp [Value.ownBlock] at hg; (try dsimp only); omega) _), by omega, (show Below _ _ _ from Below.setCell bx.out (by simp; omega) _)⟩
            case measure => simp [intOf]; omega
          · rw [h9] at hg
            rw [hg] at q0 q1 q2 HST
            have HN := Lib.hid (show loTo m d.gs (k + 1) = some (swapN R a b) from by rw [HST.out, hR.out]; simp [loF])
            have HS := Lib.hid hsm; have hax : a < R.length := by omega
            have hbx : b < R.length := by omega
            have hab2 : a ≠ b := hab
            clear h9 hg hsm hab HST
            go_wp2_with fail
            have c0a := cell_alloc_keep (.cells #[.int .i64 11, .int .i64 (a : Int), .int .i64 (b : Int)] 58) c0
            have fa := frozen_alloc_keep (.cells #[.int .i64 11, .int .i64 (a : Int), .int .i64 (b : Int)] 58) c0 cf
            have ga : (wr.alloc (.cells #[.int .i64 11, .int .i64 (a : Int), .int .i64 (b : Int)] 58)).cell? ⟨wr.heap.size, 1, none⟩ = some (.int .i64 (a : Int)) := (by repeat (first | (refine Eq.trans (World.cell?_alloc_at _ _ _ _ ?hh) ?_; (case hh => (simp; done)); rfl) | refine cell_alloc_keep _ ?_))
            have gb : (wr.alloc (.cells #[.int .i64 11, .int .i64 (a : Int), .int .i64 (b : Int)] 58)).cell? ⟨wr.heap.size, 2, none⟩ = some (.int .i64 (b : Int)) := (by repeat (first | (refine Eq.trans (World.cell?_alloc_at _ _ _ _ ?hh) ?_; (case hh => (simp; done)); rfl) | refine cell_alloc_keep _ ?_))
            have RW := Lib.hid (show OwnN (wr.alloc (.cells #[.int .i64 11, .int .i64 (a : Int), .int .i64 (b : Int)] 58)) (w.heap.size + 2) g m cap R from (show OwnN wr (w.heap.size + 2) g m cap R from by have h9 := hO.out; unfold OwnI at h9; rw [ints_len, hlen] at h9; exact h9).below (show Below wr.heap.size wr (wr.alloc (.cells #[.int .i64 11, .int .i64 (a : Int), .int .i64 (b : Int)] 58)) from (by repeat (first | exact Below.refl _ _ | assumption | refine Below.drew ?_ | refine below_drewN ?_ _ | refine Below.alloc ?_ (by first | omega | (simp <;> omega)) _ | refine Below.setCell ?_ (by first | omega | (simp <;> omega)) _ | refine Below.trans ?_ (Below.mono (by assumption) (by first | omega | (simp <;> omega)))))) rfl)
            obtain ⟨x, hx⟩ : ∃ x, x = R.getD a 0 := ⟨_, rfl⟩
            obtain ⟨y, hy⟩ : ∃ y, y = R.getD b 0 := ⟨_, rfl⟩
            have ca := own_int_cell RW.out a (by omega)
            have cb := own_int_cell RW.out b (by omega)
            have fA := RW.out.frz a; have fB := RW.out.frz b
            rw [← hx] at ca; rw [← hy] at cb
            have hr : Hid (swapN R a b = (R.set a y).set b x) := by show _ = _; rw [hx, hy]; rfl
            have j1 : (a : Int) < (m : Int) := by omega
            have j2 : (b : Int) < (m : Int) := by omega
            have j3 : (0 : Int) ≤ (a : Int) := by omega
            have j4 : (0 : Int) ≤ (b : Int) := by omega
            have bxx := Lib.hid (show Below (w.heap.size + 2) W0 (wr.alloc (.cells #[.int .i64 11, .int .i64 (a : Int), .int .i64 (b : Int)] 58)) from hbel.out.alloc (by omega) _)
            have hsz : (wr.alloc (.cells #[.int .i64 11, .int .i64 (a : Int), .int .i64 (b : Int)] 58)).heap.size = wr.heap.size + 1 := by simp
            obtain ⟨W, hW⟩ : ∃ W, W = (wr.alloc (.cells #[.int .i64 11, .int .i64 (a : Int), .int .i64 (b : Int)] 58)) := ⟨_, rfl⟩
            rw [← hW] at c0a fa ga gb RW ca cb fA fB bxx hsz ⊢
            have HW := Lib.hid hW; have HSZ := Lib.hid hsz; clear hW hsz hx hy
            have hgw : wr.heap.size ≠ g := by have := gOwn.out.2; omega
            refine AnyB.begin (S := (fun w' => w'.cell? ⟨w2.heap.size, 0, none⟩ = some (.slice (some ⟨g, 0, none⟩) m cap) ∧ w'.cell? ⟨wr.heap.size, 1, none⟩ = some (.int .i64 (a : Int)) ∧ w'.cell? ⟨wr.heap.size, 2, none⟩ = some (.int .i64 (b : Int)))) [] (by kernel_rfl) ?_ (fun hHeld0 => ?_)
            · ((try dsimp only); (first | exact ⟨c0a, ga, gb⟩ | (go_split_ands; exact ⟨cell_set_far (Ne.symm hne) (by assumption), cell_set_far hgw (by assumption), cell_set_far hgw (by assumption)⟩)))
            refine AnyB.takeQ (i := 0) (oi := _) (v := ?_) (by simp only [List.getElem?_toArray, List.getElem?_cons_zero, List.getElem?_cons_succ]; rfl) (by kernel_rfl) (by kernel_rfl) (by kernel_rfl) (by intro _ _ _ h; exact h) (Or.inl ⟨by rfl, ?_⟩) ?_
            rotate_left
            · (intro w hSw; (try dsimp only at hSw); go_simp; (try (with_reducible rfl)))
            try simp only [Act.put, List.setIfInBounds_toArray, List.set_cons_zero, List.set_cons_succ]
            refine AnyB.take (i := 1) (oi := _) (v := ?_) (by simp only [List.getElem?_toArray, List.getElem?_cons_zero, List.getElem?_cons_succ]; rfl) (by kernel_rfl) (by kernel_rfl) (by kernel_rfl) (by kernel_rfl) (by kernel_rfl) (by intro _ _ _ h; exact h) (Or.inl ⟨by rfl, ?_⟩) (by assumption) ?_
            rotate_left
            · (intro w hSw; (try dsimp only at hSw); go_simp; (try (with_reducible rfl)))
            try simp only [Act.put, List.setIfInBounds_toArray, List.set_cons_zero, List.set_cons_succ]
            refine AnyB.takeQ (i := 2) (oi := _) (v := ?_) (by simp only [List.getElem?_toArray, List.getElem?_cons_zero, List.getElem?_cons_succ]; rfl) (by kernel_rfl) (by kernel_rfl) (by kernel_rfl) (by intro _ _ _ h; exact h) (Or.inl ⟨by rfl, ?_⟩) ?_
            rotate_left
            · (intro w hSw; (try dsimp only at hSw); go_simp; (try (with_reducible rfl)))
            try simp only [Act.put, List.setIfInBounds_toArray, List.set_cons_zero, List.set_cons_succ]
            refine AnyB.take (i := 3) (oi := _) (v := ?_) (by simp only [List.getElem?_toArray, List.getElem?_cons_zero, List.getElem?_cons_succ]; rfl) (by kernel_rfl) (by kernel_rfl) (by kernel_rfl) (by kernel_rfl) (by kernel_rfl) (by intro _ _ _ h; exact h) (Or.inl ⟨by rfl, ?_⟩) (by assumption) ?_
            rotate_left
            · (intro w hSw; (try dsimp only at hSw); go_simp; (try (with_reducible rfl)))
            try simp only [Act.put, List.setIfInBounds_toArray, List.set_cons_zero, List.set_cons_succ]
            refine AnyB.takeQ (i := 4) (oi := _) (v := ?_) (by simp only [List.getElem?_toArray, List.getElem?_cons_zero, List.getElem?_cons_succ]; rfl) (by kernel_rfl) (by kernel_rfl) (by kernel_rfl) (by intro _ _ _ h; exact h) (Or.inl ⟨by rfl, ?_⟩) ?_
            rotate_left
            · (intro w hSw; (try dsimp only at hSw); go_simp; (try (with_reducible rfl)))
            try simp only [Act.put, List.setIfInBounds_toArray, List.set_cons_zero, List.set_cons_succ]
            refine AnyB.take (i := 5) (oi := _) (v := ?_) (by simp only [List.getElem?_toArray, List.getElem?_cons_zero, List.getElem?_cons_succ]; rfl) (by kernel_rfl) (by kernel_rfl) (by kernel_rfl) (by kernel_rfl) (by kernel_rfl) (by intro _ _ _ h; exact h) (Or.inl ⟨by rfl, ?_⟩) (by assumption) ?_
            rotate_left
            · (intro w hSw; (try dsimp only at hSw); go_simp; (try (with_reducible rfl)))
            try simp only [Act.put, List.setIfInBounds_toArray, List.set_cons_zero, List.set_cons_succ]
            refine AnyB.takeQ (i := 6) (oi := _) (v := ?_) (by simp only [List.getElem?_toArray, List.getElem?_cons_zero, List.getElem?_cons_succ]; rfl) (by kernel_rfl) (by kernel_rfl) (by kernel_rfl) (by intro _ _ _ h; exact h) (Or.inl ⟨by rfl, ?_⟩) ?_
            rotate_left
            · (intro w hSw; (try dsimp only at hSw); go_simp; (try (with_reducible rfl)))
            try simp only [Act.put, List.setIfInBounds_toArray, List.set_cons_zero, List.set_cons_succ]
            refine AnyB.take (i := 7) (oi := _) (v := ?_) (by simp only [List.getElem?_toArray, List.getElem?_cons_zero, List.getElem?_cons_succ]; rfl) (by kernel_rfl) (by kernel_rfl) (by kernel_rfl) (by kernel_rfl) (by kernel_rfl) (by intro _ _ _ h; exact h) (Or.inl ⟨by rfl, ?_⟩) (by assumption) ?_
            rotate_left
            · (intro w hSw; (try dsimp only at hSw); go_simp; (try (with_reducible rfl)))
            try simp only [Act.put, List.setIfInBounds_toArray, List.set_cons_zero, List.set_cons_succ]
            refine AnyB.takeQ (i := 8) (oi := _) (v := ?_) (by simp only [List.getElem?_toArray, List.getElem?_cons_zero, List.getElem?_cons_succ]; rfl) (by kernel_rfl) (by kernel_rfl) (by kernel_rfl) (by intro _ _ _ h; exact h) (Or.inl ⟨by rfl, ?_⟩) ?_
            rotate_left
            · (intro w hSw; (try dsimp only at hSw); go_simp; (try (with_reducible rfl)))
            try simp only [Act.put, List.setIfInBounds_toArray, List.set_cons_zero, List.set_cons_succ]
            refine AnyB.take (i := 9) (oi := _) (v := ?_) (by simp only [List.getElem?_toArray, List.getElem?_cons_zero, List.getElem?_cons_succ]; rfl) (by kernel_rfl) (by kernel_rfl) (by kernel_rfl) (by kernel_rfl) (by kernel_rfl) (by intro _ _ _ h; exact h) (Or.inl ⟨by rfl, ?_⟩) (by assumption) ?_
            rotate_left
            · (intro w hSw; (try dsimp only at hSw); go_simp; (try (with_reducible rfl)))
            try simp only [Act.put, List.setIfInBounds_toArray, List.set_cons_zero, List.set_cons_succ]
            refine AnyB.takeQ (i := 10) (oi := _) (v := ?_) (by simp only [List.getElem?_toArray, List.getElem?_cons_zero, List.getElem?_cons_succ]; rfl) (by kernel_rfl) (by kernel_rfl) (by kernel_rfl) (by intro _ _ _ h; exact h) (Or.inl ⟨by rfl, ?_⟩) ?_
            rotate_left
            · (intro w hSw; (try dsimp only at hSw); go_simp; (try (with_reducible rfl)))
            try simp only [Act.put, List.setIfInBounds_toArray, List.set_cons_zero, List.set_cons_succ]
            refine AnyB.take (i := 11) (oi := _) (v := ?_) (by simp only [List.getElem?_toArray, List.getElem?_cons_zero, List.getElem?_cons_succ]; rfl) (by kernel_rfl) (by kernel_rfl) (by kernel_rfl) (by kernel_rfl) (by kernel_rfl) (by intro _ _ _ h; exact h) (Or.inl ⟨by rfl, ?_⟩) (by assumption) ?_
            rotate_left
            · (intro w hSw; (try dsimp only at hSw); go_simp; (try (with_reducible rfl)))
            try simp only [Act.put, List.setIfInBounds_toArray, List.set_cons_zero, List.set_cons_succ]
            refine AnyB.takeQ (i := 12) (oi := _) (v := ?_) (by simp only [List.getElem?_toArray, List.getElem?_cons_zero, List.getElem?_cons_succ]; rfl) (by kernel_rfl) (by kernel_rfl) (by kernel_rfl) (by intro _ _ _ h; exact h) (Or.inl ⟨by rfl, ?_⟩) ?_
            rotate_left
            · (intro w hSw; (try dsimp only at hSw); go_simp; (try (with_reducible rfl)))
            try simp only [Act.put, List.setIfInBounds_toArray, List.set_cons_zero, List.set_cons_succ]
            refine AnyB.takeQ (i := 14) (oi := _) (v := ?_) (by simp only [List.getElem?_toArray, List.getElem?_cons_zero, List.getElem?_cons_succ]; rfl) (by kernel_rfl) (by kernel_rfl) (by kernel_rfl) (by intro _ _ _ h; exact h) (Or.inl ⟨by rfl, ?_⟩) ?_
            rotate_left
            · (intro w hSw; (try dsimp only at hSw); go_simp; (try (with_reducible rfl)))
            try simp only [Act.put, List.setIfInBounds_toArray, List.set_cons_zero, List.set_cons_succ]
            refine AnyB.take (i := 15) (oi := _) (v := ?_) (by simp only [List.getElem?_toArray, List.getElem?_cons_zero, List.getElem?_cons_succ]; rfl) (by kernel_rfl) (by kernel_rfl) (by kernel_rfl) (by kernel_rfl) (by kernel_rfl) (by intro _ _ _ h; exact h) (Or.inl ⟨by rfl, ?_⟩) (by assumption) ?_
            rotate_left
            · (intro w hSw; (try dsimp only at hSw); go_simp; (try (with_reducible rfl)))
            try simp only [Act.put, List.setIfInBounds_toArray, List.set_cons_zero, List.set_cons_succ]
            refine AnyB.takeQ (i := 16) (oi := _) (v := ?_) (by simp only [List.getElem?_toArray, List.getElem?_cons_zero, List.getElem?_cons_succ]; rfl) (by kernel_rfl) (by kernel_rfl) (by kernel_rfl) (by intro _ _ _ h; exact h) (Or.inl ⟨by rfl, ?_⟩) ?_
            rotate_left
            · (intro w hSw; (try dsimp only at hSw); go_simp; (try (with_reducible rfl)))
            try simp only [Act.put, List.setIfInBounds_toArray, List.set_cons_zero, List.set_cons_succ]
            refine AnyB.take (i := 17) (oi := _) (v := ?_) (by simp only [List.getElem?_toArray, List.getElem?_cons_zero, List.getElem?_cons_succ]; rfl) (by kernel_rfl) (by kernel_rfl) (by kernel_rfl) (by kernel_rfl) (by kernel_rfl) (by intro _ _ _ h; exact h) (Or.inl ⟨by rfl, ?_⟩) (by assumption) ?_
            rotate_left
            · (intro w hSw; (try dsimp only at hSw); go_simp; (try (with_reducible rfl)))
            try simp only [Act.put, List.setIfInBounds_toArray, List.set_cons_zero, List.set_cons_succ]
            refine AnyB.takeQ (i := 18) (oi := _) (v := ?_) (by simp only [List.getElem?_toArray, List.getElem?_cons_zero, List.getElem?_cons_succ]; rfl) (by kernel_rfl) (by kernel_rfl) (by kernel_rfl) (by intro _ _ _ h; exact h) (Or.inl ⟨by rfl, ?_⟩) ?_
            rotate_left
            · (intro w hSw; (try dsimp only at hSw); go_simp; (try (with_reducible rfl)))
            try simp only [Act.put, List.setIfInBounds_toArray, List.set_cons_zero, List.set_cons_succ]
            refine AnyB.each (rs := [13, 19]) (by kernel_rfl) (by simp) ?_
            refine EachB.cons rfl (fun K hK hB => ?_) ?_
            · skip
              go_simp
              refine hK.out _ _ ?_ (fun hHeld1 => ?_)
              · ((try dsimp only); (first | exact ⟨c0a, ga, gb⟩ | (go_split_ands; exact ⟨cell_set_far (Ne.symm hne) (by assumption), cell_set_far hgw (by assumption), cell_set_far hgw (by assumption)⟩)))
              clear hB hK K hHeld0
              refine AnyB.each (rs := [19]) (by kernel_rfl) (by simp) ?_
              refine EachB.cons rfl (fun K hK hB => ?_) ?_
              · skip
                go_simp
                refine hK.out _ _ ?_ (fun hHeld2 => ?_)
                · ((try dsimp only); (first | exact ⟨c0a, ga, gb⟩ | (go_split_ands; exact ⟨cell_set_far (Ne.symm hne) (by assumption), cell_set_far hgw (by assumption), cell_set_far hgw (by assumption)⟩)))
                clear hB hK K hHeld1
                refine AnyB.takeQ (i := 20) (oi := _) (v := ?_) (by simp only [List.getElem?_toArray, List.getElem?_cons_zero, List.getElem?_cons_succ]; rfl) (by kernel_rfl) (by kernel_rfl) (by kernel_rfl) (by intro _ _ _ h; exact h) (Or.inl ⟨by rfl, ?_⟩) ?_
                rotate_left
                · (intro w hSw; (try dsimp only at hSw); go_simp; (try (with_reducible rfl)))
                try simp only [Act.put, List.setIfInBounds_toArray, List.set_cons_zero, List.set_cons_succ]
                refine AnyB.each (rs := [21]) (by kernel_rfl) (by simp) ?_
                refine EachB.cons rfl (fun K hK hB => ?_) ?_
                · skip
                  go_simp
                  refine hK.out _ _ ?_ (fun hHeld3 => ?_)
                  · ((try dsimp only); (first | exact ⟨c0a, ga, gb⟩ | (go_split_ands; exact ⟨cell_set_far (Ne.symm hne) (by assumption), cell_set_far hgw (by assumption), cell_set_far hgw (by assumption)⟩)))
                  clear hB hK K hHeld2
                  refine AnyB.takeQ (i := 22) (oi := _) (v := ?_) (by simp only [List.getElem?_toArray, List.getElem?_cons_zero, List.getElem?_cons_succ]; rfl) (by kernel_rfl) (by kernel_rfl) (by kernel_rfl) (by intro _ _ _ h; exact h) (Or.inl ⟨by rfl, ?_⟩) ?_
                  rotate_left
                  · (intro w hSw; (try dsimp only at hSw); go_simp; (try (with_reducible rfl)))
                  try simp only [Act.put, List.setIfInBounds_toArray, List.set_cons_zero, List.set_cons_succ]
                  refine AnyB.each (rs := [23]) (by kernel_rfl) (by simp) ?_
                  refine EachB.cons rfl (fun K hK hB => ?_) ?_
                  · skip
                    go_simp
                    refine hK.out _ _ ?_ (fun hHeld4 => ?_)
                    · ((try dsimp only); (first | exact ⟨c0a, ga, gb⟩ | (go_split_ands; exact ⟨cell_set_far (Ne.symm hne) (by assumption), cell_set_far hgw (by assumption), cell_set_far hgw (by assumption)⟩)))
                    clear hB hK K hHeld3
                    refine AnyB.none (by kernel_rfl) ?_ _
                    have gO := gOwn.out.1
                    have WN := Lib.hid (show OwnN (((W.setCell ⟨g, a, none⟩ (.int .i64 (y : Int))).setCell ⟨g, b, none⟩ (.int .i64 (x : Int))).drew) (w.heap.size + 2) g m cap (swapN R a b) from by rw [hr.out]; exact ((RW.out.set a y).set b x).below (show Below ((W.setCell ⟨g, a, none⟩ (.int .i64 (y : Int))).setCell ⟨g, b, none⟩ (.int .i64 (x : Int))).heap.size _ ((W.setCell ⟨g, a, none⟩ (.int .i64 (y : Int))).setCell ⟨g, b, none⟩ (.int .i64 (x : Int))).drew from (by repeat (first | exact Below.refl _ _ | assumption | refine Below.drew ?_ | refine below_drewN ?_ _ | refine Below.alloc ?_ (by first | omega | (simp <;> omega)) _ | refine Below.setCell ?_ (by first | omega | (simp <;> omega)) _ | refine Below.trans ?_ (Below.mono (by assumption) (by first | omega | (simp <;> omega)))))) rfl)
                    have C9 := Lib.hid (show (((W.setCell ⟨g, a, none⟩ (.int .i64 (y : Int))).setCell ⟨g, b, none⟩ (.int .i64 (x : Int))).drew).cell? ⟨w2.heap.size, 0, none⟩ = some (.slice (some ⟨g, 0, none⟩) m cap) from cell_drew (cell_set_far (Ne.symm hne) (cell_set_far (Ne.symm hne) c0a)))
                    have F9 := Lib.hid (show (((W.setCell ⟨g, a, none⟩ (.int .i64 (y : Int))).setCell ⟨g, b, none⟩ (.int .i64 (x : Int))).drew).frozen? ⟨w2.heap.size, 0, none⟩ = false from frz_drew (by rw [World.frozen?_setCell, World.frozen?_setCell]; exact fa))
                    have B9 := Lib.hid (show Below (w.heap.size + 2) W0 (((W.setCell ⟨g, a, none⟩ (.int .i64 (y : Int))).setCell ⟨g, b, none⟩ (.int .i64 (x : Int))).drew) from Below.drew (Below.setCell (Below.setCell bxx.out (by simp; omega) _) (by simp; omega) _))
                    clear hO c0 cf hbel bw ga gb ca cb fA fB RW
                    go_wp2_with fail
                    go_roundw
                    case rel => exact ⟨k + 1, g, cap, swapN R a b, by omega, by go_num, HN, C9.out, F9.out, (show OwnI _ _ _ _ from WN.out.own), hne, B9⟩
                    case measure => simp [intOf]; omega
                  exact EachB.nil
                exact EachB.nil
              exact EachB.nil
            refine EachB.cons rfl (fun K hK hB => ?_) ?_
            · skip
              go_simp
              refine hK.out _ _ ?_ (fun hHeld5 => ?_)
              · ((try dsimp only); (first | exact ⟨c0a, ga, gb⟩ | (go_split_ands; exact ⟨cell_set_far (Ne.symm hne) (by assumption), cell_set_far hgw (by assumption), cell_set_far hgw (by assumption)⟩)))
              clear hB hK K hHeld0
              refine AnyB.each (rs := [13]) (by kernel_rfl) (by simp) ?_
              refine EachB.cons rfl (fun K hK hB => ?_) ?_
              · skip
                go_simp
                refine hK.out _ _ ?_ (fun hHeld6 => ?_)
                · ((try dsimp only); (first | exact ⟨c0a, ga, gb⟩ | (go_split_ands; exact ⟨cell_set_far (Ne.symm hne) (by assumption), cell_set_far hgw (by assumption), cell_set_far hgw (by assumption)⟩)))
                clear hB hK K hHeld5
                refine AnyB.takeQ (i := 20) (oi := _) (v := ?_) (by simp only [List.getElem?_toArray, List.getElem?_cons_zero, List.getElem?_cons_succ]; rfl) (by kernel_rfl) (by kernel_rfl) (by kernel_rfl) (by intro _ _ _ h; exact h) (Or.inl ⟨by rfl, ?_⟩) ?_
                rotate_left
                · (intro w hSw; (try dsimp only at hSw); go_simp; (try (with_reducible rfl)))
                try simp only [Act.put, List.setIfInBounds_toArray, List.set_cons_zero, List.set_cons_succ]
                refine AnyB.each (rs := [21]) (by kernel_rfl) (by simp) ?_
                refine EachB.cons rfl (fun K hK hB => ?_) ?_
                · skip
                  go_simp
                  refine hK.out _ _ ?_ (fun hHeld7 => ?_)
                  · ((try dsimp only); (first | exact ⟨c0a, ga, gb⟩ | (go_split_ands; exact ⟨cell_set_far (Ne.symm hne) (by assumption), cell_set_far hgw (by assumption), cell_set_far hgw (by assumption)⟩)))
                  clear hB hK K hHeld6
                  refine AnyB.takeQ (i := 22) (oi := _) (v := ?_) (by simp only [List.getElem?_toArray, List.getElem?_cons_zero, List.getElem?_cons_succ]; rfl) (by kernel_rfl) (by kernel_rfl) (by kernel_rfl) (by intro _ _ _ h; exact h) (Or.inl ⟨by rfl, ?_⟩) ?_
                  rotate_left
                  · (intro w hSw; (try dsimp only at hSw); go_simp; (try (with_reducible rfl)))
                  try simp only [Act.put, List.setIfInBounds_toArray, List.set_cons_zero, List.set_cons_succ]
                  refine AnyB.each (rs := [23]) (by kernel_rfl) (by simp) ?_
                  refine EachB.cons rfl (fun K hK hB => ?_) ?_
                  · skip
                    go_simp
                    refine hK.out _ _ ?_ (fun hHeld8 => ?_)
                    · ((try dsimp only); (first | exact ⟨c0a, ga, gb⟩ | (go_split_ands; exact ⟨cell_set_far (Ne.symm hne) (by assumption), cell_set_far hgw (by assumption), cell_set_far hgw (by assumption)⟩)))
                    clear hB hK K hHeld7
                    refine AnyB.none (by kernel_rfl) ?_ _
                    have gO := gOwn.out.1
                    have WN := Lib.hid (show OwnN (((W.setCell ⟨g, a, none⟩ (.int .i64 (y : Int))).setCell ⟨g, b, none⟩ (.int .i64 (x : Int))).drew) (w.heap.size + 2) g m cap (swapN R a b) from by rw [hr.out]; exact ((RW.out.set a y).set b x).below (show Below ((W.setCell ⟨g, a, none⟩ (.int .i64 (y : Int))).setCell ⟨g, b, none⟩ (.int .i64 (x : Int))).heap.size _ ((W.setCell ⟨g, a, none⟩ (.int .i64 (y : Int))).setCell ⟨g, b, none⟩ (.int .i64 (x : Int))).drew from (by repeat (first | exact Below.refl _ _ | assumption | refine Below.drew ?_ | refine below_drewN ?_ _ | refine Below.alloc ?_ (by first | omega | (simp <;> omega)) _ | refine Below.setCell ?_ (by first | omega | (simp <;> omega)) _ | refine Below.trans ?_ (Below.mono (by assumption) (by first | omega | (simp <;> omega)))))) rfl)
                    have C9 := Lib.hid (show (((W.setCell ⟨g, a, none⟩ (.int .i64 (y : Int))).setCell ⟨g, b, none⟩ (.int .i64 (x : Int))).drew).cell? ⟨w2.heap.size, 0, none⟩ = some (.slice (some ⟨g, 0, none⟩) m cap) from cell_drew (cell_set_far (Ne.symm hne) (cell_set_far (Ne.symm hne) c0a)))
                    have F9 := Lib.hid (show (((W.setCell ⟨g, a, none⟩ (.int .i64 (y : Int))).setCell ⟨g, b, none⟩ (.int .i64 (x : Int))).drew).frozen? ⟨w2.heap.size, 0, none⟩ = false from frz_drew (by rw [World.frozen?_setCell, World.frozen?_setCell]; exact fa))
                    have B9 := Lib.hid (show Below (w.heap.size + 2) W0 (((W.setCell ⟨g, a, none⟩ (.int .i64 (y : Int))).setCell ⟨g, b, none⟩ (.int .i64 (x : Int))).drew) from Below.drew (Below.setCell (Below.setCell bxx.out (by simp; omega) _) (by simp; omega) _))
                    clear hO c0 cf hbel bw ga gb ca cb fA fB RW
                    go_wp2_with fail
                    go_roundw
                    case rel => exact ⟨k + 1, g, cap, swapN R a b, by omega, by go_num, HN, C9.out, F9.out, (show OwnI _ _ _ _ from WN.out.own), hne, B9⟩
                    case measure => simp [intOf]; omega
                  exact EachB.nil
                exact EachB.nil
              exact EachB.nil
            exact EachB.nil
        · have hno := not_or.1 h9
          obtain ⟨hno1, hno2⟩ := hno
          have HG2 := Lib.hid (show loG d = none from by
            rw [HG.out, loTo_bad (n := m) (gs := d.gs) (k := k + 1) (by rw [HST.out, hR.out]; show (if (d.gs.getD k ⟨0, 0, 0⟩).a = 9 then _ else if (d.gs.getD k ⟨0, 0, 0⟩).a = 11 then _ else none) = none; rw [if_neg hno1, if_neg hno2]) (by omega)]; rfl)
          obtain ⟨y, hy⟩ : ∃ y, y = d.gs.getD k ⟨0, 0, 0⟩ := ⟨_, rfl⟩
          rw [← hy] at q0 q1 q2 hno1 hno2
          have g9 : (y.a == 9) = false := by simpa using hno1
          have g11 : (y.a == 11) = false := by simpa using hno2
          have r1 := (hbel.out.cell (p := ⟨w.heap.size + 1, 0, none⟩) (by simp)).trans R1.out
          have rf := (hbel.out.frozen (p := ⟨w.heap.size + 1, 0, none⟩) (by simp)).trans RF.out
          have r1a := cell_alloc_keep (.cells #[.int .i64 y.a, .int .i64 y.b, .int .i64 y.c] 58) r1
          have rfa := frozen_alloc_keep (.cells #[.int .i64 y.a, .int .i64 y.b, .int .i64 y.c] 58) r1 rf
          have hZ := World.cell?_setCell_same _ _ (.slice none 0 0) r1a
          clear h9 hno1 hno2 hy
          have bq := bw.out
          go_wp2_with fail
          exact bodyPost_ret (v := .tuple #[.agg #[.slice none 0 0], .bool false]) (by simp [results, Try.results27, go_sem, hZ]) rfl (LinPost.none HG2.out (by repeat (first | exact Below.refl _ _ | assumption | refine Below.drew ?_ | refine below_drewN ?_ _ | refine Below.alloc ?_ (by first | omega | (simp <;> omega)) _ | refine Below.setCell ?_ (by first | omega | (simp <;> omega)) _ | refine Below.trans ?_ (Below.mono (by assumption) (by first | omega | (simp <;> omega))))))
      · have e9 : k = d.gs.length := by omega
        have HG2 := Lib.hid (show loG d = some (ints R) from by rw [HG.out, ← e9, hR.out]; rfl)
        have r1 := (hbel.out.cell (p := ⟨w.heap.size + 1, 0, none⟩) (by simp)).trans R1.out
        have rf := (hbel.out.frozen (p := ⟨w.heap.size + 1, 0, none⟩) (by simp)).trans RF.out
        have hx2 : w.heap.size + 1 ≠ w2.heap.size := by omega
        go_wp2_with fail
        have bq := bw.out
        exact bodyPost_ret (v := .tuple #[.agg #[.slice (some ⟨g, 0, none⟩) m cap], .bool true]) (by simp [results, Try.results27, go_sem, r1]) rfl (LinPost.some HG2.out (OwnI.le (OwnI.set hO.out (by simp) _) (by omega)) (by repeat (first | exact Below.refl _ _ | assumption | refine Below.drew ?_ | refine below_drewN ?_ _ | refine Below.alloc ?_ (by first | omega | (simp <;> omega)) _ | refine Below.setCell ?_ (by first | omega | (simp <;> omega)) _ | refine Below.trans ?_ (Below.mono (by assumption) (by first | omega | (simp <;> omega))))))
end Go.Proofs.Ytbcjligkjoimmaa
