/- The walk through the law FnExactImageOf. -/
import Derived.Test.YtpeodfiapofagaaImg3
import Derived.Test.YtpeodfiapofagaaStTableau
import Derived.Test.YtpeodfiapofagaaOpen1
import Derived.Test.YtpeodfiapofagaaDat
import Derived.Test.YtpeodfiapofagaaCut1
import Derived.Test.YtpeodfiapofagaaBrk
import Derived.Deep.DeepMust
import Derived.Deep.RegionHeld3
import Derived.Deep.DeepCutAuto
namespace Go.Proofs.Ytpeodfiapofagaa
set_option linter.unusedSimpArgs false
set_option linter.unusedVariables false
set_option linter.unnecessarySimpa false
set_option maxRecDepth 200000
open Go.ChangeShapes Go.WideShapes Go.ChangeAt Go.RowKit

set_option maxHeartbeats 16000000 in
set_option maxRecDepth 100000 in
theorem walk_FnExactImageOf (v0 v1 : Value) (w : World) (h0 : IsTableau w v0) (h1 : IsPauli v1) :
    Calls Try.prog 8 #[v0, v1] w fun e w' => e = .returned (.bool true) ∧ Below w.heap.size w w' := by
  obtain ⟨d_aT, v_aT0, v_aT1, rfl, HA_aT0, HA_aT1, HR_aT⟩ := h0
  obtain ⟨a_aT0, cap_aT0, rfl, LX_aT0⟩ := HA_aT0.form
  replace HA_aT0 := Lib.hid HA_aT0; clear LX_aT0
  obtain ⟨a_aT1, cap_aT1, rfl, LX_aT1⟩ := HA_aT1.form
  replace HA_aT1 := Lib.hid HA_aT1; clear LX_aT1
  replace HR_aT := Lib.hid HR_aT
  obtain ⟨d_aP, rfl, HR_aP⟩ := h1
  have HR_aP := Lib.hid HR_aP
  by_cases hsz0 : (((d_aT).xs).length : Int) + (((d_aT).zs).length : Int) ≤ 1048576
  · skip
    have LEN_aT0 : ((d_aT).xs).length ≤ 1048576 := by omega
    have LEN_aT1 : ((d_aT).zs).length ≤ 1048576 := by omega
    obtain ⟨r, hr⟩ : ∃ r, r = imgG d_aT d_aP := ⟨_, rfl⟩
    have Hr := Lib.hid hr; clear hr
    have BB0 := Below.refl w.heap.size w
    go_enter Try.func8, Try.ntmps8
    go_wp2_with fail
    have BP0 := Lib.hid (show Below w.heap.size w ((w.alloc (.cells #[.int .i64 ((d_aT).n), .slice a_aT0 ((d_aT).xs).length cap_aT0, .slice a_aT1 ((d_aT).zs).length cap_aT1] 32)).alloc (.cells #[.int .i64 ((d_aP).a), .int .i64 ((d_aP).b), .int .i64 ((d_aP).c)] 53)) from (by repeat (first | exact Below.refl _ _ | assumption | refine Below.drew ?_ | refine below_drewN ?_ _ | refine Below.alloc ?_ (by first | omega | (simp <;> omega)) _ | refine Below.setCell ?_ (by first | omega | (simp <;> omega)) _ | refine Below.trans ?_ (Below.mono (by assumption) (by first | omega | (simp <;> omega))))))
    have c_paT0 : ((w.alloc (.cells #[.int .i64 ((d_aT).n), .slice a_aT0 ((d_aT).xs).length cap_aT0, .slice a_aT1 ((d_aT).zs).length cap_aT1] 32)).alloc (.cells #[.int .i64 ((d_aP).a), .int .i64 ((d_aP).b), .int .i64 ((d_aP).c)] 53)).cell? ⟨w.heap.size, 0, none⟩ = some (.int .i64 ((d_aT).n)) := (by repeat (first | (refine Eq.trans (World.cell?_alloc_at _ _ _ _ ?hh) ?_; (case hh => (simp; done)); rfl) | refine cell_alloc_keep _ ?_))
    have c_paT1 : ((w.alloc (.cells #[.int .i64 ((d_aT).n), .slice a_aT0 ((d_aT).xs).length cap_aT0, .slice a_aT1 ((d_aT).zs).length cap_aT1] 32)).alloc (.cells #[.int .i64 ((d_aP).a), .int .i64 ((d_aP).b), .int .i64 ((d_aP).c)] 53)).cell? ⟨w.heap.size, 1, none⟩ = some (.slice a_aT0 ((d_aT).xs).length cap_aT0) := (by repeat (first | (refine Eq.trans (World.cell?_alloc_at _ _ _ _ ?hh) ?_; (case hh => (simp; done)); rfl) | refine cell_alloc_keep _ ?_))
    have c_paT2 : ((w.alloc (.cells #[.int .i64 ((d_aT).n), .slice a_aT0 ((d_aT).xs).length cap_aT0, .slice a_aT1 ((d_aT).zs).length cap_aT1] 32)).alloc (.cells #[.int .i64 ((d_aP).a), .int .i64 ((d_aP).b), .int .i64 ((d_aP).c)] 53)).cell? ⟨w.heap.size, 2, none⟩ = some (.slice a_aT1 ((d_aT).zs).length cap_aT1) := (by repeat (first | (refine Eq.trans (World.cell?_alloc_at _ _ _ _ ?hh) ?_; (case hh => (simp; done)); rfl) | refine cell_alloc_keep _ ?_))
    have c_paP0 : ((w.alloc (.cells #[.int .i64 ((d_aT).n), .slice a_aT0 ((d_aT).xs).length cap_aT0, .slice a_aT1 ((d_aT).zs).length cap_aT1] 32)).alloc (.cells #[.int .i64 ((d_aP).a), .int .i64 ((d_aP).b), .int .i64 ((d_aP).c)] 53)).cell? ⟨w.heap.size + 1, 0, none⟩ = some (.int .i64 ((d_aP).a)) := (by repeat (first | (refine Eq.trans (World.cell?_alloc_at _ _ _ _ ?hh) ?_; (case hh => (simp; done)); rfl) | refine cell_alloc_keep _ ?_))
    have c_paP1 : ((w.alloc (.cells #[.int .i64 ((d_aT).n), .slice a_aT0 ((d_aT).xs).length cap_aT0, .slice a_aT1 ((d_aT).zs).length cap_aT1] 32)).alloc (.cells #[.int .i64 ((d_aP).a), .int .i64 ((d_aP).b), .int .i64 ((d_aP).c)] 53)).cell? ⟨w.heap.size + 1, 1, none⟩ = some (.int .i64 ((d_aP).b)) := (by repeat (first | (refine Eq.trans (World.cell?_alloc_at _ _ _ _ ?hh) ?_; (case hh => (simp; done)); rfl) | refine cell_alloc_keep _ ?_))
    have c_paP2 : ((w.alloc (.cells #[.int .i64 ((d_aT).n), .slice a_aT0 ((d_aT).xs).length cap_aT0, .slice a_aT1 ((d_aT).zs).length cap_aT1] 32)).alloc (.cells #[.int .i64 ((d_aP).a), .int .i64 ((d_aP).b), .int .i64 ((d_aP).c)] 53)).cell? ⟨w.heap.size + 1, 2, none⟩ = some (.int .i64 ((d_aP).c)) := (by repeat (first | (refine Eq.trans (World.cell?_alloc_at _ _ _ _ ?hh) ?_; (case hh => (simp; done)); rfl) | refine cell_alloc_keep _ ?_))
    refine (laws_szTableau_ok d_aT _ _ _ _ (Rd.below HA_aT0.out (below_step BB0 BP0.out) rfl) (Rd.below HA_aT1.out (below_step BB0 BP0.out) rfl) (by omega) (by omega)).mono ?_; rintro e w1 ⟨rfl, hb1⟩
    replace c_paT0 := below_cell hb1 rfl c_paT0
    replace c_paT1 := below_cell hb1 rfl c_paT1
    replace c_paT2 := below_cell hb1 rfl c_paT2
    replace c_paP0 := below_cell hb1 rfl c_paP0
    replace c_paP1 := below_cell hb1 rfl c_paP1
    replace c_paP2 := below_cell hb1 rfl c_paP2
    have BB1 : Below w.heap.size w w1 := below_step (below_step BB0 BP0.out) hb1
    have ZZ1 : w.heap.size + 2 ≤ w1.heap.size := by have := hb1.size; (try simp at this); omega
    clear BP0
    have LT1_0 : w.heap.size < w1.heap.size := World.block_lt_of_cell? w1 _ c_paT0
    have LT1_1 : w.heap.size + 1 < w1.heap.size := World.block_lt_of_cell? w1 _ c_paP0
    clear hb1 BB0
    go_upto_region 5 with fail
    go_cut [6, 7] (fun s6 s7 wx => ∃ (gw0 : Nat), s6 = .pointer (some ⟨gw0, 0, none⟩) ∧ s7 = .bool (r.isSome) ∧ wx.cell? ⟨gw0, 0, none⟩ = some (.int .i64 (((r.getD ⟨0, 0, 0⟩)).a)) ∧ wx.cell? ⟨gw0, 1, none⟩ = some (.int .i64 (((r.getD ⟨0, 0, 0⟩)).b)) ∧ wx.cell? ⟨gw0, 2, none⟩ = some (.int .i64 (((r.getD ⟨0, 0, 0⟩)).c)) ∧ Below w1.heap.size w1 wx)
    case first =>
      refine AnyB.begin (S := (fun w' => w'.cell? ⟨w.heap.size, 0, none⟩ = some (.int .i64 ((d_aT).n)) ∧ w'.cell? ⟨w.heap.size, 1, none⟩ = some (.slice a_aT0 ((d_aT).xs).length cap_aT0) ∧ w'.cell? ⟨w.heap.size, 2, none⟩ = some (.slice a_aT1 ((d_aT).zs).length cap_aT1) ∧ w'.cell? ⟨w.heap.size + 1, 0, none⟩ = some (.int .i64 ((d_aP).a)) ∧ w'.cell? ⟨w.heap.size + 1, 1, none⟩ = some (.int .i64 ((d_aP).b)) ∧ w'.cell? ⟨w.heap.size + 1, 2, none⟩ = some (.int .i64 ((d_aP).c)))) [9] (by kernel_rfl) ?_ (fun hHeld0 => ?_)
      · ((try dsimp only); (first | (exact ⟨cell_drew c_paT0, cell_drew c_paT1, cell_drew c_paT2, cell_drew c_paP0, cell_drew c_paP1, cell_drew c_paP2⟩) | (go_split_ands; refine ⟨?_, ?_, ?_, ?_, ?_, ?_⟩ <;> first | assumption | (refine cell_alloc_keep _ ?_; assumption) | (refine below_cell hbC rfl ?_; assumption) | (refine below_cell hbA1 rfl ?_; assumption) | (refine below_cell hbA0 rfl ?_; assumption))))
      refine AnyB.take (i := 0) (oi := _) (v := ?_) (by simp only [List.getElem?_toArray, List.getElem?_cons_zero, List.getElem?_cons_succ]; rfl) (by kernel_rfl) (by kernel_rfl) (by kernel_rfl) (by kernel_rfl) (by kernel_rfl) (by intro _ _ _ h; exact h) (Or.inl ⟨by rfl, ?_⟩) (by assumption) ?_
      rotate_left
      · (intro w hSw; (try dsimp only at hSw); go_simp; (try (with_reducible rfl)))
      try simp only [Act.put, List.setIfInBounds_toArray, List.set_cons_zero, List.set_cons_succ]
      refine AnyB.take (i := 2) (oi := _) (v := ?_) (by simp only [List.getElem?_toArray, List.getElem?_cons_zero, List.getElem?_cons_succ]; rfl) (by kernel_rfl) (by kernel_rfl) (by kernel_rfl) (by kernel_rfl) (by kernel_rfl) (by intro _ _ _ h; exact h) (Or.inl ⟨by rfl, ?_⟩) (by assumption) ?_
      rotate_left
      · (intro w hSw; (try dsimp only at hSw); go_simp; (try (with_reducible rfl)))
      try simp only [Act.put, List.setIfInBounds_toArray, List.set_cons_zero, List.set_cons_succ]
      refine AnyB.each (rs := [1, 8]) (by kernel_rfl) (by simp) ?_
      refine EachB.cons rfl (fun K hK hB => ?_) ?_
      · skip
        (go_simp; go_at_call 20; refine (laws_toTableau_any d_aT _ _ _ (Rd.below HA_aT0.out (by repeat (first | (with_reducible exact Below.refl _ _) | (with_reducible assumption) | (with_reducible refine Below.drew ?_) | (with_reducible refine below_drewN ?_ _) | (with_reducible refine Below.alloc ?_ (by first | omega | (simp <;> omega)) _) | (with_reducible refine Below.setCell ?_ (by first | omega | (simp <;> omega)) _) | (with_reducible refine Below.trans ?_ (Below.mono (by with_reducible assumption) (by first | omega | (simp <;> omega)))))) rfl) (Rd.below HA_aT1.out (by repeat (first | (with_reducible exact Below.refl _ _) | (with_reducible assumption) | (with_reducible refine Below.drew ?_) | (with_reducible refine below_drewN ?_ _) | (with_reducible refine Below.alloc ?_ (by first | omega | (simp <;> omega)) _) | (with_reducible refine Below.setCell ?_ (by first | omega | (simp <;> omega)) _) | (with_reducible refine Below.trans ?_ (Below.mono (by with_reducible assumption) (by first | omega | (simp <;> omega)))))) rfl) LEN_aT0 LEN_aT1).mono ?_; rintro e wA0 ⟨vA00, vA01, rfl, hA00, hA01, _, hbA0⟩; obtain ⟨aA00, cA00, rfl⟩ := hA00.forms; have R00 := Lib.hid (hA00.rd); clear hA00; obtain ⟨aA01, cA01, rfl⟩ := hA01.forms; have R01 := Lib.hid (hA01.rd); clear hA01; have zA0 := hbA0.size; (try simp at zA0); (try (replace yb0 := below_frz hbA0 rfl (World.block_lt_of_cell? _ _ xb0) yb0; replace xb0 := below_cell hbA0 rfl xb0; replace yb1 := below_frz hbA0 rfl (World.block_lt_of_cell? _ _ xb1) yb1; replace xb1 := below_cell hbA0 rfl xb1; replace yb2 := below_frz hbA0 rfl (World.block_lt_of_cell? _ _ xb2) yb2; replace xb2 := below_cell hbA0 rfl xb2)); dsimp only)
        refine hK.out _ _ ?_ (fun hHeld1 => ?_)
        · ((try dsimp only); (first | (exact ⟨cell_drew c_paT0, cell_drew c_paT1, cell_drew c_paT2, cell_drew c_paP0, cell_drew c_paP1, cell_drew c_paP2⟩) | (go_split_ands; refine ⟨?_, ?_, ?_, ?_, ?_, ?_⟩ <;> first | assumption | (refine cell_alloc_keep _ ?_; assumption) | (refine below_cell hbC rfl ?_; assumption) | (refine below_cell hbA1 rfl ?_; assumption) | (refine below_cell hbA0 rfl ?_; assumption))))
        clear hB hK K hHeld0
        refine AnyB.each (rs := [3, 8]) (by kernel_rfl) (by simp) ?_
        refine EachB.cons rfl (fun K hK hB => ?_) ?_
        · skip
          (go_simp; go_at_call 33; refine (laws_toPauli_any d_aP _).mono ?_; rintro e wA1 ⟨rfl, hbA1⟩; have zA1 := hbA1.size; (try simp at zA1); (try (replace yb0 := below_frz hbA1 rfl (World.block_lt_of_cell? _ _ xb0) yb0; replace xb0 := below_cell hbA1 rfl xb0; replace yb1 := below_frz hbA1 rfl (World.block_lt_of_cell? _ _ xb1) yb1; replace xb1 := below_cell hbA1 rfl xb1; replace yb2 := below_frz hbA1 rfl (World.block_lt_of_cell? _ _ xb2) yb2; replace xb2 := below_cell hbA1 rfl xb2)); dsimp only)
          refine hK.out _ _ ?_ (fun hHeld2 => ?_)
          · ((try dsimp only); (first | (exact ⟨cell_drew c_paT0, cell_drew c_paT1, cell_drew c_paT2, cell_drew c_paP0, cell_drew c_paP1, cell_drew c_paP2⟩) | (go_split_ands; refine ⟨?_, ?_, ?_, ?_, ?_, ?_⟩ <;> first | assumption | (refine cell_alloc_keep _ ?_; assumption) | (refine below_cell hbC rfl ?_; assumption) | (refine below_cell hbA1 rfl ?_; assumption) | (refine below_cell hbA0 rfl ?_; assumption))))
          clear hB hK K hHeld1
          refine AnyB.each (rs := [4, 8]) (by kernel_rfl) (by simp) ?_
          refine EachB.cons rfl (fun K hK hB => ?_) ?_
          · skip
            (go_simp; go_at_call 32; refine (spec_ImageOf_any d_aT d_aP _ _ _ (Rd.below R00.out (by repeat (first | (with_reducible exact Below.refl _ _) | (with_reducible assumption) | (with_reducible refine Below.drew ?_) | (with_reducible refine below_drewN ?_ _) | (with_reducible refine Below.alloc ?_ (by first | omega | (simp <;> omega)) _) | (with_reducible refine Below.setCell ?_ (by first | omega | (simp <;> omega)) _) | (with_reducible refine Below.trans ?_ (Below.mono (by with_reducible assumption) (by first | omega | (simp <;> omega)))))) rfl) (Rd.below R01.out (by repeat (first | (with_reducible exact Below.refl _ _) | (with_reducible assumption) | (with_reducible refine Below.drew ?_) | (with_reducible refine below_drewN ?_ _) | (with_reducible refine Below.alloc ?_ (by first | omega | (simp <;> omega)) _) | (with_reducible refine Below.setCell ?_ (by first | omega | (simp <;> omega)) _) | (with_reducible refine Below.trans ?_ (Below.mono (by with_reducible assumption) (by first | omega | (simp <;> omega)))))) rfl) LEN_aT0 LEN_aT1).mono ?_; rw [← Hr.out]; rintro e wC ⟨rfl, hbC⟩; have zC := hbC.size; (try simp at zC); (try (replace yb0 := below_frz hbC rfl (World.block_lt_of_cell? _ _ xb0) yb0; replace xb0 := below_cell hbC rfl xb0; replace yb1 := below_frz hbC rfl (World.block_lt_of_cell? _ _ xb1) yb1; replace xb1 := below_cell hbC rfl xb1; replace yb2 := below_frz hbC rfl (World.block_lt_of_cell? _ _ xb2) yb2; replace xb2 := below_cell hbC rfl xb2)); dsimp only)
            refine hK.out _ _ ?_ (fun hHeld3 => ?_)
            · ((try dsimp only); (first | (exact ⟨cell_drew c_paT0, cell_drew c_paT1, cell_drew c_paT2, cell_drew c_paP0, cell_drew c_paP1, cell_drew c_paP2⟩) | (go_split_ands; refine ⟨?_, ?_, ?_, ?_, ?_, ?_⟩ <;> first | assumption | (refine cell_alloc_keep _ ?_; assumption) | (refine below_cell hbC rfl ?_; assumption) | (refine below_cell hbA1 rfl ?_; assumption) | (refine below_cell hbA0 rfl ?_; assumption))))
            clear hB hK K hHeld2
            refine AnyB.takeQ (i := 5) (oi := _) (v := ?_) (by simp only [List.getElem?_toArray, List.getElem?_cons_zero, List.getElem?_cons_succ]; rfl) (by kernel_rfl) (by kernel_rfl) (by kernel_rfl) (by intro _ _ _ h; exact h) (Or.inl ⟨by rfl, ?_⟩) ?_
            rotate_left
            · (intro w hSw; (try dsimp only at hSw); go_simp; (try (with_reducible rfl)))
            try simp only [Act.put, List.setIfInBounds_toArray, List.set_cons_zero, List.set_cons_succ]
            refine AnyB.takeQ (i := 6) (oi := _) (v := ?_) (by simp only [List.getElem?_toArray, List.getElem?_cons_zero, List.getElem?_cons_succ]; rfl) (by kernel_rfl) (by kernel_rfl) (by kernel_rfl) (by intro _ _ _ h; exact h) (Or.inl ⟨by rfl, ?_⟩) ?_
            rotate_left
            · (intro w hSw; (try dsimp only at hSw); go_simp; (try (with_reducible rfl)))
            try simp only [Act.put, List.setIfInBounds_toArray, List.set_cons_zero, List.set_cons_succ]
            refine AnyB.takeQ (i := 7) (oi := _) (v := ?_) (by simp only [List.getElem?_toArray, List.getElem?_cons_zero, List.getElem?_cons_succ]; rfl) (by kernel_rfl) (by kernel_rfl) (by kernel_rfl) (by intro _ _ _ h; exact h) (Or.inl ⟨by rfl, ?_⟩) ?_
            rotate_left
            · (intro w hSw; (try dsimp only at hSw); go_simp; (try (with_reducible rfl)))
            try simp only [Act.put, List.setIfInBounds_toArray, List.set_cons_zero, List.set_cons_succ]
            refine AnyB.each (rs := [8]) (by kernel_rfl) (by simp) ?_
            refine EachB.cons rfl (fun K hK hB => ?_) ?_
            · skip
              (go_simp; first | (have xb0 := new_cell wC #[.int .i64 0, .int .i64 0, .int .i64 0] 54 0 (.int .i64 0) rfl; have yb0 := new_frz wC #[.int .i64 0, .int .i64 0, .int .i64 0] 54 0; have xb1 := new_cell wC #[.int .i64 0, .int .i64 0, .int .i64 0] 54 1 (.int .i64 0) rfl; have yb1 := new_frz wC #[.int .i64 0, .int .i64 0, .int .i64 0] 54 1; have xb2 := new_cell wC #[.int .i64 0, .int .i64 0, .int .i64 0] 54 2 (.int .i64 0) rfl; have yb2 := new_frz wC #[.int .i64 0, .int .i64 0, .int .i64 0] 54 2) | (have xb0 := new_cell wA1 #[.int .i64 0, .int .i64 0, .int .i64 0] 54 0 (.int .i64 0) rfl; have yb0 := new_frz wA1 #[.int .i64 0, .int .i64 0, .int .i64 0] 54 0; have xb1 := new_cell wA1 #[.int .i64 0, .int .i64 0, .int .i64 0] 54 1 (.int .i64 0) rfl; have yb1 := new_frz wA1 #[.int .i64 0, .int .i64 0, .int .i64 0] 54 1; have xb2 := new_cell wA1 #[.int .i64 0, .int .i64 0, .int .i64 0] 54 2 (.int .i64 0) rfl; have yb2 := new_frz wA1 #[.int .i64 0, .int .i64 0, .int .i64 0] 54 2) | (have xb0 := new_cell wA0 #[.int .i64 0, .int .i64 0, .int .i64 0] 54 0 (.int .i64 0) rfl; have yb0 := new_frz wA0 #[.int .i64 0, .int .i64 0, .int .i64 0] 54 0; have xb1 := new_cell wA0 #[.int .i64 0, .int .i64 0, .int .i64 0] 54 1 (.int .i64 0) rfl; have yb1 := new_frz wA0 #[.int .i64 0, .int .i64 0, .int .i64 0] 54 1; have xb2 := new_cell wA0 #[.int .i64 0, .int .i64 0, .int .i64 0] 54 2 (.int .i64 0) rfl; have yb2 := new_frz wA0 #[.int .i64 0, .int .i64 0, .int .i64 0] 54 2) | (have xb0 : ((w1.alloc (.cells #[.int .i64 0, .int .i64 0, .int .i64 0] 54)).drew).cell? ⟨w1.heap.size, 0, none⟩ = some (.int .i64 0) := new_cell w1 #[.int .i64 0, .int .i64 0, .int .i64 0] 54 0 (.int .i64 0) rfl; have yb0 : ((w1.alloc (.cells #[.int .i64 0, .int .i64 0, .int .i64 0] 54)).drew).frozen? ⟨w1.heap.size, 0, none⟩ = false := new_frz w1 #[.int .i64 0, .int .i64 0, .int .i64 0] 54 0; have xb1 : ((w1.alloc (.cells #[.int .i64 0, .int .i64 0, .int .i64 0] 54)).drew).cell? ⟨w1.heap.size, 1, none⟩ = some (.int .i64 0) := new_cell w1 #[.int .i64 0, .int .i64 0, .int .i64 0] 54 1 (.int .i64 0) rfl; have yb1 : ((w1.alloc (.cells #[.int .i64 0, .int .i64 0, .int .i64 0] 54)).drew).frozen? ⟨w1.heap.size, 1, none⟩ = false := new_frz w1 #[.int .i64 0, .int .i64 0, .int .i64 0] 54 1; have xb2 : ((w1.alloc (.cells #[.int .i64 0, .int .i64 0, .int .i64 0] 54)).drew).cell? ⟨w1.heap.size, 2, none⟩ = some (.int .i64 0) := new_cell w1 #[.int .i64 0, .int .i64 0, .int .i64 0] 54 2 (.int .i64 0) rfl; have yb2 : ((w1.alloc (.cells #[.int .i64 0, .int .i64 0, .int .i64 0] 54)).drew).frozen? ⟨w1.heap.size, 2, none⟩ = false := new_frz w1 #[.int .i64 0, .int .i64 0, .int .i64 0] 54 2))
              refine hK.out _ _ ?_ (fun hHeld4 => ?_)
              · ((try dsimp only); (first | (exact ⟨cell_drew c_paT0, cell_drew c_paT1, cell_drew c_paT2, cell_drew c_paP0, cell_drew c_paP1, cell_drew c_paP2⟩) | (go_split_ands; refine ⟨?_, ?_, ?_, ?_, ?_, ?_⟩ <;> first | assumption | (refine cell_alloc_keep _ ?_; assumption) | (refine below_cell hbC rfl ?_; assumption) | (refine below_cell hbA1 rfl ?_; assumption) | (refine below_cell hbA0 rfl ?_; assumption))))
              clear hB hK K hHeld3
              refine AnyB.each (rs := [9]) (by kernel_rfl) (by simp) ?_
              refine EachB.cons rfl (fun K hK hB => ?_) ?_
              · skip
                go_simp
                refine hB.out _ _ rfl ?_
                clear hB hK K
                refine AnyB.takeQ (i := 10) (oi := _) (v := ?_) (by simp only [List.getElem?_toArray, List.getElem?_cons_zero, List.getElem?_cons_succ]; rfl) (by kernel_rfl) (by kernel_rfl) (by kernel_rfl) (by intro _ _ _ h; exact h) (Or.inl ⟨by rfl, ?_⟩) ?_
                rotate_left
                · (intro w hSw; (try dsimp only at hSw); go_simp; (try (with_reducible rfl)))
                try simp only [Act.put, List.setIfInBounds_toArray, List.set_cons_zero, List.set_cons_succ]
                refine AnyB.none (by kernel_rfl) ?_ _
                go_wp2_with fail
                go_meet
                refine ⟨_, rfl, rfl, ?_, ?_, ?_, (by repeat (first | (with_reducible exact Below.refl _ _) | (with_reducible assumption) | (with_reducible refine Below.drew ?_) | (with_reducible refine below_drewN ?_ _) | (with_reducible refine Below.alloc ?_ (by first | omega | (simp <;> omega)) _) | (with_reducible refine Below.setCell ?_ (by first | omega | (simp <;> omega)) _) | (with_reducible refine Below.trans ?_ (Below.mono (by with_reducible assumption) (by first | omega | (simp <;> omega))))))⟩
                · first | (with_reducible exact new_cell _ _ _ 0 _ rfl) | exact (box_set3 _ _ _ xb0 xb1 xb2).1
                · first | (with_reducible exact new_cell _ _ _ 1 _ rfl) | exact (box_set3 _ _ _ xb0 xb1 xb2).2.1
                · first | (with_reducible exact new_cell _ _ _ 2 _ rfl) | exact (box_set3 _ _ _ xb0 xb1 xb2).2.2
              exact EachB.nil
            exact EachB.nil
          refine EachB.cons rfl (fun K hK hB => ?_) ?_
          · skip
            (go_simp; first | (have xb0 := new_cell wC #[.int .i64 0, .int .i64 0, .int .i64 0] 54 0 (.int .i64 0) rfl; have yb0 := new_frz wC #[.int .i64 0, .int .i64 0, .int .i64 0] 54 0; have xb1 := new_cell wC #[.int .i64 0, .int .i64 0, .int .i64 0] 54 1 (.int .i64 0) rfl; have yb1 := new_frz wC #[.int .i64 0, .int .i64 0, .int .i64 0] 54 1; have xb2 := new_cell wC #[.int .i64 0, .int .i64 0, .int .i64 0] 54 2 (.int .i64 0) rfl; have yb2 := new_frz wC #[.int .i64 0, .int .i64 0, .int .i64 0] 54 2) | (have xb0 := new_cell wA1 #[.int .i64 0, .int .i64 0, .int .i64 0] 54 0 (.int .i64 0) rfl; have yb0 := new_frz wA1 #[.int .i64 0, .int .i64 0, .int .i64 0] 54 0; have xb1 := new_cell wA1 #[.int .i64 0, .int .i64 0, .int .i64 0] 54 1 (.int .i64 0) rfl; have yb1 := new_frz wA1 #[.int .i64 0, .int .i64 0, .int .i64 0] 54 1; have xb2 := new_cell wA1 #[.int .i64 0, .int .i64 0, .int .i64 0] 54 2 (.int .i64 0) rfl; have yb2 := new_frz wA1 #[.int .i64 0, .int .i64 0, .int .i64 0] 54 2) | (have xb0 := new_cell wA0 #[.int .i64 0, .int .i64 0, .int .i64 0] 54 0 (.int .i64 0) rfl; have yb0 := new_frz wA0 #[.int .i64 0, .int .i64 0, .int .i64 0] 54 0; have xb1 := new_cell wA0 #[.int .i64 0, .int .i64 0, .int .i64 0] 54 1 (.int .i64 0) rfl; have yb1 := new_frz wA0 #[.int .i64 0, .int .i64 0, .int .i64 0] 54 1; have xb2 := new_cell wA0 #[.int .i64 0, .int .i64 0, .int .i64 0] 54 2 (.int .i64 0) rfl; have yb2 := new_frz wA0 #[.int .i64 0, .int .i64 0, .int .i64 0] 54 2) | (have xb0 : ((w1.alloc (.cells #[.int .i64 0, .int .i64 0, .int .i64 0] 54)).drew).cell? ⟨w1.heap.size, 0, none⟩ = some (.int .i64 0) := new_cell w1 #[.int .i64 0, .int .i64 0, .int .i64 0] 54 0 (.int .i64 0) rfl; have yb0 : ((w1.alloc (.cells #[.int .i64 0, .int .i64 0, .int .i64 0] 54)).drew).frozen? ⟨w1.heap.size, 0, none⟩ = false := new_frz w1 #[.int .i64 0, .int .i64 0, .int .i64 0] 54 0; have xb1 : ((w1.alloc (.cells #[.int .i64 0, .int .i64 0, .int .i64 0] 54)).drew).cell? ⟨w1.heap.size, 1, none⟩ = some (.int .i64 0) := new_cell w1 #[.int .i64 0, .int .i64 0, .int .i64 0] 54 1 (.int .i64 0) rfl; have yb1 : ((w1.alloc (.cells #[.int .i64 0, .int .i64 0, .int .i64 0] 54)).drew).frozen? ⟨w1.heap.size, 1, none⟩ = false := new_frz w1 #[.int .i64 0, .int .i64 0, .int .i64 0] 54 1; have xb2 : ((w1.alloc (.cells #[.int .i64 0, .int .i64 0, .int .i64 0] 54)).drew).cell? ⟨w1.heap.size, 2, none⟩ = some (.int .i64 0) := new_cell w1 #[.int .i64 0, .int .i64 0, .int .i64 0] 54 2 (.int .i64 0) rfl; have yb2 : ((w1.alloc (.cells #[.int .i64 0, .int .i64 0, .int .i64 0] 54)).drew).frozen? ⟨w1.heap.size, 2, none⟩ = false := new_frz w1 #[.int .i64 0, .int .i64 0, .int .i64 0] 54 2))
            refine hK.out _ _ ?_ (fun hHeld5 => ?_)
            · ((try dsimp only); (first | (exact ⟨cell_drew c_paT0, cell_drew c_paT1, cell_drew c_paT2, cell_drew c_paP0, cell_drew c_paP1, cell_drew c_paP2⟩) | (go_split_ands; refine ⟨?_, ?_, ?_, ?_, ?_, ?_⟩ <;> first | assumption | (refine cell_alloc_keep _ ?_; assumption) | (refine below_cell hbC rfl ?_; assumption) | (refine below_cell hbA1 rfl ?_; assumption) | (refine below_cell hbA0 rfl ?_; assumption))))
            clear hB hK K hHeld2
            refine AnyB.each (rs := [4]) (by kernel_rfl) (by simp) ?_
            refine EachB.cons rfl (fun K hK hB => ?_) ?_
            · skip
              (go_simp; go_at_call 32; refine (spec_ImageOf_any d_aT d_aP _ _ _ (Rd.below R00.out (by repeat (first | (with_reducible exact Below.refl _ _) | (with_reducible assumption) | (with_reducible refine Below.drew ?_) | (with_reducible refine below_drewN ?_ _) | (with_reducible refine Below.alloc ?_ (by first | omega | (simp <;> omega)) _) | (with_reducible refine Below.setCell ?_ (by first | omega | (simp <;> omega)) _) | (with_reducible refine Below.trans ?_ (Below.mono (by with_reducible assumption) (by first | omega | (simp <;> omega)))))) rfl) (Rd.below R01.out (by repeat (first | (with_reducible exact Below.refl _ _) | (with_reducible assumption) | (with_reducible refine Below.drew ?_) | (with_reducible refine below_drewN ?_ _) | (with_reducible refine Below.alloc ?_ (by first | omega | (simp <;> omega)) _) | (with_reducible refine Below.setCell ?_ (by first | omega | (simp <;> omega)) _) | (with_reducible refine Below.trans ?_ (Below.mono (by with_reducible assumption) (by first | omega | (simp <;> omega)))))) rfl) LEN_aT0 LEN_aT1).mono ?_; rw [← Hr.out]; rintro e wC ⟨rfl, hbC⟩; have zC := hbC.size; (try simp at zC); (try (replace yb0 := below_frz hbC rfl (World.block_lt_of_cell? _ _ xb0) yb0; replace xb0 := below_cell hbC rfl xb0; replace yb1 := below_frz hbC rfl (World.block_lt_of_cell? _ _ xb1) yb1; replace xb1 := below_cell hbC rfl xb1; replace yb2 := below_frz hbC rfl (World.block_lt_of_cell? _ _ xb2) yb2; replace xb2 := below_cell hbC rfl xb2)); dsimp only)
              refine hK.out _ _ ?_ (fun hHeld6 => ?_)
              · ((try dsimp only); (first | (exact ⟨cell_drew c_paT0, cell_drew c_paT1, cell_drew c_paT2, cell_drew c_paP0, cell_drew c_paP1, cell_drew c_paP2⟩) | (go_split_ands; refine ⟨?_, ?_, ?_, ?_, ?_, ?_⟩ <;> first | assumption | (refine cell_alloc_keep _ ?_; assumption) | (refine below_cell hbC rfl ?_; assumption) | (refine below_cell hbA1 rfl ?_; assumption) | (refine below_cell hbA0 rfl ?_; assumption))))
              clear hB hK K hHeld5
              refine AnyB.takeQ (i := 5) (oi := _) (v := ?_) (by simp only [List.getElem?_toArray, List.getElem?_cons_zero, List.getElem?_cons_succ]; rfl) (by kernel_rfl) (by kernel_rfl) (by kernel_rfl) (by intro _ _ _ h; exact h) (Or.inl ⟨by rfl, ?_⟩) ?_
              rotate_left
              · (intro w hSw; (try dsimp only at hSw); go_simp; (try (with_reducible rfl)))
              try simp only [Act.put, List.setIfInBounds_toArray, List.set_cons_zero, List.set_cons_succ]
              refine AnyB.takeQ (i := 6) (oi := _) (v := ?_) (by simp only [List.getElem?_toArray, List.getElem?_cons_zero, List.getElem?_cons_succ]; rfl) (by kernel_rfl) (by kernel_rfl) (by kernel_rfl) (by intro _ _ _ h; exact h) (Or.inl ⟨by rfl, ?_⟩) ?_
              rotate_left
              · (intro w hSw; (try dsimp only at hSw); go_simp; (try (with_reducible rfl)))
              try simp only [Act.put, List.setIfInBounds_toArray, List.set_cons_zero, List.set_cons_succ]
              refine AnyB.takeQ (i := 7) (oi := _) (v := ?_) (by simp only [List.getElem?_toArray, List.getElem?_cons_zero, List.getElem?_cons_succ]; rfl) (by kernel_rfl) (by kernel_rfl) (by kernel_rfl) (by intro _ _ _ h; exact h) (Or.inl ⟨by rfl, ?_⟩) ?_
              rotate_left
              · (intro w hSw; (try dsimp only at hSw); go_simp; (try (with_reducible rfl)))
              try simp only [Act.put, List.setIfInBounds_toArray, List.set_cons_zero, List.set_cons_succ]
              refine AnyB.each (rs := [9]) (by kernel_rfl) (by simp) ?_
              refine EachB.cons rfl (fun K hK hB => ?_) ?_
              · skip
                go_simp
                refine hB.out _ _ rfl ?_
                clear hB hK K
                refine AnyB.takeQ (i := 10) (oi := _) (v := ?_) (by simp only [List.getElem?_toArray, List.getElem?_cons_zero, List.getElem?_cons_succ]; rfl) (by kernel_rfl) (by kernel_rfl) (by kernel_rfl) (by intro _ _ _ h; exact h) (Or.inl ⟨by rfl, ?_⟩) ?_
                rotate_left
                · (intro w hSw; (try dsimp only at hSw); go_simp; (try (with_reducible rfl)))
                try simp only [Act.put, List.setIfInBounds_toArray, List.set_cons_zero, List.set_cons_succ]
                refine AnyB.none (by kernel_rfl) ?_ _
                go_wp2_with fail
                go_meet
                refine ⟨_, rfl, rfl, ?_, ?_, ?_, (by repeat (first | (with_reducible exact Below.refl _ _) | (with_reducible assumption) | (with_reducible refine Below.drew ?_) | (with_reducible refine below_drewN ?_ _) | (with_reducible refine Below.alloc ?_ (by first | omega | (simp <;> omega)) _) | (with_reducible refine Below.setCell ?_ (by first | omega | (simp <;> omega)) _) | (with_reducible refine Below.trans ?_ (Below.mono (by with_reducible assumption) (by first | omega | (simp <;> omega))))))⟩
                · first | (with_reducible exact new_cell _ _ _ 0 _ rfl) | exact (box_set3 _ _ _ xb0 xb1 xb2).1
                · first | (with_reducible exact new_cell _ _ _ 1 _ rfl) | exact (box_set3 _ _ _ xb0 xb1 xb2).2.1
                · first | (with_reducible exact new_cell _ _ _ 2 _ rfl) | exact (box_set3 _ _ _ xb0 xb1 xb2).2.2
              exact EachB.nil
            exact EachB.nil
          exact EachB.nil
        refine EachB.cons rfl (fun K hK hB => ?_) ?_
        · skip
          (go_simp; first | (have xb0 := new_cell wC #[.int .i64 0, .int .i64 0, .int .i64 0] 54 0 (.int .i64 0) rfl; have yb0 := new_frz wC #[.int .i64 0, .int .i64 0, .int .i64 0] 54 0; have xb1 := new_cell wC #[.int .i64 0, .int .i64 0, .int .i64 0] 54 1 (.int .i64 0) rfl; have yb1 := new_frz wC #[.int .i64 0, .int .i64 0, .int .i64 0] 54 1; have xb2 := new_cell wC #[.int .i64 0, .int .i64 0, .int .i64 0] 54 2 (.int .i64 0) rfl; have yb2 := new_frz wC #[.int .i64 0, .int .i64 0, .int .i64 0] 54 2) | (have xb0 := new_cell wA1 #[.int .i64 0, .int .i64 0, .int .i64 0] 54 0 (.int .i64 0) rfl; have yb0 := new_frz wA1 #[.int .i64 0, .int .i64 0, .int .i64 0] 54 0; have xb1 := new_cell wA1 #[.int .i64 0, .int .i64 0, .int .i64 0] 54 1 (.int .i64 0) rfl; have yb1 := new_frz wA1 #[.int .i64 0, .int .i64 0, .int .i64 0] 54 1; have xb2 := new_cell wA1 #[.int .i64 0, .int .i64 0, .int .i64 0] 54 2 (.int .i64 0) rfl; have yb2 := new_frz wA1 #[.int .i64 0, .int .i64 0, .int .i64 0] 54 2) | (have xb0 := new_cell wA0 #[.int .i64 0, .int .i64 0, .int .i64 0] 54 0 (.int .i64 0) rfl; have yb0 := new_frz wA0 #[.int .i64 0, .int .i64 0, .int .i64 0] 54 0; have xb1 := new_cell wA0 #[.int .i64 0, .int .i64 0, .int .i64 0] 54 1 (.int .i64 0) rfl; have yb1 := new_frz wA0 #[.int .i64 0, .int .i64 0, .int .i64 0] 54 1; have xb2 := new_cell wA0 #[.int .i64 0, .int .i64 0, .int .i64 0] 54 2 (.int .i64 0) rfl; have yb2 := new_frz wA0 #[.int .i64 0, .int .i64 0, .int .i64 0] 54 2) | (have xb0 : ((w1.alloc (.cells #[.int .i64 0, .int .i64 0, .int .i64 0] 54)).drew).cell? ⟨w1.heap.size, 0, none⟩ = some (.int .i64 0) := new_cell w1 #[.int .i64 0, .int .i64 0, .int .i64 0] 54 0 (.int .i64 0) rfl; have yb0 : ((w1.alloc (.cells #[.int .i64 0, .int .i64 0, .int .i64 0] 54)).drew).frozen? ⟨w1.heap.size, 0, none⟩ = false := new_frz w1 #[.int .i64 0, .int .i64 0, .int .i64 0] 54 0; have xb1 : ((w1.alloc (.cells #[.int .i64 0, .int .i64 0, .int .i64 0] 54)).drew).cell? ⟨w1.heap.size, 1, none⟩ = some (.int .i64 0) := new_cell w1 #[.int .i64 0, .int .i64 0, .int .i64 0] 54 1 (.int .i64 0) rfl; have yb1 : ((w1.alloc (.cells #[.int .i64 0, .int .i64 0, .int .i64 0] 54)).drew).frozen? ⟨w1.heap.size, 1, none⟩ = false := new_frz w1 #[.int .i64 0, .int .i64 0, .int .i64 0] 54 1; have xb2 : ((w1.alloc (.cells #[.int .i64 0, .int .i64 0, .int .i64 0] 54)).drew).cell? ⟨w1.heap.size, 2, none⟩ = some (.int .i64 0) := new_cell w1 #[.int .i64 0, .int .i64 0, .int .i64 0] 54 2 (.int .i64 0) rfl; have yb2 : ((w1.alloc (.cells #[.int .i64 0, .int .i64 0, .int .i64 0] 54)).drew).frozen? ⟨w1.heap.size, 2, none⟩ = false := new_frz w1 #[.int .i64 0, .int .i64 0, .int .i64 0] 54 2))
          refine hK.out _ _ ?_ (fun hHeld7 => ?_)
          · ((try dsimp only); (first | (exact ⟨cell_drew c_paT0, cell_drew c_paT1, cell_drew c_paT2, cell_drew c_paP0, cell_drew c_paP1, cell_drew c_paP2⟩) | (go_split_ands; refine ⟨?_, ?_, ?_, ?_, ?_, ?_⟩ <;> first | assumption | (refine cell_alloc_keep _ ?_; assumption) | (refine below_cell hbC rfl ?_; assumption) | (refine below_cell hbA1 rfl ?_; assumption) | (refine below_cell hbA0 rfl ?_; assumption))))
          clear hB hK K hHeld1
          refine AnyB.each (rs := [3]) (by kernel_rfl) (by simp) ?_
          refine EachB.cons rfl (fun K hK hB => ?_) ?_
          · skip
            (go_simp; go_at_call 33; refine (laws_toPauli_any d_aP _).mono ?_; rintro e wA1 ⟨rfl, hbA1⟩; have zA1 := hbA1.size; (try simp at zA1); (try (replace yb0 := below_frz hbA1 rfl (World.block_lt_of_cell? _ _ xb0) yb0; replace xb0 := below_cell hbA1 rfl xb0; replace yb1 := below_frz hbA1 rfl (World.block_lt_of_cell? _ _ xb1) yb1; replace xb1 := below_cell hbA1 rfl xb1; replace yb2 := below_frz hbA1 rfl (World.block_lt_of_cell? _ _ xb2) yb2; replace xb2 := below_cell hbA1 rfl xb2)); dsimp only)
            refine hK.out _ _ ?_ (fun hHeld8 => ?_)
            · ((try dsimp only); (first | (exact ⟨cell_drew c_paT0, cell_drew c_paT1, cell_drew c_paT2, cell_drew c_paP0, cell_drew c_paP1, cell_drew c_paP2⟩) | (go_split_ands; refine ⟨?_, ?_, ?_, ?_, ?_, ?_⟩ <;> first | assumption | (refine cell_alloc_keep _ ?_; assumption) | (refine below_cell hbC rfl ?_; assumption) | (refine below_cell hbA1 rfl ?_; assumption) | (refine below_cell hbA0 rfl ?_; assumption))))
            clear hB hK K hHeld7
            refine AnyB.each (rs := [4]) (by kernel_rfl) (by simp) ?_
            refine EachB.cons rfl (fun K hK hB => ?_) ?_
            · skip
              (go_simp; go_at_call 32; refine (spec_ImageOf_any d_aT d_aP _ _ _ (Rd.below R00.out (by repeat (first | (with_reducible exact Below.refl _ _) | (with_reducible assumption) | (with_reducible refine Below.drew ?_) | (with_reducible refine below_drewN ?_ _) | (with_reducible refine Below.alloc ?_ (by first | omega | (simp <;> omega)) _) | (with_reducible refine Below.setCell ?_ (by first | omega | (simp <;> omega)) _) | (with_reducible refine Below.trans ?_ (Below.mono (by with_reducible assumption) (by first | omega | (simp <;> omega)))))) rfl) (Rd.below R01.out (by repeat (first | (with_reducible exact Below.refl _ _) | (with_reducible assumption) | (with_reducible refine Below.drew ?_) | (with_reducible refine below_drewN ?_ _) | (with_reducible refine Below.alloc ?_ (by first | omega | (simp <;> omega)) _) | (with_reducible refine Below.setCell ?_ (by first | omega | (simp <;> omega)) _) | (with_reducible refine Below.trans ?_ (Below.mono (by with_reducible assumption) (by first | omega | (simp <;> omega)))))) rfl) LEN_aT0 LEN_aT1).mono ?_; rw [← Hr.out]; rintro e wC ⟨rfl, hbC⟩; have zC := hbC.size; (try simp at zC); (try (replace yb0 := below_frz hbC rfl (World.block_lt_of_cell? _ _ xb0) yb0; replace xb0 := below_cell hbC rfl xb0; replace yb1 := below_frz hbC rfl (World.block_lt_of_cell? _ _ xb1) yb1; replace xb1 := below_cell hbC rfl xb1; replace yb2 := below_frz hbC rfl (World.block_lt_of_cell? _ _ xb2) yb2; replace xb2 := below_cell hbC rfl xb2)); dsimp only)
              refine hK.out _ _ ?_ (fun hHeld9 => ?_)
              · ((try dsimp only); (first | (exact ⟨cell_drew c_paT0, cell_drew c_paT1, cell_drew c_paT2, cell_drew c_paP0, cell_drew c_paP1, cell_drew c_paP2⟩) | (go_split_ands; refine ⟨?_, ?_, ?_, ?_, ?_, ?_⟩ <;> first | assumption | (refine cell_alloc_keep _ ?_; assumption) | (refine below_cell hbC rfl ?_; assumption) | (refine below_cell hbA1 rfl ?_; assumption) | (refine below_cell hbA0 rfl ?_; assumption))))
              clear hB hK K hHeld8
              refine AnyB.takeQ (i := 5) (oi := _) (v := ?_) (by simp only [List.getElem?_toArray, List.getElem?_cons_zero, List.getElem?_cons_succ]; rfl) (by kernel_rfl) (by kernel_rfl) (by kernel_rfl) (by intro _ _ _ h; exact h) (Or.inl ⟨by rfl, ?_⟩) ?_
              rotate_left
              · (intro w hSw; (try dsimp only at hSw); go_simp; (try (with_reducible rfl)))
              try simp only [Act.put, List.setIfInBounds_toArray, List.set_cons_zero, List.set_cons_succ]
              refine AnyB.takeQ (i := 6) (oi := _) (v := ?_) (by simp only [List.getElem?_toArray, List.getElem?_cons_zero, List.getElem?_cons_succ]; rfl) (by kernel_rfl) (by kernel_rfl) (by kernel_rfl) (by intro _ _ _ h; exact h) (Or.inl ⟨by rfl, ?_⟩) ?_
              rotate_left
              · (intro w hSw; (try dsimp only at hSw); go_simp; (try (with_reducible rfl)))
              try simp only [Act.put, List.setIfInBounds_toArray, List.set_cons_zero, List.set_cons_succ]
              refine AnyB.takeQ (i := 7) (oi := _) (v := ?_) (by simp only [List.getElem?_toArray, List.getElem?_cons_zero, List.getElem?_cons_succ]; rfl) (by kernel_rfl) (by kernel_rfl) (by kernel_rfl) (by intro _ _ _ h; exact h) (Or.inl ⟨by rfl, ?_⟩) ?_
              rotate_left
              · (intro w hSw; (try dsimp only at hSw); go_simp; (try (with_reducible rfl)))
              try simp only [Act.put, List.setIfInBounds_toArray, List.set_cons_zero, List.set_cons_succ]
              refine AnyB.each (rs := [9]) (by kernel_rfl) (by simp) ?_
              refine EachB.cons rfl (fun K hK hB => ?_) ?_
              · skip
                go_simp
                refine hB.out _ _ rfl ?_
                clear hB hK K
                refine AnyB.takeQ (i := 10) (oi := _) (v := ?_) (by simp only [List.getElem?_toArray, List.getElem?_cons_zero, List.getElem?_cons_succ]; rfl) (by kernel_rfl) (by kernel_rfl) (by kernel_rfl) (by intro _ _ _ h; exact h) (Or.inl ⟨by rfl, ?_⟩) ?_
                rotate_left
                · (intro w hSw; (try dsimp only at hSw); go_simp; (try (with_reducible rfl)))
                try simp only [Act.put, List.setIfInBounds_toArray, List.set_cons_zero, List.set_cons_succ]
                refine AnyB.none (by kernel_rfl) ?_ _
                go_wp2_with fail
                go_meet
                refine ⟨_, rfl, rfl, ?_, ?_, ?_, (by repeat (first | (with_reducible exact Below.refl _ _) | (with_reducible assumption) | (with_reducible refine Below.drew ?_) | (with_reducible refine below_drewN ?_ _) | (with_reducible refine Below.alloc ?_ (by first | omega | (simp <;> omega)) _) | (with_reducible refine Below.setCell ?_ (by first | omega | (simp <;> omega)) _) | (with_reducible refine Below.trans ?_ (Below.mono (by with_reducible assumption) (by first | omega | (simp <;> omega))))))⟩
                · first | (with_reducible exact new_cell _ _ _ 0 _ rfl) | exact (box_set3 _ _ _ xb0 xb1 xb2).1
                · first | (with_reducible exact new_cell _ _ _ 1 _ rfl) | exact (box_set3 _ _ _ xb0 xb1 xb2).2.1
                · first | (with_reducible exact new_cell _ _ _ 2 _ rfl) | exact (box_set3 _ _ _ xb0 xb1 xb2).2.2
              exact EachB.nil
            exact EachB.nil
          exact EachB.nil
        exact EachB.nil
      refine EachB.cons rfl (fun K hK hB => ?_) ?_
      · skip
        (go_simp; first | (have xb0 := new_cell wC #[.int .i64 0, .int .i64 0, .int .i64 0] 54 0 (.int .i64 0) rfl; have yb0 := new_frz wC #[.int .i64 0, .int .i64 0, .int .i64 0] 54 0; have xb1 := new_cell wC #[.int .i64 0, .int .i64 0, .int .i64 0] 54 1 (.int .i64 0) rfl; have yb1 := new_frz wC #[.int .i64 0, .int .i64 0, .int .i64 0] 54 1; have xb2 := new_cell wC #[.int .i64 0, .int .i64 0, .int .i64 0] 54 2 (.int .i64 0) rfl; have yb2 := new_frz wC #[.int .i64 0, .int .i64 0, .int .i64 0] 54 2) | (have xb0 := new_cell wA1 #[.int .i64 0, .int .i64 0, .int .i64 0] 54 0 (.int .i64 0) rfl; have yb0 := new_frz wA1 #[.int .i64 0, .int .i64 0, .int .i64 0] 54 0; have xb1 := new_cell wA1 #[.int .i64 0, .int .i64 0, .int .i64 0] 54 1 (.int .i64 0) rfl; have yb1 := new_frz wA1 #[.int .i64 0, .int .i64 0, .int .i64 0] 54 1; have xb2 := new_cell wA1 #[.int .i64 0, .int .i64 0, .int .i64 0] 54 2 (.int .i64 0) rfl; have yb2 := new_frz wA1 #[.int .i64 0, .int .i64 0, .int .i64 0] 54 2) | (have xb0 := new_cell wA0 #[.int .i64 0, .int .i64 0, .int .i64 0] 54 0 (.int .i64 0) rfl; have yb0 := new_frz wA0 #[.int .i64 0, .int .i64 0, .int .i64 0] 54 0; have xb1 := new_cell wA0 #[.int .i64 0, .int .i64 0, .int .i64 0] 54 1 (.int .i64 0) rfl; have yb1 := new_frz wA0 #[.int .i64 0, .int .i64 0, .int .i64 0] 54 1; have xb2 := new_cell wA0 #[.int .i64 0, .int .i64 0, .int .i64 0] 54 2 (.int .i64 0) rfl; have yb2 := new_frz wA0 #[.int .i64 0, .int .i64 0, .int .i64 0] 54 2) | (have xb0 : ((w1.alloc (.cells #[.int .i64 0, .int .i64 0, .int .i64 0] 54)).drew).cell? ⟨w1.heap.size, 0, none⟩ = some (.int .i64 0) := new_cell w1 #[.int .i64 0, .int .i64 0, .int .i64 0] 54 0 (.int .i64 0) rfl; have yb0 : ((w1.alloc (.cells #[.int .i64 0, .int .i64 0, .int .i64 0] 54)).drew).frozen? ⟨w1.heap.size, 0, none⟩ = false := new_frz w1 #[.int .i64 0, .int .i64 0, .int .i64 0] 54 0; have xb1 : ((w1.alloc (.cells #[.int .i64 0, .int .i64 0, .int .i64 0] 54)).drew).cell? ⟨w1.heap.size, 1, none⟩ = some (.int .i64 0) := new_cell w1 #[.int .i64 0, .int .i64 0, .int .i64 0] 54 1 (.int .i64 0) rfl; have yb1 : ((w1.alloc (.cells #[.int .i64 0, .int .i64 0, .int .i64 0] 54)).drew).frozen? ⟨w1.heap.size, 1, none⟩ = false := new_frz w1 #[.int .i64 0, .int .i64 0, .int .i64 0] 54 1; have xb2 : ((w1.alloc (.cells #[.int .i64 0, .int .i64 0, .int .i64 0] 54)).drew).cell? ⟨w1.heap.size, 2, none⟩ = some (.int .i64 0) := new_cell w1 #[.int .i64 0, .int .i64 0, .int .i64 0] 54 2 (.int .i64 0) rfl; have yb2 : ((w1.alloc (.cells #[.int .i64 0, .int .i64 0, .int .i64 0] 54)).drew).frozen? ⟨w1.heap.size, 2, none⟩ = false := new_frz w1 #[.int .i64 0, .int .i64 0, .int .i64 0] 54 2))
        refine hK.out _ _ ?_ (fun hHeld10 => ?_)
        · ((try dsimp only); (first | (exact ⟨cell_drew c_paT0, cell_drew c_paT1, cell_drew c_paT2, cell_drew c_paP0, cell_drew c_paP1, cell_drew c_paP2⟩) | (go_split_ands; refine ⟨?_, ?_, ?_, ?_, ?_, ?_⟩ <;> first | assumption | (refine cell_alloc_keep _ ?_; assumption) | (refine below_cell hbC rfl ?_; assumption) | (refine below_cell hbA1 rfl ?_; assumption) | (refine below_cell hbA0 rfl ?_; assumption))))
        clear hB hK K hHeld0
        refine AnyB.each (rs := [1]) (by kernel_rfl) (by simp) ?_
        refine EachB.cons rfl (fun K hK hB => ?_) ?_
        · skip
          (go_simp; go_at_call 20; refine (laws_toTableau_any d_aT _ _ _ (Rd.below HA_aT0.out (by repeat (first | (with_reducible exact Below.refl _ _) | (with_reducible assumption) | (with_reducible refine Below.drew ?_) | (with_reducible refine below_drewN ?_ _) | (with_reducible refine Below.alloc ?_ (by first | omega | (simp <;> omega)) _) | (with_reducible refine Below.setCell ?_ (by first | omega | (simp <;> omega)) _) | (with_reducible refine Below.trans ?_ (Below.mono (by with_reducible assumption) (by first | omega | (simp <;> omega)))))) rfl) (Rd.below HA_aT1.out (by repeat (first | (with_reducible exact Below.refl _ _) | (with_reducible assumption) | (with_reducible refine Below.drew ?_) | (with_reducible refine below_drewN ?_ _) | (with_reducible refine Below.alloc ?_ (by first | omega | (simp <;> omega)) _) | (with_reducible refine Below.setCell ?_ (by first | omega | (simp <;> omega)) _) | (with_reducible refine Below.trans ?_ (Below.mono (by with_reducible assumption) (by first | omega | (simp <;> omega)))))) rfl) LEN_aT0 LEN_aT1).mono ?_; rintro e wA0 ⟨vA00, vA01, rfl, hA00, hA01, _, hbA0⟩; obtain ⟨aA00, cA00, rfl⟩ := hA00.forms; have R00 := Lib.hid (hA00.rd); clear hA00; obtain ⟨aA01, cA01, rfl⟩ := hA01.forms; have R01 := Lib.hid (hA01.rd); clear hA01; have zA0 := hbA0.size; (try simp at zA0); (try (replace yb0 := below_frz hbA0 rfl (World.block_lt_of_cell? _ _ xb0) yb0; replace xb0 := below_cell hbA0 rfl xb0; replace yb1 := below_frz hbA0 rfl (World.block_lt_of_cell? _ _ xb1) yb1; replace xb1 := below_cell hbA0 rfl xb1; replace yb2 := below_frz hbA0 rfl (World.block_lt_of_cell? _ _ xb2) yb2; replace xb2 := below_cell hbA0 rfl xb2)); dsimp only)
          refine hK.out _ _ ?_ (fun hHeld11 => ?_)
          · ((try dsimp only); (first | (exact ⟨cell_drew c_paT0, cell_drew c_paT1, cell_drew c_paT2, cell_drew c_paP0, cell_drew c_paP1, cell_drew c_paP2⟩) | (go_split_ands; refine ⟨?_, ?_, ?_, ?_, ?_, ?_⟩ <;> first | assumption | (refine cell_alloc_keep _ ?_; assumption) | (refine below_cell hbC rfl ?_; assumption) | (refine below_cell hbA1 rfl ?_; assumption) | (refine below_cell hbA0 rfl ?_; assumption))))
          clear hB hK K hHeld10
          refine AnyB.each (rs := [3]) (by kernel_rfl) (by simp) ?_
          refine EachB.cons rfl (fun K hK hB => ?_) ?_
          · skip
            (go_simp; go_at_call 33; refine (laws_toPauli_any d_aP _).mono ?_; rintro e wA1 ⟨rfl, hbA1⟩; have zA1 := hbA1.size; (try simp at zA1); (try (replace yb0 := below_frz hbA1 rfl (World.block_lt_of_cell? _ _ xb0) yb0; replace xb0 := below_cell hbA1 rfl xb0; replace yb1 := below_frz hbA1 rfl (World.block_lt_of_cell? _ _ xb1) yb1; replace xb1 := below_cell hbA1 rfl xb1; replace yb2 := below_frz hbA1 rfl (World.block_lt_of_cell? _ _ xb2) yb2; replace xb2 := below_cell hbA1 rfl xb2)); dsimp only)
            refine hK.out _ _ ?_ (fun hHeld12 => ?_)
            · ((try dsimp only); (first | (exact ⟨cell_drew c_paT0, cell_drew c_paT1, cell_drew c_paT2, cell_drew c_paP0, cell_drew c_paP1, cell_drew c_paP2⟩) | (go_split_ands; refine ⟨?_, ?_, ?_, ?_, ?_, ?_⟩ <;> first | assumption | (refine cell_alloc_keep _ ?_; assumption) | (refine below_cell hbC rfl ?_; assumption) | (refine below_cell hbA1 rfl ?_; assumption) | (refine below_cell hbA0 rfl ?_; assumption))))
            clear hB hK K hHeld11
            refine AnyB.each (rs := [4]) (by kernel_rfl) (by simp) ?_
            refine EachB.cons rfl (fun K hK hB => ?_) ?_
            · skip
              (go_simp; go_at_call 32; refine (spec_ImageOf_any d_aT d_aP _ _ _ (Rd.below R00.out (by repeat (first | (with_reducible exact Below.refl _ _) | (with_reducible assumption) | (with_reducible refine Below.drew ?_) | (with_reducible refine below_drewN ?_ _) | (with_reducible refine Below.alloc ?_ (by first | omega | (simp <;> omega)) _) | (with_reducible refine Below.setCell ?_ (by first | omega | (simp <;> omega)) _) | (with_reducible refine Below.trans ?_ (Below.mono (by with_reducible assumption) (by first | omega | (simp <;> omega)))))) rfl) (Rd.below R01.out (by repeat (first | (with_reducible exact Below.refl _ _) | (with_reducible assumption) | (with_reducible refine Below.drew ?_) | (with_reducible refine below_drewN ?_ _) | (with_reducible refine Below.alloc ?_ (by first | omega | (simp <;> omega)) _) | (with_reducible refine Below.setCell ?_ (by first | omega | (simp <;> omega)) _) | (with_reducible refine Below.trans ?_ (Below.mono (by with_reducible assumption) (by first | omega | (simp <;> omega)))))) rfl) LEN_aT0 LEN_aT1).mono ?_; rw [← Hr.out]; rintro e wC ⟨rfl, hbC⟩; have zC := hbC.size; (try simp at zC); (try (replace yb0 := below_frz hbC rfl (World.block_lt_of_cell? _ _ xb0) yb0; replace xb0 := below_cell hbC rfl xb0; replace yb1 := below_frz hbC rfl (World.block_lt_of_cell? _ _ xb1) yb1; replace xb1 := below_cell hbC rfl xb1; replace yb2 := below_frz hbC rfl (World.block_lt_of_cell? _ _ xb2) yb2; replace xb2 := below_cell hbC rfl xb2)); dsimp only)
              refine hK.out _ _ ?_ (fun hHeld13 => ?_)
              · ((try dsimp only); (first | (exact ⟨cell_drew c_paT0, cell_drew c_paT1, cell_drew c_paT2, cell_drew c_paP0, cell_drew c_paP1, cell_drew c_paP2⟩) | (go_split_ands; refine ⟨?_, ?_, ?_, ?_, ?_, ?_⟩ <;> first | assumption | (refine cell_alloc_keep _ ?_; assumption) | (refine below_cell hbC rfl ?_; assumption) | (refine below_cell hbA1 rfl ?_; assumption) | (refine below_cell hbA0 rfl ?_; assumption))))
              clear hB hK K hHeld12
              refine AnyB.takeQ (i := 5) (oi := _) (v := ?_) (by simp only [List.getElem?_toArray, List.getElem?_cons_zero, List.getElem?_cons_succ]; rfl) (by kernel_rfl) (by kernel_rfl) (by kernel_rfl) (by intro _ _ _ h; exact h) (Or.inl ⟨by rfl, ?_⟩) ?_
              rotate_left
              · (intro w hSw; (try dsimp only at hSw); go_simp; (try (with_reducible rfl)))
              try simp only [Act.put, List.setIfInBounds_toArray, List.set_cons_zero, List.set_cons_succ]
              refine AnyB.takeQ (i := 6) (oi := _) (v := ?_) (by simp only [List.getElem?_toArray, List.getElem?_cons_zero, List.getElem?_cons_succ]; rfl) (by kernel_rfl) (by kernel_rfl) (by kernel_rfl) (by intro _ _ _ h; exact h) (Or.inl ⟨by rfl, ?_⟩) ?_
              rotate_left
              · (intro w hSw; (try dsimp only at hSw); go_simp; (try (with_reducible rfl)))
              try simp only [Act.put, List.setIfInBounds_toArray, List.set_cons_zero, List.set_cons_succ]
              refine AnyB.takeQ (i := 7) (oi := _) (v := ?_) (by simp only [List.getElem?_toArray, List.getElem?_cons_zero, List.getElem?_cons_succ]; rfl) (by kernel_rfl) (by kernel_rfl) (by kernel_rfl) (by intro _ _ _ h; exact h) (Or.inl ⟨by rfl, ?_⟩) ?_
              rotate_left
              · (intro w hSw; (try dsimp only at hSw); go_simp; (try (with_reducible rfl)))
              try simp only [Act.put, List.setIfInBounds_toArray, List.set_cons_zero, List.set_cons_succ]
              refine AnyB.each (rs := [9]) (by kernel_rfl) (by simp) ?_
              refine EachB.cons rfl (fun K hK hB => ?_) ?_
              · skip
                go_simp
                refine hB.out _ _ rfl ?_
                clear hB hK K
                refine AnyB.takeQ (i := 10) (oi := _) (v := ?_) (by simp only [List.getElem?_toArray, List.getElem?_cons_zero, List.getElem?_cons_succ]; rfl) (by kernel_rfl) (by kernel_rfl) (by kernel_rfl) (by intro _ _ _ h; exact h) (Or.inl ⟨by rfl, ?_⟩) ?_
                rotate_left
                · (intro w hSw; (try dsimp only at hSw); go_simp; (try (with_reducible rfl)))
                try simp only [Act.put, List.setIfInBounds_toArray, List.set_cons_zero, List.set_cons_succ]
                refine AnyB.none (by kernel_rfl) ?_ _
                go_wp2_with fail
                go_meet
                refine ⟨_, rfl, rfl, ?_, ?_, ?_, (by repeat (first | (with_reducible exact Below.refl _ _) | (with_reducible assumption) | (with_reducible refine Below.drew ?_) | (with_reducible refine below_drewN ?_ _) | (with_reducible refine Below.alloc ?_ (by first | omega | (simp <;> omega)) _) | (with_reducible refine Below.setCell ?_ (by first | omega | (simp <;> omega)) _) | (with_reducible refine Below.trans ?_ (Below.mono (by with_reducible assumption) (by first | omega | (simp <;> omega))))))⟩
                · first | (with_reducible exact new_cell _ _ _ 0 _ rfl) | exact (box_set3 _ _ _ xb0 xb1 xb2).1
                · first | (with_reducible exact new_cell _ _ _ 1 _ rfl) | exact (box_set3 _ _ _ xb0 xb1 xb2).2.1
                · first | (with_reducible exact new_cell _ _ _ 2 _ rfl) | exact (box_set3 _ _ _ xb0 xb1 xb2).2.2
              exact EachB.nil
            exact EachB.nil
          exact EachB.nil
        exact EachB.nil
      exact EachB.nil
    case rest =>
      obtain ⟨gw0, rfl, rfl, c_w00, c_w01, c_w02, hb2⟩ := hcut
      replace c_paT0 := below_cell hb2 rfl c_paT0
      replace c_paT1 := below_cell hb2 rfl c_paT1
      replace c_paT2 := below_cell hb2 rfl c_paT2
      replace c_paP0 := below_cell hb2 rfl c_paP0
      replace c_paP1 := below_cell hb2 rfl c_paP1
      replace c_paP2 := below_cell hb2 rfl c_paP2
      have BB2 : Below w.heap.size w wc := below_step BB1 hb2
      have ZZ2 : w1.heap.size ≤ wc.heap.size := hb2.size
      clear LT1_0 LT1_1
      clear hb2 BB1
      have LT2_0 : w.heap.size < wc.heap.size := World.block_lt_of_cell? wc _ c_paT0
      have LT2_1 : w.heap.size + 1 < wc.heap.size := World.block_lt_of_cell? wc _ c_paP0
      have LT2_2 : gw0 < wc.heap.size := World.block_lt_of_cell? wc _ c_w00
      generalize wc = w2 at *
      have PG_w0 : gw0 < w2.heap.size := World.block_lt_of_cell? w2 _ c_w00
      go_wp2_with fail
      refine (laws_toTableau_any d_aT _ _ _ (Rd.below HA_aT0.out BB2 rfl) (Rd.below HA_aT1.out BB2 rfl) LEN_aT0 LEN_aT1).mono ?_; rintro e w3 ⟨vx00, vx01, rfl, hox00, hox01, hapx0, hb3⟩
      obtain ⟨ax00, capx00, rfl⟩ := hox00.forms
      have LL_x00 := Lib.hid (show ∀ g, (Value.slice ax00 ((d_aT).xs).length capx00).ownBlock = some g → w2.heap.size ≤ g ∧ g < w3.heap.size from fun g hg => by have := hox00.lt g hg; (try simp at this); omega)
      replace hox00 := OwnE.le hox00 (base' := w.heap.size) (by have := BB2.size; first | omega | (simp; omega))
      obtain ⟨ax01, capx01, rfl⟩ := hox01.forms
      have LL_x01 := Lib.hid (show ∀ g, (Value.slice ax01 ((d_aT).zs).length capx01).ownBlock = some g → w2.heap.size ≤ g ∧ g < w3.heap.size from fun g hg => by have := hox01.lt g hg; (try simp at this); omega)
      replace hox01 := OwnE.le hox01 (base' := w.heap.size) (by have := BB2.size; first | omega | (simp; omega))
      replace c_paT0 := below_cell hb3 rfl c_paT0
      replace c_paT1 := below_cell hb3 rfl c_paT1
      replace c_paT2 := below_cell hb3 rfl c_paT2
      replace c_paP0 := below_cell hb3 rfl c_paP0
      replace c_paP1 := below_cell hb3 rfl c_paP1
      replace c_paP2 := below_cell hb3 rfl c_paP2
      replace c_w00 := below_cell hb3 rfl c_w00
      replace c_w01 := below_cell hb3 rfl c_w01
      replace c_w02 := below_cell hb3 rfl c_w02
      have BB3 : Below w.heap.size w w3 := below_step BB2 hb3
      have ZZ3 : w2.heap.size ≤ w3.heap.size := by have := hb3.size; (try simp at this); omega
      clear LT2_0 LT2_1 LT2_2
      have LT3_0 : w.heap.size < w3.heap.size := World.block_lt_of_cell? w3 _ c_paT0
      have LT3_1 : w.heap.size + 1 < w3.heap.size := World.block_lt_of_cell? w3 _ c_paP0
      have LT3_2 : gw0 < w3.heap.size := World.block_lt_of_cell? w3 _ c_w00
      have Ox00 := Lib.hid (show OwnE w3 (w.heap.size) 54 (.slice ax00 ((d_aT).xs).length capx00) E3.cs 3 ((d_aT).xs) from hox00); clear hox00
      have Ox01 := Lib.hid (show OwnE w3 (w.heap.size) 54 (.slice ax01 ((d_aT).zs).length capx01) E3.cs 3 ((d_aT).zs) from hox01); clear hox01
      have AP_x0 := Lib.hid hapx0; clear hapx0
      clear hb3 BB2
      go_upto_region 7 with fail
      have BP3 := Lib.hid (show Below w3.heap.size w3 (w3.alloc (.cells #[.int .i64 ((d_aT).n), .slice ax00 ((d_aT).xs).length capx00, .slice ax01 ((d_aT).zs).length capx01] 24)) from (by repeat (first | exact Below.refl _ _ | assumption | refine Below.drew ?_ | refine below_drewN ?_ _ | refine Below.alloc ?_ (by first | omega | (simp <;> omega)) _ | refine Below.setCell ?_ (by first | omega | (simp <;> omega)) _ | refine Below.trans ?_ (Below.mono (by assumption) (by first | omega | (simp <;> omega))))))
      replace Ox00 := Lib.hid (show OwnE (w3.alloc (.cells #[.int .i64 ((d_aT).n), .slice ax00 ((d_aT).xs).length capx00, .slice ax01 ((d_aT).zs).length capx01] 24)) (w.heap.size) 54 (.slice ax00 ((d_aT).xs).length capx00) E3.cs 3 ((d_aT).xs) from OwnE.below Ox00.out BP3.out rfl)
      replace Ox01 := Lib.hid (show OwnE (w3.alloc (.cells #[.int .i64 ((d_aT).n), .slice ax00 ((d_aT).xs).length capx00, .slice ax01 ((d_aT).zs).length capx01] 24)) (w.heap.size) 54 (.slice ax01 ((d_aT).zs).length capx01) E3.cs 3 ((d_aT).zs) from OwnE.below Ox01.out BP3.out rfl)
      replace c_paT0 := cell_alloc_keep (.cells #[.int .i64 ((d_aT).n), .slice ax00 ((d_aT).xs).length capx00, .slice ax01 ((d_aT).zs).length capx01] 24) (c_paT0)
      replace c_paT1 := cell_alloc_keep (.cells #[.int .i64 ((d_aT).n), .slice ax00 ((d_aT).xs).length capx00, .slice ax01 ((d_aT).zs).length capx01] 24) (c_paT1)
      replace c_paT2 := cell_alloc_keep (.cells #[.int .i64 ((d_aT).n), .slice ax00 ((d_aT).xs).length capx00, .slice ax01 ((d_aT).zs).length capx01] 24) (c_paT2)
      replace c_paP0 := cell_alloc_keep (.cells #[.int .i64 ((d_aT).n), .slice ax00 ((d_aT).xs).length capx00, .slice ax01 ((d_aT).zs).length capx01] 24) (c_paP0)
      replace c_paP1 := cell_alloc_keep (.cells #[.int .i64 ((d_aT).n), .slice ax00 ((d_aT).xs).length capx00, .slice ax01 ((d_aT).zs).length capx01] 24) (c_paP1)
      replace c_paP2 := cell_alloc_keep (.cells #[.int .i64 ((d_aT).n), .slice ax00 ((d_aT).xs).length capx00, .slice ax01 ((d_aT).zs).length capx01] 24) (c_paP2)
      replace c_w00 := cell_alloc_keep (.cells #[.int .i64 ((d_aT).n), .slice ax00 ((d_aT).xs).length capx00, .slice ax01 ((d_aT).zs).length capx01] 24) (c_w00)
      replace c_w01 := cell_alloc_keep (.cells #[.int .i64 ((d_aT).n), .slice ax00 ((d_aT).xs).length capx00, .slice ax01 ((d_aT).zs).length capx01] 24) (c_w01)
      replace c_w02 := cell_alloc_keep (.cells #[.int .i64 ((d_aT).n), .slice ax00 ((d_aT).xs).length capx00, .slice ax01 ((d_aT).zs).length capx01] 24) (c_w02)
      have c_x00 : (w3.alloc (.cells #[.int .i64 ((d_aT).n), .slice ax00 ((d_aT).xs).length capx00, .slice ax01 ((d_aT).zs).length capx01] 24)).cell? ⟨w3.heap.size, 0, none⟩ = some (.int .i64 ((d_aT).n)) := (by repeat (first | (refine Eq.trans (World.cell?_alloc_at _ _ _ _ ?hh) ?_; (case hh => (simp; done)); rfl) | refine cell_alloc_keep _ ?_))
      have c_x01 : (w3.alloc (.cells #[.int .i64 ((d_aT).n), .slice ax00 ((d_aT).xs).length capx00, .slice ax01 ((d_aT).zs).length capx01] 24)).cell? ⟨w3.heap.size, 1, none⟩ = some (.slice ax00 ((d_aT).xs).length capx00) := (by repeat (first | (refine Eq.trans (World.cell?_alloc_at _ _ _ _ ?hh) ?_; (case hh => (simp; done)); rfl) | refine cell_alloc_keep _ ?_))
      have c_x02 : (w3.alloc (.cells #[.int .i64 ((d_aT).n), .slice ax00 ((d_aT).xs).length capx00, .slice ax01 ((d_aT).zs).length capx01] 24)).cell? ⟨w3.heap.size, 2, none⟩ = some (.slice ax01 ((d_aT).zs).length capx01) := (by repeat (first | (refine Eq.trans (World.cell?_alloc_at _ _ _ _ ?hh) ?_; (case hh => (simp; done)); rfl) | refine cell_alloc_keep _ ?_))
      have BB4 : Below w.heap.size w (w3.alloc (.cells #[.int .i64 ((d_aT).n), .slice ax00 ((d_aT).xs).length capx00, .slice ax01 ((d_aT).zs).length capx01] 24)) := below_step BB3 BP3.out
      clear BB3 BP3
      clear LT3_0 LT3_1 LT3_2
      generalize (w3.alloc (.cells #[.int .i64 ((d_aT).n), .slice ax00 ((d_aT).xs).length capx00, .slice ax01 ((d_aT).zs).length capx01] 24)) = wg4 at *
      have LT4_0 : w.heap.size < wg4.heap.size := World.block_lt_of_cell? wg4 _ c_paT0
      have LT4_1 : w.heap.size + 1 < wg4.heap.size := World.block_lt_of_cell? wg4 _ c_paP0
      have LT4_2 : gw0 < wg4.heap.size := World.block_lt_of_cell? wg4 _ c_w00
      have LT4_3 : w3.heap.size < wg4.heap.size := World.block_lt_of_cell? wg4 _ c_x00
      go_cut [9, 10] (fun s9 s10 wx => ∃ (gg0 : Nat), s9 = .pointer (some ⟨gg0, 0, none⟩) ∧ s10 = .bool (r.isSome) ∧ wx.cell? ⟨gg0, 0, none⟩ = some (.int .i64 (((r.getD ⟨0, 0, 0⟩)).a)) ∧ wx.cell? ⟨gg0, 1, none⟩ = some (.int .i64 (((r.getD ⟨0, 0, 0⟩)).b)) ∧ wx.cell? ⟨gg0, 2, none⟩ = some (.int .i64 (((r.getD ⟨0, 0, 0⟩)).c)) ∧ Below wg4.heap.size wg4 wx)
      case first =>
        refine AnyB.begin (S := (fun w' => w'.cell? ⟨w.heap.size + 1, 0, none⟩ = some (.int .i64 ((d_aP).a)) ∧ w'.cell? ⟨w.heap.size + 1, 1, none⟩ = some (.int .i64 ((d_aP).b)) ∧ w'.cell? ⟨w.heap.size + 1, 2, none⟩ = some (.int .i64 ((d_aP).c)) ∧ w'.cell? ⟨w3.heap.size, 0, none⟩ = some (.int .i64 ((d_aT).n)) ∧ w'.cell? ⟨w3.heap.size, 1, none⟩ = some (.slice ax00 ((d_aT).xs).length capx00) ∧ w'.cell? ⟨w3.heap.size, 2, none⟩ = some (.slice ax01 ((d_aT).zs).length capx01))) [8] (by kernel_rfl) ?_ (fun hHeld0 => ?_)
        · ((try dsimp only); (first | (exact ⟨cell_drew c_paP0, cell_drew c_paP1, cell_drew c_paP2, cell_drew c_x00, cell_drew c_x01, cell_drew c_x02⟩) | (go_split_ands; refine ⟨?_, ?_, ?_, ?_, ?_, ?_⟩ <;> first | assumption | (refine cell_alloc_keep _ ?_; assumption) | (refine below_cell hbC rfl ?_; assumption) | (refine below_cell hbA1 rfl ?_; assumption))))
        refine AnyB.take (i := 0) (oi := _) (v := ?_) (by simp only [List.getElem?_toArray, List.getElem?_cons_zero, List.getElem?_cons_succ]; rfl) (by kernel_rfl) (by kernel_rfl) (by kernel_rfl) (by kernel_rfl) (by kernel_rfl) (by intro _ _ _ h; exact h) (Or.inl ⟨by rfl, ?_⟩) (by assumption) ?_
        rotate_left
        · (intro w hSw; (try dsimp only at hSw); go_simp; (try (with_reducible rfl)))
        try simp only [Act.put, List.setIfInBounds_toArray, List.set_cons_zero, List.set_cons_succ]
        refine AnyB.take (i := 1) (oi := _) (v := ?_) (by simp only [List.getElem?_toArray, List.getElem?_cons_zero, List.getElem?_cons_succ]; rfl) (by kernel_rfl) (by kernel_rfl) (by kernel_rfl) (by kernel_rfl) (by kernel_rfl) (by intro _ _ _ h; exact h) (Or.inl ⟨by rfl, ?_⟩) (by assumption) ?_
        rotate_left
        · (intro w hSw; (try dsimp only at hSw); go_simp; (try (with_reducible rfl)))
        try simp only [Act.put, List.setIfInBounds_toArray, List.set_cons_zero, List.set_cons_succ]
        refine AnyB.each (rs := [2, 7]) (by kernel_rfl) (by simp) ?_
        refine EachB.cons rfl (fun K hK hB => ?_) ?_
        · skip
          (go_simp; go_at_call 33; refine (laws_toPauli_any d_aP _).mono ?_; rintro e wA1 ⟨rfl, hbA1⟩; have zA1 := hbA1.size; (try simp at zA1); (try (replace yb0 := below_frz hbA1 rfl (World.block_lt_of_cell? _ _ xb0) yb0; replace xb0 := below_cell hbA1 rfl xb0; replace yb1 := below_frz hbA1 rfl (World.block_lt_of_cell? _ _ xb1) yb1; replace xb1 := below_cell hbA1 rfl xb1; replace yb2 := below_frz hbA1 rfl (World.block_lt_of_cell? _ _ xb2) yb2; replace xb2 := below_cell hbA1 rfl xb2)); dsimp only)
          refine hK.out _ _ ?_ (fun hHeld1 => ?_)
          · ((try dsimp only); (first | (exact ⟨cell_drew c_paP0, cell_drew c_paP1, cell_drew c_paP2, cell_drew c_x00, cell_drew c_x01, cell_drew c_x02⟩) | (go_split_ands; refine ⟨?_, ?_, ?_, ?_, ?_, ?_⟩ <;> first | assumption | (refine cell_alloc_keep _ ?_; assumption) | (refine below_cell hbC rfl ?_; assumption) | (refine below_cell hbA1 rfl ?_; assumption))))
          clear hB hK K hHeld0
          refine AnyB.each (rs := [3, 7]) (by kernel_rfl) (by simp) ?_
          refine EachB.cons rfl (fun K hK hB => ?_) ?_
          · skip
            (go_simp; go_at_call 34; refine (impl_ImageOf_any d_aT d_aP _ _ _ (Rd.below (Ox00.out).rd (by repeat (first | (with_reducible exact Below.refl _ _) | (with_reducible assumption) | (with_reducible refine Below.drew ?_) | (with_reducible refine below_drewN ?_ _) | (with_reducible refine Below.alloc ?_ (by first | omega | (simp <;> omega)) _) | (with_reducible refine Below.setCell ?_ (by first | omega | (simp <;> omega)) _) | (with_reducible refine Below.trans ?_ (Below.mono (by with_reducible assumption) (by first | omega | (simp <;> omega)))))) rfl) (Rd.below (Ox01.out).rd (by repeat (first | (with_reducible exact Below.refl _ _) | (with_reducible assumption) | (with_reducible refine Below.drew ?_) | (with_reducible refine below_drewN ?_ _) | (with_reducible refine Below.alloc ?_ (by first | omega | (simp <;> omega)) _) | (with_reducible refine Below.setCell ?_ (by first | omega | (simp <;> omega)) _) | (with_reducible refine Below.trans ?_ (Below.mono (by with_reducible assumption) (by first | omega | (simp <;> omega)))))) rfl) LEN_aT0 LEN_aT1).mono ?_; rw [← Hr.out]; rintro e wC ⟨rfl, hbC⟩; have zC := hbC.size; (try simp at zC); (try (replace yb0 := below_frz hbC rfl (World.block_lt_of_cell? _ _ xb0) yb0; replace xb0 := below_cell hbC rfl xb0; replace yb1 := below_frz hbC rfl (World.block_lt_of_cell? _ _ xb1) yb1; replace xb1 := below_cell hbC rfl xb1; replace yb2 := below_frz hbC rfl (World.block_lt_of_cell? _ _ xb2) yb2; replace xb2 := below_cell hbC rfl xb2)); dsimp only)
            refine hK.out _ _ ?_ (fun hHeld2 => ?_)
            · ((try dsimp only); (first | (exact ⟨cell_drew c_paP0, cell_drew c_paP1, cell_drew c_paP2, cell_drew c_x00, cell_drew c_x01, cell_drew c_x02⟩) | (go_split_ands; refine ⟨?_, ?_, ?_, ?_, ?_, ?_⟩ <;> first | assumption | (refine cell_alloc_keep _ ?_; assumption) | (refine below_cell hbC rfl ?_; assumption) | (refine below_cell hbA1 rfl ?_; assumption))))
            clear hB hK K hHeld1
            refine AnyB.takeQ (i := 4) (oi := _) (v := ?_) (by simp only [List.getElem?_toArray, List.getElem?_cons_zero, List.getElem?_cons_succ]; rfl) (by kernel_rfl) (by kernel_rfl) (by kernel_rfl) (by intro _ _ _ h; exact h) (Or.inl ⟨by rfl, ?_⟩) ?_
            rotate_left
            · (intro w hSw; (try dsimp only at hSw); go_simp; (try (with_reducible rfl)))
            try simp only [Act.put, List.setIfInBounds_toArray, List.set_cons_zero, List.set_cons_succ]
            refine AnyB.takeQ (i := 5) (oi := _) (v := ?_) (by simp only [List.getElem?_toArray, List.getElem?_cons_zero, List.getElem?_cons_succ]; rfl) (by kernel_rfl) (by kernel_rfl) (by kernel_rfl) (by intro _ _ _ h; exact h) (Or.inl ⟨by rfl, ?_⟩) ?_
            rotate_left
            · (intro w hSw; (try dsimp only at hSw); go_simp; (try (with_reducible rfl)))
            try simp only [Act.put, List.setIfInBounds_toArray, List.set_cons_zero, List.set_cons_succ]
            refine AnyB.takeQ (i := 6) (oi := _) (v := ?_) (by simp only [List.getElem?_toArray, List.getElem?_cons_zero, List.getElem?_cons_succ]; rfl) (by kernel_rfl) (by kernel_rfl) (by kernel_rfl) (by intro _ _ _ h; exact h) (Or.inl ⟨by rfl, ?_⟩) ?_
            rotate_left
            · (intro w hSw; (try dsimp only at hSw); go_simp; (try (with_reducible rfl)))
            try simp only [Act.put, List.setIfInBounds_toArray, List.set_cons_zero, List.set_cons_succ]
            refine AnyB.each (rs := [7]) (by kernel_rfl) (by simp) ?_
            refine EachB.cons rfl (fun K hK hB => ?_) ?_
            · skip
              (go_simp; first | (have xb0 := new_cell wC #[.int .i64 0, .int .i64 0, .int .i64 0] 54 0 (.int .i64 0) rfl; have yb0 := new_frz wC #[.int .i64 0, .int .i64 0, .int .i64 0] 54 0; have xb1 := new_cell wC #[.int .i64 0, .int .i64 0, .int .i64 0] 54 1 (.int .i64 0) rfl; have yb1 := new_frz wC #[.int .i64 0, .int .i64 0, .int .i64 0] 54 1; have xb2 := new_cell wC #[.int .i64 0, .int .i64 0, .int .i64 0] 54 2 (.int .i64 0) rfl; have yb2 := new_frz wC #[.int .i64 0, .int .i64 0, .int .i64 0] 54 2) | (have xb0 := new_cell wA1 #[.int .i64 0, .int .i64 0, .int .i64 0] 54 0 (.int .i64 0) rfl; have yb0 := new_frz wA1 #[.int .i64 0, .int .i64 0, .int .i64 0] 54 0; have xb1 := new_cell wA1 #[.int .i64 0, .int .i64 0, .int .i64 0] 54 1 (.int .i64 0) rfl; have yb1 := new_frz wA1 #[.int .i64 0, .int .i64 0, .int .i64 0] 54 1; have xb2 := new_cell wA1 #[.int .i64 0, .int .i64 0, .int .i64 0] 54 2 (.int .i64 0) rfl; have yb2 := new_frz wA1 #[.int .i64 0, .int .i64 0, .int .i64 0] 54 2) | (have xb0 : ((wg4.alloc (.cells #[.int .i64 0, .int .i64 0, .int .i64 0] 54)).drew).cell? ⟨wg4.heap.size, 0, none⟩ = some (.int .i64 0) := new_cell wg4 #[.int .i64 0, .int .i64 0, .int .i64 0] 54 0 (.int .i64 0) rfl; have yb0 : ((wg4.alloc (.cells #[.int .i64 0, .int .i64 0, .int .i64 0] 54)).drew).frozen? ⟨wg4.heap.size, 0, none⟩ = false := new_frz wg4 #[.int .i64 0, .int .i64 0, .int .i64 0] 54 0; have xb1 : ((wg4.alloc (.cells #[.int .i64 0, .int .i64 0, .int .i64 0] 54)).drew).cell? ⟨wg4.heap.size, 1, none⟩ = some (.int .i64 0) := new_cell wg4 #[.int .i64 0, .int .i64 0, .int .i64 0] 54 1 (.int .i64 0) rfl; have yb1 : ((wg4.alloc (.cells #[.int .i64 0, .int .i64 0, .int .i64 0] 54)).drew).frozen? ⟨wg4.heap.size, 1, none⟩ = false := new_frz wg4 #[.int .i64 0, .int .i64 0, .int .i64 0] 54 1; have xb2 : ((wg4.alloc (.cells #[.int .i64 0, .int .i64 0, .int .i64 0] 54)).drew).cell? ⟨wg4.heap.size, 2, none⟩ = some (.int .i64 0) := new_cell wg4 #[.int .i64 0, .int .i64 0, .int .i64 0] 54 2 (.int .i64 0) rfl; have yb2 : ((wg4.alloc (.cells #[.int .i64 0, .int .i64 0, .int .i64 0] 54)).drew).frozen? ⟨wg4.heap.size, 2, none⟩ = false := new_frz wg4 #[.int .i64 0, .int .i64 0, .int .i64 0] 54 2))
              refine hK.out _ _ ?_ (fun hHeld3 => ?_)
              · ((try dsimp only); (first | (exact ⟨cell_drew c_paP0, cell_drew c_paP1, cell_drew c_paP2, cell_drew c_x00, cell_drew c_x01, cell_drew c_x02⟩) | (go_split_ands; refine ⟨?_, ?_, ?_, ?_, ?_, ?_⟩ <;> first | assumption | (refine cell_alloc_keep _ ?_; assumption) | (refine below_cell hbC rfl ?_; assumption) | (refine below_cell hbA1 rfl ?_; assumption))))
              clear hB hK K hHeld2
              refine AnyB.each (rs := [8]) (by kernel_rfl) (by simp) ?_
              refine EachB.cons rfl (fun K hK hB => ?_) ?_
              · skip
                go_simp
                refine hB.out _ _ rfl ?_
                clear hB hK K
                refine AnyB.takeQ (i := 9) (oi := _) (v := ?_) (by simp only [List.getElem?_toArray, List.getElem?_cons_zero, List.getElem?_cons_succ]; rfl) (by kernel_rfl) (by kernel_rfl) (by kernel_rfl) (by intro _ _ _ h; exact h) (Or.inl ⟨by rfl, ?_⟩) ?_
                rotate_left
                · (intro w hSw; (try dsimp only at hSw); go_simp; (try (with_reducible rfl)))
                try simp only [Act.put, List.setIfInBounds_toArray, List.set_cons_zero, List.set_cons_succ]
                refine AnyB.none (by kernel_rfl) ?_ _
                go_wp2_with fail
                go_meet
                refine ⟨_, rfl, rfl, ?_, ?_, ?_, (by repeat (first | (with_reducible exact Below.refl _ _) | (with_reducible assumption) | (with_reducible refine Below.drew ?_) | (with_reducible refine below_drewN ?_ _) | (with_reducible refine Below.alloc ?_ (by first | omega | (simp <;> omega)) _) | (with_reducible refine Below.setCell ?_ (by first | omega | (simp <;> omega)) _) | (with_reducible refine Below.trans ?_ (Below.mono (by with_reducible assumption) (by first | omega | (simp <;> omega))))))⟩
                · first | (with_reducible exact new_cell _ _ _ 0 _ rfl) | exact (box_set3 _ _ _ xb0 xb1 xb2).1
                · first | (with_reducible exact new_cell _ _ _ 1 _ rfl) | exact (box_set3 _ _ _ xb0 xb1 xb2).2.1
                · first | (with_reducible exact new_cell _ _ _ 2 _ rfl) | exact (box_set3 _ _ _ xb0 xb1 xb2).2.2
              exact EachB.nil
            exact EachB.nil
          refine EachB.cons rfl (fun K hK hB => ?_) ?_
          · skip
            (go_simp; first | (have xb0 := new_cell wC #[.int .i64 0, .int .i64 0, .int .i64 0] 54 0 (.int .i64 0) rfl; have yb0 := new_frz wC #[.int .i64 0, .int .i64 0, .int .i64 0] 54 0; have xb1 := new_cell wC #[.int .i64 0, .int .i64 0, .int .i64 0] 54 1 (.int .i64 0) rfl; have yb1 := new_frz wC #[.int .i64 0, .int .i64 0, .int .i64 0] 54 1; have xb2 := new_cell wC #[.int .i64 0, .int .i64 0, .int .i64 0] 54 2 (.int .i64 0) rfl; have yb2 := new_frz wC #[.int .i64 0, .int .i64 0, .int .i64 0] 54 2) | (have xb0 := new_cell wA1 #[.int .i64 0, .int .i64 0, .int .i64 0] 54 0 (.int .i64 0) rfl; have yb0 := new_frz wA1 #[.int .i64 0, .int .i64 0, .int .i64 0] 54 0; have xb1 := new_cell wA1 #[.int .i64 0, .int .i64 0, .int .i64 0] 54 1 (.int .i64 0) rfl; have yb1 := new_frz wA1 #[.int .i64 0, .int .i64 0, .int .i64 0] 54 1; have xb2 := new_cell wA1 #[.int .i64 0, .int .i64 0, .int .i64 0] 54 2 (.int .i64 0) rfl; have yb2 := new_frz wA1 #[.int .i64 0, .int .i64 0, .int .i64 0] 54 2) | (have xb0 : ((wg4.alloc (.cells #[.int .i64 0, .int .i64 0, .int .i64 0] 54)).drew).cell? ⟨wg4.heap.size, 0, none⟩ = some (.int .i64 0) := new_cell wg4 #[.int .i64 0, .int .i64 0, .int .i64 0] 54 0 (.int .i64 0) rfl; have yb0 : ((wg4.alloc (.cells #[.int .i64 0, .int .i64 0, .int .i64 0] 54)).drew).frozen? ⟨wg4.heap.size, 0, none⟩ = false := new_frz wg4 #[.int .i64 0, .int .i64 0, .int .i64 0] 54 0; have xb1 : ((wg4.alloc (.cells #[.int .i64 0, .int .i64 0, .int .i64 0] 54)).drew).cell? ⟨wg4.heap.size, 1, none⟩ = some (.int .i64 0) := new_cell wg4 #[.int .i64 0, .int .i64 0, .int .i64 0] 54 1 (.int .i64 0) rfl; have yb1 : ((wg4.alloc (.cells #[.int .i64 0, .int .i64 0, .int .i64 0] 54)).drew).frozen? ⟨wg4.heap.size, 1, none⟩ = false := new_frz wg4 #[.int .i64 0, .int .i64 0, .int .i64 0] 54 1; have xb2 : ((wg4.alloc (.cells #[.int .i64 0, .int .i64 0, .int .i64 0] 54)).drew).cell? ⟨wg4.heap.size, 2, none⟩ = some (.int .i64 0) := new_cell wg4 #[.int .i64 0, .int .i64 0, .int .i64 0] 54 2 (.int .i64 0) rfl; have yb2 : ((wg4.alloc (.cells #[.int .i64 0, .int .i64 0, .int .i64 0] 54)).drew).frozen? ⟨wg4.heap.size, 2, none⟩ = false := new_frz wg4 #[.int .i64 0, .int .i64 0, .int .i64 0] 54 2))
            refine hK.out _ _ ?_ (fun hHeld4 => ?_)
            · ((try dsimp only); (first | (exact ⟨cell_drew c_paP0, cell_drew c_paP1, cell_drew c_paP2, cell_drew c_x00, cell_drew c_x01, cell_drew c_x02⟩) | (go_split_ands; refine ⟨?_, ?_, ?_, ?_, ?_, ?_⟩ <;> first | assumption | (refine cell_alloc_keep _ ?_; assumption) | (refine below_cell hbC rfl ?_; assumption) | (refine below_cell hbA1 rfl ?_; assumption))))
            clear hB hK K hHeld1
            refine AnyB.each (rs := [3]) (by kernel_rfl) (by simp) ?_
            refine EachB.cons rfl (fun K hK hB => ?_) ?_
            · skip
              (go_simp; go_at_call 34; refine (impl_ImageOf_any d_aT d_aP _ _ _ (Rd.below (Ox00.out).rd (by repeat (first | (with_reducible exact Below.refl _ _) | (with_reducible assumption) | (with_reducible refine Below.drew ?_) | (with_reducible refine below_drewN ?_ _) | (with_reducible refine Below.alloc ?_ (by first | omega | (simp <;> omega)) _) | (with_reducible refine Below.setCell ?_ (by first | omega | (simp <;> omega)) _) | (with_reducible refine Below.trans ?_ (Below.mono (by with_reducible assumption) (by first | omega | (simp <;> omega)))))) rfl) (Rd.below (Ox01.out).rd (by repeat (first | (with_reducible exact Below.refl _ _) | (with_reducible assumption) | (with_reducible refine Below.drew ?_) | (with_reducible refine below_drewN ?_ _) | (with_reducible refine Below.alloc ?_ (by first | omega | (simp <;> omega)) _) | (with_reducible refine Below.setCell ?_ (by first | omega | (simp <;> omega)) _) | (with_reducible refine Below.trans ?_ (Below.mono (by with_reducible assumption) (by first | omega | (simp <;> omega)))))) rfl) LEN_aT0 LEN_aT1).mono ?_; rw [← Hr.out]; rintro e wC ⟨rfl, hbC⟩; have zC := hbC.size; (try simp at zC); (try (replace yb0 := below_frz hbC rfl (World.block_lt_of_cell? _ _ xb0) yb0; replace xb0 := below_cell hbC rfl xb0; replace yb1 := below_frz hbC rfl (World.block_lt_of_cell? _ _ xb1) yb1; replace xb1 := below_cell hbC rfl xb1; replace yb2 := below_frz hbC rfl (World.block_lt_of_cell? _ _ xb2) yb2; replace xb2 := below_cell hbC rfl xb2)); dsimp only)
              refine hK.out _ _ ?_ (fun hHeld5 => ?_)
              · ((try dsimp only); (first | (exact ⟨cell_drew c_paP0, cell_drew c_paP1, cell_drew c_paP2, cell_drew c_x00, cell_drew c_x01, cell_drew c_x02⟩) | (go_split_ands; refine ⟨?_, ?_, ?_, ?_, ?_, ?_⟩ <;> first | assumption | (refine cell_alloc_keep _ ?_; assumption) | (refine below_cell hbC rfl ?_; assumption) | (refine below_cell hbA1 rfl ?_; assumption))))
              clear hB hK K hHeld4
              refine AnyB.takeQ (i := 4) (oi := _) (v := ?_) (by simp only [List.getElem?_toArray, List.getElem?_cons_zero, List.getElem?_cons_succ]; rfl) (by kernel_rfl) (by kernel_rfl) (by kernel_rfl) (by intro _ _ _ h; exact h) (Or.inl ⟨by rfl, ?_⟩) ?_
              rotate_left
              · (intro w hSw; (try dsimp only at hSw); go_simp; (try (with_reducible rfl)))
              try simp only [Act.put, List.setIfInBounds_toArray, List.set_cons_zero, List.set_cons_succ]
              refine AnyB.takeQ (i := 5) (oi := _) (v := ?_) (by simp only [List.getElem?_toArray, List.getElem?_cons_zero, List.getElem?_cons_succ]; rfl) (by kernel_rfl) (by kernel_rfl) (by kernel_rfl) (by intro _ _ _ h; exact h) (Or.inl ⟨by rfl, ?_⟩) ?_
              rotate_left
              · (intro w hSw; (try dsimp only at hSw); go_simp; (try (with_reducible rfl)))
              try simp only [Act.put, List.setIfInBounds_toArray, List.set_cons_zero, List.set_cons_succ]
              refine AnyB.takeQ (i := 6) (oi := _) (v := ?_) (by simp only [List.getElem?_toArray, List.getElem?_cons_zero, List.getElem?_cons_succ]; rfl) (by kernel_rfl) (by kernel_rfl) (by kernel_rfl) (by intro _ _ _ h; exact h) (Or.inl ⟨by rfl, ?_⟩) ?_
              rotate_left
              · (intro w hSw; (try dsimp only at hSw); go_simp; (try (with_reducible rfl)))
              try simp only [Act.put, List.setIfInBounds_toArray, List.set_cons_zero, List.set_cons_succ]
              refine AnyB.each (rs := [8]) (by kernel_rfl) (by simp) ?_
              refine EachB.cons rfl (fun K hK hB => ?_) ?_
              · skip
                go_simp
                refine hB.out _ _ rfl ?_
                clear hB hK K
                refine AnyB.takeQ (i := 9) (oi := _) (v := ?_) (by simp only [List.getElem?_toArray, List.getElem?_cons_zero, List.getElem?_cons_succ]; rfl) (by kernel_rfl) (by kernel_rfl) (by kernel_rfl) (by intro _ _ _ h; exact h) (Or.inl ⟨by rfl, ?_⟩) ?_
                rotate_left
                · (intro w hSw; (try dsimp only at hSw); go_simp; (try (with_reducible rfl)))
                try simp only [Act.put, List.setIfInBounds_toArray, List.set_cons_zero, List.set_cons_succ]
                refine AnyB.none (by kernel_rfl) ?_ _
                go_wp2_with fail
                go_meet
                refine ⟨_, rfl, rfl, ?_, ?_, ?_, (by repeat (first | (with_reducible exact Below.refl _ _) | (with_reducible assumption) | (with_reducible refine Below.drew ?_) | (with_reducible refine below_drewN ?_ _) | (with_reducible refine Below.alloc ?_ (by first | omega | (simp <;> omega)) _) | (with_reducible refine Below.setCell ?_ (by first | omega | (simp <;> omega)) _) | (with_reducible refine Below.trans ?_ (Below.mono (by with_reducible assumption) (by first | omega | (simp <;> omega))))))⟩
                · first | (with_reducible exact new_cell _ _ _ 0 _ rfl) | exact (box_set3 _ _ _ xb0 xb1 xb2).1
                · first | (with_reducible exact new_cell _ _ _ 1 _ rfl) | exact (box_set3 _ _ _ xb0 xb1 xb2).2.1
                · first | (with_reducible exact new_cell _ _ _ 2 _ rfl) | exact (box_set3 _ _ _ xb0 xb1 xb2).2.2
              exact EachB.nil
            exact EachB.nil
          exact EachB.nil
        refine EachB.cons rfl (fun K hK hB => ?_) ?_
        · skip
          (go_simp; first | (have xb0 := new_cell wC #[.int .i64 0, .int .i64 0, .int .i64 0] 54 0 (.int .i64 0) rfl; have yb0 := new_frz wC #[.int .i64 0, .int .i64 0, .int .i64 0] 54 0; have xb1 := new_cell wC #[.int .i64 0, .int .i64 0, .int .i64 0] 54 1 (.int .i64 0) rfl; have yb1 := new_frz wC #[.int .i64 0, .int .i64 0, .int .i64 0] 54 1; have xb2 := new_cell wC #[.int .i64 0, .int .i64 0, .int .i64 0] 54 2 (.int .i64 0) rfl; have yb2 := new_frz wC #[.int .i64 0, .int .i64 0, .int .i64 0] 54 2) | (have xb0 := new_cell wA1 #[.int .i64 0, .int .i64 0, .int .i64 0] 54 0 (.int .i64 0) rfl; have yb0 := new_frz wA1 #[.int .i64 0, .int .i64 0, .int .i64 0] 54 0; have xb1 := new_cell wA1 #[.int .i64 0, .int .i64 0, .int .i64 0] 54 1 (.int .i64 0) rfl; have yb1 := new_frz wA1 #[.int .i64 0, .int .i64 0, .int .i64 0] 54 1; have xb2 := new_cell wA1 #[.int .i64 0, .int .i64 0, .int .i64 0] 54 2 (.int .i64 0) rfl; have yb2 := new_frz wA1 #[.int .i64 0, .int .i64 0, .int .i64 0] 54 2) | (have xb0 : ((wg4.alloc (.cells #[.int .i64 0, .int .i64 0, .int .i64 0] 54)).drew).cell? ⟨wg4.heap.size, 0, none⟩ = some (.int .i64 0) := new_cell wg4 #[.int .i64 0, .int .i64 0, .int .i64 0] 54 0 (.int .i64 0) rfl; have yb0 : ((wg4.alloc (.cells #[.int .i64 0, .int .i64 0, .int .i64 0] 54)).drew).frozen? ⟨wg4.heap.size, 0, none⟩ = false := new_frz wg4 #[.int .i64 0, .int .i64 0, .int .i64 0] 54 0; have xb1 : ((wg4.alloc (.cells #[.int .i64 0, .int .i64 0, .int .i64 0] 54)).drew).cell? ⟨wg4.heap.size, 1, none⟩ = some (.int .i64 0) := new_cell wg4 #[.int .i64 0, .int .i64 0, .int .i64 0] 54 1 (.int .i64 0) rfl; have yb1 : ((wg4.alloc (.cells #[.int .i64 0, .int .i64 0, .int .i64 0] 54)).drew).frozen? ⟨wg4.heap.size, 1, none⟩ = false := new_frz wg4 #[.int .i64 0, .int .i64 0, .int .i64 0] 54 1; have xb2 : ((wg4.alloc (.cells #[.int .i64 0, .int .i64 0, .int .i64 0] 54)).drew).cell? ⟨wg4.heap.size, 2, none⟩ = some (.int .i64 0) := new_cell wg4 #[.int .i64 0, .int .i64 0, .int .i64 0] 54 2 (.int .i64 0) rfl; have yb2 : ((wg4.alloc (.cells #[.int .i64 0, .int .i64 0, .int .i64 0] 54)).drew).frozen? ⟨wg4.heap.size, 2, none⟩ = false := new_frz wg4 #[.int .i64 0, .int .i64 0, .int .i64 0] 54 2))
          refine hK.out _ _ ?_ (fun hHeld6 => ?_)
          · ((try dsimp only); (first | (exact ⟨cell_drew c_paP0, cell_drew c_paP1, cell_drew c_paP2, cell_drew c_x00, cell_drew c_x01, cell_drew c_x02⟩) | (go_split_ands; refine ⟨?_, ?_, ?_, ?_, ?_, ?_⟩ <;> first | assumption | (refine cell_alloc_keep _ ?_; assumption) | (refine below_cell hbC rfl ?_; assumption) | (refine below_cell hbA1 rfl ?_; assumption))))
          clear hB hK K hHeld0
          refine AnyB.each (rs := [2]) (by kernel_rfl) (by simp) ?_
          refine EachB.cons rfl (fun K hK hB => ?_) ?_
          · skip
            (go_simp; go_at_call 33; refine (laws_toPauli_any d_aP _).mono ?_; rintro e wA1 ⟨rfl, hbA1⟩; have zA1 := hbA1.size; (try simp at zA1); (try (replace yb0 := below_frz hbA1 rfl (World.block_lt_of_cell? _ _ xb0) yb0; replace xb0 := below_cell hbA1 rfl xb0; replace yb1 := below_frz hbA1 rfl (World.block_lt_of_cell? _ _ xb1) yb1; replace xb1 := below_cell hbA1 rfl xb1; replace yb2 := below_frz hbA1 rfl (World.block_lt_of_cell? _ _ xb2) yb2; replace xb2 := below_cell hbA1 rfl xb2)); dsimp only)
            refine hK.out _ _ ?_ (fun hHeld7 => ?_)
            · ((try dsimp only); (first | (exact ⟨cell_drew c_paP0, cell_drew c_paP1, cell_drew c_paP2, cell_drew c_x00, cell_drew c_x01, cell_drew c_x02⟩) | (go_split_ands; refine ⟨?_, ?_, ?_, ?_, ?_, ?_⟩ <;> first | assumption | (refine cell_alloc_keep _ ?_; assumption) | (refine below_cell hbC rfl ?_; assumption) | (refine below_cell hbA1 rfl ?_; assumption))))
            clear hB hK K hHeld6
            refine AnyB.each (rs := [3]) (by kernel_rfl) (by simp) ?_
            refine EachB.cons rfl (fun K hK hB => ?_) ?_
            · skip
              (go_simp; go_at_call 34; refine (impl_ImageOf_any d_aT d_aP _ _ _ (Rd.below (Ox00.out).rd (by repeat (first | (with_reducible exact Below.refl _ _) | (with_reducible assumption) | (with_reducible refine Below.drew ?_) | (with_reducible refine below_drewN ?_ _) | (with_reducible refine Below.alloc ?_ (by first | omega | (simp <;> omega)) _) | (with_reducible refine Below.setCell ?_ (by first | omega | (simp <;> omega)) _) | (with_reducible refine Below.trans ?_ (Below.mono (by with_reducible assumption) (by first | omega | (simp <;> omega)))))) rfl) (Rd.below (Ox01.out).rd (by repeat (first | (with_reducible exact Below.refl _ _) | (with_reducible assumption) | (with_reducible refine Below.drew ?_) | (with_reducible refine below_drewN ?_ _) | (with_reducible refine Below.alloc ?_ (by first | omega | (simp <;> omega)) _) | (with_reducible refine Below.setCell ?_ (by first | omega | (simp <;> omega)) _) | (with_reducible refine Below.trans ?_ (Below.mono (by with_reducible assumption) (by first | omega | (simp <;> omega)))))) rfl) LEN_aT0 LEN_aT1).mono ?_; rw [← Hr.out]; rintro e wC ⟨rfl, hbC⟩; have zC := hbC.size; (try simp at zC); (try (replace yb0 := below_frz hbC rfl (World.block_lt_of_cell? _ _ xb0) yb0; replace xb0 := below_cell hbC rfl xb0; replace yb1 := below_frz hbC rfl (World.block_lt_of_cell? _ _ xb1) yb1; replace xb1 := below_cell hbC rfl xb1; replace yb2 := below_frz hbC rfl (World.block_lt_of_cell? _ _ xb2) yb2; replace xb2 := below_cell hbC rfl xb2)); dsimp only)
              refine hK.out _ _ ?_ (fun hHeld8 => ?_)
              · ((try dsimp only); (first | (exact ⟨cell_drew c_paP0, cell_drew c_paP1, cell_drew c_paP2, cell_drew c_x00, cell_drew c_x01, cell_drew c_x02⟩) | (go_split_ands; refine ⟨?_, ?_, ?_, ?_, ?_, ?_⟩ <;> first | assumption | (refine cell_alloc_keep _ ?_; assumption) | (refine below_cell hbC rfl ?_; assumption) | (refine below_cell hbA1 rfl ?_; assumption))))
              clear hB hK K hHeld7
              refine AnyB.takeQ (i := 4) (oi := _) (v := ?_) (by simp only [List.getElem?_toArray, List.getElem?_cons_zero, List.getElem?_cons_succ]; rfl) (by kernel_rfl) (by kernel_rfl) (by kernel_rfl) (by intro _ _ _ h; exact h) (Or.inl ⟨by rfl, ?_⟩) ?_
              rotate_left
              · (intro w hSw; (try dsimp only at hSw); go_simp; (try (with_reducible rfl)))
              try simp only [Act.put, List.setIfInBounds_toArray, List.set_cons_zero, List.set_cons_succ]
              refine AnyB.takeQ (i := 5) (oi := _) (v := ?_) (by simp only [List.getElem?_toArray, List.getElem?_cons_zero, List.getElem?_cons_succ]; rfl) (by kernel_rfl) (by kernel_rfl) (by kernel_rfl) (by intro _ _ _ h; exact h) (Or.inl ⟨by rfl, ?_⟩) ?_
              rotate_left
              · (intro w hSw; (try dsimp only at hSw); go_simp; (try (with_reducible rfl)))
              try simp only [Act.put, List.setIfInBounds_toArray, List.set_cons_zero, List.set_cons_succ]
              refine AnyB.takeQ (i := 6) (oi := _) (v := ?_) (by simp only [List.getElem?_toArray, List.getElem?_cons_zero, List.getElem?_cons_succ]; rfl) (by kernel_rfl) (by kernel_rfl) (by kernel_rfl) (by intro _ _ _ h; exact h) (Or.inl ⟨by rfl, ?_⟩) ?_
              rotate_left
              · (intro w hSw; (try dsimp only at hSw); go_simp; (try (with_reducible rfl)))
              try simp only [Act.put, List.setIfInBounds_toArray, List.set_cons_zero, List.set_cons_succ]
              refine AnyB.each (rs := [8]) (by kernel_rfl) (by simp) ?_
              refine EachB.cons rfl (fun K hK hB => ?_) ?_
              · skip
                go_simp
                refine hB.out _ _ rfl ?_
                clear hB hK K
                refine AnyB.takeQ (i := 9) (oi := _) (v := ?_) (by simp only [List.getElem?_toArray, List.getElem?_cons_zero, List.getElem?_cons_succ]; rfl) (by kernel_rfl) (by kernel_rfl) (by kernel_rfl) (by intro _ _ _ h; exact h) (Or.inl ⟨by rfl, ?_⟩) ?_
                rotate_left
                · (intro w hSw; (try dsimp only at hSw); go_simp; (try (with_reducible rfl)))
                try simp only [Act.put, List.setIfInBounds_toArray, List.set_cons_zero, List.set_cons_succ]
                refine AnyB.none (by kernel_rfl) ?_ _
                go_wp2_with fail
                go_meet
                refine ⟨_, rfl, rfl, ?_, ?_, ?_, (by repeat (first | (with_reducible exact Below.refl _ _) | (with_reducible assumption) | (with_reducible refine Below.drew ?_) | (with_reducible refine below_drewN ?_ _) | (with_reducible refine Below.alloc ?_ (by first | omega | (simp <;> omega)) _) | (with_reducible refine Below.setCell ?_ (by first | omega | (simp <;> omega)) _) | (with_reducible refine Below.trans ?_ (Below.mono (by with_reducible assumption) (by first | omega | (simp <;> omega))))))⟩
                · first | (with_reducible exact new_cell _ _ _ 0 _ rfl) | exact (box_set3 _ _ _ xb0 xb1 xb2).1
                · first | (with_reducible exact new_cell _ _ _ 1 _ rfl) | exact (box_set3 _ _ _ xb0 xb1 xb2).2.1
                · first | (with_reducible exact new_cell _ _ _ 2 _ rfl) | exact (box_set3 _ _ _ xb0 xb1 xb2).2.2
              exact EachB.nil
            exact EachB.nil
          exact EachB.nil
        exact EachB.nil
      case rest =>
        obtain ⟨gg0, rfl, rfl, c_g00, c_g01, c_g02, hb5⟩ := hcut
        replace Ox00 := Lib.hid (show OwnE wc (w.heap.size) 54 (.slice ax00 ((d_aT).xs).length capx00) E3.cs 3 ((d_aT).xs) from OwnE.below Ox00.out hb5 rfl)
        replace Ox01 := Lib.hid (show OwnE wc (w.heap.size) 54 (.slice ax01 ((d_aT).zs).length capx01) E3.cs 3 ((d_aT).zs) from OwnE.below Ox01.out hb5 rfl)
        replace c_paT0 := below_cell hb5 rfl c_paT0
        replace c_paT1 := below_cell hb5 rfl c_paT1
        replace c_paT2 := below_cell hb5 rfl c_paT2
        replace c_paP0 := below_cell hb5 rfl c_paP0
        replace c_paP1 := below_cell hb5 rfl c_paP1
        replace c_paP2 := below_cell hb5 rfl c_paP2
        replace c_w00 := below_cell hb5 rfl c_w00
        replace c_w01 := below_cell hb5 rfl c_w01
        replace c_w02 := below_cell hb5 rfl c_w02
        replace c_x00 := below_cell hb5 rfl c_x00
        replace c_x01 := below_cell hb5 rfl c_x01
        replace c_x02 := below_cell hb5 rfl c_x02
        have BB5 : Below w.heap.size w wc := below_step BB4 hb5
        have ZZ5 : wg4.heap.size ≤ wc.heap.size := hb5.size
        clear LT4_0 LT4_1 LT4_2 LT4_3
        clear hb5 BB4
        have LT5_0 : w.heap.size < wc.heap.size := World.block_lt_of_cell? wc _ c_paT0
        have LT5_1 : w.heap.size + 1 < wc.heap.size := World.block_lt_of_cell? wc _ c_paP0
        have LT5_2 : gw0 < wc.heap.size := World.block_lt_of_cell? wc _ c_w00
        have LT5_3 : w3.heap.size < wc.heap.size := World.block_lt_of_cell? wc _ c_x00
        have LT5_4 : gg0 < wc.heap.size := World.block_lt_of_cell? wc _ c_g00
        generalize wc = w5 at *
        have PG_g0 : gg0 < w5.heap.size := World.block_lt_of_cell? w5 _ c_g00
        go_wp2_with fail
        refine (laws_eqPauli_any _ _ _).mono ?_; rintro e w6 ⟨rfl, hb6⟩
        rw [show decide ((r.getD ⟨0, 0, 0⟩) = (r.getD ⟨0, 0, 0⟩)) = true from decide_eq_true rfl]
        replace Ox00 := Lib.hid (show OwnE w6 (w.heap.size) 54 (.slice ax00 ((d_aT).xs).length capx00) E3.cs 3 ((d_aT).xs) from OwnE.below Ox00.out hb6 rfl)
        replace Ox01 := Lib.hid (show OwnE w6 (w.heap.size) 54 (.slice ax01 ((d_aT).zs).length capx01) E3.cs 3 ((d_aT).zs) from OwnE.below Ox01.out hb6 rfl)
        replace c_paT0 := below_cell hb6 rfl c_paT0
        replace c_paT1 := below_cell hb6 rfl c_paT1
        replace c_paT2 := below_cell hb6 rfl c_paT2
        replace c_paP0 := below_cell hb6 rfl c_paP0
        replace c_paP1 := below_cell hb6 rfl c_paP1
        replace c_paP2 := below_cell hb6 rfl c_paP2
        replace c_w00 := below_cell hb6 rfl c_w00
        replace c_w01 := below_cell hb6 rfl c_w01
        replace c_w02 := below_cell hb6 rfl c_w02
        replace c_x00 := below_cell hb6 rfl c_x00
        replace c_x01 := below_cell hb6 rfl c_x01
        replace c_x02 := below_cell hb6 rfl c_x02
        replace c_g00 := below_cell hb6 rfl c_g00
        replace c_g01 := below_cell hb6 rfl c_g01
        replace c_g02 := below_cell hb6 rfl c_g02
        have BB6 : Below w.heap.size w w6 := below_step BB5 hb6
        have ZZ6 : w5.heap.size ≤ w6.heap.size := by have := hb6.size; (try simp at this); omega
        clear LT5_0 LT5_1 LT5_2 LT5_3 LT5_4
        have LT6_0 : w.heap.size < w6.heap.size := World.block_lt_of_cell? w6 _ c_paT0
        have LT6_1 : w.heap.size + 1 < w6.heap.size := World.block_lt_of_cell? w6 _ c_paP0
        have LT6_2 : gw0 < w6.heap.size := World.block_lt_of_cell? w6 _ c_w00
        have LT6_3 : w3.heap.size < w6.heap.size := World.block_lt_of_cell? w6 _ c_x00
        have LT6_4 : gg0 < w6.heap.size := World.block_lt_of_cell? w6 _ c_g00
        clear hb6 BB5
        go_wp2_with fail
        go_region_held3 (fun w' => w'.cell? ⟨w.heap.size, 0, none⟩ = some (.int .i64 ((d_aT).n)) ∧ w'.cell? ⟨w.heap.size, 1, none⟩ = some (.slice a_aT0 ((d_aT).xs).length cap_aT0) ∧ w'.cell? ⟨w.heap.size, 2, none⟩ = some (.slice a_aT1 ((d_aT).zs).length cap_aT1) ∧ w'.cell? ⟨w3.heap.size, 0, none⟩ = some (.int .i64 ((d_aT).n)) ∧ w'.cell? ⟨w3.heap.size, 1, none⟩ = some (.slice ax00 ((d_aT).xs).length capx00) ∧ w'.cell? ⟨w3.heap.size, 2, none⟩ = some (.slice ax01 ((d_aT).zs).length capx01)) (first | go_keep | (go_split_ands; refine ⟨?_, ?_, ?_, ?_, ?_, ?_⟩ <;> first | assumption | (refine cell_alloc_keep _ ?_; assumption) | (simp [*]; done))) (first | (go_at_call 20; go_must ((have BP6 := Lib.hid (show Below w6.heap.size w6 (w6.drew) from (by repeat (first | exact Below.refl _ _ | assumption | refine Below.drew ?_ | refine below_drewN ?_ _ | refine Below.alloc ?_ (by first | omega | (simp <;> omega)) _ | refine Below.setCell ?_ (by first | omega | (simp <;> omega)) _ | refine Below.trans ?_ (Below.mono (by assumption) (by first | omega | (simp <;> omega))))))); (replace Ox00 := Lib.hid (show OwnE (w6.drew) (w.heap.size) 54 (.slice ax00 ((d_aT).xs).length capx00) E3.cs 3 ((d_aT).xs) from OwnE.below Ox00.out BP6.out rfl)); (replace Ox01 := Lib.hid (show OwnE (w6.drew) (w.heap.size) 54 (.slice ax01 ((d_aT).zs).length capx01) E3.cs 3 ((d_aT).zs) from OwnE.below Ox01.out BP6.out rfl)); (replace c_paT0 : (w6.drew).cell? ⟨w.heap.size, 0, none⟩ = some (.int .i64 ((d_aT).n)) := c_paT0); (replace c_paT1 : (w6.drew).cell? ⟨w.heap.size, 1, none⟩ = some (.slice a_aT0 ((d_aT).xs).length cap_aT0) := c_paT1); (replace c_paT2 : (w6.drew).cell? ⟨w.heap.size, 2, none⟩ = some (.slice a_aT1 ((d_aT).zs).length cap_aT1) := c_paT2); (replace c_paP0 : (w6.drew).cell? ⟨w.heap.size + 1, 0, none⟩ = some (.int .i64 ((d_aP).a)) := c_paP0); (replace c_paP1 : (w6.drew).cell? ⟨w.heap.size + 1, 1, none⟩ = some (.int .i64 ((d_aP).b)) := c_paP1); (replace c_paP2 : (w6.drew).cell? ⟨w.heap.size + 1, 2, none⟩ = some (.int .i64 ((d_aP).c)) := c_paP2); (replace c_w00 : (w6.drew).cell? ⟨gw0, 0, none⟩ = some (.int .i64 (((r.getD ⟨0, 0, 0⟩)).a)) := c_w00); (replace c_w01 : (w6.drew).cell? ⟨gw0, 1, none⟩ = some (.int .i64 (((r.getD ⟨0, 0, 0⟩)).b)) := c_w01); (replace c_w02 : (w6.drew).cell? ⟨gw0, 2, none⟩ = some (.int .i64 (((r.getD ⟨0, 0, 0⟩)).c)) := c_w02); (replace c_x00 : (w6.drew).cell? ⟨w3.heap.size, 0, none⟩ = some (.int .i64 ((d_aT).n)) := c_x00); (replace c_x01 : (w6.drew).cell? ⟨w3.heap.size, 1, none⟩ = some (.slice ax00 ((d_aT).xs).length capx00) := c_x01); (replace c_x02 : (w6.drew).cell? ⟨w3.heap.size, 2, none⟩ = some (.slice ax01 ((d_aT).zs).length capx01) := c_x02); (replace c_g00 : (w6.drew).cell? ⟨gg0, 0, none⟩ = some (.int .i64 (((r.getD ⟨0, 0, 0⟩)).a)) := c_g00); (replace c_g01 : (w6.drew).cell? ⟨gg0, 1, none⟩ = some (.int .i64 (((r.getD ⟨0, 0, 0⟩)).b)) := c_g01); (replace c_g02 : (w6.drew).cell? ⟨gg0, 2, none⟩ = some (.int .i64 (((r.getD ⟨0, 0, 0⟩)).c)) := c_g02); (refine (laws_toTableau_any d_aT _ _ _ (Rd.below HA_aT0.out (below_step BB6 BP6.out) rfl) (Rd.below HA_aT1.out (below_step BB6 BP6.out) rfl) LEN_aT0 LEN_aT1).mono ?_; rintro e w7 ⟨vt10, vt11, rfl, hot10, hot11, hapt1, hb7⟩); (obtain ⟨at10, capt10, rfl⟩ := hot10.forms); (have LL_t10 := Lib.hid (show ∀ g, (Value.slice at10 ((d_aT).xs).length capt10).ownBlock = some g → w6.heap.size ≤ g ∧ g < w7.heap.size from fun g hg => by have := hot10.lt g hg; (try simp at this); omega)); (replace hot10 := OwnE.le hot10 (base' := w.heap.size) (by have := BB6.size; first | omega | (simp; omega))); (obtain ⟨at11, capt11, rfl⟩ := hot11.forms); (have LL_t11 := Lib.hid (show ∀ g, (Value.slice at11 ((d_aT).zs).length capt11).ownBlock = some g → w6.heap.size ≤ g ∧ g < w7.heap.size from fun g hg => by have := hot11.lt g hg; (try simp at this); omega)); (replace hot11 := OwnE.le hot11 (base' := w.heap.size) (by have := BB6.size; first | omega | (simp; omega))); (replace Ox00 := Lib.hid (show OwnE w7 (w.heap.size) 54 (.slice ax00 ((d_aT).xs).length capx00) E3.cs 3 ((d_aT).xs) from OwnE.below Ox00.out hb7 rfl)); (replace Ox01 := Lib.hid (show OwnE w7 (w.heap.size) 54 (.slice ax01 ((d_aT).zs).length capx01) E3.cs 3 ((d_aT).zs) from OwnE.below Ox01.out hb7 rfl)); (replace c_paT0 := below_cell hb7 rfl c_paT0); (replace c_paT1 := below_cell hb7 rfl c_paT1); (replace c_paT2 := below_cell hb7 rfl c_paT2); (replace c_paP0 := below_cell hb7 rfl c_paP0); (replace c_paP1 := below_cell hb7 rfl c_paP1); (replace c_paP2 := below_cell hb7 rfl c_paP2); (replace c_w00 := below_cell hb7 rfl c_w00); (replace c_w01 := below_cell hb7 rfl c_w01); (replace c_w02 := below_cell hb7 rfl c_w02); (replace c_x00 := below_cell hb7 rfl c_x00); (replace c_x01 := below_cell hb7 rfl c_x01); (replace c_x02 := below_cell hb7 rfl c_x02); (replace c_g00 := below_cell hb7 rfl c_g00); (replace c_g01 := below_cell hb7 rfl c_g01); (replace c_g02 := below_cell hb7 rfl c_g02); (have BB7 : Below w.heap.size w w7 := below_step (below_step BB6 BP6.out) hb7); (have ZZ7 : w6.heap.size ≤ w7.heap.size := by have := hb7.size; (try simp at this); omega); (clear BP6); (clear LT6_0 LT6_1 LT6_2 LT6_3 LT6_4); (have LT7_0 : w.heap.size < w7.heap.size := World.block_lt_of_cell? w7 _ c_paT0); (have LT7_1 : w.heap.size + 1 < w7.heap.size := World.block_lt_of_cell? w7 _ c_paP0); (have LT7_2 : gw0 < w7.heap.size := World.block_lt_of_cell? w7 _ c_w00); (have LT7_3 : w3.heap.size < w7.heap.size := World.block_lt_of_cell? w7 _ c_x00); (have LT7_4 : gg0 < w7.heap.size := World.block_lt_of_cell? w7 _ c_g00); (have Ot10 := Lib.hid (show OwnE w7 (w.heap.size) 54 (.slice at10 ((d_aT).xs).length capt10) E3.cs 3 ((d_aT).xs) from hot10); clear hot10); (have Ot11 := Lib.hid (show OwnE w7 (w.heap.size) 54 (.slice at11 ((d_aT).zs).length capt11) E3.cs 3 ((d_aT).zs) from hot11); clear hot11); (have AP_t1 := Lib.hid hapt1; clear hapt1); (clear hb7 BB6))) | (go_at_call 15; go_must ((refine (laws_eqTableau_same d_aT _ _ _ _ _ (Ox00.out).rd (Ox01.out).rd (Ot10.out).rd (Ot11.out).rd).mono ?_; rintro e w8 ⟨rfl, hb8⟩); (replace Ox00 := Lib.hid (show OwnE w8 (w.heap.size) 54 (.slice ax00 ((d_aT).xs).length capx00) E3.cs 3 ((d_aT).xs) from OwnE.below Ox00.out hb8 rfl)); (replace Ox01 := Lib.hid (show OwnE w8 (w.heap.size) 54 (.slice ax01 ((d_aT).zs).length capx01) E3.cs 3 ((d_aT).zs) from OwnE.below Ox01.out hb8 rfl)); (replace Ot10 := Lib.hid (show OwnE w8 (w.heap.size) 54 (.slice at10 ((d_aT).xs).length capt10) E3.cs 3 ((d_aT).xs) from OwnE.below Ot10.out hb8 rfl)); (replace Ot11 := Lib.hid (show OwnE w8 (w.heap.size) 54 (.slice at11 ((d_aT).zs).length capt11) E3.cs 3 ((d_aT).zs) from OwnE.below Ot11.out hb8 rfl)); (replace c_paT0 := below_cell hb8 rfl c_paT0); (replace c_paT1 := below_cell hb8 rfl c_paT1); (replace c_paT2 := below_cell hb8 rfl c_paT2); (replace c_paP0 := below_cell hb8 rfl c_paP0); (replace c_paP1 := below_cell hb8 rfl c_paP1); (replace c_paP2 := below_cell hb8 rfl c_paP2); (replace c_w00 := below_cell hb8 rfl c_w00); (replace c_w01 := below_cell hb8 rfl c_w01); (replace c_w02 := below_cell hb8 rfl c_w02); (replace c_x00 := below_cell hb8 rfl c_x00); (replace c_x01 := below_cell hb8 rfl c_x01); (replace c_x02 := below_cell hb8 rfl c_x02); (replace c_g00 := below_cell hb8 rfl c_g00); (replace c_g01 := below_cell hb8 rfl c_g01); (replace c_g02 := below_cell hb8 rfl c_g02); (have BB8 : Below w.heap.size w w8 := below_step BB7 hb8); (have ZZ8 : w7.heap.size ≤ w8.heap.size := by have := hb8.size; (try simp at this); omega); (clear LT7_0 LT7_1 LT7_2 LT7_3 LT7_4); (have LT8_0 : w.heap.size < w8.heap.size := World.block_lt_of_cell? w8 _ c_paT0); (have LT8_1 : w.heap.size + 1 < w8.heap.size := World.block_lt_of_cell? w8 _ c_paP0); (have LT8_2 : gw0 < w8.heap.size := World.block_lt_of_cell? w8 _ c_w00); (have LT8_3 : w3.heap.size < w8.heap.size := World.block_lt_of_cell? w8 _ c_x00); (have LT8_4 : gg0 < w8.heap.size := World.block_lt_of_cell? w8 _ c_g00); (clear hb8 BB7))))
        clear Ot10 LL_t10
        clear Ot11 LL_t11
        clear AP_t1
        go_wp2_with fail
        go_ret
        exact ⟨rfl, BB8⟩
  · skip
    have BB0 := Below.refl w.heap.size w
    go_enter Try.func8, Try.ntmps8
    go_wp2_with fail
    have BP0 := Lib.hid (show Below w.heap.size w ((w.alloc (.cells #[.int .i64 ((d_aT).n), .slice a_aT0 ((d_aT).xs).length cap_aT0, .slice a_aT1 ((d_aT).zs).length cap_aT1] 32)).alloc (.cells #[.int .i64 ((d_aP).a), .int .i64 ((d_aP).b), .int .i64 ((d_aP).c)] 53)) from (by repeat (first | exact Below.refl _ _ | assumption | refine Below.drew ?_ | refine below_drewN ?_ _ | refine Below.alloc ?_ (by first | omega | (simp <;> omega)) _ | refine Below.setCell ?_ (by first | omega | (simp <;> omega)) _ | refine Below.trans ?_ (Below.mono (by assumption) (by first | omega | (simp <;> omega))))))
    have c_paT0 : ((w.alloc (.cells #[.int .i64 ((d_aT).n), .slice a_aT0 ((d_aT).xs).length cap_aT0, .slice a_aT1 ((d_aT).zs).length cap_aT1] 32)).alloc (.cells #[.int .i64 ((d_aP).a), .int .i64 ((d_aP).b), .int .i64 ((d_aP).c)] 53)).cell? ⟨w.heap.size, 0, none⟩ = some (.int .i64 ((d_aT).n)) := (by repeat (first | (refine Eq.trans (World.cell?_alloc_at _ _ _ _ ?hh) ?_; (case hh => (simp; done)); rfl) | refine cell_alloc_keep _ ?_))
    have c_paT1 : ((w.alloc (.cells #[.int .i64 ((d_aT).n), .slice a_aT0 ((d_aT).xs).length cap_aT0, .slice a_aT1 ((d_aT).zs).length cap_aT1] 32)).alloc (.cells #[.int .i64 ((d_aP).a), .int .i64 ((d_aP).b), .int .i64 ((d_aP).c)] 53)).cell? ⟨w.heap.size, 1, none⟩ = some (.slice a_aT0 ((d_aT).xs).length cap_aT0) := (by repeat (first | (refine Eq.trans (World.cell?_alloc_at _ _ _ _ ?hh) ?_; (case hh => (simp; done)); rfl) | refine cell_alloc_keep _ ?_))
    have c_paT2 : ((w.alloc (.cells #[.int .i64 ((d_aT).n), .slice a_aT0 ((d_aT).xs).length cap_aT0, .slice a_aT1 ((d_aT).zs).length cap_aT1] 32)).alloc (.cells #[.int .i64 ((d_aP).a), .int .i64 ((d_aP).b), .int .i64 ((d_aP).c)] 53)).cell? ⟨w.heap.size, 2, none⟩ = some (.slice a_aT1 ((d_aT).zs).length cap_aT1) := (by repeat (first | (refine Eq.trans (World.cell?_alloc_at _ _ _ _ ?hh) ?_; (case hh => (simp; done)); rfl) | refine cell_alloc_keep _ ?_))
    have c_paP0 : ((w.alloc (.cells #[.int .i64 ((d_aT).n), .slice a_aT0 ((d_aT).xs).length cap_aT0, .slice a_aT1 ((d_aT).zs).length cap_aT1] 32)).alloc (.cells #[.int .i64 ((d_aP).a), .int .i64 ((d_aP).b), .int .i64 ((d_aP).c)] 53)).cell? ⟨w.heap.size + 1, 0, none⟩ = some (.int .i64 ((d_aP).a)) := (by repeat (first | (refine Eq.trans (World.cell?_alloc_at _ _ _ _ ?hh) ?_; (case hh => (simp; done)); rfl) | refine cell_alloc_keep _ ?_))
    have c_paP1 : ((w.alloc (.cells #[.int .i64 ((d_aT).n), .slice a_aT0 ((d_aT).xs).length cap_aT0, .slice a_aT1 ((d_aT).zs).length cap_aT1] 32)).alloc (.cells #[.int .i64 ((d_aP).a), .int .i64 ((d_aP).b), .int .i64 ((d_aP).c)] 53)).cell? ⟨w.heap.size + 1, 1, none⟩ = some (.int .i64 ((d_aP).b)) := (by repeat (first | (refine Eq.trans (World.cell?_alloc_at _ _ _ _ ?hh) ?_; (case hh => (simp; done)); rfl) | refine cell_alloc_keep _ ?_))
    have c_paP2 : ((w.alloc (.cells #[.int .i64 ((d_aT).n), .slice a_aT0 ((d_aT).xs).length cap_aT0, .slice a_aT1 ((d_aT).zs).length cap_aT1] 32)).alloc (.cells #[.int .i64 ((d_aP).a), .int .i64 ((d_aP).b), .int .i64 ((d_aP).c)] 53)).cell? ⟨w.heap.size + 1, 2, none⟩ = some (.int .i64 ((d_aP).c)) := (by repeat (first | (refine Eq.trans (World.cell?_alloc_at _ _ _ _ ?hh) ?_; (case hh => (simp; done)); rfl) | refine cell_alloc_keep _ ?_))
    refine (laws_szTableau_no d_aT _ _ _ _ (Rd.below HA_aT0.out (below_step BB0 BP0.out) rfl) (Rd.below HA_aT1.out (below_step BB0 BP0.out) rfl) (by omega) (by omega) (by omega)).mono ?_; rintro e w1 ⟨rfl, hb1⟩
    replace c_paT0 := below_cell hb1 rfl c_paT0
    replace c_paT1 := below_cell hb1 rfl c_paT1
    replace c_paT2 := below_cell hb1 rfl c_paT2
    replace c_paP0 := below_cell hb1 rfl c_paP0
    replace c_paP1 := below_cell hb1 rfl c_paP1
    replace c_paP2 := below_cell hb1 rfl c_paP2
    have BB1 : Below w.heap.size w w1 := below_step (below_step BB0 BP0.out) hb1
    have ZZ1 : w.heap.size + 2 ≤ w1.heap.size := by have := hb1.size; (try simp at this); omega
    clear BP0
    have LT1_0 : w.heap.size < w1.heap.size := World.block_lt_of_cell? w1 _ c_paT0
    have LT1_1 : w.heap.size + 1 < w1.heap.size := World.block_lt_of_cell? w1 _ c_paP0
    clear hb1 BB0
    go_wp2_with fail
    go_ret
    exact ⟨rfl, BB1⟩
end Go.Proofs.Ytpeodfiapofagaa
