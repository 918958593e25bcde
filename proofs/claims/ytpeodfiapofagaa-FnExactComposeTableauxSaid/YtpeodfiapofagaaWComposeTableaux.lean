/- The walk through the law FnExactComposeTableaux. -/
import Derived.Test.YtpeodfiapofagaaComp3
import Derived.Test.YtpeodfiapofagaaStTableau
import Derived.Test.YtpeodfiapofagaaOpen1
import Derived.Test.YtpeodfiapofagaaDat
import Derived.Test.YtpeodfiapofagaaCut1
import Derived.Test.YtpeodfiapofagaaBrk
import Derived.Deep.DeepMust
import Derived.Deep.RegionHeld3
import Derived.Deep.DeepCutAuto
namespace Go.Proofs.Ytpeodfiapofagaa
set_option linter.unusedSimpArgs false
set_option linter.unusedVariables false
set_option linter.unnecessarySimpa false
set_option maxRecDepth 200000
open Go.ChangeShapes Go.WideShapes Go.ChangeAt Go.RowKit

set_option maxHeartbeats 16000000 in
set_option maxRecDepth 100000 in
theorem walk_FnExactComposeTableaux (v0 v1 : Value) (w : World) (h0 : IsTableau w v0) (h1 : IsTableau w v1) :
    Calls Try.prog 5 #[v0, v1] w fun e w' => e = .returned (.bool true) ∧ Below w.heap.size w w' := by
  obtain ⟨d_aFirst, v_aFirst0, v_aFirst1, rfl, HA_aFirst0, HA_aFirst1, HR_aFirst⟩ := h0
  obtain ⟨a_aFirst0, cap_aFirst0, rfl, LX_aFirst0⟩ := HA_aFirst0.form
  replace HA_aFirst0 := Lib.hid HA_aFirst0; clear LX_aFirst0
  obtain ⟨a_aFirst1, cap_aFirst1, rfl, LX_aFirst1⟩ := HA_aFirst1.form
  replace HA_aFirst1 := Lib.hid HA_aFirst1; clear LX_aFirst1
  replace HR_aFirst := Lib.hid HR_aFirst
  obtain ⟨d_aSecond, v_aSecond0, v_aSecond1, rfl, HA_aSecond0, HA_aSecond1, HR_aSecond⟩ := h1
  obtain ⟨a_aSecond0, cap_aSecond0, rfl, LX_aSecond0⟩ := HA_aSecond0.form
  replace HA_aSecond0 := Lib.hid HA_aSecond0; clear LX_aSecond0
  obtain ⟨a_aSecond1, cap_aSecond1, rfl, LX_aSecond1⟩ := HA_aSecond1.form
  replace HA_aSecond1 := Lib.hid HA_aSecond1; clear LX_aSecond1
  replace HR_aSecond := Lib.hid HR_aSecond
  by_cases hsz0 : (((d_aFirst).xs).length : Int) + (((d_aFirst).zs).length : Int) ≤ 1048576
  · skip
    by_cases hsz1 : (((d_aFirst).xs).length : Int) + (((d_aFirst).zs).length : Int) + (((d_aSecond).xs).length : Int) + (((d_aSecond).zs).length : Int) ≤ 1048576
    · skip
      have LEN_aFirst0 : ((d_aFirst).xs).length ≤ 1048576 := by omega
      have LEN_aFirst1 : ((d_aFirst).zs).length ≤ 1048576 := by omega
      have LEN_aSecond0 : ((d_aSecond).xs).length ≤ 1048576 := by omega
      have LEN_aSecond1 : ((d_aSecond).zs).length ≤ 1048576 := by omega
      obtain ⟨r, hr⟩ : ∃ r, r = cmpG d_aFirst d_aSecond := ⟨_, rfl⟩
      have hlen00 : (r.getD Tab.zero).xs.length ≤ 1000000 ∧ (r.getD Tab.zero).zs.length ≤ 1000000 := by subst hr; exact cmpG_len _ _
      obtain ⟨hlen0, hlen1⟩ := hlen00
      have Hr := Lib.hid hr; clear hr
      have BB0 := Below.refl w.heap.size w
      go_enter Try.func5, Try.ntmps5
      go_wp2_with fail
      have BP0 := Lib.hid (show Below w.heap.size w ((w.alloc (.cells #[.int .i64 ((d_aFirst).n), .slice a_aFirst0 ((d_aFirst).xs).length cap_aFirst0, .slice a_aFirst1 ((d_aFirst).zs).length cap_aFirst1] 32)).alloc (.cells #[.int .i64 ((d_aSecond).n), .slice a_aSecond0 ((d_aSecond).xs).length cap_aSecond0, .slice a_aSecond1 ((d_aSecond).zs).length cap_aSecond1] 32)) from (by repeat (first | exact Below.refl _ _ | assumption | refine Below.drew ?_ | refine below_drewN ?_ _ | refine Below.alloc ?_ (by first | omega | (simp <;> omega)) _ | refine Below.setCell ?_ (by first | omega | (simp <;> omega)) _ | refine Below.trans ?_ (Below.mono (by assumption) (by first | omega | (simp <;> omega))))))
      have c_paFirst0 : ((w.alloc (.cells #[.int .i64 ((d_aFirst).n), .slice a_aFirst0 ((d_aFirst).xs).length cap_aFirst0, .slice a_aFirst1 ((d_aFirst).zs).length cap_aFirst1] 32)).alloc (.cells #[.int .i64 ((d_aSecond).n), .slice a_aSecond0 ((d_aSecond).xs).length cap_aSecond0, .slice a_aSecond1 ((d_aSecond).zs).length cap_aSecond1] 32)).cell? ⟨w.heap.size, 0, none⟩ = some (.int .i64 ((d_aFirst).n)) := (by repeat (first | (refine Eq.trans (World.cell?_alloc_at _ _ _ _ ?hh) ?_; (case hh => (simp; done)); rfl) | refine cell_alloc_keep _ ?_))
      have c_paFirst1 : ((w.alloc (.cells #[.int .i64 ((d_aFirst).n), .slice a_aFirst0 ((d_aFirst).xs).length cap_aFirst0, .slice a_aFirst1 ((d_aFirst).zs).length cap_aFirst1] 32)).alloc (.cells #[.int .i64 ((d_aSecond).n), .slice a_aSecond0 ((d_aSecond).xs).length cap_aSecond0, .slice a_aSecond1 ((d_aSecond).zs).length cap_aSecond1] 32)).cell? ⟨w.heap.size, 1, none⟩ = some (.slice a_aFirst0 ((d_aFirst).xs).length cap_aFirst0) := (by repeat (first | (refine Eq.trans (World.cell?_alloc_at _ _ _ _ ?hh) ?_; (case hh => (simp; done)); rfl) | refine cell_alloc_keep _ ?_))
      have c_paFirst2 : ((w.alloc (.cells #[.int .i64 ((d_aFirst).n), .slice a_aFirst0 ((d_aFirst).xs).length cap_aFirst0, .slice a_aFirst1 ((d_aFirst).zs).length cap_aFirst1] 32)).alloc (.cells #[.int .i64 ((d_aSecond).n), .slice a_aSecond0 ((d_aSecond).xs).length cap_aSecond0, .slice a_aSecond1 ((d_aSecond).zs).length cap_aSecond1] 32)).cell? ⟨w.heap.size, 2, none⟩ = some (.slice a_aFirst1 ((d_aFirst).zs).length cap_aFirst1) := (by repeat (first | (refine Eq.trans (World.cell?_alloc_at _ _ _ _ ?hh) ?_; (case hh => (simp; done)); rfl) | refine cell_alloc_keep _ ?_))
      have c_paSecond0 : ((w.alloc (.cells #[.int .i64 ((d_aFirst).n), .slice a_aFirst0 ((d_aFirst).xs).length cap_aFirst0, .slice a_aFirst1 ((d_aFirst).zs).length cap_aFirst1] 32)).alloc (.cells #[.int .i64 ((d_aSecond).n), .slice a_aSecond0 ((d_aSecond).xs).length cap_aSecond0, .slice a_aSecond1 ((d_aSecond).zs).length cap_aSecond1] 32)).cell? ⟨w.heap.size + 1, 0, none⟩ = some (.int .i64 ((d_aSecond).n)) := (by repeat (first | (refine Eq.trans (World.cell?_alloc_at _ _ _ _ ?hh) ?_; (case hh => (simp; done)); rfl) | refine cell_alloc_keep _ ?_))
      have c_paSecond1 : ((w.alloc (.cells #[.int .i64 ((d_aFirst).n), .slice a_aFirst0 ((d_aFirst).xs).length cap_aFirst0, .slice a_aFirst1 ((d_aFirst).zs).length cap_aFirst1] 32)).alloc (.cells #[.int .i64 ((d_aSecond).n), .slice a_aSecond0 ((d_aSecond).xs).length cap_aSecond0, .slice a_aSecond1 ((d_aSecond).zs).length cap_aSecond1] 32)).cell? ⟨w.heap.size + 1, 1, none⟩ = some (.slice a_aSecond0 ((d_aSecond).xs).length cap_aSecond0) := (by repeat (first | (refine Eq.trans (World.cell?_alloc_at _ _ _ _ ?hh) ?_; (case hh => (simp; done)); rfl) | refine cell_alloc_keep _ ?_))
      have c_paSecond2 : ((w.alloc (.cells #[.int .i64 ((d_aFirst).n), .slice a_aFirst0 ((d_aFirst).xs).length cap_aFirst0, .slice a_aFirst1 ((d_aFirst).zs).length cap_aFirst1] 32)).alloc (.cells #[.int .i64 ((d_aSecond).n), .slice a_aSecond0 ((d_aSecond).xs).length cap_aSecond0, .slice a_aSecond1 ((d_aSecond).zs).length cap_aSecond1] 32)).cell? ⟨w.heap.size + 1, 2, none⟩ = some (.slice a_aSecond1 ((d_aSecond).zs).length cap_aSecond1) := (by repeat (first | (refine Eq.trans (World.cell?_alloc_at _ _ _ _ ?hh) ?_; (case hh => (simp; done)); rfl) | refine cell_alloc_keep _ ?_))
      refine (laws_szTableau_ok d_aFirst _ _ _ _ (Rd.below HA_aFirst0.out (below_step BB0 BP0.out) rfl) (Rd.below HA_aFirst1.out (below_step BB0 BP0.out) rfl) (by omega) (by omega)).mono ?_; rintro e w1 ⟨rfl, hb1⟩
      replace c_paFirst0 := below_cell hb1 rfl c_paFirst0
      replace c_paFirst1 := below_cell hb1 rfl c_paFirst1
      replace c_paFirst2 := below_cell hb1 rfl c_paFirst2
      replace c_paSecond0 := below_cell hb1 rfl c_paSecond0
      replace c_paSecond1 := below_cell hb1 rfl c_paSecond1
      replace c_paSecond2 := below_cell hb1 rfl c_paSecond2
      have BB1 : Below w.heap.size w w1 := below_step (below_step BB0 BP0.out) hb1
      have ZZ1 : w.heap.size + 2 ≤ w1.heap.size := by have := hb1.size; (try simp at this); omega
      clear BP0
      have LT1_0 : w.heap.size < w1.heap.size := World.block_lt_of_cell? w1 _ c_paFirst0
      have LT1_1 : w.heap.size + 1 < w1.heap.size := World.block_lt_of_cell? w1 _ c_paSecond0
      clear hb1 BB0
      go_wp2_with fail
      refine (laws_szTableau_ok d_aSecond _ _ _ _ (Rd.below HA_aSecond0.out BB1 rfl) (Rd.below HA_aSecond1.out BB1 rfl) (by omega) (by omega)).mono ?_; rintro e w2 ⟨rfl, hb2⟩
      replace c_paFirst0 := below_cell hb2 rfl c_paFirst0
      replace c_paFirst1 := below_cell hb2 rfl c_paFirst1
      replace c_paFirst2 := below_cell hb2 rfl c_paFirst2
      replace c_paSecond0 := below_cell hb2 rfl c_paSecond0
      replace c_paSecond1 := below_cell hb2 rfl c_paSecond1
      replace c_paSecond2 := below_cell hb2 rfl c_paSecond2
      have BB2 : Below w.heap.size w w2 := below_step BB1 hb2
      have ZZ2 : w1.heap.size ≤ w2.heap.size := by have := hb2.size; (try simp at this); omega
      clear LT1_0 LT1_1
      have LT2_0 : w.heap.size < w2.heap.size := World.block_lt_of_cell? w2 _ c_paFirst0
      have LT2_1 : w.heap.size + 1 < w2.heap.size := World.block_lt_of_cell? w2 _ c_paSecond0
      clear hb2 BB1
      go_upto_region 8 with fail
      go_cut [6, 7] (fun s6 s7 wx => ∃ (gw0 : Nat) (aw00 : Option Addr) (capw00 : Nat) (aw01 : Option Addr) (capw01 : Nat), s6 = .pointer (some ⟨gw0, 0, none⟩) ∧ s7 = .bool (r.isSome) ∧ wx.cell? ⟨gw0, 0, none⟩ = some (.int .i64 (((r.getD Tab.zero)).n)) ∧ wx.cell? ⟨gw0, 1, none⟩ = some (.slice aw00 (((r.getD Tab.zero)).xs).length capw00) ∧ wx.cell? ⟨gw0, 2, none⟩ = some (.slice aw01 (((r.getD Tab.zero)).zs).length capw01) ∧ Hid (OwnE wx (w.heap.size) 54 (.slice aw00 (((r.getD Tab.zero)).xs).length capw00) E3.cs 3 (((r.getD Tab.zero)).xs)) ∧ Hid (OwnE wx (w.heap.size) 54 (.slice aw01 (((r.getD Tab.zero)).zs).length capw01) E3.cs 3 (((r.getD Tab.zero)).zs)) ∧ Hid (∀ g, (Value.slice aw00 (((r.getD Tab.zero)).xs).length capw00).ownBlock = some g → w2.heap.size ≤ g ∧ g < wx.heap.size) ∧ Hid (∀ g, (Value.slice aw01 (((r.getD Tab.zero)).zs).length capw01).ownBlock = some g → w2.heap.size ≤ g ∧ g < wx.heap.size) ∧ Hid (Apart (.slice aw00 (((r.getD Tab.zero)).xs).length capw00) (.slice aw01 (((r.getD Tab.zero)).zs).length capw01)) ∧ Below w2.heap.size w2 wx)
      case first =>
        refine AnyB.begin (S := (fun w' => w'.cell? ⟨w.heap.size, 0, none⟩ = some (.int .i64 ((d_aFirst).n)) ∧ w'.cell? ⟨w.heap.size, 1, none⟩ = some (.slice a_aFirst0 ((d_aFirst).xs).length cap_aFirst0) ∧ w'.cell? ⟨w.heap.size, 2, none⟩ = some (.slice a_aFirst1 ((d_aFirst).zs).length cap_aFirst1) ∧ w'.cell? ⟨w.heap.size + 1, 0, none⟩ = some (.int .i64 ((d_aSecond).n)) ∧ w'.cell? ⟨w.heap.size + 1, 1, none⟩ = some (.slice a_aSecond0 ((d_aSecond).xs).length cap_aSecond0) ∧ w'.cell? ⟨w.heap.size + 1, 2, none⟩ = some (.slice a_aSecond1 ((d_aSecond).zs).length cap_aSecond1))) [9] (by kernel_rfl) ?_ (fun hHeld0 => ?_)
        · ((try dsimp only); (first | (exact ⟨cell_drew c_paFirst0, cell_drew c_paFirst1, cell_drew c_paFirst2, cell_drew c_paSecond0, cell_drew c_paSecond1, cell_drew c_paSecond2⟩) | (go_split_ands; refine ⟨?_, ?_, ?_, ?_, ?_, ?_⟩ <;> first | assumption | (refine cell_alloc_keep _ ?_; assumption) | (refine below_cell hbC rfl ?_; assumption) | (refine below_cell hbA1 rfl ?_; assumption) | (refine below_cell hbA0 rfl ?_; assumption))))
        refine AnyB.take (i := 0) (oi := _) (v := ?_) (by simp only [List.getElem?_toArray, List.getElem?_cons_zero, List.getElem?_cons_succ]; rfl) (by kernel_rfl) (by kernel_rfl) (by kernel_rfl) (by kernel_rfl) (by kernel_rfl) (by intro _ _ _ h; exact h) (Or.inl ⟨by rfl, ?_⟩) (by assumption) ?_
        rotate_left
        · (intro w hSw; (try dsimp only at hSw); go_simp; (try (with_reducible rfl)))
        try simp only [Act.put, List.setIfInBounds_toArray, List.set_cons_zero, List.set_cons_succ]
        refine AnyB.take (i := 2) (oi := _) (v := ?_) (by simp only [List.getElem?_toArray, List.getElem?_cons_zero, List.getElem?_cons_succ]; rfl) (by kernel_rfl) (by kernel_rfl) (by kernel_rfl) (by kernel_rfl) (by kernel_rfl) (by intro _ _ _ h; exact h) (Or.inl ⟨by rfl, ?_⟩) (by assumption) ?_
        rotate_left
        · (intro w hSw; (try dsimp only at hSw); go_simp; (try (with_reducible rfl)))
        try simp only [Act.put, List.setIfInBounds_toArray, List.set_cons_zero, List.set_cons_succ]
        refine AnyB.each (rs := [1, 8]) (by kernel_rfl) (by simp) ?_
        refine EachB.cons rfl (fun K hK hB => ?_) ?_
        · skip
          (go_simp; go_at_call 20; refine (laws_toTableau_any d_aFirst _ _ _ (Rd.below HA_aFirst0.out (by repeat (first | (with_reducible exact Below.refl _ _) | (with_reducible assumption) | (with_reducible refine Below.drew ?_) | (with_reducible refine below_drewN ?_ _) | (with_reducible refine Below.alloc ?_ (by first | omega | (simp <;> omega)) _) | (with_reducible refine Below.setCell ?_ (by first | omega | (simp <;> omega)) _) | (with_reducible refine Below.trans ?_ (Below.mono (by with_reducible assumption) (by first | omega | (simp <;> omega)))))) rfl) (Rd.below HA_aFirst1.out (by repeat (first | (with_reducible exact Below.refl _ _) | (with_reducible assumption) | (with_reducible refine Below.drew ?_) | (with_reducible refine below_drewN ?_ _) | (with_reducible refine Below.alloc ?_ (by first | omega | (simp <;> omega)) _) | (with_reducible refine Below.setCell ?_ (by first | omega | (simp <;> omega)) _) | (with_reducible refine Below.trans ?_ (Below.mono (by with_reducible assumption) (by first | omega | (simp <;> omega)))))) rfl) LEN_aFirst0 LEN_aFirst1).mono ?_; rintro e wA0 ⟨vA00, vA01, rfl, hA00, hA01, _, hbA0⟩; obtain ⟨aA00, cA00, rfl⟩ := hA00.forms; have R00 := Lib.hid (hA00.rd); clear hA00; obtain ⟨aA01, cA01, rfl⟩ := hA01.forms; have R01 := Lib.hid (hA01.rd); clear hA01; have zA0 := hbA0.size; (try simp at zA0); (try (replace yb0 := below_frz hbA0 rfl (World.block_lt_of_cell? _ _ xb0) yb0; replace xb0 := below_cell hbA0 rfl xb0; replace yb1 := below_frz hbA0 rfl (World.block_lt_of_cell? _ _ xb1) yb1; replace xb1 := below_cell hbA0 rfl xb1; replace yb2 := below_frz hbA0 rfl (World.block_lt_of_cell? _ _ xb2) yb2; replace xb2 := below_cell hbA0 rfl xb2)); dsimp only)
          refine hK.out _ _ ?_ (fun hHeld1 => ?_)
          · ((try dsimp only); (first | (exact ⟨cell_drew c_paFirst0, cell_drew c_paFirst1, cell_drew c_paFirst2, cell_drew c_paSecond0, cell_drew c_paSecond1, cell_drew c_paSecond2⟩) | (go_split_ands; refine ⟨?_, ?_, ?_, ?_, ?_, ?_⟩ <;> first | assumption | (refine cell_alloc_keep _ ?_; assumption) | (refine below_cell hbC rfl ?_; assumption) | (refine below_cell hbA1 rfl ?_; assumption) | (refine below_cell hbA0 rfl ?_; assumption))))
          clear hB hK K hHeld0
          refine AnyB.each (rs := [3, 8]) (by kernel_rfl) (by simp) ?_
          refine EachB.cons rfl (fun K hK hB => ?_) ?_
          · skip
            (go_simp; go_at_call 20; refine (laws_toTableau_any d_aSecond _ _ _ (Rd.below HA_aSecond0.out (by repeat (first | (with_reducible exact Below.refl _ _) | (with_reducible assumption) | (with_reducible refine Below.drew ?_) | (with_reducible refine below_drewN ?_ _) | (with_reducible refine Below.alloc ?_ (by first | omega | (simp <;> omega)) _) | (with_reducible refine Below.setCell ?_ (by first | omega | (simp <;> omega)) _) | (with_reducible refine Below.trans ?_ (Below.mono (by with_reducible assumption) (by first | omega | (simp <;> omega)))))) rfl) (Rd.below HA_aSecond1.out (by repeat (first | (with_reducible exact Below.refl _ _) | (with_reducible assumption) | (with_reducible refine Below.drew ?_) | (with_reducible refine below_drewN ?_ _) | (with_reducible refine Below.alloc ?_ (by first | omega | (simp <;> omega)) _) | (with_reducible refine Below.setCell ?_ (by first | omega | (simp <;> omega)) _) | (with_reducible refine Below.trans ?_ (Below.mono (by with_reducible assumption) (by first | omega | (simp <;> omega)))))) rfl) LEN_aSecond0 LEN_aSecond1).mono ?_; rintro e wA1 ⟨vA10, vA11, rfl, hA10, hA11, _, hbA1⟩; obtain ⟨aA10, cA10, rfl⟩ := hA10.forms; have R10 := Lib.hid (hA10.rd); clear hA10; obtain ⟨aA11, cA11, rfl⟩ := hA11.forms; have R11 := Lib.hid (hA11.rd); clear hA11; have zA1 := hbA1.size; (try simp at zA1); (try (replace yb0 := below_frz hbA1 rfl (World.block_lt_of_cell? _ _ xb0) yb0; replace xb0 := below_cell hbA1 rfl xb0; replace yb1 := below_frz hbA1 rfl (World.block_lt_of_cell? _ _ xb1) yb1; replace xb1 := below_cell hbA1 rfl xb1; replace yb2 := below_frz hbA1 rfl (World.block_lt_of_cell? _ _ xb2) yb2; replace xb2 := below_cell hbA1 rfl xb2)); dsimp only)
            refine hK.out _ _ ?_ (fun hHeld2 => ?_)
            · ((try dsimp only); (first | (exact ⟨cell_drew c_paFirst0, cell_drew c_paFirst1, cell_drew c_paFirst2, cell_drew c_paSecond0, cell_drew c_paSecond1, cell_drew c_paSecond2⟩) | (go_split_ands; refine ⟨?_, ?_, ?_, ?_, ?_, ?_⟩ <;> first | assumption | (refine cell_alloc_keep _ ?_; assumption) | (refine below_cell hbC rfl ?_; assumption) | (refine below_cell hbA1 rfl ?_; assumption) | (refine below_cell hbA0 rfl ?_; assumption))))
            clear hB hK K hHeld1
            refine AnyB.each (rs := [4, 8]) (by kernel_rfl) (by simp) ?_
            refine EachB.cons rfl (fun K hK hB => ?_) ?_
            · skip
              (go_simp; go_at_call 22; refine (spec_ComposeTableaux_any d_aFirst d_aSecond _ _ _ _ _ (Rd.below R00.out (by repeat (first | (with_reducible exact Below.refl _ _) | (with_reducible assumption) | (with_reducible refine Below.drew ?_) | (with_reducible refine below_drewN ?_ _) | (with_reducible refine Below.alloc ?_ (by first | omega | (simp <;> omega)) _) | (with_reducible refine Below.setCell ?_ (by first | omega | (simp <;> omega)) _) | (with_reducible refine Below.trans ?_ (Below.mono (by with_reducible assumption) (by first | omega | (simp <;> omega)))))) rfl) (Rd.below R01.out (by repeat (first | (with_reducible exact Below.refl _ _) | (with_reducible assumption) | (with_reducible refine Below.drew ?_) | (with_reducible refine below_drewN ?_ _) | (with_reducible refine Below.alloc ?_ (by first | omega | (simp <;> omega)) _) | (with_reducible refine Below.setCell ?_ (by first | omega | (simp <;> omega)) _) | (with_reducible refine Below.trans ?_ (Below.mono (by with_reducible assumption) (by first | omega | (simp <;> omega)))))) rfl) (Rd.below R10.out (by repeat (first | (with_reducible exact Below.refl _ _) | (with_reducible assumption) | (with_reducible refine Below.drew ?_) | (with_reducible refine below_drewN ?_ _) | (with_reducible refine Below.alloc ?_ (by first | omega | (simp <;> omega)) _) | (with_reducible refine Below.setCell ?_ (by first | omega | (simp <;> omega)) _) | (with_reducible refine Below.trans ?_ (Below.mono (by with_reducible assumption) (by first | omega | (simp <;> omega)))))) rfl) (Rd.below R11.out (by repeat (first | (with_reducible exact Below.refl _ _) | (with_reducible assumption) | (with_reducible refine Below.drew ?_) | (with_reducible refine below_drewN ?_ _) | (with_reducible refine Below.alloc ?_ (by first | omega | (simp <;> omega)) _) | (with_reducible refine Below.setCell ?_ (by first | omega | (simp <;> omega)) _) | (with_reducible refine Below.trans ?_ (Below.mono (by with_reducible assumption) (by first | omega | (simp <;> omega)))))) rfl) LEN_aFirst0 LEN_aFirst1 LEN_aSecond0 LEN_aSecond1).mono ?_; rw [← Hr.out]; rintro e wC ⟨vC0, vC1, rfl, hC0, hC1, hapC, hbC⟩; obtain ⟨aC0, cC0, rfl⟩ := hC0.forms; have KC0 := Lib.hid hC0; clear hC0; obtain ⟨aC1, cC1, rfl⟩ := hC1.forms; have KC1 := Lib.hid hC1; clear hC1; have zC := hbC.size; (try simp at zC); have KAP := Lib.hid hapC; clear hapC; (try (replace yb0 := below_frz hbC rfl (World.block_lt_of_cell? _ _ xb0) yb0; replace xb0 := below_cell hbC rfl xb0; replace yb1 := below_frz hbC rfl (World.block_lt_of_cell? _ _ xb1) yb1; replace xb1 := below_cell hbC rfl xb1; replace yb2 := below_frz hbC rfl (World.block_lt_of_cell? _ _ xb2) yb2; replace xb2 := below_cell hbC rfl xb2)); dsimp only)
              refine hK.out _ _ ?_ (fun hHeld3 => ?_)
              · ((try dsimp only); (first | (exact ⟨cell_drew c_paFirst0, cell_drew c_paFirst1, cell_drew c_paFirst2, cell_drew c_paSecond0, cell_drew c_paSecond1, cell_drew c_paSecond2⟩) | (go_split_ands; refine ⟨?_, ?_, ?_, ?_, ?_, ?_⟩ <;> first | assumption | (refine cell_alloc_keep _ ?_; assumption) | (refine below_cell hbC rfl ?_; assumption) | (refine below_cell hbA1 rfl ?_; assumption) | (refine below_cell hbA0 rfl ?_; assumption))))
              clear hB hK K hHeld2
              refine AnyB.takeQ (i := 5) (oi := _) (v := ?_) (by simp only [List.getElem?_toArray, List.getElem?_cons_zero, List.getElem?_cons_succ]; rfl) (by kernel_rfl) (by kernel_rfl) (by kernel_rfl) (by intro _ _ _ h; exact h) (Or.inl ⟨by rfl, ?_⟩) ?_
              rotate_left
              · (intro w hSw; (try dsimp only at hSw); go_simp; (try (with_reducible rfl)))
              try simp only [Act.put, List.setIfInBounds_toArray, List.set_cons_zero, List.set_cons_succ]
              refine AnyB.takeQ (i := 6) (oi := _) (v := ?_) (by simp only [List.getElem?_toArray, List.getElem?_cons_zero, List.getElem?_cons_succ]; rfl) (by kernel_rfl) (by kernel_rfl) (by kernel_rfl) (by intro _ _ _ h; exact h) (Or.inl ⟨by rfl, ?_⟩) ?_
              rotate_left
              · (intro w hSw; (try dsimp only at hSw); go_simp; (try (with_reducible rfl)))
              try simp only [Act.put, List.setIfInBounds_toArray, List.set_cons_zero, List.set_cons_succ]
              refine AnyB.takeQ (i := 7) (oi := _) (v := ?_) (by simp only [List.getElem?_toArray, List.getElem?_cons_zero, List.getElem?_cons_succ]; rfl) (by kernel_rfl) (by kernel_rfl) (by kernel_rfl) (by intro _ _ _ h; exact h) (Or.inl ⟨by rfl, ?_⟩) ?_
              rotate_left
              · (intro w hSw; (try dsimp only at hSw); go_simp; (try (with_reducible rfl)))
              try simp only [Act.put, List.setIfInBounds_toArray, List.set_cons_zero, List.set_cons_succ]
              refine AnyB.each (rs := [8]) (by kernel_rfl) (by simp) ?_
              refine EachB.cons rfl (fun K hK hB => ?_) ?_
              · skip
                (go_simp; first | (have xb0 := new_cell wC #[.int .i64 0, .slice none 0 0, .slice none 0 0] 24 0 (.int .i64 0) rfl; have yb0 := new_frz wC #[.int .i64 0, .slice none 0 0, .slice none 0 0] 24 0; have xb1 := new_cell wC #[.int .i64 0, .slice none 0 0, .slice none 0 0] 24 1 (.slice none 0 0) rfl; have yb1 := new_frz wC #[.int .i64 0, .slice none 0 0, .slice none 0 0] 24 1; have xb2 := new_cell wC #[.int .i64 0, .slice none 0 0, .slice none 0 0] 24 2 (.slice none 0 0) rfl; have yb2 := new_frz wC #[.int .i64 0, .slice none 0 0, .slice none 0 0] 24 2) | (have xb0 := new_cell wA1 #[.int .i64 0, .slice none 0 0, .slice none 0 0] 24 0 (.int .i64 0) rfl; have yb0 := new_frz wA1 #[.int .i64 0, .slice none 0 0, .slice none 0 0] 24 0; have xb1 := new_cell wA1 #[.int .i64 0, .slice none 0 0, .slice none 0 0] 24 1 (.slice none 0 0) rfl; have yb1 := new_frz wA1 #[.int .i64 0, .slice none 0 0, .slice none 0 0] 24 1; have xb2 := new_cell wA1 #[.int .i64 0, .slice none 0 0, .slice none 0 0] 24 2 (.slice none 0 0) rfl; have yb2 := new_frz wA1 #[.int .i64 0, .slice none 0 0, .slice none 0 0] 24 2) | (have xb0 := new_cell wA0 #[.int .i64 0, .slice none 0 0, .slice none 0 0] 24 0 (.int .i64 0) rfl; have yb0 := new_frz wA0 #[.int .i64 0, .slice none 0 0, .slice none 0 0] 24 0; have xb1 := new_cell wA0 #[.int .i64 0, .slice none 0 0, .slice none 0 0] 24 1 (.slice none 0 0) rfl; have yb1 := new_frz wA0 #[.int .i64 0, .slice none 0 0, .slice none 0 0] 24 1; have xb2 := new_cell wA0 #[.int .i64 0, .slice none 0 0, .slice none 0 0] 24 2 (.slice none 0 0) rfl; have yb2 := new_frz wA0 #[.int .i64 0, .slice none 0 0, .slice none 0 0] 24 2) | (have xb0 : ((w2.alloc (.cells #[.int .i64 0, .slice none 0 0, .slice none 0 0] 24)).drew).cell? ⟨w2.heap.size, 0, none⟩ = some (.int .i64 0) := new_cell w2 #[.int .i64 0, .slice none 0 0, .slice none 0 0] 24 0 (.int .i64 0) rfl; have yb0 : ((w2.alloc (.cells #[.int .i64 0, .slice none 0 0, .slice none 0 0] 24)).drew).frozen? ⟨w2.heap.size, 0, none⟩ = false := new_frz w2 #[.int .i64 0, .slice none 0 0, .slice none 0 0] 24 0; have xb1 : ((w2.alloc (.cells #[.int .i64 0, .slice none 0 0, .slice none 0 0] 24)).drew).cell? ⟨w2.heap.size, 1, none⟩ = some (.slice none 0 0) := new_cell w2 #[.int .i64 0, .slice none 0 0, .slice none 0 0] 24 1 (.slice none 0 0) rfl; have yb1 : ((w2.alloc (.cells #[.int .i64 0, .slice none 0 0, .slice none 0 0] 24)).drew).frozen? ⟨w2.heap.size, 1, none⟩ = false := new_frz w2 #[.int .i64 0, .slice none 0 0, .slice none 0 0] 24 1; have xb2 : ((w2.alloc (.cells #[.int .i64 0, .slice none 0 0, .slice none 0 0] 24)).drew).cell? ⟨w2.heap.size, 2, none⟩ = some (.slice none 0 0) := new_cell w2 #[.int .i64 0, .slice none 0 0, .slice none 0 0] 24 2 (.slice none 0 0) rfl; have yb2 : ((w2.alloc (.cells #[.int .i64 0, .slice none 0 0, .slice none 0 0] 24)).drew).frozen? ⟨w2.heap.size, 2, none⟩ = false := new_frz w2 #[.int .i64 0, .slice none 0 0, .slice none 0 0] 24 2))
                refine hK.out _ _ ?_ (fun hHeld4 => ?_)
                · ((try dsimp only); (first | (exact ⟨cell_drew c_paFirst0, cell_drew c_paFirst1, cell_drew c_paFirst2, cell_drew c_paSecond0, cell_drew c_paSecond1, cell_drew c_paSecond2⟩) | (go_split_ands; refine ⟨?_, ?_, ?_, ?_, ?_, ?_⟩ <;> first | assumption | (refine cell_alloc_keep _ ?_; assumption) | (refine below_cell hbC rfl ?_; assumption) | (refine below_cell hbA1 rfl ?_; assumption) | (refine below_cell hbA0 rfl ?_; assumption))))
                clear hB hK K hHeld3
                refine AnyB.each (rs := [9]) (by kernel_rfl) (by simp) ?_
                refine EachB.cons rfl (fun K hK hB => ?_) ?_
                · skip
                  go_simp
                  refine hB.out _ _ rfl ?_
                  clear hB hK K
                  refine AnyB.takeQ (i := 10) (oi := _) (v := ?_) (by simp only [List.getElem?_toArray, List.getElem?_cons_zero, List.getElem?_cons_succ]; rfl) (by kernel_rfl) (by kernel_rfl) (by kernel_rfl) (by intro _ _ _ h; exact h) (Or.inl ⟨by rfl, ?_⟩) ?_
                  rotate_left
                  · (intro w hSw; (try dsimp only at hSw); go_simp; (try (with_reducible rfl)))
                  try simp only [Act.put, List.setIfInBounds_toArray, List.set_cons_zero, List.set_cons_succ]
                  refine AnyB.none (by kernel_rfl) ?_ _
                  go_wp2_with fail
                  go_meet
                  refine ⟨_, aC0, cC0, aC1, cC1, rfl, rfl, ?_, ?_, ?_, ?_, ?_, ?_, ?_, ?_, (by repeat (first | (with_reducible exact Below.refl _ _) | (with_reducible assumption) | (with_reducible refine Below.drew ?_) | (with_reducible refine below_drewN ?_ _) | (with_reducible refine Below.alloc ?_ (by first | omega | (simp <;> omega)) _) | (with_reducible refine Below.setCell ?_ (by first | omega | (simp <;> omega)) _) | (with_reducible refine Below.trans ?_ (Below.mono (by with_reducible assumption) (by first | omega | (simp <;> omega))))))⟩
                  · first | (with_reducible exact new_cell _ _ _ 0 _ rfl) | exact (box_set3 _ _ _ xb0 xb1 xb2).1
                  · first | (with_reducible exact new_cell _ _ _ 1 _ rfl) | exact (box_set3 _ _ _ xb0 xb1 xb2).2.1
                  · first | (with_reducible exact new_cell _ _ _ 2 _ rfl) | exact (box_set3 _ _ _ xb0 xb1 xb2).2.2
                  · show OwnE _ _ _ _ _ _ _; first | (with_reducible exact (OwnE.le (OwnE.set (OwnE.set (OwnE.set KC0.out (by first | omega | (simp <;> omega)) _) (by first | omega | (simp <;> omega)) _) (by first | omega | (simp <;> omega)) _) (by first | omega | (simp <;> omega)))) | (with_reducible exact (OwnE.le (OwnE.below KC0.out (by repeat (first | (with_reducible exact Below.refl _ _) | (with_reducible assumption) | (with_reducible refine Below.drew ?_) | (with_reducible refine below_drewN ?_ _) | (with_reducible refine Below.alloc ?_ (by first | omega | (simp <;> omega)) _) | (with_reducible refine Below.setCell ?_ (by first | omega | (simp <;> omega)) _) | (with_reducible refine Below.trans ?_ (Below.mono (by with_reducible assumption) (by first | omega | (simp <;> omega)))))) rfl) (by first | omega | (simp <;> omega))))
                  · show OwnE _ _ _ _ _ _ _; first | (with_reducible exact (OwnE.le (OwnE.set (OwnE.set (OwnE.set KC1.out (by first | omega | (simp <;> omega)) _) (by first | omega | (simp <;> omega)) _) (by first | omega | (simp <;> omega)) _) (by first | omega | (simp <;> omega)))) | (with_reducible exact (OwnE.le (OwnE.below KC1.out (by repeat (first | (with_reducible exact Below.refl _ _) | (with_reducible assumption) | (with_reducible refine Below.drew ?_) | (with_reducible refine below_drewN ?_ _) | (with_reducible refine Below.alloc ?_ (by first | omega | (simp <;> omega)) _) | (with_reducible refine Below.setCell ?_ (by first | omega | (simp <;> omega)) _) | (with_reducible refine Below.trans ?_ (Below.mono (by with_reducible assumption) (by first | omega | (simp <;> omega)))))) rfl) (by first | omega | (simp <;> omega))))
                  · show ∀ g, _ → _ ∧ _; intro g hg; have hlt := KC0.out.lt g hg; (try simp at hlt); (try simp); omega
                  · show ∀ g, _ → _ ∧ _; intro g hg; have hlt := KC1.out.lt g hg; (try simp at hlt); (try simp); omega
                  · exact KAP.out
                exact EachB.nil
              exact EachB.nil
            refine EachB.cons rfl (fun K hK hB => ?_) ?_
            · skip
              (go_simp; first | (have xb0 := new_cell wC #[.int .i64 0, .slice none 0 0, .slice none 0 0] 24 0 (.int .i64 0) rfl; have yb0 := new_frz wC #[.int .i64 0, .slice none 0 0, .slice none 0 0] 24 0; have xb1 := new_cell wC #[.int .i64 0, .slice none 0 0, .slice none 0 0] 24 1 (.slice none 0 0) rfl; have yb1 := new_frz wC #[.int .i64 0, .slice none 0 0, .slice none 0 0] 24 1; have xb2 := new_cell wC #[.int .i64 0, .slice none 0 0, .slice none 0 0] 24 2 (.slice none 0 0) rfl; have yb2 := new_frz wC #[.int .i64 0, .slice none 0 0, .slice none 0 0] 24 2) | (have xb0 := new_cell wA1 #[.int .i64 0, .slice none 0 0, .slice none 0 0] 24 0 (.int .i64 0) rfl; have yb0 := new_frz wA1 #[.int .i64 0, .slice none 0 0, .slice none 0 0] 24 0; have xb1 := new_cell wA1 #[.int .i64 0, .slice none 0 0, .slice none 0 0] 24 1 (.slice none 0 0) rfl; have yb1 := new_frz wA1 #[.int .i64 0, .slice none 0 0, .slice none 0 0] 24 1; have xb2 := new_cell wA1 #[.int .i64 0, .slice none 0 0, .slice none 0 0] 24 2 (.slice none 0 0) rfl; have yb2 := new_frz wA1 #[.int .i64 0, .slice none 0 0, .slice none 0 0] 24 2) | (have xb0 := new_cell wA0 #[.int .i64 0, .slice none 0 0, .slice none 0 0] 24 0 (.int .i64 0) rfl; have yb0 := new_frz wA0 #[.int .i64 0, .slice none 0 0, .slice none 0 0] 24 0; have xb1 := new_cell wA0 #[.int .i64 0, .slice none 0 0, .slice none 0 0] 24 1 (.slice none 0 0) rfl; have yb1 := new_frz wA0 #[.int .i64 0, .slice none 0 0, .slice none 0 0] 24 1; have xb2 := new_cell wA0 #[.int .i64 0, .slice none 0 0, .slice none 0 0] 24 2 (.slice none 0 0) rfl; have yb2 := new_frz wA0 #[.int .i64 0, .slice none 0 0, .slice none 0 0] 24 2) | (have xb0 : ((w2.alloc (.cells #[.int .i64 0, .slice none 0 0, .slice none 0 0] 24)).drew).cell? ⟨w2.heap.size, 0, none⟩ = some (.int .i64 0) := new_cell w2 #[.int .i64 0, .slice none 0 0, .slice none 0 0] 24 0 (.int .i64 0) rfl; have yb0 : ((w2.alloc (.cells #[.int .i64 0, .slice none 0 0, .slice none 0 0] 24)).drew).frozen? ⟨w2.heap.size, 0, none⟩ = false := new_frz w2 #[.int .i64 0, .slice none 0 0, .slice none 0 0] 24 0; have xb1 : ((w2.alloc (.cells #[.int .i64 0, .slice none 0 0, .slice none 0 0] 24)).drew).cell? ⟨w2.heap.size, 1, none⟩ = some (.slice none 0 0) := new_cell w2 #[.int .i64 0, .slice none 0 0, .slice none 0 0] 24 1 (.slice none 0 0) rfl; have yb1 : ((w2.alloc (.cells #[.int .i64 0, .slice none 0 0, .slice none 0 0] 24)).drew).frozen? ⟨w2.heap.size, 1, none⟩ = false := new_frz w2 #[.int .i64 0, .slice none 0 0, .slice none 0 0] 24 1; have xb2 : ((w2.alloc (.cells #[.int .i64 0, .slice none 0 0, .slice none 0 0] 24)).drew).cell? ⟨w2.heap.size, 2, none⟩ = some (.slice none 0 0) := new_cell w2 #[.int .i64 0, .slice none 0 0, .slice none 0 0] 24 2 (.slice none 0 0) rfl; have yb2 : ((w2.alloc (.cells #[.int .i64 0, .slice none 0 0, .slice none 0 0] 24)).drew).frozen? ⟨w2.heap.size, 2, none⟩ = false := new_frz w2 #[.int .i64 0, .slice none 0 0, .slice none 0 0] 24 2))
              refine hK.out _ _ ?_ (fun hHeld5 => ?_)
              · ((try dsimp only); (first | (exact ⟨cell_drew c_paFirst0, cell_drew c_paFirst1, cell_drew c_paFirst2, cell_drew c_paSecond0, cell_drew c_paSecond1, cell_drew c_paSecond2⟩) | (go_split_ands; refine ⟨?_, ?_, ?_, ?_, ?_, ?_⟩ <;> first | assumption | (refine cell_alloc_keep _ ?_; assumption) | (refine below_cell hbC rfl ?_; assumption) | (refine below_cell hbA1 rfl ?_; assumption) | (refine below_cell hbA0 rfl ?_; assumption))))
              clear hB hK K hHeld2
              refine AnyB.each (rs := [4]) (by kernel_rfl) (by simp) ?_
              refine EachB.cons rfl (fun K hK hB => ?_) ?_
              · skip
                (go_simp; go_at_call 22; refine (spec_ComposeTableaux_any d_aFirst d_aSecond _ _ _ _ _ (Rd.below R00.out (by repeat (first | (with_reducible exact Below.refl _ _) | (with_reducible assumption) | (with_reducible refine Below.drew ?_) | (with_reducible refine below_drewN ?_ _) | (with_reducible refine Below.alloc ?_ (by first | omega | (simp <;> omega)) _) | (with_reducible refine Below.setCell ?_ (by first | omega | (simp <;> omega)) _) | (with_reducible refine Below.trans ?_ (Below.mono (by with_reducible assumption) (by first | omega | (simp <;> omega)))))) rfl) (Rd.below R01.out (by repeat (first | (with_reducible exact Below.refl _ _) | (with_reducible assumption) | (with_reducible refine Below.drew ?_) | (with_reducible refine below_drewN ?_ _) | (with_reducible refine Below.alloc ?_ (by first | omega | (simp <;> omega)) _) | (with_reducible refine Below.setCell ?_ (by first | omega | (simp <;> omega)) _) | (with_reducible refine Below.trans ?_ (Below.mono (by with_reducible assumption) (by first | omega | (simp <;> omega)))))) rfl) (Rd.below R10.out (by repeat (first | (with_reducible exact Below.refl _ _) | (with_reducible assumption) | (with_reducible refine Below.drew ?_) | (with_reducible refine below_drewN ?_ _) | (with_reducible refine Below.alloc ?_ (by first | omega | (simp <;> omega)) _) | (with_reducible refine Below.setCell ?_ (by first | omega | (simp <;> omega)) _) | (with_reducible refine Below.trans ?_ (Below.mono (by with_reducible assumption) (by first | omega | (simp <;> omega)))))) rfl) (Rd.below R11.out (by repeat (first | (with_reducible exact Below.refl _ _) | (with_reducible assumption) | (with_reducible refine Below.drew ?_) | (with_reducible refine below_drewN ?_ _) | (with_reducible refine Below.alloc ?_ (by first | omega | (simp <;> omega)) _) | (with_reducible refine Below.setCell ?_ (by first | omega | (simp <;> omega)) _) | (with_reducible refine Below.trans ?_ (Below.mono (by with_reducible assumption) (by first | omega | (simp <;> omega)))))) rfl) LEN_aFirst0 LEN_aFirst1 LEN_aSecond0 LEN_aSecond1).mono ?_; rw [← Hr.out]; rintro e wC ⟨vC0, vC1, rfl, hC0, hC1, hapC, hbC⟩; obtain ⟨aC0, cC0, rfl⟩ := hC0.forms; have KC0 := Lib.hid hC0; clear hC0; obtain ⟨aC1, cC1, rfl⟩ := hC1.forms; have KC1 := Lib.hid hC1; clear hC1; have zC := hbC.size; (try simp at zC); have KAP := Lib.hid hapC; clear hapC; (try (replace yb0 := below_frz hbC rfl (World.block_lt_of_cell? _ _ xb0) yb0; replace xb0 := below_cell hbC rfl xb0; replace yb1 := below_frz hbC rfl (World.block_lt_of_cell? _ _ xb1) yb1; replace xb1 := below_cell hbC rfl xb1; replace yb2 := below_frz hbC rfl (World.block_lt_of_cell? _ _ xb2) yb2; replace xb2 := below_cell hbC rfl xb2)); dsimp only)
                refine hK.out _ _ ?_ (fun hHeld6 => ?_)
                · ((try dsimp only); (first | (exact ⟨cell_drew c_paFirst0, cell_drew c_paFirst1, cell_drew c_paFirst2, cell_drew c_paSecond0, cell_drew c_paSecond1, cell_drew c_paSecond2⟩) | (go_split_ands; refine ⟨?_, ?_, ?_, ?_, ?_, ?_⟩ <;> first | assumption | (refine cell_alloc_keep _ ?_; assumption) | (refine below_cell hbC rfl ?_; assumption) | (refine below_cell hbA1 rfl ?_; assumption) | (refine below_cell hbA0 rfl ?_; assumption))))
                clear hB hK K hHeld5
                refine AnyB.takeQ (i := 5) (oi := _) (v := ?_) (by simp only [List.getElem?_toArray, List.getElem?_cons_zero, List.getElem?_cons_succ]; rfl) (by kernel_rfl) (by kernel_rfl) (by kernel_rfl) (by intro _ _ _ h; exact h) (Or.inl ⟨by rfl, ?_⟩) ?_
                rotate_left
                · (intro w hSw; (try dsimp only at hSw); go_simp; (try (with_reducible rfl)))
                try simp only [Act.put, List.setIfInBounds_toArray, List.set_cons_zero, List.set_cons_succ]
                refine AnyB.takeQ (i := 6) (oi := _) (v := ?_) (by simp only [List.getElem?_toArray, List.getElem?_cons_zero, List.getElem?_cons_succ]; rfl) (by kernel_rfl) (by kernel_rfl) (by kernel_rfl) (by intro _ _ _ h; exact h) (Or.inl ⟨by rfl, ?_⟩) ?_
                rotate_left
                · (intro w hSw; (try dsimp only at hSw); go_simp; (try (with_reducible rfl)))
                try simp only [Act.put, List.setIfInBounds_toArray, List.set_cons_zero, List.set_cons_succ]
                refine AnyB.takeQ (i := 7) (oi := _) (v := ?_) (by simp only [List.getElem?_toArray, List.getElem?_cons_zero, List.getElem?_cons_succ]; rfl) (by kernel_rfl) (by kernel_rfl) (by kernel_rfl) (by intro _ _ _ h; exact h) (Or.inl ⟨by rfl, ?_⟩) ?_
                rotate_left
                · (intro w hSw; (try dsimp only at hSw); go_simp; (try (with_reducible rfl)))
                try simp only [Act.put, List.setIfInBounds_toArray, List.set_cons_zero, List.set_cons_succ]
                refine AnyB.each (rs := [9]) (by kernel_rfl) (by simp) ?_
                refine EachB.cons rfl (fun K hK hB => ?_) ?_
                · skip
                  go_simp
                  refine hB.out _ _ rfl ?_
                  clear hB hK K
                  refine AnyB.takeQ (i := 10) (oi := _) (v := ?_) (by simp only [List.getElem?_toArray, List.getElem?_cons_zero, List.getElem?_cons_succ]; rfl) (by kernel_rfl) (by kernel_rfl) (by kernel_rfl) (by intro _ _ _ h; exact h) (Or.inl ⟨by rfl, ?_⟩) ?_
                  rotate_left
                  · (intro w hSw; (try dsimp only at hSw); go_simp; (try (with_reducible rfl)))
                  try simp only [Act.put, List.setIfInBounds_toArray, List.set_cons_zero, List.set_cons_succ]
                  refine AnyB.none (by kernel_rfl) ?_ _
                  go_wp2_with fail
                  go_meet
                  refine ⟨_, aC0, cC0, aC1, cC1, rfl, rfl, ?_, ?_, ?_, ?_, ?_, ?_, ?_, ?_, (by repeat (first | (with_reducible exact Below.refl _ _) | (with_reducible assumption) | (with_reducible refine Below.drew ?_) | (with_reducible refine below_drewN ?_ _) | (with_reducible refine Below.alloc ?_ (by first | omega | (simp <;> omega)) _) | (with_reducible refine Below.setCell ?_ (by first | omega | (simp <;> omega)) _) | (with_reducible refine Below.trans ?_ (Below.mono (by with_reducible assumption) (by first | omega | (simp <;> omega))))))⟩
                  · first | (with_reducible exact new_cell _ _ _ 0 _ rfl) | exact (box_set3 _ _ _ xb0 xb1 xb2).1
                  · first | (with_reducible exact new_cell _ _ _ 1 _ rfl) | exact (box_set3 _ _ _ xb0 xb1 xb2).2.1
                  · first | (with_reducible exact new_cell _ _ _ 2 _ rfl) | exact (box_set3 _ _ _ xb0 xb1 xb2).2.2
                  · show OwnE _ _ _ _ _ _ _; first | (with_reducible exact (OwnE.le (OwnE.set (OwnE.set (OwnE.set KC0.out (by first | omega | (simp <;> omega)) _) (by first | omega | (simp <;> omega)) _) (by first | omega | (simp <;> omega)) _) (by first | omega | (simp <;> omega)))) | (with_reducible exact (OwnE.le (OwnE.below KC0.out (by repeat (first | (with_reducible exact Below.refl _ _) | (with_reducible assumption) | (with_reducible refine Below.drew ?_) | (with_reducible refine below_drewN ?_ _) | (with_reducible refine Below.alloc ?_ (by first | omega | (simp <;> omega)) _) | (with_reducible refine Below.setCell ?_ (by first | omega | (simp <;> omega)) _) | (with_reducible refine Below.trans ?_ (Below.mono (by with_reducible assumption) (by first | omega | (simp <;> omega)))))) rfl) (by first | omega | (simp <;> omega))))
                  · show OwnE _ _ _ _ _ _ _; first | (with_reducible exact (OwnE.le (OwnE.set (OwnE.set (OwnE.set KC1.out (by first | omega | (simp <;> omega)) _) (by first | omega | (simp <;> omega)) _) (by first | omega | (simp <;> omega)) _) (by first | omega | (simp <;> omega)))) | (with_reducible exact (OwnE.le (OwnE.below KC1.out (by repeat (first | (with_reducible exact Below.refl _ _) | (with_reducible assumption) | (with_reducible refine Below.drew ?_) | (with_reducible refine below_drewN ?_ _) | (with_reducible refine Below.alloc ?_ (by first | omega | (simp <;> omega)) _) | (with_reducible refine Below.setCell ?_ (by first | omega | (simp <;> omega)) _) | (with_reducible refine Below.trans ?_ (Below.mono (by with_reducible assumption) (by first | omega | (simp <;> omega)))))) rfl) (by first | omega | (simp <;> omega))))
                  · show ∀ g, _ → _ ∧ _; intro g hg; have hlt := KC0.out.lt g hg; (try simp at hlt); (try simp); omega
                  · show ∀ g, _ → _ ∧ _; intro g hg; have hlt := KC1.out.lt g hg; (try simp at hlt); (try simp); omega
                  · exact KAP.out
                exact EachB.nil
              exact EachB.nil
            exact EachB.nil
          refine EachB.cons rfl (fun K hK hB => ?_) ?_
          · skip
            (go_simp; first | (have xb0 := new_cell wC #[.int .i64 0, .slice none 0 0, .slice none 0 0] 24 0 (.int .i64 0) rfl; have yb0 := new_frz wC #[.int .i64 0, .slice none 0 0, .slice none 0 0] 24 0; have xb1 := new_cell wC #[.int .i64 0, .slice none 0 0, .slice none 0 0] 24 1 (.slice none 0 0) rfl; have yb1 := new_frz wC #[.int .i64 0, .slice none 0 0, .slice none 0 0] 24 1; have xb2 := new_cell wC #[.int .i64 0, .slice none 0 0, .slice none 0 0] 24 2 (.slice none 0 0) rfl; have yb2 := new_frz wC #[.int .i64 0, .slice none 0 0, .slice none 0 0] 24 2) | (have xb0 := new_cell wA1 #[.int .i64 0, .slice none 0 0, .slice none 0 0] 24 0 (.int .i64 0) rfl; have yb0 := new_frz wA1 #[.int .i64 0, .slice none 0 0, .slice none 0 0] 24 0; have xb1 := new_cell wA1 #[.int .i64 0, .slice none 0 0, .slice none 0 0] 24 1 (.slice none 0 0) rfl; have yb1 := new_frz wA1 #[.int .i64 0, .slice none 0 0, .slice none 0 0] 24 1; have xb2 := new_cell wA1 #[.int .i64 0, .slice none 0 0, .slice none 0 0] 24 2 (.slice none 0 0) rfl; have yb2 := new_frz wA1 #[.int .i64 0, .slice none 0 0, .slice none 0 0] 24 2) | (have xb0 := new_cell wA0 #[.int .i64 0, .slice none 0 0, .slice none 0 0] 24 0 (.int .i64 0) rfl; have yb0 := new_frz wA0 #[.int .i64 0, .slice none 0 0, .slice none 0 0] 24 0; have xb1 := new_cell wA0 #[.int .i64 0, .slice none 0 0, .slice none 0 0] 24 1 (.slice none 0 0) rfl; have yb1 := new_frz wA0 #[.int .i64 0, .slice none 0 0, .slice none 0 0] 24 1; have xb2 := new_cell wA0 #[.int .i64 0, .slice none 0 0, .slice none 0 0] 24 2 (.slice none 0 0) rfl; have yb2 := new_frz wA0 #[.int .i64 0, .slice none 0 0, .slice none 0 0] 24 2) | (have xb0 : ((w2.alloc (.cells #[.int .i64 0, .slice none 0 0, .slice none 0 0] 24)).drew).cell? ⟨w2.heap.size, 0, none⟩ = some (.int .i64 0) := new_cell w2 #[.int .i64 0, .slice none 0 0, .slice none 0 0] 24 0 (.int .i64 0) rfl; have yb0 : ((w2.alloc (.cells #[.int .i64 0, .slice none 0 0, .slice none 0 0] 24)).drew).frozen? ⟨w2.heap.size, 0, none⟩ = false := new_frz w2 #[.int .i64 0, .slice none 0 0, .slice none 0 0] 24 0; have xb1 : ((w2.alloc (.cells #[.int .i64 0, .slice none 0 0, .slice none 0 0] 24)).drew).cell? ⟨w2.heap.size, 1, none⟩ = some (.slice none 0 0) := new_cell w2 #[.int .i64 0, .slice none 0 0, .slice none 0 0] 24 1 (.slice none 0 0) rfl; have yb1 : ((w2.alloc (.cells #[.int .i64 0, .slice none 0 0, .slice none 0 0] 24)).drew).frozen? ⟨w2.heap.size, 1, none⟩ = false := new_frz w2 #[.int .i64 0, .slice none 0 0, .slice none 0 0] 24 1; have xb2 : ((w2.alloc (.cells #[.int .i64 0, .slice none 0 0, .slice none 0 0] 24)).drew).cell? ⟨w2.heap.size, 2, none⟩ = some (.slice none 0 0) := new_cell w2 #[.int .i64 0, .slice none 0 0, .slice none 0 0] 24 2 (.slice none 0 0) rfl; have yb2 : ((w2.alloc (.cells #[.int .i64 0, .slice none 0 0, .slice none 0 0] 24)).drew).frozen? ⟨w2.heap.size, 2, none⟩ = false := new_frz w2 #[.int .i64 0, .slice none 0 0, .slice none 0 0] 24 2))
            refine hK.out _ _ ?_ (fun hHeld7 => ?_)
            · ((try dsimp only); (first | (exact ⟨cell_drew c_paFirst0, cell_drew c_paFirst1, cell_drew c_paFirst2, cell_drew c_paSecond0, cell_drew c_paSecond1, cell_drew c_paSecond2⟩) | (go_split_ands; refine ⟨?_, ?_, ?_, ?_, ?_, ?_⟩ <;> first | assumption | (refine cell_alloc_keep _ ?_; assumption) | (refine below_cell hbC rfl ?_; assumption) | (refine below_cell hbA1 rfl ?_; assumption) | (refine below_cell hbA0 rfl ?_; assumption))))
            clear hB hK K hHeld1
            refine AnyB.each (rs := [3]) (by kernel_rfl) (by simp) ?_
            refine EachB.cons rfl (fun K hK hB => ?_) ?_
            · skip
              (go_simp; go_at_call 20; refine (laws_toTableau_any d_aSecond _ _ _ (Rd.below HA_aSecond0.out (by repeat (first | (with_reducible exact Below.refl _ _) | (with_reducible assumption) | (with_reducible refine Below.drew ?_) | (with_reducible refine below_drewN ?_ _) | (with_reducible refine Below.alloc ?_ (by first | omega | (simp <;> omega)) _) | (with_reducible refine Below.setCell ?_ (by first | omega | (simp <;> omega)) _) | (with_reducible refine Below.trans ?_ (Below.mono (by with_reducible assumption) (by first | omega | (simp <;> omega)))))) rfl) (Rd.below HA_aSecond1.out (by repeat (first | (with_reducible exact Below.refl _ _) | (with_reducible assumption) | (with_reducible refine Below.drew ?_) | (with_reducible refine below_drewN ?_ _) | (with_reducible refine Below.alloc ?_ (by first | omega | (simp <;> omega)) _) | (with_reducible refine Below.setCell ?_ (by first | omega | (simp <;> omega)) _) | (with_reducible refine Below.trans ?_ (Below.mono (by with_reducible assumption) (by first | omega | (simp <;> omega)))))) rfl) LEN_aSecond0 LEN_aSecond1).mono ?_; rintro e wA1 ⟨vA10, vA11, rfl, hA10, hA11, _, hbA1⟩; obtain ⟨aA10, cA10, rfl⟩ := hA10.forms; have R10 := Lib.hid (hA10.rd); clear hA10; obtain ⟨aA11, cA11, rfl⟩ := hA11.forms; have R11 := Lib.hid (hA11.rd); clear hA11; have zA1 := hbA1.size; (try simp at zA1); (try (replace yb0 := below_frz hbA1 rfl (World.block_lt_of_cell? _ _ xb0) yb0; replace xb0 := below_cell hbA1 rfl xb0; replace yb1 := below_frz hbA1 rfl (World.block_lt_of_cell? _ _ xb1) yb1; replace xb1 := below_cell hbA1 rfl xb1; replace yb2 := below_frz hbA1 rfl (World.block_lt_of_cell? _ _ xb2) yb2; replace xb2 := below_cell hbA1 rfl xb2)); dsimp only)
              refine hK.out _ _ ?_ (fun hHeld8 => ?_)
              · ((try dsimp only); (first | (exact ⟨cell_drew c_paFirst0, cell_drew c_paFirst1, cell_drew c_paFirst2, cell_drew c_paSecond0, cell_drew c_paSecond1, cell_drew c_paSecond2⟩) | (go_split_ands; refine ⟨?_, ?_, ?_, ?_, ?_, ?_⟩ <;> first | assumption | (refine cell_alloc_keep _ ?_; assumption) | (refine below_cell hbC rfl ?_; assumption) | (refine below_cell hbA1 rfl ?_; assumption) | (refine below_cell hbA0 rfl ?_; assumption))))
              clear hB hK K hHeld7
              refine AnyB.each (rs := [4]) (by kernel_rfl) (by simp) ?_
              refine EachB.cons rfl (fun K hK hB => ?_) ?_
              · skip
                (go_simp; go_at_call 22; refine (spec_ComposeTableaux_any d_aFirst d_aSecond _ _ _ _ _ (Rd.below R00.out (by repeat (first | (with_reducible exact Below.refl _ _) | (with_reducible assumption) | (with_reducible refine Below.drew ?_) | (with_reducible refine below_drewN ?_ _) | (with_reducible refine Below.alloc ?_ (by first | omega | (simp <;> omega)) _) | (with_reducible refine Below.setCell ?_ (by first | omega | (simp <;> omega)) _) | (with_reducible refine Below.trans ?_ (Below.mono (by with_reducible assumption) (by first | omega | (simp <;> omega)))))) rfl) (Rd.below R01.out (by repeat (first | (with_reducible exact Below.refl _ _) | (with_reducible assumption) | (with_reducible refine Below.drew ?_) | (with_reducible refine below_drewN ?_ _) | (with_reducible refine Below.alloc ?_ (by first | omega | (simp <;> omega)) _) | (with_reducible refine Below.setCell ?_ (by first | omega | (simp <;> omega)) _) | (with_reducible refine Below.trans ?_ (Below.mono (by with_reducible assumption) (by first | omega | (simp <;> omega)))))) rfl) (Rd.below R10.out (by repeat (first | (with_reducible exact Below.refl _ _) | (with_reducible assumption) | (with_reducible refine Below.drew ?_) | (with_reducible refine below_drewN ?_ _) | (with_reducible refine Below.alloc ?_ (by first | omega | (simp <;> omega)) _) | (with_reducible refine Below.setCell ?_ (by first | omega | (simp <;> omega)) _) | (with_reducible refine Below.trans ?_ (Below.mono (by with_reducible assumption) (by first | omega | (simp <;> omega)))))) rfl) (Rd.below R11.out (by repeat (first | (with_reducible exact Below.refl _ _) | (with_reducible assumption) | (with_reducible refine Below.drew ?_) | (with_reducible refine below_drewN ?_ _) | (with_reducible refine Below.alloc ?_ (by first | omega | (simp <;> omega)) _) | (with_reducible refine Below.setCell ?_ (by first | omega | (simp <;> omega)) _) | (with_reducible refine Below.trans ?_ (Below.mono (by with_reducible assumption) (by first | omega | (simp <;> omega)))))) rfl) LEN_aFirst0 LEN_aFirst1 LEN_aSecond0 LEN_aSecond1).mono ?_; rw [← Hr.out]; rintro e wC ⟨vC0, vC1, rfl, hC0, hC1, hapC, hbC⟩; obtain ⟨aC0, cC0, rfl⟩ := hC0.forms; have KC0 := Lib.hid hC0; clear hC0; obtain ⟨aC1, cC1, rfl⟩ := hC1.forms; have KC1 := Lib.hid hC1; clear hC1; have zC := hbC.size; (try simp at zC); have KAP := Lib.hid hapC; clear hapC; (try (replace yb0 := below_frz hbC rfl (World.block_lt_of_cell? _ _ xb0) yb0; replace xb0 := below_cell hbC rfl xb0; replace yb1 := below_frz hbC rfl (World.block_lt_of_cell? _ _ xb1) yb1; replace xb1 := below_cell hbC rfl xb1; replace yb2 := below_frz hbC rfl (World.block_lt_of_cell? _ _ xb2) yb2; replace xb2 := below_cell hbC rfl xb2)); dsimp only)
                refine hK.out _ _ ?_ (fun hHeld9 => ?_)
                · ((try dsimp only); (first | (exact ⟨cell_drew c_paFirst0, cell_drew c_paFirst1, cell_drew c_paFirst2, cell_drew c_paSecond0, cell_drew c_paSecond1, cell_drew c_paSecond2⟩) | (go_split_ands; refine ⟨?_, ?_, ?_, ?_, ?_, ?_⟩ <;> first | assumption | (refine cell_alloc_keep _ ?_; assumption) | (refine below_cell hbC rfl ?_; assumption) | (refine below_cell hbA1 rfl ?_; assumption) | (refine below_cell hbA0 rfl ?_; assumption))))
                clear hB hK K hHeld8
                refine AnyB.takeQ (i := 5) (oi := _) (v := ?_) (by simp only [List.getElem?_toArray, List.getElem?_cons_zero, List.getElem?_cons_succ]; rfl) (by kernel_rfl) (by kernel_rfl) (by kernel_rfl) (by intro _ _ _ h; exact h) (Or.inl ⟨by rfl, ?_⟩) ?_
                rotate_left
                · (intro w hSw; (try dsimp only at hSw); go_simp; (try (with_reducible rfl)))
                try simp only [Act.put, List.setIfInBounds_toArray, List.set_cons_zero, List.set_cons_succ]
                refine AnyB.takeQ (i := 6) (oi := _) (v := ?_) (by simp only [List.getElem?_toArray, List.getElem?_cons_zero, List.getElem?_cons_succ]; rfl) (by kernel_rfl) (by kernel_rfl) (by kernel_rfl) (by intro _ _ _ h; exact h) (Or.inl ⟨by rfl, ?_⟩) ?_
                rotate_left
                · (intro w hSw; (try dsimp only at hSw); go_simp; (try (with_reducible rfl)))
                try simp only [Act.put, List.setIfInBounds_toArray, List.set_cons_zero, List.set_cons_succ]
                refine AnyB.takeQ (i := 7) (oi := _) (v := ?_) (by simp only [List.getElem?_toArray, List.getElem?_cons_zero, List.getElem?_cons_succ]; rfl) (by kernel_rfl) (by kernel_rfl) (by kernel_rfl) (by intro _ _ _ h; exact h) (Or.inl ⟨by rfl, ?_⟩) ?_
                rotate_left
                · (intro w hSw; (try dsimp only at hSw); go_simp; (try (with_reducible rfl)))
                try simp only [Act.put, List.setIfInBounds_toArray, List.set_cons_zero, List.set_cons_succ]
                refine AnyB.each (rs := [9]) (by kernel_rfl) (by simp) ?_
                refine EachB.cons rfl (fun K hK hB => ?_) ?_
                · skip
                  go_simp
                  refine hB.out _ _ rfl ?_
                  clear hB hK K
                  refine AnyB.takeQ (i := 10) (oi := _) (v := ?_) (by simp only [List.getElem?_toArray, List.getElem?_cons_zero, List.getElem?_cons_succ]; rfl) (by kernel_rfl) (by kernel_rfl) (by kernel_rfl) (by intro _ _ _ h; exact h) (Or.inl ⟨by rfl, ?_⟩) ?_
                  rotate_left
                  · (intro w hSw; (try dsimp only at hSw); go_simp; (try (with_reducible rfl)))
                  try simp only [Act.put, List.setIfInBounds_toArray, List.set_cons_zero, List.set_cons_succ]
                  refine AnyB.none (by kernel_rfl) ?_ _
                  go_wp2_with fail
                  go_meet
                  refine ⟨_, aC0, cC0, aC1, cC1, rfl, rfl, ?_, ?_, ?_, ?_, ?_, ?_, ?_, ?_, (by repeat (first | (with_reducible exact Below.refl _ _) | (with_reducible assumption) | (with_reducible refine Below.drew ?_) | (with_reducible refine below_drewN ?_ _) | (with_reducible refine Below.alloc ?_ (by first | omega | (simp <;> omega)) _) | (with_reducible refine Below.setCell ?_ (by first | omega | (simp <;> omega)) _) | (with_reducible refine Below.trans ?_ (Below.mono (by with_reducible assumption) (by first | omega | (simp <;> omega))))))⟩
                  · first | (with_reducible exact new_cell _ _ _ 0 _ rfl) | exact (box_set3 _ _ _ xb0 xb1 xb2).1
                  · first | (with_reducible exact new_cell _ _ _ 1 _ rfl) | exact (box_set3 _ _ _ xb0 xb1 xb2).2.1
                  · first | (with_reducible exact new_cell _ _ _ 2 _ rfl) | exact (box_set3 _ _ _ xb0 xb1 xb2).2.2
                  · show OwnE _ _ _ _ _ _ _; first | (with_reducible exact (OwnE.le (OwnE.set (OwnE.set (OwnE.set KC0.out (by first | omega | (simp <;> omega)) _) (by first | omega | (simp <;> omega)) _) (by first | omega | (simp <;> omega)) _) (by first | omega | (simp <;> omega)))) | (with_reducible exact (OwnE.le (OwnE.below KC0.out (by repeat (first | (with_reducible exact Below.refl _ _) | (with_reducible assumption) | (with_reducible refine Below.drew ?_) | (with_reducible refine below_drewN ?_ _) | (with_reducible refine Below.alloc ?_ (by first | omega | (simp <;> omega)) _) | (with_reducible refine Below.setCell ?_ (by first | omega | (simp <;> omega)) _) | (with_reducible refine Below.trans ?_ (Below.mono (by with_reducible assumption) (by first | omega | (simp <;> omega)))))) rfl) (by first | omega | (simp <;> omega))))
                  · show OwnE _ _ _ _ _ _ _; first | (with_reducible exact (OwnE.le (OwnE.set (OwnE.set (OwnE.set KC1.out (by first | omega | (simp <;> omega)) _) (by first | omega | (simp <;> omega)) _) (by first | omega | (simp <;> omega)) _) (by first | omega | (simp <;> omega)))) | (with_reducible exact (OwnE.le (OwnE.below KC1.out (by repeat (first | (with_reducible exact Below.refl _ _) | (with_reducible assumption) | (with_reducible refine Below.drew ?_) | (with_reducible refine below_drewN ?_ _) | (with_reducible refine Below.alloc ?_ (by first | omega | (simp <;> omega)) _) | (with_reducible refine Below.setCell ?_ (by first | omega | (simp <;> omega)) _) | (with_reducible refine Below.trans ?_ (Below.mono (by with_reducible assumption) (by first | omega | (simp <;> omega)))))) rfl) (by first | omega | (simp <;> omega))))
                  · show ∀ g, _ → _ ∧ _; intro g hg; have hlt := KC0.out.lt g hg; (try simp at hlt); (try simp); omega
                  · show ∀ g, _ → _ ∧ _; intro g hg; have hlt := KC1.out.lt g hg; (try simp at hlt); (try simp); omega
                  · exact KAP.out
                exact EachB.nil
              exact EachB.nil
            exact EachB.nil
          exact EachB.nil
        refine EachB.cons rfl (fun K hK hB => ?_) ?_
        · skip
          (go_simp; first | (have xb0 := new_cell wC #[.int .i64 0, .slice none 0 0, .slice none 0 0] 24 0 (.int .i64 0) rfl; have yb0 := new_frz wC #[.int .i64 0, .slice none 0 0, .slice none 0 0] 24 0; have xb1 := new_cell wC #[.int .i64 0, .slice none 0 0, .slice none 0 0] 24 1 (.slice none 0 0) rfl; have yb1 := new_frz wC #[.int .i64 0, .slice none 0 0, .slice none 0 0] 24 1; have xb2 := new_cell wC #[.int .i64 0, .slice none 0 0, .slice none 0 0] 24 2 (.slice none 0 0) rfl; have yb2 := new_frz wC #[.int .i64 0, .slice none 0 0, .slice none 0 0] 24 2) | (have xb0 := new_cell wA1 #[.int .i64 0, .slice none 0 0, .slice none 0 0] 24 0 (.int .i64 0) rfl; have yb0 := new_frz wA1 #[.int .i64 0, .slice none 0 0, .slice none 0 0] 24 0; have xb1 := new_cell wA1 #[.int .i64 0, .slice none 0 0, .slice none 0 0] 24 1 (.slice none 0 0) rfl; have yb1 := new_frz wA1 #[.int .i64 0, .slice none 0 0, .slice none 0 0] 24 1; have xb2 := new_cell wA1 #[.int .i64 0, .slice none 0 0, .slice none 0 0] 24 2 (.slice none 0 0) rfl; have yb2 := new_frz wA1 #[.int .i64 0, .slice none 0 0, .slice none 0 0] 24 2) | (have xb0 := new_cell wA0 #[.int .i64 0, .slice none 0 0, .slice none 0 0] 24 0 (.int .i64 0) rfl; have yb0 := new_frz wA0 #[.int .i64 0, .slice none 0 0, .slice none 0 0] 24 0; have xb1 := new_cell wA0 #[.int .i64 0, .slice none 0 0, .slice none 0 0] 24 1 (.slice none 0 0) rfl; have yb1 := new_frz wA0 #[.int .i64 0, .slice none 0 0, .slice none 0 0] 24 1; have xb2 := new_cell wA0 #[.int .i64 0, .slice none 0 0, .slice none 0 0] 24 2 (.slice none 0 0) rfl; have yb2 := new_frz wA0 #[.int .i64 0, .slice none 0 0, .slice none 0 0] 24 2) | (have xb0 : ((w2.alloc (.cells #[.int .i64 0, .slice none 0 0, .slice none 0 0] 24)).drew).cell? ⟨w2.heap.size, 0, none⟩ = some (.int .i64 0) := new_cell w2 #[.int .i64 0, .slice none 0 0, .slice none 0 0] 24 0 (.int .i64 0) rfl; have yb0 : ((w2.alloc (.cells #[.int .i64 0, .slice none 0 0, .slice none 0 0] 24)).drew).frozen? ⟨w2.heap.size, 0, none⟩ = false := new_frz w2 #[.int .i64 0, .slice none 0 0, .slice none 0 0] 24 0; have xb1 : ((w2.alloc (.cells #[.int .i64 0, .slice none 0 0, .slice none 0 0] 24)).drew).cell? ⟨w2.heap.size, 1, none⟩ = some (.slice none 0 0) := new_cell w2 #[.int .i64 0, .slice none 0 0, .slice none 0 0] 24 1 (.slice none 0 0) rfl; have yb1 : ((w2.alloc (.cells #[.int .i64 0, .slice none 0 0, .slice none 0 0] 24)).drew).frozen? ⟨w2.heap.size, 1, none⟩ = false := new_frz w2 #[.int .i64 0, .slice none 0 0, .slice none 0 0] 24 1; have xb2 : ((w2.alloc (.cells #[.int .i64 0, .slice none 0 0, .slice none 0 0] 24)).drew).cell? ⟨w2.heap.size, 2, none⟩ = some (.slice none 0 0) := new_cell w2 #[.int .i64 0, .slice none 0 0, .slice none 0 0] 24 2 (.slice none 0 0) rfl; have yb2 : ((w2.alloc (.cells #[.int .i64 0, .slice none 0 0, .slice none 0 0] 24)).drew).frozen? ⟨w2.heap.size, 2, none⟩ = false := new_frz w2 #[.int .i64 0, .slice none 0 0, .slice none 0 0] 24 2))
          refine hK.out _ _ ?_ (fun hHeld10 => ?_)
          · ((try dsimp only); (first | (exact ⟨cell_drew c_paFirst0, cell_drew c_paFirst1, cell_drew c_paFirst2, cell_drew c_paSecond0, cell_drew c_paSecond1, cell_drew c_paSecond2⟩) | (go_split_ands; refine ⟨?_, ?_, ?_, ?_, ?_, ?_⟩ <;> first | assumption | (refine cell_alloc_keep _ ?_; assumption) | (refine below_cell hbC rfl ?_; assumption) | (refine below_cell hbA1 rfl ?_; assumption) | (refine below_cell hbA0 rfl ?_; assumption))))
          clear hB hK K hHeld0
          refine AnyB.each (rs := [1]) (by kernel_rfl) (by simp) ?_
          refine EachB.cons rfl (fun K hK hB => ?_) ?_
          · skip
            (go_simp; go_at_call 20; refine (laws_toTableau_any d_aFirst _ _ _ (Rd.below HA_aFirst0.out (by repeat (first | (with_reducible exact Below.refl _ _) | (with_reducible assumption) | (with_reducible refine Below.drew ?_) | (with_reducible refine below_drewN ?_ _) | (with_reducible refine Below.alloc ?_ (by first | omega | (simp <;> omega)) _) | (with_reducible refine Below.setCell ?_ (by first | omega | (simp <;> omega)) _) | (with_reducible refine Below.trans ?_ (Below.mono (by with_reducible assumption) (by first | omega | (simp <;> omega)))))) rfl) (Rd.below HA_aFirst1.out (by repeat (first | (with_reducible exact Below.refl _ _) | (with_reducible assumption) | (with_reducible refine Below.drew ?_) | (with_reducible refine below_drewN ?_ _) | (with_reducible refine Below.alloc ?_ (by first | omega | (simp <;> omega)) _) | (with_reducible refine Below.setCell ?_ (by first | omega | (simp <;> omega)) _) | (with_reducible refine Below.trans ?_ (Below.mono (by with_reducible assumption) (by first | omega | (simp <;> omega)))))) rfl) LEN_aFirst0 LEN_aFirst1).mono ?_; rintro e wA0 ⟨vA00, vA01, rfl, hA00, hA01, _, hbA0⟩; obtain ⟨aA00, cA00, rfl⟩ := hA00.forms; have R00 := Lib.hid (hA00.rd); clear hA00; obtain ⟨aA01, cA01, rfl⟩ := hA01.forms; have R01 := Lib.hid (hA01.rd); clear hA01; have zA0 := hbA0.size; (try simp at zA0); (try (replace yb0 := below_frz hbA0 rfl (World.block_lt_of_cell? _ _ xb0) yb0; replace xb0 := below_cell hbA0 rfl xb0; replace yb1 := below_frz hbA0 rfl (World.block_lt_of_cell? _ _ xb1) yb1; replace xb1 := below_cell hbA0 rfl xb1; replace yb2 := below_frz hbA0 rfl (World.block_lt_of_cell? _ _ xb2) yb2; replace xb2 := below_cell hbA0 rfl xb2)); dsimp only)
            refine hK.out _ _ ?_ (fun hHeld11 => ?_)
            · ((try dsimp only); (first | (exact ⟨cell_drew c_paFirst0, cell_drew c_paFirst1, cell_drew c_paFirst2, cell_drew c_paSecond0, cell_drew c_paSecond1, cell_drew c_paSecond2⟩) | (go_split_ands; refine ⟨?_, ?_, ?_, ?_, ?_, ?_⟩ <;> first | assumption | (refine cell_alloc_keep _ ?_; assumption) | (refine below_cell hbC rfl ?_; assumption) | (refine below_cell hbA1 rfl ?_; assumption) | (refine below_cell hbA0 rfl ?_; assumption))))
            clear hB hK K hHeld10
            refine AnyB.each (rs := [3]) (by kernel_rfl) (by simp) ?_
            refine EachB.cons rfl (fun K hK hB => ?_) ?_
            · skip
              (go_simp; go_at_call 20; refine (laws_toTableau_any d_aSecond _ _ _ (Rd.below HA_aSecond0.out (by repeat (first | (with_reducible exact Below.refl _ _) | (with_reducible assumption) | (with_reducible refine Below.drew ?_) | (with_reducible refine below_drewN ?_ _) | (with_reducible refine Below.alloc ?_ (by first | omega | (simp <;> omega)) _) | (with_reducible refine Below.setCell ?_ (by first | omega | (simp <;> omega)) _) | (with_reducible refine Below.trans ?_ (Below.mono (by with_reducible assumption) (by first | omega | (simp <;> omega)))))) rfl) (Rd.below HA_aSecond1.out (by repeat (first | (with_reducible exact Below.refl _ _) | (with_reducible assumption) | (with_reducible refine Below.drew ?_) | (with_reducible refine below_drewN ?_ _) | (with_reducible refine Below.alloc ?_ (by first | omega | (simp <;> omega)) _) | (with_reducible refine Below.setCell ?_ (by first | omega | (simp <;> omega)) _) | (with_reducible refine Below.trans ?_ (Below.mono (by with_reducible assumption) (by first | omega | (simp <;> omega)))))) rfl) LEN_aSecond0 LEN_aSecond1).mono ?_; rintro e wA1 ⟨vA10, vA11, rfl, hA10, hA11, _, hbA1⟩; obtain ⟨aA10, cA10, rfl⟩ := hA10.forms; have R10 := Lib.hid (hA10.rd); clear hA10; obtain ⟨aA11, cA11, rfl⟩ := hA11.forms; have R11 := Lib.hid (hA11.rd); clear hA11; have zA1 := hbA1.size; (try simp at zA1); (try (replace yb0 := below_frz hbA1 rfl (World.block_lt_of_cell? _ _ xb0) yb0; replace xb0 := below_cell hbA1 rfl xb0; replace yb1 := below_frz hbA1 rfl (World.block_lt_of_cell? _ _ xb1) yb1; replace xb1 := below_cell hbA1 rfl xb1; replace yb2 := below_frz hbA1 rfl (World.block_lt_of_cell? _ _ xb2) yb2; replace xb2 := below_cell hbA1 rfl xb2)); dsimp only)
              refine hK.out _ _ ?_ (fun hHeld12 => ?_)
              · ((try dsimp only); (first | (exact ⟨cell_drew c_paFirst0, cell_drew c_paFirst1, cell_drew c_paFirst2, cell_drew c_paSecond0, cell_drew c_paSecond1, cell_drew c_paSecond2⟩) | (go_split_ands; refine ⟨?_, ?_, ?_, ?_, ?_, ?_⟩ <;> first | assumption | (refine cell_alloc_keep _ ?_; assumption) | (refine below_cell hbC rfl ?_; assumption) | (refine below_cell hbA1 rfl ?_; assumption) | (refine below_cell hbA0 rfl ?_; assumption))))
              clear hB hK K hHeld11
              refine AnyB.each (rs := [4]) (by kernel_rfl) (by simp) ?_
              refine EachB.cons rfl (fun K hK hB => ?_) ?_
              · skip
                (go_simp; go_at_call 22; refine (spec_ComposeTableaux_any d_aFirst d_aSecond _ _ _ _ _ (Rd.below R00.out (by repeat (first | (with_reducible exact Below.refl _ _) | (with_reducible assumption) | (with_reducible refine Below.drew ?_) | (with_reducible refine below_drewN ?_ _) | (with_reducible refine Below.alloc ?_ (by first | omega | (simp <;> omega)) _) | (with_reducible refine Below.setCell ?_ (by first | omega | (simp <;> omega)) _) | (with_reducible refine Below.trans ?_ (Below.mono (by with_reducible assumption) (by first | omega | (simp <;> omega)))))) rfl) (Rd.below R01.out (by repeat (first | (with_reducible exact Below.refl _ _) | (with_reducible assumption) | (with_reducible refine Below.drew ?_) | (with_reducible refine below_drewN ?_ _) | (with_reducible refine Below.alloc ?_ (by first | omega | (simp <;> omega)) _) | (with_reducible refine Below.setCell ?_ (by first | omega | (simp <;> omega)) _) | (with_reducible refine Below.trans ?_ (Below.mono (by with_reducible assumption) (by first | omega | (simp <;> omega)))))) rfl) (Rd.below R10.out (by repeat (first | (with_reducible exact Below.refl _ _) | (with_reducible assumption) | (with_reducible refine Below.drew ?_) | (with_reducible refine below_drewN ?_ _) | (with_reducible refine Below.alloc ?_ (by first | omega | (simp <;> omega)) _) | (with_reducible refine Below.setCell ?_ (by first | omega | (simp <;> omega)) _) | (with_reducible refine Below.trans ?_ (Below.mono (by with_reducible assumption) (by first | omega | (simp <;> omega)))))) rfl) (Rd.below R11.out (by repeat (first | (with_reducible exact Below.refl _ _) | (with_reducible assumption) | (with_reducible refine Below.drew ?_) | (with_reducible refine below_drewN ?_ _) | (with_reducible refine Below.alloc ?_ (by first | omega | (simp <;> omega)) _) | (with_reducible refine Below.setCell ?_ (by first | omega | (simp <;> omega)) _) | (with_reducible refine Below.trans ?_ (Below.mono (by with_reducible assumption) (by first | omega | (simp <;> omega)))))) rfl) LEN_aFirst0 LEN_aFirst1 LEN_aSecond0 LEN_aSecond1).mono ?_; rw [← Hr.out]; rintro e wC ⟨vC0, vC1, rfl, hC0, hC1, hapC, hbC⟩; obtain ⟨aC0, cC0, rfl⟩ := hC0.forms; have KC0 := Lib.hid hC0; clear hC0; obtain ⟨aC1, cC1, rfl⟩ := hC1.forms; have KC1 := Lib.hid hC1; clear hC1; have zC := hbC.size; (try simp at zC); have KAP := Lib.hid hapC; clear hapC; (try (replace yb0 := below_frz hbC rfl (World.block_lt_of_cell? _ _ xb0) yb0; replace xb0 := below_cell hbC rfl xb0; replace yb1 := below_frz hbC rfl (World.block_lt_of_cell? _ _ xb1) yb1; replace xb1 := below_cell hbC rfl xb1; replace yb2 := below_frz hbC rfl (World.block_lt_of_cell? _ _ xb2) yb2; replace xb2 := below_cell hbC rfl xb2)); dsimp only)
                refine hK.out _ _ ?_ (fun hHeld13 => ?_)
                · ((try dsimp only); (first | (exact ⟨cell_drew c_paFirst0, cell_drew c_paFirst1, cell_drew c_paFirst2, cell_drew c_paSecond0, cell_drew c_paSecond1, cell_drew c_paSecond2⟩) | (go_split_ands; refine ⟨?_, ?_, ?_, ?_, ?_, ?_⟩ <;> first | assumption | (refine cell_alloc_keep _ ?_; assumption) | (refine below_cell hbC rfl ?_; assumption) | (refine below_cell hbA1 rfl ?_; assumption) | (refine below_cell hbA0 rfl ?_; assumption))))
                clear hB hK K hHeld12
                refine AnyB.takeQ (i := 5) (oi := _) (v := ?_) (by simp only [List.getElem?_toArray, List.getElem?_cons_zero, List.getElem?_cons_succ]; rfl) (by kernel_rfl) (by kernel_rfl) (by kernel_rfl) (by intro _ _ _ h; exact h) (Or.inl ⟨by rfl, ?_⟩) ?_
                rotate_left
                · (intro w hSw; (try dsimp only at hSw); go_simp; (try (with_reducible rfl)))
                try simp only [Act.put, List.setIfInBounds_toArray, List.set_cons_zero, List.set_cons_succ]
                refine AnyB.takeQ (i := 6) (oi := _) (v := ?_) (by simp only [List.getElem?_toArray, List.getElem?_cons_zero, List.getElem?_cons_succ]; rfl) (by kernel_rfl) (by kernel_rfl) (by kernel_rfl) (by intro _ _ _ h; exact h) (Or.inl ⟨by rfl, ?_⟩) ?_
                rotate_left
                · (intro w hSw; (try dsimp only at hSw); go_simp; (try (with_reducible rfl)))
                try simp only [Act.put, List.setIfInBounds_toArray, List.set_cons_zero, List.set_cons_succ]
                refine AnyB.takeQ (i := 7) (oi := _) (v := ?_) (by simp only [List.getElem?_toArray, List.getElem?_cons_zero, List.getElem?_cons_succ]; rfl) (by kernel_rfl) (by kernel_rfl) (by kernel_rfl) (by intro _ _ _ h; exact h) (Or.inl ⟨by rfl, ?_⟩) ?_
                rotate_left
                · (intro w hSw; (try dsimp only at hSw); go_simp; (try (with_reducible rfl)))
                try simp only [Act.put, List.setIfInBounds_toArray, List.set_cons_zero, List.set_cons_succ]
                refine AnyB.each (rs := [9]) (by kernel_rfl) (by simp) ?_
                refine EachB.cons rfl (fun K hK hB => ?_) ?_
                · skip
                  go_simp
                  refine hB.out _ _ rfl ?_
                  clear hB hK K
                  refine AnyB.takeQ (i := 10) (oi := _) (v := ?_) (by simp only [List.getElem?_toArray, List.getElem?_cons_zero, List.getElem?_cons_succ]; rfl) (by kernel_rfl) (by kernel_rfl) (by kernel_rfl) (by intro _ _ _ h; exact h) (Or.inl ⟨by rfl, ?_⟩) ?_
                  rotate_left
                  · (intro w hSw; (try dsimp only at hSw); go_simp; (try (with_reducible rfl)))
                  try simp only [Act.put, List.setIfInBounds_toArray, List.set_cons_zero, List.set_cons_succ]
                  refine AnyB.none (by kernel_rfl) ?_ _
                  go_wp2_with fail
                  go_meet
                  refine ⟨_, aC0, cC0, aC1, cC1, rfl, rfl, ?_, ?_, ?_, ?_, ?_, ?_, ?_, ?_, (by repeat (first | (with_reducible exact Below.refl _ _) | (with_reducible assumption) | (with_reducible refine Below.drew ?_) | (with_reducible refine below_drewN ?_ _) | (with_reducible refine Below.alloc ?_ (by first | omega | (simp <;> omega)) _) | (with_reducible refine Below.setCell ?_ (by first | omega | (simp <;> omega)) _) | (with_reducible refine Below.trans ?_ (Below.mono (by with_reducible assumption) (by first | omega | (simp <;> omega))))))⟩
                  · first | (with_reducible exact new_cell _ _ _ 0 _ rfl) | exact (box_set3 _ _ _ xb0 xb1 xb2).1
                  · first | (with_reducible exact new_cell _ _ _ 1 _ rfl) | exact (box_set3 _ _ _ xb0 xb1 xb2).2.1
                  · first | (with_reducible exact new_cell _ _ _ 2 _ rfl) | exact (box_set3 _ _ _ xb0 xb1 xb2).2.2
                  · show OwnE _ _ _ _ _ _ _; first | (with_reducible exact (OwnE.le (OwnE.set (OwnE.set (OwnE.set KC0.out (by first | omega | (simp <;> omega)) _) (by first | omega | (simp <;> omega)) _) (by first | omega | (simp <;> omega)) _) (by first | omega | (simp <;> omega)))) | (with_reducible exact (OwnE.le (OwnE.below KC0.out (by repeat (first | (with_reducible exact Below.refl _ _) | (with_reducible assumption) | (with_reducible refine Below.drew ?_) | (with_reducible refine below_drewN ?_ _) | (with_reducible refine Below.alloc ?_ (by first | omega | (simp <;> omega)) _) | (with_reducible refine Below.setCell ?_ (by first | omega | (simp <;> omega)) _) | (with_reducible refine Below.trans ?_ (Below.mono (by with_reducible assumption) (by first | omega | (simp <;> omega)))))) rfl) (by first | omega | (simp <;> omega))))
                  · show OwnE _ _ _ _ _ _ _; first | (with_reducible exact (OwnE.le (OwnE.set (OwnE.set (OwnE.set KC1.out (by first | omega | (simp <;> omega)) _) (by first | omega | (simp <;> omega)) _) (by first | omega | (simp <;> omega)) _) (by first | omega | (simp <;> omega)))) | (with_reducible exact (OwnE.le (OwnE.below KC1.out (by repeat (first | (with_reducible exact Below.refl _ _) | (with_reducible assumption) | (with_reducible refine Below.drew ?_) | (with_reducible refine below_drewN ?_ _) | (with_reducible refine Below.alloc ?_ (by first | omega | (simp <;> omega)) _) | (with_reducible refine Below.setCell ?_ (by first | omega | (simp <;> omega)) _) | (with_reducible refine Below.trans ?_ (Below.mono (by with_reducible assumption) (by first | omega | (simp <;> omega)))))) rfl) (by first | omega | (simp <;> omega))))
                  · show ∀ g, _ → _ ∧ _; intro g hg; have hlt := KC0.out.lt g hg; (try simp at hlt); (try simp); omega
                  · show ∀ g, _ → _ ∧ _; intro g hg; have hlt := KC1.out.lt g hg; (try simp at hlt); (try simp); omega
                  · exact KAP.out
                exact EachB.nil
              exact EachB.nil
            exact EachB.nil
          exact EachB.nil
        exact EachB.nil
      case rest =>
        obtain ⟨gw0, aw00, capw00, aw01, capw01, rfl, rfl, c_w00, c_w01, c_w02, Ow00, Ow01, LL_w00, LL_w01, AP_w0, hb3⟩ := hcut
        replace c_paFirst0 := below_cell hb3 rfl c_paFirst0
        replace c_paFirst1 := below_cell hb3 rfl c_paFirst1
        replace c_paFirst2 := below_cell hb3 rfl c_paFirst2
        replace c_paSecond0 := below_cell hb3 rfl c_paSecond0
        replace c_paSecond1 := below_cell hb3 rfl c_paSecond1
        replace c_paSecond2 := below_cell hb3 rfl c_paSecond2
        have BB3 : Below w.heap.size w wc := below_step BB2 hb3
        have ZZ3 : w2.heap.size ≤ wc.heap.size := hb3.size
        clear LT2_0 LT2_1
        clear hb3 BB2
        have LT3_0 : w.heap.size < wc.heap.size := World.block_lt_of_cell? wc _ c_paFirst0
        have LT3_1 : w.heap.size + 1 < wc.heap.size := World.block_lt_of_cell? wc _ c_paSecond0
        have LT3_2 : gw0 < wc.heap.size := World.block_lt_of_cell? wc _ c_w00
        generalize wc = w3 at *
        have PG_w0 : gw0 < w3.heap.size := World.block_lt_of_cell? w3 _ c_w00
        go_wp2_with fail
        refine (laws_toTableau_any d_aFirst _ _ _ (Rd.below HA_aFirst0.out BB3 rfl) (Rd.below HA_aFirst1.out BB3 rfl) LEN_aFirst0 LEN_aFirst1).mono ?_; rintro e w4 ⟨vx00, vx01, rfl, hox00, hox01, hapx0, hb4⟩
        obtain ⟨ax00, capx00, rfl⟩ := hox00.forms
        have LL_x00 := Lib.hid (show ∀ g, (Value.slice ax00 ((d_aFirst).xs).length capx00).ownBlock = some g → w3.heap.size ≤ g ∧ g < w4.heap.size from fun g hg => by have := hox00.lt g hg; (try simp at this); omega)
        replace hox00 := OwnE.le hox00 (base' := w.heap.size) (by have := BB3.size; first | omega | (simp; omega))
        obtain ⟨ax01, capx01, rfl⟩ := hox01.forms
        have LL_x01 := Lib.hid (show ∀ g, (Value.slice ax01 ((d_aFirst).zs).length capx01).ownBlock = some g → w3.heap.size ≤ g ∧ g < w4.heap.size from fun g hg => by have := hox01.lt g hg; (try simp at this); omega)
        replace hox01 := OwnE.le hox01 (base' := w.heap.size) (by have := BB3.size; first | omega | (simp; omega))
        replace Ow00 := Lib.hid (show OwnE w4 (w.heap.size) 54 (.slice aw00 (((r.getD Tab.zero)).xs).length capw00) E3.cs 3 (((r.getD Tab.zero)).xs) from OwnE.below Ow00.out hb4 rfl)
        replace Ow01 := Lib.hid (show OwnE w4 (w.heap.size) 54 (.slice aw01 (((r.getD Tab.zero)).zs).length capw01) E3.cs 3 (((r.getD Tab.zero)).zs) from OwnE.below Ow01.out hb4 rfl)
        replace c_paFirst0 := below_cell hb4 rfl c_paFirst0
        replace c_paFirst1 := below_cell hb4 rfl c_paFirst1
        replace c_paFirst2 := below_cell hb4 rfl c_paFirst2
        replace c_paSecond0 := below_cell hb4 rfl c_paSecond0
        replace c_paSecond1 := below_cell hb4 rfl c_paSecond1
        replace c_paSecond2 := below_cell hb4 rfl c_paSecond2
        replace c_w00 := below_cell hb4 rfl c_w00
        replace c_w01 := below_cell hb4 rfl c_w01
        replace c_w02 := below_cell hb4 rfl c_w02
        have BB4 : Below w.heap.size w w4 := below_step BB3 hb4
        have ZZ4 : w3.heap.size ≤ w4.heap.size := by have := hb4.size; (try simp at this); omega
        clear LT3_0 LT3_1 LT3_2
        have LT4_0 : w.heap.size < w4.heap.size := World.block_lt_of_cell? w4 _ c_paFirst0
        have LT4_1 : w.heap.size + 1 < w4.heap.size := World.block_lt_of_cell? w4 _ c_paSecond0
        have LT4_2 : gw0 < w4.heap.size := World.block_lt_of_cell? w4 _ c_w00
        have Ox00 := Lib.hid (show OwnE w4 (w.heap.size) 54 (.slice ax00 ((d_aFirst).xs).length capx00) E3.cs 3 ((d_aFirst).xs) from hox00); clear hox00
        have Ox01 := Lib.hid (show OwnE w4 (w.heap.size) 54 (.slice ax01 ((d_aFirst).zs).length capx01) E3.cs 3 ((d_aFirst).zs) from hox01); clear hox01
        have AP_x0 := Lib.hid hapx0; clear hapx0
        clear hb4 BB3
        go_wp2_with fail
        have BP4 := Lib.hid (show Below w4.heap.size w4 (w4.alloc (.cells #[.int .i64 ((d_aFirst).n), .slice ax00 ((d_aFirst).xs).length capx00, .slice ax01 ((d_aFirst).zs).length capx01] 24)) from (by repeat (first | exact Below.refl _ _ | assumption | refine Below.drew ?_ | refine below_drewN ?_ _ | refine Below.alloc ?_ (by first | omega | (simp <;> omega)) _ | refine Below.setCell ?_ (by first | omega | (simp <;> omega)) _ | refine Below.trans ?_ (Below.mono (by assumption) (by first | omega | (simp <;> omega))))))
        replace Ow00 := Lib.hid (show OwnE (w4.alloc (.cells #[.int .i64 ((d_aFirst).n), .slice ax00 ((d_aFirst).xs).length capx00, .slice ax01 ((d_aFirst).zs).length capx01] 24)) (w.heap.size) 54 (.slice aw00 (((r.getD Tab.zero)).xs).length capw00) E3.cs 3 (((r.getD Tab.zero)).xs) from OwnE.below Ow00.out BP4.out rfl)
        replace Ow01 := Lib.hid (show OwnE (w4.alloc (.cells #[.int .i64 ((d_aFirst).n), .slice ax00 ((d_aFirst).xs).length capx00, .slice ax01 ((d_aFirst).zs).length capx01] 24)) (w.heap.size) 54 (.slice aw01 (((r.getD Tab.zero)).zs).length capw01) E3.cs 3 (((r.getD Tab.zero)).zs) from OwnE.below Ow01.out BP4.out rfl)
        replace Ox00 := Lib.hid (show OwnE (w4.alloc (.cells #[.int .i64 ((d_aFirst).n), .slice ax00 ((d_aFirst).xs).length capx00, .slice ax01 ((d_aFirst).zs).length capx01] 24)) (w.heap.size) 54 (.slice ax00 ((d_aFirst).xs).length capx00) E3.cs 3 ((d_aFirst).xs) from OwnE.below Ox00.out BP4.out rfl)
        replace Ox01 := Lib.hid (show OwnE (w4.alloc (.cells #[.int .i64 ((d_aFirst).n), .slice ax00 ((d_aFirst).xs).length capx00, .slice ax01 ((d_aFirst).zs).length capx01] 24)) (w.heap.size) 54 (.slice ax01 ((d_aFirst).zs).length capx01) E3.cs 3 ((d_aFirst).zs) from OwnE.below Ox01.out BP4.out rfl)
        replace c_paFirst0 := cell_alloc_keep (.cells #[.int .i64 ((d_aFirst).n), .slice ax00 ((d_aFirst).xs).length capx00, .slice ax01 ((d_aFirst).zs).length capx01] 24) (c_paFirst0)
        replace c_paFirst1 := cell_alloc_keep (.cells #[.int .i64 ((d_aFirst).n), .slice ax00 ((d_aFirst).xs).length capx00, .slice ax01 ((d_aFirst).zs).length capx01] 24) (c_paFirst1)
        replace c_paFirst2 := cell_alloc_keep (.cells #[.int .i64 ((d_aFirst).n), .slice ax00 ((d_aFirst).xs).length capx00, .slice ax01 ((d_aFirst).zs).length capx01] 24) (c_paFirst2)
        replace c_paSecond0 := cell_alloc_keep (.cells #[.int .i64 ((d_aFirst).n), .slice ax00 ((d_aFirst).xs).length capx00, .slice ax01 ((d_aFirst).zs).length capx01] 24) (c_paSecond0)
        replace c_paSecond1 := cell_alloc_keep (.cells #[.int .i64 ((d_aFirst).n), .slice ax00 ((d_aFirst).xs).length capx00, .slice ax01 ((d_aFirst).zs).length capx01] 24) (c_paSecond1)
        replace c_paSecond2 := cell_alloc_keep (.cells #[.int .i64 ((d_aFirst).n), .slice ax00 ((d_aFirst).xs).length capx00, .slice ax01 ((d_aFirst).zs).length capx01] 24) (c_paSecond2)
        replace c_w00 := cell_alloc_keep (.cells #[.int .i64 ((d_aFirst).n), .slice ax00 ((d_aFirst).xs).length capx00, .slice ax01 ((d_aFirst).zs).length capx01] 24) (c_w00)
        replace c_w01 := cell_alloc_keep (.cells #[.int .i64 ((d_aFirst).n), .slice ax00 ((d_aFirst).xs).length capx00, .slice ax01 ((d_aFirst).zs).length capx01] 24) (c_w01)
        replace c_w02 := cell_alloc_keep (.cells #[.int .i64 ((d_aFirst).n), .slice ax00 ((d_aFirst).xs).length capx00, .slice ax01 ((d_aFirst).zs).length capx01] 24) (c_w02)
        have c_x00 : (w4.alloc (.cells #[.int .i64 ((d_aFirst).n), .slice ax00 ((d_aFirst).xs).length capx00, .slice ax01 ((d_aFirst).zs).length capx01] 24)).cell? ⟨w4.heap.size, 0, none⟩ = some (.int .i64 ((d_aFirst).n)) := (by repeat (first | (refine Eq.trans (World.cell?_alloc_at _ _ _ _ ?hh) ?_; (case hh => (simp; done)); rfl) | refine cell_alloc_keep _ ?_))
        have c_x01 : (w4.alloc (.cells #[.int .i64 ((d_aFirst).n), .slice ax00 ((d_aFirst).xs).length capx00, .slice ax01 ((d_aFirst).zs).length capx01] 24)).cell? ⟨w4.heap.size, 1, none⟩ = some (.slice ax00 ((d_aFirst).xs).length capx00) := (by repeat (first | (refine Eq.trans (World.cell?_alloc_at _ _ _ _ ?hh) ?_; (case hh => (simp; done)); rfl) | refine cell_alloc_keep _ ?_))
        have c_x02 : (w4.alloc (.cells #[.int .i64 ((d_aFirst).n), .slice ax00 ((d_aFirst).xs).length capx00, .slice ax01 ((d_aFirst).zs).length capx01] 24)).cell? ⟨w4.heap.size, 2, none⟩ = some (.slice ax01 ((d_aFirst).zs).length capx01) := (by repeat (first | (refine Eq.trans (World.cell?_alloc_at _ _ _ _ ?hh) ?_; (case hh => (simp; done)); rfl) | refine cell_alloc_keep _ ?_))
        refine (laws_toTableau_any d_aSecond _ _ _ (Rd.below HA_aSecond0.out (below_step BB4 BP4.out) rfl) (Rd.below HA_aSecond1.out (below_step BB4 BP4.out) rfl) LEN_aSecond0 LEN_aSecond1).mono ?_; rintro e w5 ⟨vx10, vx11, rfl, hox10, hox11, hapx1, hb5⟩
        obtain ⟨ax10, capx10, rfl⟩ := hox10.forms
        have LL_x10 := Lib.hid (show ∀ g, (Value.slice ax10 ((d_aSecond).xs).length capx10).ownBlock = some g → w4.heap.size + 1 ≤ g ∧ g < w5.heap.size from fun g hg => by have := hox10.lt g hg; (try simp at this); omega)
        replace hox10 := OwnE.le hox10 (base' := w.heap.size) (by have := BB4.size; first | omega | (simp; omega))
        obtain ⟨ax11, capx11, rfl⟩ := hox11.forms
        have LL_x11 := Lib.hid (show ∀ g, (Value.slice ax11 ((d_aSecond).zs).length capx11).ownBlock = some g → w4.heap.size + 1 ≤ g ∧ g < w5.heap.size from fun g hg => by have := hox11.lt g hg; (try simp at this); omega)
        replace hox11 := OwnE.le hox11 (base' := w.heap.size) (by have := BB4.size; first | omega | (simp; omega))
        replace Ow00 := Lib.hid (show OwnE w5 (w.heap.size) 54 (.slice aw00 (((r.getD Tab.zero)).xs).length capw00) E3.cs 3 (((r.getD Tab.zero)).xs) from OwnE.below Ow00.out hb5 rfl)
        replace Ow01 := Lib.hid (show OwnE w5 (w.heap.size) 54 (.slice aw01 (((r.getD Tab.zero)).zs).length capw01) E3.cs 3 (((r.getD Tab.zero)).zs) from OwnE.below Ow01.out hb5 rfl)
        replace Ox00 := Lib.hid (show OwnE w5 (w.heap.size) 54 (.slice ax00 ((d_aFirst).xs).length capx00) E3.cs 3 ((d_aFirst).xs) from OwnE.below Ox00.out hb5 rfl)
        replace Ox01 := Lib.hid (show OwnE w5 (w.heap.size) 54 (.slice ax01 ((d_aFirst).zs).length capx01) E3.cs 3 ((d_aFirst).zs) from OwnE.below Ox01.out hb5 rfl)
        replace c_paFirst0 := below_cell hb5 rfl c_paFirst0
        replace c_paFirst1 := below_cell hb5 rfl c_paFirst1
        replace c_paFirst2 := below_cell hb5 rfl c_paFirst2
        replace c_paSecond0 := below_cell hb5 rfl c_paSecond0
        replace c_paSecond1 := below_cell hb5 rfl c_paSecond1
        replace c_paSecond2 := below_cell hb5 rfl c_paSecond2
        replace c_w00 := below_cell hb5 rfl c_w00
        replace c_w01 := below_cell hb5 rfl c_w01
        replace c_w02 := below_cell hb5 rfl c_w02
        replace c_x00 := below_cell hb5 rfl c_x00
        replace c_x01 := below_cell hb5 rfl c_x01
        replace c_x02 := below_cell hb5 rfl c_x02
        have BB5 : Below w.heap.size w w5 := below_step (below_step BB4 BP4.out) hb5
        have ZZ5 : w4.heap.size + 1 ≤ w5.heap.size := by have := hb5.size; (try simp at this); omega
        clear BP4
        clear LT4_0 LT4_1 LT4_2
        have LT5_0 : w.heap.size < w5.heap.size := World.block_lt_of_cell? w5 _ c_paFirst0
        have LT5_1 : w.heap.size + 1 < w5.heap.size := World.block_lt_of_cell? w5 _ c_paSecond0
        have LT5_2 : gw0 < w5.heap.size := World.block_lt_of_cell? w5 _ c_w00
        have LT5_3 : w4.heap.size < w5.heap.size := World.block_lt_of_cell? w5 _ c_x00
        have Ox10 := Lib.hid (show OwnE w5 (w.heap.size) 54 (.slice ax10 ((d_aSecond).xs).length capx10) E3.cs 3 ((d_aSecond).xs) from hox10); clear hox10
        have Ox11 := Lib.hid (show OwnE w5 (w.heap.size) 54 (.slice ax11 ((d_aSecond).zs).length capx11) E3.cs 3 ((d_aSecond).zs) from hox11); clear hox11
        have AP_x1 := Lib.hid hapx1; clear hapx1
        clear hb5 BB4
        go_wp2_with fail
        have BP5 := Lib.hid (show Below w5.heap.size w5 (w5.alloc (.cells #[.int .i64 ((d_aSecond).n), .slice ax10 ((d_aSecond).xs).length capx10, .slice ax11 ((d_aSecond).zs).length capx11] 24)) from (by repeat (first | exact Below.refl _ _ | assumption | refine Below.drew ?_ | refine below_drewN ?_ _ | refine Below.alloc ?_ (by first | omega | (simp <;> omega)) _ | refine Below.setCell ?_ (by first | omega | (simp <;> omega)) _ | refine Below.trans ?_ (Below.mono (by assumption) (by first | omega | (simp <;> omega))))))
        replace Ow00 := Lib.hid (show OwnE (w5.alloc (.cells #[.int .i64 ((d_aSecond).n), .slice ax10 ((d_aSecond).xs).length capx10, .slice ax11 ((d_aSecond).zs).length capx11] 24)) (w.heap.size) 54 (.slice aw00 (((r.getD Tab.zero)).xs).length capw00) E3.cs 3 (((r.getD Tab.zero)).xs) from OwnE.below Ow00.out BP5.out rfl)
        replace Ow01 := Lib.hid (show OwnE (w5.alloc (.cells #[.int .i64 ((d_aSecond).n), .slice ax10 ((d_aSecond).xs).length capx10, .slice ax11 ((d_aSecond).zs).length capx11] 24)) (w.heap.size) 54 (.slice aw01 (((r.getD Tab.zero)).zs).length capw01) E3.cs 3 (((r.getD Tab.zero)).zs) from OwnE.below Ow01.out BP5.out rfl)
        replace Ox00 := Lib.hid (show OwnE (w5.alloc (.cells #[.int .i64 ((d_aSecond).n), .slice ax10 ((d_aSecond).xs).length capx10, .slice ax11 ((d_aSecond).zs).length capx11] 24)) (w.heap.size) 54 (.slice ax00 ((d_aFirst).xs).length capx00) E3.cs 3 ((d_aFirst).xs) from OwnE.below Ox00.out BP5.out rfl)
        replace Ox01 := Lib.hid (show OwnE (w5.alloc (.cells #[.int .i64 ((d_aSecond).n), .slice ax10 ((d_aSecond).xs).length capx10, .slice ax11 ((d_aSecond).zs).length capx11] 24)) (w.heap.size) 54 (.slice ax01 ((d_aFirst).zs).length capx01) E3.cs 3 ((d_aFirst).zs) from OwnE.below Ox01.out BP5.out rfl)
        replace Ox10 := Lib.hid (show OwnE (w5.alloc (.cells #[.int .i64 ((d_aSecond).n), .slice ax10 ((d_aSecond).xs).length capx10, .slice ax11 ((d_aSecond).zs).length capx11] 24)) (w.heap.size) 54 (.slice ax10 ((d_aSecond).xs).length capx10) E3.cs 3 ((d_aSecond).xs) from OwnE.below Ox10.out BP5.out rfl)
        replace Ox11 := Lib.hid (show OwnE (w5.alloc (.cells #[.int .i64 ((d_aSecond).n), .slice ax10 ((d_aSecond).xs).length capx10, .slice ax11 ((d_aSecond).zs).length capx11] 24)) (w.heap.size) 54 (.slice ax11 ((d_aSecond).zs).length capx11) E3.cs 3 ((d_aSecond).zs) from OwnE.below Ox11.out BP5.out rfl)
        replace c_paFirst0 := cell_alloc_keep (.cells #[.int .i64 ((d_aSecond).n), .slice ax10 ((d_aSecond).xs).length capx10, .slice ax11 ((d_aSecond).zs).length capx11] 24) (c_paFirst0)
        replace c_paFirst1 := cell_alloc_keep (.cells #[.int .i64 ((d_aSecond).n), .slice ax10 ((d_aSecond).xs).length capx10, .slice ax11 ((d_aSecond).zs).length capx11] 24) (c_paFirst1)
        replace c_paFirst2 := cell_alloc_keep (.cells #[.int .i64 ((d_aSecond).n), .slice ax10 ((d_aSecond).xs).length capx10, .slice ax11 ((d_aSecond).zs).length capx11] 24) (c_paFirst2)
        replace c_paSecond0 := cell_alloc_keep (.cells #[.int .i64 ((d_aSecond).n), .slice ax10 ((d_aSecond).xs).length capx10, .slice ax11 ((d_aSecond).zs).length capx11] 24) (c_paSecond0)
        replace c_paSecond1 := cell_alloc_keep (.cells #[.int .i64 ((d_aSecond).n), .slice ax10 ((d_aSecond).xs).length capx10, .slice ax11 ((d_aSecond).zs).length capx11] 24) (c_paSecond1)
        replace c_paSecond2 := cell_alloc_keep (.cells #[.int .i64 ((d_aSecond).n), .slice ax10 ((d_aSecond).xs).length capx10, .slice ax11 ((d_aSecond).zs).length capx11] 24) (c_paSecond2)
        replace c_w00 := cell_alloc_keep (.cells #[.int .i64 ((d_aSecond).n), .slice ax10 ((d_aSecond).xs).length capx10, .slice ax11 ((d_aSecond).zs).length capx11] 24) (c_w00)
        replace c_w01 := cell_alloc_keep (.cells #[.int .i64 ((d_aSecond).n), .slice ax10 ((d_aSecond).xs).length capx10, .slice ax11 ((d_aSecond).zs).length capx11] 24) (c_w01)
        replace c_w02 := cell_alloc_keep (.cells #[.int .i64 ((d_aSecond).n), .slice ax10 ((d_aSecond).xs).length capx10, .slice ax11 ((d_aSecond).zs).length capx11] 24) (c_w02)
        replace c_x00 := cell_alloc_keep (.cells #[.int .i64 ((d_aSecond).n), .slice ax10 ((d_aSecond).xs).length capx10, .slice ax11 ((d_aSecond).zs).length capx11] 24) (c_x00)
        replace c_x01 := cell_alloc_keep (.cells #[.int .i64 ((d_aSecond).n), .slice ax10 ((d_aSecond).xs).length capx10, .slice ax11 ((d_aSecond).zs).length capx11] 24) (c_x01)
        replace c_x02 := cell_alloc_keep (.cells #[.int .i64 ((d_aSecond).n), .slice ax10 ((d_aSecond).xs).length capx10, .slice ax11 ((d_aSecond).zs).length capx11] 24) (c_x02)
        have c_x10 : (w5.alloc (.cells #[.int .i64 ((d_aSecond).n), .slice ax10 ((d_aSecond).xs).length capx10, .slice ax11 ((d_aSecond).zs).length capx11] 24)).cell? ⟨w5.heap.size, 0, none⟩ = some (.int .i64 ((d_aSecond).n)) := (by repeat (first | (refine Eq.trans (World.cell?_alloc_at _ _ _ _ ?hh) ?_; (case hh => (simp; done)); rfl) | refine cell_alloc_keep _ ?_))
        have c_x11 : (w5.alloc (.cells #[.int .i64 ((d_aSecond).n), .slice ax10 ((d_aSecond).xs).length capx10, .slice ax11 ((d_aSecond).zs).length capx11] 24)).cell? ⟨w5.heap.size, 1, none⟩ = some (.slice ax10 ((d_aSecond).xs).length capx10) := (by repeat (first | (refine Eq.trans (World.cell?_alloc_at _ _ _ _ ?hh) ?_; (case hh => (simp; done)); rfl) | refine cell_alloc_keep _ ?_))
        have c_x12 : (w5.alloc (.cells #[.int .i64 ((d_aSecond).n), .slice ax10 ((d_aSecond).xs).length capx10, .slice ax11 ((d_aSecond).zs).length capx11] 24)).cell? ⟨w5.heap.size, 2, none⟩ = some (.slice ax11 ((d_aSecond).zs).length capx11) := (by repeat (first | (refine Eq.trans (World.cell?_alloc_at _ _ _ _ ?hh) ?_; (case hh => (simp; done)); rfl) | refine cell_alloc_keep _ ?_))
        refine (impl_ComposeTableaux_any d_aFirst d_aSecond _ _ _ _ _ (Ox00.out).rd (Ox01.out).rd (Ox10.out).rd (Ox11.out).rd LEN_aFirst0 LEN_aFirst1 LEN_aSecond0 LEN_aSecond1).mono ?_; rw [← Hr.out]; rintro e w6 ⟨vg00, vg01, rfl, hog00, hog01, hapg0, hb6⟩
        obtain ⟨ag00, capg00, rfl⟩ := hog00.forms
        have LL_g00 := Lib.hid (show ∀ g, (Value.slice ag00 (((r.getD Tab.zero)).xs).length capg00).ownBlock = some g → w5.heap.size + 1 ≤ g ∧ g < w6.heap.size from fun g hg => by have := hog00.lt g hg; (try simp at this); omega)
        replace hog00 := OwnE.le hog00 (base' := w.heap.size) (by have := BB5.size; first | omega | (simp; omega))
        obtain ⟨ag01, capg01, rfl⟩ := hog01.forms
        have LL_g01 := Lib.hid (show ∀ g, (Value.slice ag01 (((r.getD Tab.zero)).zs).length capg01).ownBlock = some g → w5.heap.size + 1 ≤ g ∧ g < w6.heap.size from fun g hg => by have := hog01.lt g hg; (try simp at this); omega)
        replace hog01 := OwnE.le hog01 (base' := w.heap.size) (by have := BB5.size; first | omega | (simp; omega))
        replace Ow00 := Lib.hid (show OwnE w6 (w.heap.size) 54 (.slice aw00 (((r.getD Tab.zero)).xs).length capw00) E3.cs 3 (((r.getD Tab.zero)).xs) from OwnE.below Ow00.out hb6 rfl)
        replace Ow01 := Lib.hid (show OwnE w6 (w.heap.size) 54 (.slice aw01 (((r.getD Tab.zero)).zs).length capw01) E3.cs 3 (((r.getD Tab.zero)).zs) from OwnE.below Ow01.out hb6 rfl)
        replace Ox00 := Lib.hid (show OwnE w6 (w.heap.size) 54 (.slice ax00 ((d_aFirst).xs).length capx00) E3.cs 3 ((d_aFirst).xs) from OwnE.below Ox00.out hb6 rfl)
        replace Ox01 := Lib.hid (show OwnE w6 (w.heap.size) 54 (.slice ax01 ((d_aFirst).zs).length capx01) E3.cs 3 ((d_aFirst).zs) from OwnE.below Ox01.out hb6 rfl)
        replace Ox10 := Lib.hid (show OwnE w6 (w.heap.size) 54 (.slice ax10 ((d_aSecond).xs).length capx10) E3.cs 3 ((d_aSecond).xs) from OwnE.below Ox10.out hb6 rfl)
        replace Ox11 := Lib.hid (show OwnE w6 (w.heap.size) 54 (.slice ax11 ((d_aSecond).zs).length capx11) E3.cs 3 ((d_aSecond).zs) from OwnE.below Ox11.out hb6 rfl)
        replace c_paFirst0 := below_cell hb6 rfl c_paFirst0
        replace c_paFirst1 := below_cell hb6 rfl c_paFirst1
        replace c_paFirst2 := below_cell hb6 rfl c_paFirst2
        replace c_paSecond0 := below_cell hb6 rfl c_paSecond0
        replace c_paSecond1 := below_cell hb6 rfl c_paSecond1
        replace c_paSecond2 := below_cell hb6 rfl c_paSecond2
        replace c_w00 := below_cell hb6 rfl c_w00
        replace c_w01 := below_cell hb6 rfl c_w01
        replace c_w02 := below_cell hb6 rfl c_w02
        replace c_x00 := below_cell hb6 rfl c_x00
        replace c_x01 := below_cell hb6 rfl c_x01
        replace c_x02 := below_cell hb6 rfl c_x02
        replace c_x10 := below_cell hb6 rfl c_x10
        replace c_x11 := below_cell hb6 rfl c_x11
        replace c_x12 := below_cell hb6 rfl c_x12
        have BB6 : Below w.heap.size w w6 := below_step (below_step BB5 BP5.out) hb6
        have ZZ6 : w5.heap.size + 1 ≤ w6.heap.size := by have := hb6.size; (try simp at this); omega
        clear BP5
        clear LT5_0 LT5_1 LT5_2 LT5_3
        have LT6_0 : w.heap.size < w6.heap.size := World.block_lt_of_cell? w6 _ c_paFirst0
        have LT6_1 : w.heap.size + 1 < w6.heap.size := World.block_lt_of_cell? w6 _ c_paSecond0
        have LT6_2 : gw0 < w6.heap.size := World.block_lt_of_cell? w6 _ c_w00
        have LT6_3 : w4.heap.size < w6.heap.size := World.block_lt_of_cell? w6 _ c_x00
        have LT6_4 : w5.heap.size < w6.heap.size := World.block_lt_of_cell? w6 _ c_x10
        have Og00 := Lib.hid (show OwnE w6 (w.heap.size) 54 (.slice ag00 (((r.getD Tab.zero)).xs).length capg00) E3.cs 3 (((r.getD Tab.zero)).xs) from hog00); clear hog00
        have Og01 := Lib.hid (show OwnE w6 (w.heap.size) 54 (.slice ag01 (((r.getD Tab.zero)).zs).length capg01) E3.cs 3 (((r.getD Tab.zero)).zs) from hog01); clear hog01
        have AP_g0 := Lib.hid hapg0; clear hapg0
        clear hb6 BB5
        go_wp2_with fail
        have BP6 := Lib.hid (show Below w6.heap.size w6 (w6.alloc (.cells #[.int .i64 (((r.getD Tab.zero)).n), .slice ag00 (((r.getD Tab.zero)).xs).length capg00, .slice ag01 (((r.getD Tab.zero)).zs).length capg01] 24)) from (by repeat (first | exact Below.refl _ _ | assumption | refine Below.drew ?_ | refine below_drewN ?_ _ | refine Below.alloc ?_ (by first | omega | (simp <;> omega)) _ | refine Below.setCell ?_ (by first | omega | (simp <;> omega)) _ | refine Below.trans ?_ (Below.mono (by assumption) (by first | omega | (simp <;> omega))))))
        replace Ow00 := Lib.hid (show OwnE (w6.alloc (.cells #[.int .i64 (((r.getD Tab.zero)).n), .slice ag00 (((r.getD Tab.zero)).xs).length capg00, .slice ag01 (((r.getD Tab.zero)).zs).length capg01] 24)) (w.heap.size) 54 (.slice aw00 (((r.getD Tab.zero)).xs).length capw00) E3.cs 3 (((r.getD Tab.zero)).xs) from OwnE.below Ow00.out BP6.out rfl)
        replace Ow01 := Lib.hid (show OwnE (w6.alloc (.cells #[.int .i64 (((r.getD Tab.zero)).n), .slice ag00 (((r.getD Tab.zero)).xs).length capg00, .slice ag01 (((r.getD Tab.zero)).zs).length capg01] 24)) (w.heap.size) 54 (.slice aw01 (((r.getD Tab.zero)).zs).length capw01) E3.cs 3 (((r.getD Tab.zero)).zs) from OwnE.below Ow01.out BP6.out rfl)
        replace Ox00 := Lib.hid (show OwnE (w6.alloc (.cells #[.int .i64 (((r.getD Tab.zero)).n), .slice ag00 (((r.getD Tab.zero)).xs).length capg00, .slice ag01 (((r.getD Tab.zero)).zs).length capg01] 24)) (w.heap.size) 54 (.slice ax00 ((d_aFirst).xs).length capx00) E3.cs 3 ((d_aFirst).xs) from OwnE.below Ox00.out BP6.out rfl)
        replace Ox01 := Lib.hid (show OwnE (w6.alloc (.cells #[.int .i64 (((r.getD Tab.zero)).n), .slice ag00 (((r.getD Tab.zero)).xs).length capg00, .slice ag01 (((r.getD Tab.zero)).zs).length capg01] 24)) (w.heap.size) 54 (.slice ax01 ((d_aFirst).zs).length capx01) E3.cs 3 ((d_aFirst).zs) from OwnE.below Ox01.out BP6.out rfl)
        replace Ox10 := Lib.hid (show OwnE (w6.alloc (.cells #[.int .i64 (((r.getD Tab.zero)).n), .slice ag00 (((r.getD Tab.zero)).xs).length capg00, .slice ag01 (((r.getD Tab.zero)).zs).length capg01] 24)) (w.heap.size) 54 (.slice ax10 ((d_aSecond).xs).length capx10) E3.cs 3 ((d_aSecond).xs) from OwnE.below Ox10.out BP6.out rfl)
        replace Ox11 := Lib.hid (show OwnE (w6.alloc (.cells #[.int .i64 (((r.getD Tab.zero)).n), .slice ag00 (((r.getD Tab.zero)).xs).length capg00, .slice ag01 (((r.getD Tab.zero)).zs).length capg01] 24)) (w.heap.size) 54 (.slice ax11 ((d_aSecond).zs).length capx11) E3.cs 3 ((d_aSecond).zs) from OwnE.below Ox11.out BP6.out rfl)
        replace Og00 := Lib.hid (show OwnE (w6.alloc (.cells #[.int .i64 (((r.getD Tab.zero)).n), .slice ag00 (((r.getD Tab.zero)).xs).length capg00, .slice ag01 (((r.getD Tab.zero)).zs).length capg01] 24)) (w.heap.size) 54 (.slice ag00 (((r.getD Tab.zero)).xs).length capg00) E3.cs 3 (((r.getD Tab.zero)).xs) from OwnE.below Og00.out BP6.out rfl)
        replace Og01 := Lib.hid (show OwnE (w6.alloc (.cells #[.int .i64 (((r.getD Tab.zero)).n), .slice ag00 (((r.getD Tab.zero)).xs).length capg00, .slice ag01 (((r.getD Tab.zero)).zs).length capg01] 24)) (w.heap.size) 54 (.slice ag01 (((r.getD Tab.zero)).zs).length capg01) E3.cs 3 (((r.getD Tab.zero)).zs) from OwnE.below Og01.out BP6.out rfl)
        replace c_paFirst0 := cell_alloc_keep (.cells #[.int .i64 (((r.getD Tab.zero)).n), .slice ag00 (((r.getD Tab.zero)).xs).length capg00, .slice ag01 (((r.getD Tab.zero)).zs).length capg01] 24) (c_paFirst0)
        replace c_paFirst1 := cell_alloc_keep (.cells #[.int .i64 (((r.getD Tab.zero)).n), .slice ag00 (((r.getD Tab.zero)).xs).length capg00, .slice ag01 (((r.getD Tab.zero)).zs).length capg01] 24) (c_paFirst1)
        replace c_paFirst2 := cell_alloc_keep (.cells #[.int .i64 (((r.getD Tab.zero)).n), .slice ag00 (((r.getD Tab.zero)).xs).length capg00, .slice ag01 (((r.getD Tab.zero)).zs).length capg01] 24) (c_paFirst2)
        replace c_paSecond0 := cell_alloc_keep (.cells #[.int .i64 (((r.getD Tab.zero)).n), .slice ag00 (((r.getD Tab.zero)).xs).length capg00, .slice ag01 (((r.getD Tab.zero)).zs).length capg01] 24) (c_paSecond0)
        replace c_paSecond1 := cell_alloc_keep (.cells #[.int .i64 (((r.getD Tab.zero)).n), .slice ag00 (((r.getD Tab.zero)).xs).length capg00, .slice ag01 (((r.getD Tab.zero)).zs).length capg01] 24) (c_paSecond1)
        replace c_paSecond2 := cell_alloc_keep (.cells #[.int .i64 (((r.getD Tab.zero)).n), .slice ag00 (((r.getD Tab.zero)).xs).length capg00, .slice ag01 (((r.getD Tab.zero)).zs).length capg01] 24) (c_paSecond2)
        replace c_w00 := cell_alloc_keep (.cells #[.int .i64 (((r.getD Tab.zero)).n), .slice ag00 (((r.getD Tab.zero)).xs).length capg00, .slice ag01 (((r.getD Tab.zero)).zs).length capg01] 24) (c_w00)
        replace c_w01 := cell_alloc_keep (.cells #[.int .i64 (((r.getD Tab.zero)).n), .slice ag00 (((r.getD Tab.zero)).xs).length capg00, .slice ag01 (((r.getD Tab.zero)).zs).length capg01] 24) (c_w01)
        replace c_w02 := cell_alloc_keep (.cells #[.int .i64 (((r.getD Tab.zero)).n), .slice ag00 (((r.getD Tab.zero)).xs).length capg00, .slice ag01 (((r.getD Tab.zero)).zs).length capg01] 24) (c_w02)
        replace c_x00 := cell_alloc_keep (.cells #[.int .i64 (((r.getD Tab.zero)).n), .slice ag00 (((r.getD Tab.zero)).xs).length capg00, .slice ag01 (((r.getD Tab.zero)).zs).length capg01] 24) (c_x00)
        replace c_x01 := cell_alloc_keep (.cells #[.int .i64 (((r.getD Tab.zero)).n), .slice ag00 (((r.getD Tab.zero)).xs).length capg00, .slice ag01 (((r.getD Tab.zero)).zs).length capg01] 24) (c_x01)
        replace c_x02 := cell_alloc_keep (.cells #[.int .i64 (((r.getD Tab.zero)).n), .slice ag00 (((r.getD Tab.zero)).xs).length capg00, .slice ag01 (((r.getD Tab.zero)).zs).length capg01] 24) (c_x02)
        replace c_x10 := cell_alloc_keep (.cells #[.int .i64 (((r.getD Tab.zero)).n), .slice ag00 (((r.getD Tab.zero)).xs).length capg00, .slice ag01 (((r.getD Tab.zero)).zs).length capg01] 24) (c_x10)
        replace c_x11 := cell_alloc_keep (.cells #[.int .i64 (((r.getD Tab.zero)).n), .slice ag00 (((r.getD Tab.zero)).xs).length capg00, .slice ag01 (((r.getD Tab.zero)).zs).length capg01] 24) (c_x11)
        replace c_x12 := cell_alloc_keep (.cells #[.int .i64 (((r.getD Tab.zero)).n), .slice ag00 (((r.getD Tab.zero)).xs).length capg00, .slice ag01 (((r.getD Tab.zero)).zs).length capg01] 24) (c_x12)
        have c_g00 : (w6.alloc (.cells #[.int .i64 (((r.getD Tab.zero)).n), .slice ag00 (((r.getD Tab.zero)).xs).length capg00, .slice ag01 (((r.getD Tab.zero)).zs).length capg01] 24)).cell? ⟨w6.heap.size, 0, none⟩ = some (.int .i64 (((r.getD Tab.zero)).n)) := (by repeat (first | (refine Eq.trans (World.cell?_alloc_at _ _ _ _ ?hh) ?_; (case hh => (simp; done)); rfl) | refine cell_alloc_keep _ ?_))
        have c_g01 : (w6.alloc (.cells #[.int .i64 (((r.getD Tab.zero)).n), .slice ag00 (((r.getD Tab.zero)).xs).length capg00, .slice ag01 (((r.getD Tab.zero)).zs).length capg01] 24)).cell? ⟨w6.heap.size, 1, none⟩ = some (.slice ag00 (((r.getD Tab.zero)).xs).length capg00) := (by repeat (first | (refine Eq.trans (World.cell?_alloc_at _ _ _ _ ?hh) ?_; (case hh => (simp; done)); rfl) | refine cell_alloc_keep _ ?_))
        have c_g02 : (w6.alloc (.cells #[.int .i64 (((r.getD Tab.zero)).n), .slice ag00 (((r.getD Tab.zero)).xs).length capg00, .slice ag01 (((r.getD Tab.zero)).zs).length capg01] 24)).cell? ⟨w6.heap.size, 2, none⟩ = some (.slice ag01 (((r.getD Tab.zero)).zs).length capg01) := (by repeat (first | (refine Eq.trans (World.cell?_alloc_at _ _ _ _ ?hh) ?_; (case hh => (simp; done)); rfl) | refine cell_alloc_keep _ ?_))
        refine (laws_eqTableau_same (r.getD Tab.zero) _ _ _ _ _ (Og00.out).rd (Og01.out).rd (Ow00.out).rd (Ow01.out).rd).mono ?_; rintro e w7 ⟨rfl, hb7⟩
        replace Ow00 := Lib.hid (show OwnE w7 (w.heap.size) 54 (.slice aw00 (((r.getD Tab.zero)).xs).length capw00) E3.cs 3 (((r.getD Tab.zero)).xs) from OwnE.below Ow00.out hb7 rfl)
        replace Ow01 := Lib.hid (show OwnE w7 (w.heap.size) 54 (.slice aw01 (((r.getD Tab.zero)).zs).length capw01) E3.cs 3 (((r.getD Tab.zero)).zs) from OwnE.below Ow01.out hb7 rfl)
        replace Ox00 := Lib.hid (show OwnE w7 (w.heap.size) 54 (.slice ax00 ((d_aFirst).xs).length capx00) E3.cs 3 ((d_aFirst).xs) from OwnE.below Ox00.out hb7 rfl)
        replace Ox01 := Lib.hid (show OwnE w7 (w.heap.size) 54 (.slice ax01 ((d_aFirst).zs).length capx01) E3.cs 3 ((d_aFirst).zs) from OwnE.below Ox01.out hb7 rfl)
        replace Ox10 := Lib.hid (show OwnE w7 (w.heap.size) 54 (.slice ax10 ((d_aSecond).xs).length capx10) E3.cs 3 ((d_aSecond).xs) from OwnE.below Ox10.out hb7 rfl)
        replace Ox11 := Lib.hid (show OwnE w7 (w.heap.size) 54 (.slice ax11 ((d_aSecond).zs).length capx11) E3.cs 3 ((d_aSecond).zs) from OwnE.below Ox11.out hb7 rfl)
        replace Og00 := Lib.hid (show OwnE w7 (w.heap.size) 54 (.slice ag00 (((r.getD Tab.zero)).xs).length capg00) E3.cs 3 (((r.getD Tab.zero)).xs) from OwnE.below Og00.out hb7 rfl)
        replace Og01 := Lib.hid (show OwnE w7 (w.heap.size) 54 (.slice ag01 (((r.getD Tab.zero)).zs).length capg01) E3.cs 3 (((r.getD Tab.zero)).zs) from OwnE.below Og01.out hb7 rfl)
        replace c_paFirst0 := below_cell hb7 rfl c_paFirst0
        replace c_paFirst1 := below_cell hb7 rfl c_paFirst1
        replace c_paFirst2 := below_cell hb7 rfl c_paFirst2
        replace c_paSecond0 := below_cell hb7 rfl c_paSecond0
        replace c_paSecond1 := below_cell hb7 rfl c_paSecond1
        replace c_paSecond2 := below_cell hb7 rfl c_paSecond2
        replace c_w00 := below_cell hb7 rfl c_w00
        replace c_w01 := below_cell hb7 rfl c_w01
        replace c_w02 := below_cell hb7 rfl c_w02
        replace c_x00 := below_cell hb7 rfl c_x00
        replace c_x01 := below_cell hb7 rfl c_x01
        replace c_x02 := below_cell hb7 rfl c_x02
        replace c_x10 := below_cell hb7 rfl c_x10
        replace c_x11 := below_cell hb7 rfl c_x11
        replace c_x12 := below_cell hb7 rfl c_x12
        replace c_g00 := below_cell hb7 rfl c_g00
        replace c_g01 := below_cell hb7 rfl c_g01
        replace c_g02 := below_cell hb7 rfl c_g02
        have BB7 : Below w.heap.size w w7 := below_step (below_step BB6 BP6.out) hb7
        have ZZ7 : w6.heap.size + 1 ≤ w7.heap.size := by have := hb7.size; (try simp at this); omega
        clear BP6
        clear LT6_0 LT6_1 LT6_2 LT6_3 LT6_4
        have LT7_0 : w.heap.size < w7.heap.size := World.block_lt_of_cell? w7 _ c_paFirst0
        have LT7_1 : w.heap.size + 1 < w7.heap.size := World.block_lt_of_cell? w7 _ c_paSecond0
        have LT7_2 : gw0 < w7.heap.size := World.block_lt_of_cell? w7 _ c_w00
        have LT7_3 : w4.heap.size < w7.heap.size := World.block_lt_of_cell? w7 _ c_x00
        have LT7_4 : w5.heap.size < w7.heap.size := World.block_lt_of_cell? w7 _ c_x10
        have LT7_5 : w6.heap.size < w7.heap.size := World.block_lt_of_cell? w7 _ c_g00
        clear hb7 BB6
        go_wp2_with fail
        go_region_held3 (fun w' => w'.cell? ⟨w.heap.size, 0, none⟩ = some (.int .i64 ((d_aFirst).n)) ∧ w'.cell? ⟨w.heap.size, 1, none⟩ = some (.slice a_aFirst0 ((d_aFirst).xs).length cap_aFirst0) ∧ w'.cell? ⟨w.heap.size, 2, none⟩ = some (.slice a_aFirst1 ((d_aFirst).zs).length cap_aFirst1) ∧ w'.cell? ⟨w4.heap.size, 0, none⟩ = some (.int .i64 ((d_aFirst).n)) ∧ w'.cell? ⟨w4.heap.size, 1, none⟩ = some (.slice ax00 ((d_aFirst).xs).length capx00) ∧ w'.cell? ⟨w4.heap.size, 2, none⟩ = some (.slice ax01 ((d_aFirst).zs).length capx01)) (first | go_keep | (go_split_ands; refine ⟨?_, ?_, ?_, ?_, ?_, ?_⟩ <;> first | assumption | (refine cell_alloc_keep _ ?_; assumption) | (simp [*]; done))) (first | (go_at_call 20; go_must ((have BP7 := Lib.hid (show Below w7.heap.size w7 (w7.drew) from (by repeat (first | exact Below.refl _ _ | assumption | refine Below.drew ?_ | refine below_drewN ?_ _ | refine Below.alloc ?_ (by first | omega | (simp <;> omega)) _ | refine Below.setCell ?_ (by first | omega | (simp <;> omega)) _ | refine Below.trans ?_ (Below.mono (by assumption) (by first | omega | (simp <;> omega))))))); (replace Ow00 := Lib.hid (show OwnE (w7.drew) (w.heap.size) 54 (.slice aw00 (((r.getD Tab.zero)).xs).length capw00) E3.cs 3 (((r.getD Tab.zero)).xs) from OwnE.below Ow00.out BP7.out rfl)); (replace Ow01 := Lib.hid (show OwnE (w7.drew) (w.heap.size) 54 (.slice aw01 (((r.getD Tab.zero)).zs).length capw01) E3.cs 3 (((r.getD Tab.zero)).zs) from OwnE.below Ow01.out BP7.out rfl)); (replace Ox00 := Lib.hid (show OwnE (w7.drew) (w.heap.size) 54 (.slice ax00 ((d_aFirst).xs).length capx00) E3.cs 3 ((d_aFirst).xs) from OwnE.below Ox00.out BP7.out rfl)); (replace Ox01 := Lib.hid (show OwnE (w7.drew) (w.heap.size) 54 (.slice ax01 ((d_aFirst).zs).length capx01) E3.cs 3 ((d_aFirst).zs) from OwnE.below Ox01.out BP7.out rfl)); (replace Ox10 := Lib.hid (show OwnE (w7.drew) (w.heap.size) 54 (.slice ax10 ((d_aSecond).xs).length capx10) E3.cs 3 ((d_aSecond).xs) from OwnE.below Ox10.out BP7.out rfl)); (replace Ox11 := Lib.hid (show OwnE (w7.drew) (w.heap.size) 54 (.slice ax11 ((d_aSecond).zs).length capx11) E3.cs 3 ((d_aSecond).zs) from OwnE.below Ox11.out BP7.out rfl)); (replace Og00 := Lib.hid (show OwnE (w7.drew) (w.heap.size) 54 (.slice ag00 (((r.getD Tab.zero)).xs).length capg00) E3.cs 3 (((r.getD Tab.zero)).xs) from OwnE.below Og00.out BP7.out rfl)); (replace Og01 := Lib.hid (show OwnE (w7.drew) (w.heap.size) 54 (.slice ag01 (((r.getD Tab.zero)).zs).length capg01) E3.cs 3 (((r.getD Tab.zero)).zs) from OwnE.below Og01.out BP7.out rfl)); (replace c_paFirst0 : (w7.drew).cell? ⟨w.heap.size, 0, none⟩ = some (.int .i64 ((d_aFirst).n)) := c_paFirst0); (replace c_paFirst1 : (w7.drew).cell? ⟨w.heap.size, 1, none⟩ = some (.slice a_aFirst0 ((d_aFirst).xs).length cap_aFirst0) := c_paFirst1); (replace c_paFirst2 : (w7.drew).cell? ⟨w.heap.size, 2, none⟩ = some (.slice a_aFirst1 ((d_aFirst).zs).length cap_aFirst1) := c_paFirst2); (replace c_paSecond0 : (w7.drew).cell? ⟨w.heap.size + 1, 0, none⟩ = some (.int .i64 ((d_aSecond).n)) := c_paSecond0); (replace c_paSecond1 : (w7.drew).cell? ⟨w.heap.size + 1, 1, none⟩ = some (.slice a_aSecond0 ((d_aSecond).xs).length cap_aSecond0) := c_paSecond1); (replace c_paSecond2 : (w7.drew).cell? ⟨w.heap.size + 1, 2, none⟩ = some (.slice a_aSecond1 ((d_aSecond).zs).length cap_aSecond1) := c_paSecond2); (replace c_w00 : (w7.drew).cell? ⟨gw0, 0, none⟩ = some (.int .i64 (((r.getD Tab.zero)).n)) := c_w00); (replace c_w01 : (w7.drew).cell? ⟨gw0, 1, none⟩ = some (.slice aw00 (((r.getD Tab.zero)).xs).length capw00) := c_w01); (replace c_w02 : (w7.drew).cell? ⟨gw0, 2, none⟩ = some (.slice aw01 (((r.getD Tab.zero)).zs).length capw01) := c_w02); (replace c_x00 : (w7.drew).cell? ⟨w4.heap.size, 0, none⟩ = some (.int .i64 ((d_aFirst).n)) := c_x00); (replace c_x01 : (w7.drew).cell? ⟨w4.heap.size, 1, none⟩ = some (.slice ax00 ((d_aFirst).xs).length capx00) := c_x01); (replace c_x02 : (w7.drew).cell? ⟨w4.heap.size, 2, none⟩ = some (.slice ax01 ((d_aFirst).zs).length capx01) := c_x02); (replace c_x10 : (w7.drew).cell? ⟨w5.heap.size, 0, none⟩ = some (.int .i64 ((d_aSecond).n)) := c_x10); (replace c_x11 : (w7.drew).cell? ⟨w5.heap.size, 1, none⟩ = some (.slice ax10 ((d_aSecond).xs).length capx10) := c_x11); (replace c_x12 : (w7.drew).cell? ⟨w5.heap.size, 2, none⟩ = some (.slice ax11 ((d_aSecond).zs).length capx11) := c_x12); (replace c_g00 : (w7.drew).cell? ⟨w6.heap.size, 0, none⟩ = some (.int .i64 (((r.getD Tab.zero)).n)) := c_g00); (replace c_g01 : (w7.drew).cell? ⟨w6.heap.size, 1, none⟩ = some (.slice ag00 (((r.getD Tab.zero)).xs).length capg00) := c_g01); (replace c_g02 : (w7.drew).cell? ⟨w6.heap.size, 2, none⟩ = some (.slice ag01 (((r.getD Tab.zero)).zs).length capg01) := c_g02); (refine (laws_toTableau_any d_aFirst _ _ _ (Rd.below HA_aFirst0.out (below_step BB7 BP7.out) rfl) (Rd.below HA_aFirst1.out (below_step BB7 BP7.out) rfl) LEN_aFirst0 LEN_aFirst1).mono ?_; rintro e w8 ⟨vt10, vt11, rfl, hot10, hot11, hapt1, hb8⟩); (obtain ⟨at10, capt10, rfl⟩ := hot10.forms); (have LL_t10 := Lib.hid (show ∀ g, (Value.slice at10 ((d_aFirst).xs).length capt10).ownBlock = some g → w7.heap.size ≤ g ∧ g < w8.heap.size from fun g hg => by have := hot10.lt g hg; (try simp at this); omega)); (replace hot10 := OwnE.le hot10 (base' := w.heap.size) (by have := BB7.size; first | omega | (simp; omega))); (obtain ⟨at11, capt11, rfl⟩ := hot11.forms); (have LL_t11 := Lib.hid (show ∀ g, (Value.slice at11 ((d_aFirst).zs).length capt11).ownBlock = some g → w7.heap.size ≤ g ∧ g < w8.heap.size from fun g hg => by have := hot11.lt g hg; (try simp at this); omega)); (replace hot11 := OwnE.le hot11 (base' := w.heap.size) (by have := BB7.size; first | omega | (simp; omega))); (replace Ow00 := Lib.hid (show OwnE w8 (w.heap.size) 54 (.slice aw00 (((r.getD Tab.zero)).xs).length capw00) E3.cs 3 (((r.getD Tab.zero)).xs) from OwnE.below Ow00.out hb8 rfl)); (replace Ow01 := Lib.hid (show OwnE w8 (w.heap.size) 54 (.slice aw01 (((r.getD Tab.zero)).zs).length capw01) E3.cs 3 (((r.getD Tab.zero)).zs) from OwnE.below Ow01.out hb8 rfl)); (replace Ox00 := Lib.hid (show OwnE w8 (w.heap.size) 54 (.slice ax00 ((d_aFirst).xs).length capx00) E3.cs 3 ((d_aFirst).xs) from OwnE.below Ox00.out hb8 rfl)); (replace Ox01 := Lib.hid (show OwnE w8 (w.heap.size) 54 (.slice ax01 ((d_aFirst).zs).length capx01) E3.cs 3 ((d_aFirst).zs) from OwnE.below Ox01.out hb8 rfl)); (replace Ox10 := Lib.hid (show OwnE w8 (w.heap.size) 54 (.slice ax10 ((d_aSecond).xs).length capx10) E3.cs 3 ((d_aSecond).xs) from OwnE.below Ox10.out hb8 rfl)); (replace Ox11 := Lib.hid (show OwnE w8 (w.heap.size) 54 (.slice ax11 ((d_aSecond).zs).length capx11) E3.cs 3 ((d_aSecond).zs) from OwnE.below Ox11.out hb8 rfl)); (replace Og00 := Lib.hid (show OwnE w8 (w.heap.size) 54 (.slice ag00 (((r.getD Tab.zero)).xs).length capg00) E3.cs 3 (((r.getD Tab.zero)).xs) from OwnE.below Og00.out hb8 rfl)); (replace Og01 := Lib.hid (show OwnE w8 (w.heap.size) 54 (.slice ag01 (((r.getD Tab.zero)).zs).length capg01) E3.cs 3 (((r.getD Tab.zero)).zs) from OwnE.below Og01.out hb8 rfl)); (replace c_paFirst0 := below_cell hb8 rfl c_paFirst0); (replace c_paFirst1 := below_cell hb8 rfl c_paFirst1); (replace c_paFirst2 := below_cell hb8 rfl c_paFirst2); (replace c_paSecond0 := below_cell hb8 rfl c_paSecond0); (replace c_paSecond1 := below_cell hb8 rfl c_paSecond1); (replace c_paSecond2 := below_cell hb8 rfl c_paSecond2); (replace c_w00 := below_cell hb8 rfl c_w00); (replace c_w01 := below_cell hb8 rfl c_w01); (replace c_w02 := below_cell hb8 rfl c_w02); (replace c_x00 := below_cell hb8 rfl c_x00); (replace c_x01 := below_cell hb8 rfl c_x01); (replace c_x02 := below_cell hb8 rfl c_x02); (replace c_x10 := below_cell hb8 rfl c_x10); (replace c_x11 := below_cell hb8 rfl c_x11); (replace c_x12 := below_cell hb8 rfl c_x12); (replace c_g00 := below_cell hb8 rfl c_g00); (replace c_g01 := below_cell hb8 rfl c_g01); (replace c_g02 := below_cell hb8 rfl c_g02); (have BB8 : Below w.heap.size w w8 := below_step (below_step BB7 BP7.out) hb8); (have ZZ8 : w7.heap.size ≤ w8.heap.size := by have := hb8.size; (try simp at this); omega); (clear BP7); (clear LT7_0 LT7_1 LT7_2 LT7_3 LT7_4 LT7_5); (have LT8_0 : w.heap.size < w8.heap.size := World.block_lt_of_cell? w8 _ c_paFirst0); (have LT8_1 : w.heap.size + 1 < w8.heap.size := World.block_lt_of_cell? w8 _ c_paSecond0); (have LT8_2 : gw0 < w8.heap.size := World.block_lt_of_cell? w8 _ c_w00); (have LT8_3 : w4.heap.size < w8.heap.size := World.block_lt_of_cell? w8 _ c_x00); (have LT8_4 : w5.heap.size < w8.heap.size := World.block_lt_of_cell? w8 _ c_x10); (have LT8_5 : w6.heap.size < w8.heap.size := World.block_lt_of_cell? w8 _ c_g00); (have Ot10 := Lib.hid (show OwnE w8 (w.heap.size) 54 (.slice at10 ((d_aFirst).xs).length capt10) E3.cs 3 ((d_aFirst).xs) from hot10); clear hot10); (have Ot11 := Lib.hid (show OwnE w8 (w.heap.size) 54 (.slice at11 ((d_aFirst).zs).length capt11) E3.cs 3 ((d_aFirst).zs) from hot11); clear hot11); (have AP_t1 := Lib.hid hapt1; clear hapt1); (clear hb8 BB7))) | (go_at_call 15; go_must ((refine (laws_eqTableau_same d_aFirst _ _ _ _ _ (Ox00.out).rd (Ox01.out).rd (Ot10.out).rd (Ot11.out).rd).mono ?_; rintro e w9 ⟨rfl, hb9⟩); (replace Ow00 := Lib.hid (show OwnE w9 (w.heap.size) 54 (.slice aw00 (((r.getD Tab.zero)).xs).length capw00) E3.cs 3 (((r.getD Tab.zero)).xs) from OwnE.below Ow00.out hb9 rfl)); (replace Ow01 := Lib.hid (show OwnE w9 (w.heap.size) 54 (.slice aw01 (((r.getD Tab.zero)).zs).length capw01) E3.cs 3 (((r.getD Tab.zero)).zs) from OwnE.below Ow01.out hb9 rfl)); (replace Ox00 := Lib.hid (show OwnE w9 (w.heap.size) 54 (.slice ax00 ((d_aFirst).xs).length capx00) E3.cs 3 ((d_aFirst).xs) from OwnE.below Ox00.out hb9 rfl)); (replace Ox01 := Lib.hid (show OwnE w9 (w.heap.size) 54 (.slice ax01 ((d_aFirst).zs).length capx01) E3.cs 3 ((d_aFirst).zs) from OwnE.below Ox01.out hb9 rfl)); (replace Ox10 := Lib.hid (show OwnE w9 (w.heap.size) 54 (.slice ax10 ((d_aSecond).xs).length capx10) E3.cs 3 ((d_aSecond).xs) from OwnE.below Ox10.out hb9 rfl)); (replace Ox11 := Lib.hid (show OwnE w9 (w.heap.size) 54 (.slice ax11 ((d_aSecond).zs).length capx11) E3.cs 3 ((d_aSecond).zs) from OwnE.below Ox11.out hb9 rfl)); (replace Og00 := Lib.hid (show OwnE w9 (w.heap.size) 54 (.slice ag00 (((r.getD Tab.zero)).xs).length capg00) E3.cs 3 (((r.getD Tab.zero)).xs) from OwnE.below Og00.out hb9 rfl)); (replace Og01 := Lib.hid (show OwnE w9 (w.heap.size) 54 (.slice ag01 (((r.getD Tab.zero)).zs).length capg01) E3.cs 3 (((r.getD Tab.zero)).zs) from OwnE.below Og01.out hb9 rfl)); (replace Ot10 := Lib.hid (show OwnE w9 (w.heap.size) 54 (.slice at10 ((d_aFirst).xs).length capt10) E3.cs 3 ((d_aFirst).xs) from OwnE.below Ot10.out hb9 rfl)); (replace Ot11 := Lib.hid (show OwnE w9 (w.heap.size) 54 (.slice at11 ((d_aFirst).zs).length capt11) E3.cs 3 ((d_aFirst).zs) from OwnE.below Ot11.out hb9 rfl)); (replace c_paFirst0 := below_cell hb9 rfl c_paFirst0); (replace c_paFirst1 := below_cell hb9 rfl c_paFirst1); (replace c_paFirst2 := below_cell hb9 rfl c_paFirst2); (replace c_paSecond0 := below_cell hb9 rfl c_paSecond0); (replace c_paSecond1 := below_cell hb9 rfl c_paSecond1); (replace c_paSecond2 := below_cell hb9 rfl c_paSecond2); (replace c_w00 := below_cell hb9 rfl c_w00); (replace c_w01 := below_cell hb9 rfl c_w01); (replace c_w02 := below_cell hb9 rfl c_w02); (replace c_x00 := below_cell hb9 rfl c_x00); (replace c_x01 := below_cell hb9 rfl c_x01); (replace c_x02 := below_cell hb9 rfl c_x02); (replace c_x10 := below_cell hb9 rfl c_x10); (replace c_x11 := below_cell hb9 rfl c_x11); (replace c_x12 := below_cell hb9 rfl c_x12); (replace c_g00 := below_cell hb9 rfl c_g00); (replace c_g01 := below_cell hb9 rfl c_g01); (replace c_g02 := below_cell hb9 rfl c_g02); (have BB9 : Below w.heap.size w w9 := below_step BB8 hb9); (have ZZ9 : w8.heap.size ≤ w9.heap.size := by have := hb9.size; (try simp at this); omega); (clear LT8_0 LT8_1 LT8_2 LT8_3 LT8_4 LT8_5); (have LT9_0 : w.heap.size < w9.heap.size := World.block_lt_of_cell? w9 _ c_paFirst0); (have LT9_1 : w.heap.size + 1 < w9.heap.size := World.block_lt_of_cell? w9 _ c_paSecond0); (have LT9_2 : gw0 < w9.heap.size := World.block_lt_of_cell? w9 _ c_w00); (have LT9_3 : w4.heap.size < w9.heap.size := World.block_lt_of_cell? w9 _ c_x00); (have LT9_4 : w5.heap.size < w9.heap.size := World.block_lt_of_cell? w9 _ c_x10); (have LT9_5 : w6.heap.size < w9.heap.size := World.block_lt_of_cell? w9 _ c_g00); (clear hb9 BB8))))
        clear Ot10 LL_t10
        clear Ot11 LL_t11
        clear AP_t1
        go_wp2_with fail
        go_region_held3 (fun w' => w'.cell? ⟨w.heap.size + 1, 0, none⟩ = some (.int .i64 ((d_aSecond).n)) ∧ w'.cell? ⟨w.heap.size + 1, 1, none⟩ = some (.slice a_aSecond0 ((d_aSecond).xs).length cap_aSecond0) ∧ w'.cell? ⟨w.heap.size + 1, 2, none⟩ = some (.slice a_aSecond1 ((d_aSecond).zs).length cap_aSecond1) ∧ w'.cell? ⟨w5.heap.size, 0, none⟩ = some (.int .i64 ((d_aSecond).n)) ∧ w'.cell? ⟨w5.heap.size, 1, none⟩ = some (.slice ax10 ((d_aSecond).xs).length capx10) ∧ w'.cell? ⟨w5.heap.size, 2, none⟩ = some (.slice ax11 ((d_aSecond).zs).length capx11)) (first | go_keep | (go_split_ands; refine ⟨?_, ?_, ?_, ?_, ?_, ?_⟩ <;> first | assumption | (refine cell_alloc_keep _ ?_; assumption) | (simp [*]; done))) (first | (go_at_call 20; go_must ((have BP9 := Lib.hid (show Below w9.heap.size w9 (w9.drew) from (by repeat (first | exact Below.refl _ _ | assumption | refine Below.drew ?_ | refine below_drewN ?_ _ | refine Below.alloc ?_ (by first | omega | (simp <;> omega)) _ | refine Below.setCell ?_ (by first | omega | (simp <;> omega)) _ | refine Below.trans ?_ (Below.mono (by assumption) (by first | omega | (simp <;> omega))))))); (replace Ow00 := Lib.hid (show OwnE (w9.drew) (w.heap.size) 54 (.slice aw00 (((r.getD Tab.zero)).xs).length capw00) E3.cs 3 (((r.getD Tab.zero)).xs) from OwnE.below Ow00.out BP9.out rfl)); (replace Ow01 := Lib.hid (show OwnE (w9.drew) (w.heap.size) 54 (.slice aw01 (((r.getD Tab.zero)).zs).length capw01) E3.cs 3 (((r.getD Tab.zero)).zs) from OwnE.below Ow01.out BP9.out rfl)); (replace Ox00 := Lib.hid (show OwnE (w9.drew) (w.heap.size) 54 (.slice ax00 ((d_aFirst).xs).length capx00) E3.cs 3 ((d_aFirst).xs) from OwnE.below Ox00.out BP9.out rfl)); (replace Ox01 := Lib.hid (show OwnE (w9.drew) (w.heap.size) 54 (.slice ax01 ((d_aFirst).zs).length capx01) E3.cs 3 ((d_aFirst).zs) from OwnE.below Ox01.out BP9.out rfl)); (replace Ox10 := Lib.hid (show OwnE (w9.drew) (w.heap.size) 54 (.slice ax10 ((d_aSecond).xs).length capx10) E3.cs 3 ((d_aSecond).xs) from OwnE.below Ox10.out BP9.out rfl)); (replace Ox11 := Lib.hid (show OwnE (w9.drew) (w.heap.size) 54 (.slice ax11 ((d_aSecond).zs).length capx11) E3.cs 3 ((d_aSecond).zs) from OwnE.below Ox11.out BP9.out rfl)); (replace Og00 := Lib.hid (show OwnE (w9.drew) (w.heap.size) 54 (.slice ag00 (((r.getD Tab.zero)).xs).length capg00) E3.cs 3 (((r.getD Tab.zero)).xs) from OwnE.below Og00.out BP9.out rfl)); (replace Og01 := Lib.hid (show OwnE (w9.drew) (w.heap.size) 54 (.slice ag01 (((r.getD Tab.zero)).zs).length capg01) E3.cs 3 (((r.getD Tab.zero)).zs) from OwnE.below Og01.out BP9.out rfl)); (replace c_paFirst0 : (w9.drew).cell? ⟨w.heap.size, 0, none⟩ = some (.int .i64 ((d_aFirst).n)) := c_paFirst0); (replace c_paFirst1 : (w9.drew).cell? ⟨w.heap.size, 1, none⟩ = some (.slice a_aFirst0 ((d_aFirst).xs).length cap_aFirst0) := c_paFirst1); (replace c_paFirst2 : (w9.drew).cell? ⟨w.heap.size, 2, none⟩ = some (.slice a_aFirst1 ((d_aFirst).zs).length cap_aFirst1) := c_paFirst2); (replace c_paSecond0 : (w9.drew).cell? ⟨w.heap.size + 1, 0, none⟩ = some (.int .i64 ((d_aSecond).n)) := c_paSecond0); (replace c_paSecond1 : (w9.drew).cell? ⟨w.heap.size + 1, 1, none⟩ = some (.slice a_aSecond0 ((d_aSecond).xs).length cap_aSecond0) := c_paSecond1); (replace c_paSecond2 : (w9.drew).cell? ⟨w.heap.size + 1, 2, none⟩ = some (.slice a_aSecond1 ((d_aSecond).zs).length cap_aSecond1) := c_paSecond2); (replace c_w00 : (w9.drew).cell? ⟨gw0, 0, none⟩ = some (.int .i64 (((r.getD Tab.zero)).n)) := c_w00); (replace c_w01 : (w9.drew).cell? ⟨gw0, 1, none⟩ = some (.slice aw00 (((r.getD Tab.zero)).xs).length capw00) := c_w01); (replace c_w02 : (w9.drew).cell? ⟨gw0, 2, none⟩ = some (.slice aw01 (((r.getD Tab.zero)).zs).length capw01) := c_w02); (replace c_x00 : (w9.drew).cell? ⟨w4.heap.size, 0, none⟩ = some (.int .i64 ((d_aFirst).n)) := c_x00); (replace c_x01 : (w9.drew).cell? ⟨w4.heap.size, 1, none⟩ = some (.slice ax00 ((d_aFirst).xs).length capx00) := c_x01); (replace c_x02 : (w9.drew).cell? ⟨w4.heap.size, 2, none⟩ = some (.slice ax01 ((d_aFirst).zs).length capx01) := c_x02); (replace c_x10 : (w9.drew).cell? ⟨w5.heap.size, 0, none⟩ = some (.int .i64 ((d_aSecond).n)) := c_x10); (replace c_x11 : (w9.drew).cell? ⟨w5.heap.size, 1, none⟩ = some (.slice ax10 ((d_aSecond).xs).length capx10) := c_x11); (replace c_x12 : (w9.drew).cell? ⟨w5.heap.size, 2, none⟩ = some (.slice ax11 ((d_aSecond).zs).length capx11) := c_x12); (replace c_g00 : (w9.drew).cell? ⟨w6.heap.size, 0, none⟩ = some (.int .i64 (((r.getD Tab.zero)).n)) := c_g00); (replace c_g01 : (w9.drew).cell? ⟨w6.heap.size, 1, none⟩ = some (.slice ag00 (((r.getD Tab.zero)).xs).length capg00) := c_g01); (replace c_g02 : (w9.drew).cell? ⟨w6.heap.size, 2, none⟩ = some (.slice ag01 (((r.getD Tab.zero)).zs).length capg01) := c_g02); (refine (laws_toTableau_any d_aSecond _ _ _ (Rd.below HA_aSecond0.out (below_step BB9 BP9.out) rfl) (Rd.below HA_aSecond1.out (below_step BB9 BP9.out) rfl) LEN_aSecond0 LEN_aSecond1).mono ?_; rintro e w10 ⟨vt20, vt21, rfl, hot20, hot21, hapt2, hb10⟩); (obtain ⟨at20, capt20, rfl⟩ := hot20.forms); (have LL_t20 := Lib.hid (show ∀ g, (Value.slice at20 ((d_aSecond).xs).length capt20).ownBlock = some g → w9.heap.size ≤ g ∧ g < w10.heap.size from fun g hg => by have := hot20.lt g hg; (try simp at this); omega)); (replace hot20 := OwnE.le hot20 (base' := w.heap.size) (by have := BB9.size; first | omega | (simp; omega))); (obtain ⟨at21, capt21, rfl⟩ := hot21.forms); (have LL_t21 := Lib.hid (show ∀ g, (Value.slice at21 ((d_aSecond).zs).length capt21).ownBlock = some g → w9.heap.size ≤ g ∧ g < w10.heap.size from fun g hg => by have := hot21.lt g hg; (try simp at this); omega)); (replace hot21 := OwnE.le hot21 (base' := w.heap.size) (by have := BB9.size; first | omega | (simp; omega))); (replace Ow00 := Lib.hid (show OwnE w10 (w.heap.size) 54 (.slice aw00 (((r.getD Tab.zero)).xs).length capw00) E3.cs 3 (((r.getD Tab.zero)).xs) from OwnE.below Ow00.out hb10 rfl)); (replace Ow01 := Lib.hid (show OwnE w10 (w.heap.size) 54 (.slice aw01 (((r.getD Tab.zero)).zs).length capw01) E3.cs 3 (((r.getD Tab.zero)).zs) from OwnE.below Ow01.out hb10 rfl)); (replace Ox00 := Lib.hid (show OwnE w10 (w.heap.size) 54 (.slice ax00 ((d_aFirst).xs).length capx00) E3.cs 3 ((d_aFirst).xs) from OwnE.below Ox00.out hb10 rfl)); (replace Ox01 := Lib.hid (show OwnE w10 (w.heap.size) 54 (.slice ax01 ((d_aFirst).zs).length capx01) E3.cs 3 ((d_aFirst).zs) from OwnE.below Ox01.out hb10 rfl)); (replace Ox10 := Lib.hid (show OwnE w10 (w.heap.size) 54 (.slice ax10 ((d_aSecond).xs).length capx10) E3.cs 3 ((d_aSecond).xs) from OwnE.below Ox10.out hb10 rfl)); (replace Ox11 := Lib.hid (show OwnE w10 (w.heap.size) 54 (.slice ax11 ((d_aSecond).zs).length capx11) E3.cs 3 ((d_aSecond).zs) from OwnE.below Ox11.out hb10 rfl)); (replace Og00 := Lib.hid (show OwnE w10 (w.heap.size) 54 (.slice ag00 (((r.getD Tab.zero)).xs).length capg00) E3.cs 3 (((r.getD Tab.zero)).xs) from OwnE.below Og00.out hb10 rfl)); (replace Og01 := Lib.hid (show OwnE w10 (w.heap.size) 54 (.slice ag01 (((r.getD Tab.zero)).zs).length capg01) E3.cs 3 (((r.getD Tab.zero)).zs) from OwnE.below Og01.out hb10 rfl)); (replace c_paFirst0 := below_cell hb10 rfl c_paFirst0); (replace c_paFirst1 := below_cell hb10 rfl c_paFirst1); (replace c_paFirst2 := below_cell hb10 rfl c_paFirst2); (replace c_paSecond0 := below_cell hb10 rfl c_paSecond0); (replace c_paSecond1 := below_cell hb10 rfl c_paSecond1); (replace c_paSecond2 := below_cell hb10 rfl c_paSecond2); (replace c_w00 := below_cell hb10 rfl c_w00); (replace c_w01 := below_cell hb10 rfl c_w01); (replace c_w02 := below_cell hb10 rfl c_w02); (replace c_x00 := below_cell hb10 rfl c_x00); (replace c_x01 := below_cell hb10 rfl c_x01); (replace c_x02 := below_cell hb10 rfl c_x02); (replace c_x10 := below_cell hb10 rfl c_x10); (replace c_x11 := below_cell hb10 rfl c_x11); (replace c_x12 := below_cell hb10 rfl c_x12); (replace c_g00 := below_cell hb10 rfl c_g00); (replace c_g01 := below_cell hb10 rfl c_g01); (replace c_g02 := below_cell hb10 rfl c_g02); (have BB10 : Below w.heap.size w w10 := below_step (below_step BB9 BP9.out) hb10); (have ZZ10 : w9.heap.size ≤ w10.heap.size := by have := hb10.size; (try simp at this); omega); (clear BP9); (clear LT9_0 LT9_1 LT9_2 LT9_3 LT9_4 LT9_5); (have LT10_0 : w.heap.size < w10.heap.size := World.block_lt_of_cell? w10 _ c_paFirst0); (have LT10_1 : w.heap.size + 1 < w10.heap.size := World.block_lt_of_cell? w10 _ c_paSecond0); (have LT10_2 : gw0 < w10.heap.size := World.block_lt_of_cell? w10 _ c_w00); (have LT10_3 : w4.heap.size < w10.heap.size := World.block_lt_of_cell? w10 _ c_x00); (have LT10_4 : w5.heap.size < w10.heap.size := World.block_lt_of_cell? w10 _ c_x10); (have LT10_5 : w6.heap.size < w10.heap.size := World.block_lt_of_cell? w10 _ c_g00); (have Ot20 := Lib.hid (show OwnE w10 (w.heap.size) 54 (.slice at20 ((d_aSecond).xs).length capt20) E3.cs 3 ((d_aSecond).xs) from hot20); clear hot20); (have Ot21 := Lib.hid (show OwnE w10 (w.heap.size) 54 (.slice at21 ((d_aSecond).zs).length capt21) E3.cs 3 ((d_aSecond).zs) from hot21); clear hot21); (have AP_t2 := Lib.hid hapt2; clear hapt2); (clear hb10 BB9))) | (go_at_call 15; go_must ((refine (laws_eqTableau_same d_aSecond _ _ _ _ _ (Ox10.out).rd (Ox11.out).rd (Ot20.out).rd (Ot21.out).rd).mono ?_; rintro e w11 ⟨rfl, hb11⟩); (replace Ow00 := Lib.hid (show OwnE w11 (w.heap.size) 54 (.slice aw00 (((r.getD Tab.zero)).xs).length capw00) E3.cs 3 (((r.getD Tab.zero)).xs) from OwnE.below Ow00.out hb11 rfl)); (replace Ow01 := Lib.hid (show OwnE w11 (w.heap.size) 54 (.slice aw01 (((r.getD Tab.zero)).zs).length capw01) E3.cs 3 (((r.getD Tab.zero)).zs) from OwnE.below Ow01.out hb11 rfl)); (replace Ox00 := Lib.hid (show OwnE w11 (w.heap.size) 54 (.slice ax00 ((d_aFirst).xs).length capx00) E3.cs 3 ((d_aFirst).xs) from OwnE.below Ox00.out hb11 rfl)); (replace Ox01 := Lib.hid (show OwnE w11 (w.heap.size) 54 (.slice ax01 ((d_aFirst).zs).length capx01) E3.cs 3 ((d_aFirst).zs) from OwnE.below Ox01.out hb11 rfl)); (replace Ox10 := Lib.hid (show OwnE w11 (w.heap.size) 54 (.slice ax10 ((d_aSecond).xs).length capx10) E3.cs 3 ((d_aSecond).xs) from OwnE.below Ox10.out hb11 rfl)); (replace Ox11 := Lib.hid (show OwnE w11 (w.heap.size) 54 (.slice ax11 ((d_aSecond).zs).length capx11) E3.cs 3 ((d_aSecond).zs) from OwnE.below Ox11.out hb11 rfl)); (replace Og00 := Lib.hid (show OwnE w11 (w.heap.size) 54 (.slice ag00 (((r.getD Tab.zero)).xs).length capg00) E3.cs 3 (((r.getD Tab.zero)).xs) from OwnE.below Og00.out hb11 rfl)); (replace Og01 := Lib.hid (show OwnE w11 (w.heap.size) 54 (.slice ag01 (((r.getD Tab.zero)).zs).length capg01) E3.cs 3 (((r.getD Tab.zero)).zs) from OwnE.below Og01.out hb11 rfl)); (replace Ot20 := Lib.hid (show OwnE w11 (w.heap.size) 54 (.slice at20 ((d_aSecond).xs).length capt20) E3.cs 3 ((d_aSecond).xs) from OwnE.below Ot20.out hb11 rfl)); (replace Ot21 := Lib.hid (show OwnE w11 (w.heap.size) 54 (.slice at21 ((d_aSecond).zs).length capt21) E3.cs 3 ((d_aSecond).zs) from OwnE.below Ot21.out hb11 rfl)); (replace c_paFirst0 := below_cell hb11 rfl c_paFirst0); (replace c_paFirst1 := below_cell hb11 rfl c_paFirst1); (replace c_paFirst2 := below_cell hb11 rfl c_paFirst2); (replace c_paSecond0 := below_cell hb11 rfl c_paSecond0); (replace c_paSecond1 := below_cell hb11 rfl c_paSecond1); (replace c_paSecond2 := below_cell hb11 rfl c_paSecond2); (replace c_w00 := below_cell hb11 rfl c_w00); (replace c_w01 := below_cell hb11 rfl c_w01); (replace c_w02 := below_cell hb11 rfl c_w02); (replace c_x00 := below_cell hb11 rfl c_x00); (replace c_x01 := below_cell hb11 rfl c_x01); (replace c_x02 := below_cell hb11 rfl c_x02); (replace c_x10 := below_cell hb11 rfl c_x10); (replace c_x11 := below_cell hb11 rfl c_x11); (replace c_x12 := below_cell hb11 rfl c_x12); (replace c_g00 := below_cell hb11 rfl c_g00); (replace c_g01 := below_cell hb11 rfl c_g01); (replace c_g02 := below_cell hb11 rfl c_g02); (have BB11 : Below w.heap.size w w11 := below_step BB10 hb11); (have ZZ11 : w10.heap.size ≤ w11.heap.size := by have := hb11.size; (try simp at this); omega); (clear LT10_0 LT10_1 LT10_2 LT10_3 LT10_4 LT10_5); (have LT11_0 : w.heap.size < w11.heap.size := World.block_lt_of_cell? w11 _ c_paFirst0); (have LT11_1 : w.heap.size + 1 < w11.heap.size := World.block_lt_of_cell? w11 _ c_paSecond0); (have LT11_2 : gw0 < w11.heap.size := World.block_lt_of_cell? w11 _ c_w00); (have LT11_3 : w4.heap.size < w11.heap.size := World.block_lt_of_cell? w11 _ c_x00); (have LT11_4 : w5.heap.size < w11.heap.size := World.block_lt_of_cell? w11 _ c_x10); (have LT11_5 : w6.heap.size < w11.heap.size := World.block_lt_of_cell? w11 _ c_g00); (clear hb11 BB10))))
        clear Ot20 LL_t20
        clear Ot21 LL_t21
        clear AP_t2
        go_wp2_with fail
        refine (laws_markTableau_any _ _ _ _ _ _ _ _ _ _ Ox00.out Ox01.out AP_x0.out (by omega) (by omega) (by omega) (by omega)).mono ?_; rintro e w12 ⟨rfl, hmx00, hmx01, hg⟩
        have hb12 : Mid (w3.heap.size) (w4.heap.size) w11 w12 := hg _ _ (fun k hk => LL_x00.out k hk) (fun k hk => LL_x01.out k hk)
        clear hg
        replace Ow00 := Lib.hid (show OwnE w12 (w.heap.size) 54 (.slice aw00 (((r.getD Tab.zero)).xs).length capw00) E3.cs 3 (((r.getD Tab.zero)).xs) from Mid.own hb12 Ow00.out (fun g hg => by have := LL_w00.out g hg; omega))
        replace Ow01 := Lib.hid (show OwnE w12 (w.heap.size) 54 (.slice aw01 (((r.getD Tab.zero)).zs).length capw01) E3.cs 3 (((r.getD Tab.zero)).zs) from Mid.own hb12 Ow01.out (fun g hg => by have := LL_w01.out g hg; omega))
        replace Ox10 := Lib.hid (show OwnE w12 (w.heap.size) 54 (.slice ax10 ((d_aSecond).xs).length capx10) E3.cs 3 ((d_aSecond).xs) from Mid.own hb12 Ox10.out (fun g hg => by have := LL_x10.out g hg; omega))
        replace Ox11 := Lib.hid (show OwnE w12 (w.heap.size) 54 (.slice ax11 ((d_aSecond).zs).length capx11) E3.cs 3 ((d_aSecond).zs) from Mid.own hb12 Ox11.out (fun g hg => by have := LL_x11.out g hg; omega))
        replace Og00 := Lib.hid (show OwnE w12 (w.heap.size) 54 (.slice ag00 (((r.getD Tab.zero)).xs).length capg00) E3.cs 3 (((r.getD Tab.zero)).xs) from Mid.own hb12 Og00.out (fun g hg => by have := LL_g00.out g hg; omega))
        replace Og01 := Lib.hid (show OwnE w12 (w.heap.size) 54 (.slice ag01 (((r.getD Tab.zero)).zs).length capg01) E3.cs 3 (((r.getD Tab.zero)).zs) from Mid.own hb12 Og01.out (fun g hg => by have := LL_g01.out g hg; omega))
        replace c_paFirst0 := Mid.cell hb12 (by omega) c_paFirst0
        replace c_paFirst1 := Mid.cell hb12 (by omega) c_paFirst1
        replace c_paFirst2 := Mid.cell hb12 (by omega) c_paFirst2
        replace c_paSecond0 := Mid.cell hb12 (by omega) c_paSecond0
        replace c_paSecond1 := Mid.cell hb12 (by omega) c_paSecond1
        replace c_paSecond2 := Mid.cell hb12 (by omega) c_paSecond2
        replace c_w00 := Mid.cell hb12 (by omega) c_w00
        replace c_w01 := Mid.cell hb12 (by omega) c_w01
        replace c_w02 := Mid.cell hb12 (by omega) c_w02
        replace c_x00 := Mid.cell hb12 (by omega) c_x00
        replace c_x01 := Mid.cell hb12 (by omega) c_x01
        replace c_x02 := Mid.cell hb12 (by omega) c_x02
        replace c_x10 := Mid.cell hb12 (by omega) c_x10
        replace c_x11 := Mid.cell hb12 (by omega) c_x11
        replace c_x12 := Mid.cell hb12 (by omega) c_x12
        replace c_g00 := Mid.cell hb12 (by omega) c_g00
        replace c_g01 := Mid.cell hb12 (by omega) c_g01
        replace c_g02 := Mid.cell hb12 (by omega) c_g02
        have BB12 : Below w.heap.size w w12 := Below.trans BB11 (Mid.below hb12 (by omega) (by first | omega | (simp <;> omega)))
        have ZZ12 : w11.heap.size ≤ w12.heap.size := by have := hb12.size; (try simp at this); omega
        clear LT11_0 LT11_1 LT11_2 LT11_3 LT11_4 LT11_5
        have LT12_0 : w.heap.size < w12.heap.size := World.block_lt_of_cell? w12 _ c_paFirst0
        have LT12_1 : w.heap.size + 1 < w12.heap.size := World.block_lt_of_cell? w12 _ c_paSecond0
        have LT12_2 : gw0 < w12.heap.size := World.block_lt_of_cell? w12 _ c_w00
        have LT12_3 : w4.heap.size < w12.heap.size := World.block_lt_of_cell? w12 _ c_x00
        have LT12_4 : w5.heap.size < w12.heap.size := World.block_lt_of_cell? w12 _ c_x10
        have LT12_5 : w6.heap.size < w12.heap.size := World.block_lt_of_cell? w12 _ c_g00
        have Ox00 := Lib.hid (show w12.ownsRow (w.heap.size) 54 3 (.slice ax00 ((d_aFirst).xs).length capx00) ((d_aFirst).xs).length (marks (1) (((d_aFirst).xs).length * 3)) from hmx00); clear hmx00
        have Ox01 := Lib.hid (show w12.ownsRow (w.heap.size) 54 3 (.slice ax01 ((d_aFirst).zs).length capx01) ((d_aFirst).zs).length (marks (1 + ((((d_aFirst).xs).length * 3 : Nat) : Int)) (((d_aFirst).zs).length * 3)) from hmx01); clear hmx01
        clear hb12 BB11
        go_wp2_with fail
        refine (laws_markTableau_any _ _ _ _ _ _ _ _ _ _ Ox10.out Ox11.out AP_x1.out (by omega) (by omega) (by omega) (by omega)).mono ?_; rintro e w13 ⟨rfl, hmx10, hmx11, hg⟩
        have hb13 : Mid (w4.heap.size + 1) (w5.heap.size) w12 w13 := hg _ _ (fun k hk => LL_x10.out k hk) (fun k hk => LL_x11.out k hk)
        clear hg
        replace Ow00 := Lib.hid (show OwnE w13 (w.heap.size) 54 (.slice aw00 (((r.getD Tab.zero)).xs).length capw00) E3.cs 3 (((r.getD Tab.zero)).xs) from Mid.own hb13 Ow00.out (fun g hg => by have := LL_w00.out g hg; omega))
        replace Ow01 := Lib.hid (show OwnE w13 (w.heap.size) 54 (.slice aw01 (((r.getD Tab.zero)).zs).length capw01) E3.cs 3 (((r.getD Tab.zero)).zs) from Mid.own hb13 Ow01.out (fun g hg => by have := LL_w01.out g hg; omega))
        replace Ox00 := Lib.hid (show w13.ownsRow (w.heap.size) 54 3 (.slice ax00 ((d_aFirst).xs).length capx00) ((d_aFirst).xs).length (marks (1) (((d_aFirst).xs).length * 3)) from Mid.own hb13 Ox00.out (fun g hg => by have := LL_x00.out g hg; omega))
        replace Ox01 := Lib.hid (show w13.ownsRow (w.heap.size) 54 3 (.slice ax01 ((d_aFirst).zs).length capx01) ((d_aFirst).zs).length (marks (1 + ((((d_aFirst).xs).length * 3 : Nat) : Int)) (((d_aFirst).zs).length * 3)) from Mid.own hb13 Ox01.out (fun g hg => by have := LL_x01.out g hg; omega))
        replace Og00 := Lib.hid (show OwnE w13 (w.heap.size) 54 (.slice ag00 (((r.getD Tab.zero)).xs).length capg00) E3.cs 3 (((r.getD Tab.zero)).xs) from Mid.own hb13 Og00.out (fun g hg => by have := LL_g00.out g hg; omega))
        replace Og01 := Lib.hid (show OwnE w13 (w.heap.size) 54 (.slice ag01 (((r.getD Tab.zero)).zs).length capg01) E3.cs 3 (((r.getD Tab.zero)).zs) from Mid.own hb13 Og01.out (fun g hg => by have := LL_g01.out g hg; omega))
        replace c_paFirst0 := Mid.cell hb13 (by omega) c_paFirst0
        replace c_paFirst1 := Mid.cell hb13 (by omega) c_paFirst1
        replace c_paFirst2 := Mid.cell hb13 (by omega) c_paFirst2
        replace c_paSecond0 := Mid.cell hb13 (by omega) c_paSecond0
        replace c_paSecond1 := Mid.cell hb13 (by omega) c_paSecond1
        replace c_paSecond2 := Mid.cell hb13 (by omega) c_paSecond2
        replace c_w00 := Mid.cell hb13 (by omega) c_w00
        replace c_w01 := Mid.cell hb13 (by omega) c_w01
        replace c_w02 := Mid.cell hb13 (by omega) c_w02
        replace c_x00 := Mid.cell hb13 (by omega) c_x00
        replace c_x01 := Mid.cell hb13 (by omega) c_x01
        replace c_x02 := Mid.cell hb13 (by omega) c_x02
        replace c_x10 := Mid.cell hb13 (by omega) c_x10
        replace c_x11 := Mid.cell hb13 (by omega) c_x11
        replace c_x12 := Mid.cell hb13 (by omega) c_x12
        replace c_g00 := Mid.cell hb13 (by omega) c_g00
        replace c_g01 := Mid.cell hb13 (by omega) c_g01
        replace c_g02 := Mid.cell hb13 (by omega) c_g02
        have BB13 : Below w.heap.size w w13 := Below.trans BB12 (Mid.below hb13 (by omega) (by first | omega | (simp <;> omega)))
        have ZZ13 : w12.heap.size ≤ w13.heap.size := by have := hb13.size; (try simp at this); omega
        clear LT12_0 LT12_1 LT12_2 LT12_3 LT12_4 LT12_5
        have LT13_0 : w.heap.size < w13.heap.size := World.block_lt_of_cell? w13 _ c_paFirst0
        have LT13_1 : w.heap.size + 1 < w13.heap.size := World.block_lt_of_cell? w13 _ c_paSecond0
        have LT13_2 : gw0 < w13.heap.size := World.block_lt_of_cell? w13 _ c_w00
        have LT13_3 : w4.heap.size < w13.heap.size := World.block_lt_of_cell? w13 _ c_x00
        have LT13_4 : w5.heap.size < w13.heap.size := World.block_lt_of_cell? w13 _ c_x10
        have LT13_5 : w6.heap.size < w13.heap.size := World.block_lt_of_cell? w13 _ c_g00
        have Ox10 := Lib.hid (show w13.ownsRow (w.heap.size) 54 3 (.slice ax10 ((d_aSecond).xs).length capx10) ((d_aSecond).xs).length (marks (1 + ((((d_aFirst).xs).length * 3 : Nat) : Int) + ((((d_aFirst).zs).length * 3 : Nat) : Int)) (((d_aSecond).xs).length * 3)) from hmx10); clear hmx10
        have Ox11 := Lib.hid (show w13.ownsRow (w.heap.size) 54 3 (.slice ax11 ((d_aSecond).zs).length capx11) ((d_aSecond).zs).length (marks (1 + ((((d_aFirst).xs).length * 3 : Nat) : Int) + ((((d_aFirst).zs).length * 3 : Nat) : Int) + ((((d_aSecond).xs).length * 3 : Nat) : Int)) (((d_aSecond).zs).length * 3)) from hmx11); clear hmx11
        clear hb13 BB12
        go_wp2_with fail
        refine (laws_eqTableau_same (r.getD Tab.zero) _ _ _ _ _ (Og00.out).rd (Og01.out).rd (Ow00.out).rd (Ow01.out).rd).mono ?_; rintro e w14 ⟨rfl, hb14⟩
        replace Ow00 := Lib.hid (show OwnE w14 (w.heap.size) 54 (.slice aw00 (((r.getD Tab.zero)).xs).length capw00) E3.cs 3 (((r.getD Tab.zero)).xs) from OwnE.below Ow00.out hb14 rfl)
        replace Ow01 := Lib.hid (show OwnE w14 (w.heap.size) 54 (.slice aw01 (((r.getD Tab.zero)).zs).length capw01) E3.cs 3 (((r.getD Tab.zero)).zs) from OwnE.below Ow01.out hb14 rfl)
        replace Ox00 := Lib.hid (show w14.ownsRow (w.heap.size) 54 3 (.slice ax00 ((d_aFirst).xs).length capx00) ((d_aFirst).xs).length (marks (1) (((d_aFirst).xs).length * 3)) from own_below Ox00.out hb14 rfl)
        replace Ox01 := Lib.hid (show w14.ownsRow (w.heap.size) 54 3 (.slice ax01 ((d_aFirst).zs).length capx01) ((d_aFirst).zs).length (marks (1 + ((((d_aFirst).xs).length * 3 : Nat) : Int)) (((d_aFirst).zs).length * 3)) from own_below Ox01.out hb14 rfl)
        replace Ox10 := Lib.hid (show w14.ownsRow (w.heap.size) 54 3 (.slice ax10 ((d_aSecond).xs).length capx10) ((d_aSecond).xs).length (marks (1 + ((((d_aFirst).xs).length * 3 : Nat) : Int) + ((((d_aFirst).zs).length * 3 : Nat) : Int)) (((d_aSecond).xs).length * 3)) from own_below Ox10.out hb14 rfl)
        replace Ox11 := Lib.hid (show w14.ownsRow (w.heap.size) 54 3 (.slice ax11 ((d_aSecond).zs).length capx11) ((d_aSecond).zs).length (marks (1 + ((((d_aFirst).xs).length * 3 : Nat) : Int) + ((((d_aFirst).zs).length * 3 : Nat) : Int) + ((((d_aSecond).xs).length * 3 : Nat) : Int)) (((d_aSecond).zs).length * 3)) from own_below Ox11.out hb14 rfl)
        replace Og00 := Lib.hid (show OwnE w14 (w.heap.size) 54 (.slice ag00 (((r.getD Tab.zero)).xs).length capg00) E3.cs 3 (((r.getD Tab.zero)).xs) from OwnE.below Og00.out hb14 rfl)
        replace Og01 := Lib.hid (show OwnE w14 (w.heap.size) 54 (.slice ag01 (((r.getD Tab.zero)).zs).length capg01) E3.cs 3 (((r.getD Tab.zero)).zs) from OwnE.below Og01.out hb14 rfl)
        replace c_paFirst0 := below_cell hb14 rfl c_paFirst0
        replace c_paFirst1 := below_cell hb14 rfl c_paFirst1
        replace c_paFirst2 := below_cell hb14 rfl c_paFirst2
        replace c_paSecond0 := below_cell hb14 rfl c_paSecond0
        replace c_paSecond1 := below_cell hb14 rfl c_paSecond1
        replace c_paSecond2 := below_cell hb14 rfl c_paSecond2
        replace c_w00 := below_cell hb14 rfl c_w00
        replace c_w01 := below_cell hb14 rfl c_w01
        replace c_w02 := below_cell hb14 rfl c_w02
        replace c_x00 := below_cell hb14 rfl c_x00
        replace c_x01 := below_cell hb14 rfl c_x01
        replace c_x02 := below_cell hb14 rfl c_x02
        replace c_x10 := below_cell hb14 rfl c_x10
        replace c_x11 := below_cell hb14 rfl c_x11
        replace c_x12 := below_cell hb14 rfl c_x12
        replace c_g00 := below_cell hb14 rfl c_g00
        replace c_g01 := below_cell hb14 rfl c_g01
        replace c_g02 := below_cell hb14 rfl c_g02
        have BB14 : Below w.heap.size w w14 := below_step BB13 hb14
        have ZZ14 : w13.heap.size ≤ w14.heap.size := by have := hb14.size; (try simp at this); omega
        clear LT13_0 LT13_1 LT13_2 LT13_3 LT13_4 LT13_5
        have LT14_0 : w.heap.size < w14.heap.size := World.block_lt_of_cell? w14 _ c_paFirst0
        have LT14_1 : w.heap.size + 1 < w14.heap.size := World.block_lt_of_cell? w14 _ c_paSecond0
        have LT14_2 : gw0 < w14.heap.size := World.block_lt_of_cell? w14 _ c_w00
        have LT14_3 : w4.heap.size < w14.heap.size := World.block_lt_of_cell? w14 _ c_x00
        have LT14_4 : w5.heap.size < w14.heap.size := World.block_lt_of_cell? w14 _ c_x10
        have LT14_5 : w6.heap.size < w14.heap.size := World.block_lt_of_cell? w14 _ c_g00
        clear hb14 BB13
        go_wp2_with fail
        refine (laws_markTableau_any _ _ _ _ _ _ _ _ _ _ Og00.out Og01.out AP_g0.out (by omega) (by omega) (by omega) (by omega)).mono ?_; rintro e w15 ⟨rfl, hmg00, hmg01, hg⟩
        have hb15 : Mid (w5.heap.size + 1) (w6.heap.size) w14 w15 := hg _ _ (fun k hk => LL_g00.out k hk) (fun k hk => LL_g01.out k hk)
        clear hg
        replace Ow00 := Lib.hid (show OwnE w15 (w.heap.size) 54 (.slice aw00 (((r.getD Tab.zero)).xs).length capw00) E3.cs 3 (((r.getD Tab.zero)).xs) from Mid.own hb15 Ow00.out (fun g hg => by have := LL_w00.out g hg; omega))
        replace Ow01 := Lib.hid (show OwnE w15 (w.heap.size) 54 (.slice aw01 (((r.getD Tab.zero)).zs).length capw01) E3.cs 3 (((r.getD Tab.zero)).zs) from Mid.own hb15 Ow01.out (fun g hg => by have := LL_w01.out g hg; omega))
        replace Ox00 := Lib.hid (show w15.ownsRow (w.heap.size) 54 3 (.slice ax00 ((d_aFirst).xs).length capx00) ((d_aFirst).xs).length (marks (1) (((d_aFirst).xs).length * 3)) from Mid.own hb15 Ox00.out (fun g hg => by have := LL_x00.out g hg; omega))
        replace Ox01 := Lib.hid (show w15.ownsRow (w.heap.size) 54 3 (.slice ax01 ((d_aFirst).zs).length capx01) ((d_aFirst).zs).length (marks (1 + ((((d_aFirst).xs).length * 3 : Nat) : Int)) (((d_aFirst).zs).length * 3)) from Mid.own hb15 Ox01.out (fun g hg => by have := LL_x01.out g hg; omega))
        replace Ox10 := Lib.hid (show w15.ownsRow (w.heap.size) 54 3 (.slice ax10 ((d_aSecond).xs).length capx10) ((d_aSecond).xs).length (marks (1 + ((((d_aFirst).xs).length * 3 : Nat) : Int) + ((((d_aFirst).zs).length * 3 : Nat) : Int)) (((d_aSecond).xs).length * 3)) from Mid.own hb15 Ox10.out (fun g hg => by have := LL_x10.out g hg; omega))
        replace Ox11 := Lib.hid (show w15.ownsRow (w.heap.size) 54 3 (.slice ax11 ((d_aSecond).zs).length capx11) ((d_aSecond).zs).length (marks (1 + ((((d_aFirst).xs).length * 3 : Nat) : Int) + ((((d_aFirst).zs).length * 3 : Nat) : Int) + ((((d_aSecond).xs).length * 3 : Nat) : Int)) (((d_aSecond).zs).length * 3)) from Mid.own hb15 Ox11.out (fun g hg => by have := LL_x11.out g hg; omega))
        replace c_paFirst0 := Mid.cell hb15 (by omega) c_paFirst0
        replace c_paFirst1 := Mid.cell hb15 (by omega) c_paFirst1
        replace c_paFirst2 := Mid.cell hb15 (by omega) c_paFirst2
        replace c_paSecond0 := Mid.cell hb15 (by omega) c_paSecond0
        replace c_paSecond1 := Mid.cell hb15 (by omega) c_paSecond1
        replace c_paSecond2 := Mid.cell hb15 (by omega) c_paSecond2
        replace c_w00 := Mid.cell hb15 (by omega) c_w00
        replace c_w01 := Mid.cell hb15 (by omega) c_w01
        replace c_w02 := Mid.cell hb15 (by omega) c_w02
        replace c_x00 := Mid.cell hb15 (by omega) c_x00
        replace c_x01 := Mid.cell hb15 (by omega) c_x01
        replace c_x02 := Mid.cell hb15 (by omega) c_x02
        replace c_x10 := Mid.cell hb15 (by omega) c_x10
        replace c_x11 := Mid.cell hb15 (by omega) c_x11
        replace c_x12 := Mid.cell hb15 (by omega) c_x12
        replace c_g00 := Mid.cell hb15 (by omega) c_g00
        replace c_g01 := Mid.cell hb15 (by omega) c_g01
        replace c_g02 := Mid.cell hb15 (by omega) c_g02
        have BB15 : Below w.heap.size w w15 := Below.trans BB14 (Mid.below hb15 (by omega) (by first | omega | (simp <;> omega)))
        have ZZ15 : w14.heap.size ≤ w15.heap.size := by have := hb15.size; (try simp at this); omega
        clear LT14_0 LT14_1 LT14_2 LT14_3 LT14_4 LT14_5
        have LT15_0 : w.heap.size < w15.heap.size := World.block_lt_of_cell? w15 _ c_paFirst0
        have LT15_1 : w.heap.size + 1 < w15.heap.size := World.block_lt_of_cell? w15 _ c_paSecond0
        have LT15_2 : gw0 < w15.heap.size := World.block_lt_of_cell? w15 _ c_w00
        have LT15_3 : w4.heap.size < w15.heap.size := World.block_lt_of_cell? w15 _ c_x00
        have LT15_4 : w5.heap.size < w15.heap.size := World.block_lt_of_cell? w15 _ c_x10
        have LT15_5 : w6.heap.size < w15.heap.size := World.block_lt_of_cell? w15 _ c_g00
        have Og00 := Lib.hid (show w15.ownsRow (w.heap.size) 54 3 (.slice ag00 (((r.getD Tab.zero)).xs).length capg00) (((r.getD Tab.zero)).xs).length (marks (1) ((((r.getD Tab.zero)).xs).length * 3)) from hmg00); clear hmg00
        have Og01 := Lib.hid (show w15.ownsRow (w.heap.size) 54 3 (.slice ag01 (((r.getD Tab.zero)).zs).length capg01) (((r.getD Tab.zero)).zs).length (marks (1 + (((((r.getD Tab.zero)).xs).length * 3 : Nat) : Int)) ((((r.getD Tab.zero)).zs).length * 3)) from hmg01); clear hmg01
        clear hb15 BB14
        go_wp2_with fail
        refine (laws_heldTableau_any _ _ _ _ _ _ _ (Rd.of_own Og00.out) (Rd.of_own Og01.out) (by omega) (by omega) (by omega) (by omega)).mono ?_; rintro e w16 ⟨rfl, hb16⟩
        replace Ow00 := Lib.hid (show OwnE w16 (w.heap.size) 54 (.slice aw00 (((r.getD Tab.zero)).xs).length capw00) E3.cs 3 (((r.getD Tab.zero)).xs) from OwnE.below Ow00.out hb16 rfl)
        replace Ow01 := Lib.hid (show OwnE w16 (w.heap.size) 54 (.slice aw01 (((r.getD Tab.zero)).zs).length capw01) E3.cs 3 (((r.getD Tab.zero)).zs) from OwnE.below Ow01.out hb16 rfl)
        replace Ox00 := Lib.hid (show w16.ownsRow (w.heap.size) 54 3 (.slice ax00 ((d_aFirst).xs).length capx00) ((d_aFirst).xs).length (marks (1) (((d_aFirst).xs).length * 3)) from own_below Ox00.out hb16 rfl)
        replace Ox01 := Lib.hid (show w16.ownsRow (w.heap.size) 54 3 (.slice ax01 ((d_aFirst).zs).length capx01) ((d_aFirst).zs).length (marks (1 + ((((d_aFirst).xs).length * 3 : Nat) : Int)) (((d_aFirst).zs).length * 3)) from own_below Ox01.out hb16 rfl)
        replace Ox10 := Lib.hid (show w16.ownsRow (w.heap.size) 54 3 (.slice ax10 ((d_aSecond).xs).length capx10) ((d_aSecond).xs).length (marks (1 + ((((d_aFirst).xs).length * 3 : Nat) : Int) + ((((d_aFirst).zs).length * 3 : Nat) : Int)) (((d_aSecond).xs).length * 3)) from own_below Ox10.out hb16 rfl)
        replace Ox11 := Lib.hid (show w16.ownsRow (w.heap.size) 54 3 (.slice ax11 ((d_aSecond).zs).length capx11) ((d_aSecond).zs).length (marks (1 + ((((d_aFirst).xs).length * 3 : Nat) : Int) + ((((d_aFirst).zs).length * 3 : Nat) : Int) + ((((d_aSecond).xs).length * 3 : Nat) : Int)) (((d_aSecond).zs).length * 3)) from own_below Ox11.out hb16 rfl)
        replace Og00 := Lib.hid (show w16.ownsRow (w.heap.size) 54 3 (.slice ag00 (((r.getD Tab.zero)).xs).length capg00) (((r.getD Tab.zero)).xs).length (marks (1) ((((r.getD Tab.zero)).xs).length * 3)) from own_below Og00.out hb16 rfl)
        replace Og01 := Lib.hid (show w16.ownsRow (w.heap.size) 54 3 (.slice ag01 (((r.getD Tab.zero)).zs).length capg01) (((r.getD Tab.zero)).zs).length (marks (1 + (((((r.getD Tab.zero)).xs).length * 3 : Nat) : Int)) ((((r.getD Tab.zero)).zs).length * 3)) from own_below Og01.out hb16 rfl)
        replace c_paFirst0 := below_cell hb16 rfl c_paFirst0
        replace c_paFirst1 := below_cell hb16 rfl c_paFirst1
        replace c_paFirst2 := below_cell hb16 rfl c_paFirst2
        replace c_paSecond0 := below_cell hb16 rfl c_paSecond0
        replace c_paSecond1 := below_cell hb16 rfl c_paSecond1
        replace c_paSecond2 := below_cell hb16 rfl c_paSecond2
        replace c_w00 := below_cell hb16 rfl c_w00
        replace c_w01 := below_cell hb16 rfl c_w01
        replace c_w02 := below_cell hb16 rfl c_w02
        replace c_x00 := below_cell hb16 rfl c_x00
        replace c_x01 := below_cell hb16 rfl c_x01
        replace c_x02 := below_cell hb16 rfl c_x02
        replace c_x10 := below_cell hb16 rfl c_x10
        replace c_x11 := below_cell hb16 rfl c_x11
        replace c_x12 := below_cell hb16 rfl c_x12
        replace c_g00 := below_cell hb16 rfl c_g00
        replace c_g01 := below_cell hb16 rfl c_g01
        replace c_g02 := below_cell hb16 rfl c_g02
        have BB16 : Below w.heap.size w w16 := below_step BB15 hb16
        have ZZ16 : w15.heap.size ≤ w16.heap.size := by have := hb16.size; (try simp at this); omega
        clear LT15_0 LT15_1 LT15_2 LT15_3 LT15_4 LT15_5
        have LT16_0 : w.heap.size < w16.heap.size := World.block_lt_of_cell? w16 _ c_paFirst0
        have LT16_1 : w.heap.size + 1 < w16.heap.size := World.block_lt_of_cell? w16 _ c_paSecond0
        have LT16_2 : gw0 < w16.heap.size := World.block_lt_of_cell? w16 _ c_w00
        have LT16_3 : w4.heap.size < w16.heap.size := World.block_lt_of_cell? w16 _ c_x00
        have LT16_4 : w5.heap.size < w16.heap.size := World.block_lt_of_cell? w16 _ c_x10
        have LT16_5 : w6.heap.size < w16.heap.size := World.block_lt_of_cell? w16 _ c_g00
        clear hb16 BB15
        have hne16 : ¬ (1 + (((((r.getD Tab.zero)).xs).length * 3 : Nat) : Int) + (((((r.getD Tab.zero)).zs).length * 3 : Nat) : Int) : Int) < 0 := by omega
        go_upto_region 31 with fail
        go_cut [15, 16] (fun s15 s16 wx => ∃ (gh0 : Nat) (ah00 : Option Addr) (caph00 : Nat) (ah01 : Option Addr) (caph01 : Nat), s15 = .pointer (some ⟨gh0, 0, none⟩) ∧ s16 = .bool (r.isSome) ∧ wx.cell? ⟨gh0, 0, none⟩ = some (.int .i64 (((r.getD Tab.zero)).n)) ∧ wx.cell? ⟨gh0, 1, none⟩ = some (.slice ah00 (((r.getD Tab.zero)).xs).length caph00) ∧ wx.cell? ⟨gh0, 2, none⟩ = some (.slice ah01 (((r.getD Tab.zero)).zs).length caph01) ∧ Hid (OwnE wx (w.heap.size) 54 (.slice ah00 (((r.getD Tab.zero)).xs).length caph00) E3.cs 3 (((r.getD Tab.zero)).xs)) ∧ Hid (OwnE wx (w.heap.size) 54 (.slice ah01 (((r.getD Tab.zero)).zs).length caph01) E3.cs 3 (((r.getD Tab.zero)).zs)) ∧ Hid (∀ g, (Value.slice ah00 (((r.getD Tab.zero)).xs).length caph00).ownBlock = some g → w16.heap.size ≤ g ∧ g < wx.heap.size) ∧ Hid (∀ g, (Value.slice ah01 (((r.getD Tab.zero)).zs).length caph01).ownBlock = some g → w16.heap.size ≤ g ∧ g < wx.heap.size) ∧ Hid (Apart (.slice ah00 (((r.getD Tab.zero)).xs).length caph00) (.slice ah01 (((r.getD Tab.zero)).zs).length caph01)) ∧ Below w16.heap.size w16 wx)
        case first =>
          refine AnyB.begin (S := (fun w' => w'.cell? ⟨w.heap.size, 0, none⟩ = some (.int .i64 ((d_aFirst).n)) ∧ w'.cell? ⟨w.heap.size, 1, none⟩ = some (.slice a_aFirst0 ((d_aFirst).xs).length cap_aFirst0) ∧ w'.cell? ⟨w.heap.size, 2, none⟩ = some (.slice a_aFirst1 ((d_aFirst).zs).length cap_aFirst1) ∧ w'.cell? ⟨w.heap.size + 1, 0, none⟩ = some (.int .i64 ((d_aSecond).n)) ∧ w'.cell? ⟨w.heap.size + 1, 1, none⟩ = some (.slice a_aSecond0 ((d_aSecond).xs).length cap_aSecond0) ∧ w'.cell? ⟨w.heap.size + 1, 2, none⟩ = some (.slice a_aSecond1 ((d_aSecond).zs).length cap_aSecond1))) [9] (by kernel_rfl) ?_ (fun hHeld0 => ?_)
          · ((try dsimp only); (first | (exact ⟨cell_drew c_paFirst0, cell_drew c_paFirst1, cell_drew c_paFirst2, cell_drew c_paSecond0, cell_drew c_paSecond1, cell_drew c_paSecond2⟩) | (go_split_ands; refine ⟨?_, ?_, ?_, ?_, ?_, ?_⟩ <;> first | assumption | (refine cell_alloc_keep _ ?_; assumption) | (refine below_cell hbC rfl ?_; assumption) | (refine below_cell hbA1 rfl ?_; assumption) | (refine below_cell hbA0 rfl ?_; assumption))))
          refine AnyB.take (i := 0) (oi := _) (v := ?_) (by simp only [List.getElem?_toArray, List.getElem?_cons_zero, List.getElem?_cons_succ]; rfl) (by kernel_rfl) (by kernel_rfl) (by kernel_rfl) (by kernel_rfl) (by kernel_rfl) (by intro _ _ _ h; exact h) (Or.inl ⟨by rfl, ?_⟩) (by assumption) ?_
          rotate_left
          · (intro w hSw; (try dsimp only at hSw); go_simp; (try (with_reducible rfl)))
          try simp only [Act.put, List.setIfInBounds_toArray, List.set_cons_zero, List.set_cons_succ]
          refine AnyB.take (i := 2) (oi := _) (v := ?_) (by simp only [List.getElem?_toArray, List.getElem?_cons_zero, List.getElem?_cons_succ]; rfl) (by kernel_rfl) (by kernel_rfl) (by kernel_rfl) (by kernel_rfl) (by kernel_rfl) (by intro _ _ _ h; exact h) (Or.inl ⟨by rfl, ?_⟩) (by assumption) ?_
          rotate_left
          · (intro w hSw; (try dsimp only at hSw); go_simp; (try (with_reducible rfl)))
          try simp only [Act.put, List.setIfInBounds_toArray, List.set_cons_zero, List.set_cons_succ]
          refine AnyB.each (rs := [1, 8]) (by kernel_rfl) (by simp) ?_
          refine EachB.cons rfl (fun K hK hB => ?_) ?_
          · skip
            (go_simp; go_at_call 20; refine (laws_toTableau_any d_aFirst _ _ _ (Rd.below HA_aFirst0.out (by repeat (first | (with_reducible exact Below.refl _ _) | (with_reducible assumption) | (with_reducible refine Below.drew ?_) | (with_reducible refine below_drewN ?_ _) | (with_reducible refine Below.alloc ?_ (by first | omega | (simp <;> omega)) _) | (with_reducible refine Below.setCell ?_ (by first | omega | (simp <;> omega)) _) | (with_reducible refine Below.trans ?_ (Below.mono (by with_reducible assumption) (by first | omega | (simp <;> omega)))))) rfl) (Rd.below HA_aFirst1.out (by repeat (first | (with_reducible exact Below.refl _ _) | (with_reducible assumption) | (with_reducible refine Below.drew ?_) | (with_reducible refine below_drewN ?_ _) | (with_reducible refine Below.alloc ?_ (by first | omega | (simp <;> omega)) _) | (with_reducible refine Below.setCell ?_ (by first | omega | (simp <;> omega)) _) | (with_reducible refine Below.trans ?_ (Below.mono (by with_reducible assumption) (by first | omega | (simp <;> omega)))))) rfl) LEN_aFirst0 LEN_aFirst1).mono ?_; rintro e wA0 ⟨vA00, vA01, rfl, hA00, hA01, _, hbA0⟩; obtain ⟨aA00, cA00, rfl⟩ := hA00.forms; have R00 := Lib.hid (hA00.rd); clear hA00; obtain ⟨aA01, cA01, rfl⟩ := hA01.forms; have R01 := Lib.hid (hA01.rd); clear hA01; have zA0 := hbA0.size; (try simp at zA0); (try (replace yb0 := below_frz hbA0 rfl (World.block_lt_of_cell? _ _ xb0) yb0; replace xb0 := below_cell hbA0 rfl xb0; replace yb1 := below_frz hbA0 rfl (World.block_lt_of_cell? _ _ xb1) yb1; replace xb1 := below_cell hbA0 rfl xb1; replace yb2 := below_frz hbA0 rfl (World.block_lt_of_cell? _ _ xb2) yb2; replace xb2 := below_cell hbA0 rfl xb2)); dsimp only)
            refine hK.out _ _ ?_ (fun hHeld1 => ?_)
            · ((try dsimp only); (first | (exact ⟨cell_drew c_paFirst0, cell_drew c_paFirst1, cell_drew c_paFirst2, cell_drew c_paSecond0, cell_drew c_paSecond1, cell_drew c_paSecond2⟩) | (go_split_ands; refine ⟨?_, ?_, ?_, ?_, ?_, ?_⟩ <;> first | assumption | (refine cell_alloc_keep _ ?_; assumption) | (refine below_cell hbC rfl ?_; assumption) | (refine below_cell hbA1 rfl ?_; assumption) | (refine below_cell hbA0 rfl ?_; assumption))))
            clear hB hK K hHeld0
            refine AnyB.each (rs := [3, 8]) (by kernel_rfl) (by simp) ?_
            refine EachB.cons rfl (fun K hK hB => ?_) ?_
            · skip
              (go_simp; go_at_call 20; refine (laws_toTableau_any d_aSecond _ _ _ (Rd.below HA_aSecond0.out (by repeat (first | (with_reducible exact Below.refl _ _) | (with_reducible assumption) | (with_reducible refine Below.drew ?_) | (with_reducible refine below_drewN ?_ _) | (with_reducible refine Below.alloc ?_ (by first | omega | (simp <;> omega)) _) | (with_reducible refine Below.setCell ?_ (by first | omega | (simp <;> omega)) _) | (with_reducible refine Below.trans ?_ (Below.mono (by with_reducible assumption) (by first | omega | (simp <;> omega)))))) rfl) (Rd.below HA_aSecond1.out (by repeat (first | (with_reducible exact Below.refl _ _) | (with_reducible assumption) | (with_reducible refine Below.drew ?_) | (with_reducible refine below_drewN ?_ _) | (with_reducible refine Below.alloc ?_ (by first | omega | (simp <;> omega)) _) | (with_reducible refine Below.setCell ?_ (by first | omega | (simp <;> omega)) _) | (with_reducible refine Below.trans ?_ (Below.mono (by with_reducible assumption) (by first | omega | (simp <;> omega)))))) rfl) LEN_aSecond0 LEN_aSecond1).mono ?_; rintro e wA1 ⟨vA10, vA11, rfl, hA10, hA11, _, hbA1⟩; obtain ⟨aA10, cA10, rfl⟩ := hA10.forms; have R10 := Lib.hid (hA10.rd); clear hA10; obtain ⟨aA11, cA11, rfl⟩ := hA11.forms; have R11 := Lib.hid (hA11.rd); clear hA11; have zA1 := hbA1.size; (try simp at zA1); (try (replace yb0 := below_frz hbA1 rfl (World.block_lt_of_cell? _ _ xb0) yb0; replace xb0 := below_cell hbA1 rfl xb0; replace yb1 := below_frz hbA1 rfl (World.block_lt_of_cell? _ _ xb1) yb1; replace xb1 := below_cell hbA1 rfl xb1; replace yb2 := below_frz hbA1 rfl (World.block_lt_of_cell? _ _ xb2) yb2; replace xb2 := below_cell hbA1 rfl xb2)); dsimp only)
              refine hK.out _ _ ?_ (fun hHeld2 => ?_)
              · ((try dsimp only); (first | (exact ⟨cell_drew c_paFirst0, cell_drew c_paFirst1, cell_drew c_paFirst2, cell_drew c_paSecond0, cell_drew c_paSecond1, cell_drew c_paSecond2⟩) | (go_split_ands; refine ⟨?_, ?_, ?_, ?_, ?_, ?_⟩ <;> first | assumption | (refine cell_alloc_keep _ ?_; assumption) | (refine below_cell hbC rfl ?_; assumption) | (refine below_cell hbA1 rfl ?_; assumption) | (refine below_cell hbA0 rfl ?_; assumption))))
              clear hB hK K hHeld1
              refine AnyB.each (rs := [4, 8]) (by kernel_rfl) (by simp) ?_
              refine EachB.cons rfl (fun K hK hB => ?_) ?_
              · skip
                (go_simp; go_at_call 23; refine (impl_ComposeTableaux_any d_aFirst d_aSecond _ _ _ _ _ (Rd.below R00.out (by repeat (first | (with_reducible exact Below.refl _ _) | (with_reducible assumption) | (with_reducible refine Below.drew ?_) | (with_reducible refine below_drewN ?_ _) | (with_reducible refine Below.alloc ?_ (by first | omega | (simp <;> omega)) _) | (with_reducible refine Below.setCell ?_ (by first | omega | (simp <;> omega)) _) | (with_reducible refine Below.trans ?_ (Below.mono (by with_reducible assumption) (by first | omega | (simp <;> omega)))))) rfl) (Rd.below R01.out (by repeat (first | (with_reducible exact Below.refl _ _) | (with_reducible assumption) | (with_reducible refine Below.drew ?_) | (with_reducible refine below_drewN ?_ _) | (with_reducible refine Below.alloc ?_ (by first | omega | (simp <;> omega)) _) | (with_reducible refine Below.setCell ?_ (by first | omega | (simp <;> omega)) _) | (with_reducible refine Below.trans ?_ (Below.mono (by with_reducible assumption) (by first | omega | (simp <;> omega)))))) rfl) (Rd.below R10.out (by repeat (first | (with_reducible exact Below.refl _ _) | (with_reducible assumption) | (with_reducible refine Below.drew ?_) | (with_reducible refine below_drewN ?_ _) | (with_reducible refine Below.alloc ?_ (by first | omega | (simp <;> omega)) _) | (with_reducible refine Below.setCell ?_ (by first | omega | (simp <;> omega)) _) | (with_reducible refine Below.trans ?_ (Below.mono (by with_reducible assumption) (by first | omega | (simp <;> omega)))))) rfl) (Rd.below R11.out (by repeat (first | (with_reducible exact Below.refl _ _) | (with_reducible assumption) | (with_reducible refine Below.drew ?_) | (with_reducible refine below_drewN ?_ _) | (with_reducible refine Below.alloc ?_ (by first | omega | (simp <;> omega)) _) | (with_reducible refine Below.setCell ?_ (by first | omega | (simp <;> omega)) _) | (with_reducible refine Below.trans ?_ (Below.mono (by with_reducible assumption) (by first | omega | (simp <;> omega)))))) rfl) LEN_aFirst0 LEN_aFirst1 LEN_aSecond0 LEN_aSecond1).mono ?_; rw [← Hr.out]; rintro e wC ⟨vC0, vC1, rfl, hC0, hC1, hapC, hbC⟩; obtain ⟨aC0, cC0, rfl⟩ := hC0.forms; have KC0 := Lib.hid hC0; clear hC0; obtain ⟨aC1, cC1, rfl⟩ := hC1.forms; have KC1 := Lib.hid hC1; clear hC1; have zC := hbC.size; (try simp at zC); have KAP := Lib.hid hapC; clear hapC; (try (replace yb0 := below_frz hbC rfl (World.block_lt_of_cell? _ _ xb0) yb0; replace xb0 := below_cell hbC rfl xb0; replace yb1 := below_frz hbC rfl (World.block_lt_of_cell? _ _ xb1) yb1; replace xb1 := below_cell hbC rfl xb1; replace yb2 := below_frz hbC rfl (World.block_lt_of_cell? _ _ xb2) yb2; replace xb2 := below_cell hbC rfl xb2)); dsimp only)
                refine hK.out _ _ ?_ (fun hHeld3 => ?_)
                · ((try dsimp only); (first | (exact ⟨cell_drew c_paFirst0, cell_drew c_paFirst1, cell_drew c_paFirst2, cell_drew c_paSecond0, cell_drew c_paSecond1, cell_drew c_paSecond2⟩) | (go_split_ands; refine ⟨?_, ?_, ?_, ?_, ?_, ?_⟩ <;> first | assumption | (refine cell_alloc_keep _ ?_; assumption) | (refine below_cell hbC rfl ?_; assumption) | (refine below_cell hbA1 rfl ?_; assumption) | (refine below_cell hbA0 rfl ?_; assumption))))
                clear hB hK K hHeld2
                refine AnyB.takeQ (i := 5) (oi := _) (v := ?_) (by simp only [List.getElem?_toArray, List.getElem?_cons_zero, List.getElem?_cons_succ]; rfl) (by kernel_rfl) (by kernel_rfl) (by kernel_rfl) (by intro _ _ _ h; exact h) (Or.inl ⟨by rfl, ?_⟩) ?_
                rotate_left
                · (intro w hSw; (try dsimp only at hSw); go_simp; (try (with_reducible rfl)))
                try simp only [Act.put, List.setIfInBounds_toArray, List.set_cons_zero, List.set_cons_succ]
                refine AnyB.takeQ (i := 6) (oi := _) (v := ?_) (by simp only [List.getElem?_toArray, List.getElem?_cons_zero, List.getElem?_cons_succ]; rfl) (by kernel_rfl) (by kernel_rfl) (by kernel_rfl) (by intro _ _ _ h; exact h) (Or.inl ⟨by rfl, ?_⟩) ?_
                rotate_left
                · (intro w hSw; (try dsimp only at hSw); go_simp; (try (with_reducible rfl)))
                try simp only [Act.put, List.setIfInBounds_toArray, List.set_cons_zero, List.set_cons_succ]
                refine AnyB.takeQ (i := 7) (oi := _) (v := ?_) (by simp only [List.getElem?_toArray, List.getElem?_cons_zero, List.getElem?_cons_succ]; rfl) (by kernel_rfl) (by kernel_rfl) (by kernel_rfl) (by intro _ _ _ h; exact h) (Or.inl ⟨by rfl, ?_⟩) ?_
                rotate_left
                · (intro w hSw; (try dsimp only at hSw); go_simp; (try (with_reducible rfl)))
                try simp only [Act.put, List.setIfInBounds_toArray, List.set_cons_zero, List.set_cons_succ]
                refine AnyB.each (rs := [8]) (by kernel_rfl) (by simp) ?_
                refine EachB.cons rfl (fun K hK hB => ?_) ?_
                · skip
                  (go_simp; first | (have xb0 := new_cell wC #[.int .i64 0, .slice none 0 0, .slice none 0 0] 24 0 (.int .i64 0) rfl; have yb0 := new_frz wC #[.int .i64 0, .slice none 0 0, .slice none 0 0] 24 0; have xb1 := new_cell wC #[.int .i64 0, .slice none 0 0, .slice none 0 0] 24 1 (.slice none 0 0) rfl; have yb1 := new_frz wC #[.int .i64 0, .slice none 0 0, .slice none 0 0] 24 1; have xb2 := new_cell wC #[.int .i64 0, .slice none 0 0, .slice none 0 0] 24 2 (.slice none 0 0) rfl; have yb2 := new_frz wC #[.int .i64 0, .slice none 0 0, .slice none 0 0] 24 2) | (have xb0 := new_cell wA1 #[.int .i64 0, .slice none 0 0, .slice none 0 0] 24 0 (.int .i64 0) rfl; have yb0 := new_frz wA1 #[.int .i64 0, .slice none 0 0, .slice none 0 0] 24 0; have xb1 := new_cell wA1 #[.int .i64 0, .slice none 0 0, .slice none 0 0] 24 1 (.slice none 0 0) rfl; have yb1 := new_frz wA1 #[.int .i64 0, .slice none 0 0, .slice none 0 0] 24 1; have xb2 := new_cell wA1 #[.int .i64 0, .slice none 0 0, .slice none 0 0] 24 2 (.slice none 0 0) rfl; have yb2 := new_frz wA1 #[.int .i64 0, .slice none 0 0, .slice none 0 0] 24 2) | (have xb0 := new_cell wA0 #[.int .i64 0, .slice none 0 0, .slice none 0 0] 24 0 (.int .i64 0) rfl; have yb0 := new_frz wA0 #[.int .i64 0, .slice none 0 0, .slice none 0 0] 24 0; have xb1 := new_cell wA0 #[.int .i64 0, .slice none 0 0, .slice none 0 0] 24 1 (.slice none 0 0) rfl; have yb1 := new_frz wA0 #[.int .i64 0, .slice none 0 0, .slice none 0 0] 24 1; have xb2 := new_cell wA0 #[.int .i64 0, .slice none 0 0, .slice none 0 0] 24 2 (.slice none 0 0) rfl; have yb2 := new_frz wA0 #[.int .i64 0, .slice none 0 0, .slice none 0 0] 24 2) | (have xb0 : ((w16.alloc (.cells #[.int .i64 0, .slice none 0 0, .slice none 0 0] 24)).drew).cell? ⟨w16.heap.size, 0, none⟩ = some (.int .i64 0) := new_cell w16 #[.int .i64 0, .slice none 0 0, .slice none 0 0] 24 0 (.int .i64 0) rfl; have yb0 : ((w16.alloc (.cells #[.int .i64 0, .slice none 0 0, .slice none 0 0] 24)).drew).frozen? ⟨w16.heap.size, 0, none⟩ = false := new_frz w16 #[.int .i64 0, .slice none 0 0, .slice none 0 0] 24 0; have xb1 : ((w16.alloc (.cells #[.int .i64 0, .slice none 0 0, .slice none 0 0] 24)).drew).cell? ⟨w16.heap.size, 1, none⟩ = some (.slice none 0 0) := new_cell w16 #[.int .i64 0, .slice none 0 0, .slice none 0 0] 24 1 (.slice none 0 0) rfl; have yb1 : ((w16.alloc (.cells #[.int .i64 0, .slice none 0 0, .slice none 0 0] 24)).drew).frozen? ⟨w16.heap.size, 1, none⟩ = false := new_frz w16 #[.int .i64 0, .slice none 0 0, .slice none 0 0] 24 1; have xb2 : ((w16.alloc (.cells #[.int .i64 0, .slice none 0 0, .slice none 0 0] 24)).drew).cell? ⟨w16.heap.size, 2, none⟩ = some (.slice none 0 0) := new_cell w16 #[.int .i64 0, .slice none 0 0, .slice none 0 0] 24 2 (.slice none 0 0) rfl; have yb2 : ((w16.alloc (.cells #[.int .i64 0, .slice none 0 0, .slice none 0 0] 24)).drew).frozen? ⟨w16.heap.size, 2, none⟩ = false := new_frz w16 #[.int .i64 0, .slice none 0 0, .slice none 0 0] 24 2))
                  refine hK.out _ _ ?_ (fun hHeld4 => ?_)
                  · ((try dsimp only); (first | (exact ⟨cell_drew c_paFirst0, cell_drew c_paFirst1, cell_drew c_paFirst2, cell_drew c_paSecond0, cell_drew c_paSecond1, cell_drew c_paSecond2⟩) | (go_split_ands; refine ⟨?_, ?_, ?_, ?_, ?_, ?_⟩ <;> first | assumption | (refine cell_alloc_keep _ ?_; assumption) | (refine below_cell hbC rfl ?_; assumption) | (refine below_cell hbA1 rfl ?_; assumption) | (refine below_cell hbA0 rfl ?_; assumption))))
                  clear hB hK K hHeld3
                  refine AnyB.each (rs := [9]) (by kernel_rfl) (by simp) ?_
                  refine EachB.cons rfl (fun K hK hB => ?_) ?_
                  · skip
                    go_simp
                    refine hB.out _ _ rfl ?_
                    clear hB hK K
                    refine AnyB.takeQ (i := 10) (oi := _) (v := ?_) (by simp only [List.getElem?_toArray, List.getElem?_cons_zero, List.getElem?_cons_succ]; rfl) (by kernel_rfl) (by kernel_rfl) (by kernel_rfl) (by intro _ _ _ h; exact h) (Or.inl ⟨by rfl, ?_⟩) ?_
                    rotate_left
                    · (intro w hSw; (try dsimp only at hSw); go_simp; (try (with_reducible rfl)))
                    try simp only [Act.put, List.setIfInBounds_toArray, List.set_cons_zero, List.set_cons_succ]
                    refine AnyB.none (by kernel_rfl) ?_ _
                    go_wp2_with fail
                    go_meet
                    refine ⟨_, aC0, cC0, aC1, cC1, rfl, rfl, ?_, ?_, ?_, ?_, ?_, ?_, ?_, ?_, (by repeat (first | (with_reducible exact Below.refl _ _) | (with_reducible assumption) | (with_reducible refine Below.drew ?_) | (with_reducible refine below_drewN ?_ _) | (with_reducible refine Below.alloc ?_ (by first | omega | (simp <;> omega)) _) | (with_reducible refine Below.setCell ?_ (by first | omega | (simp <;> omega)) _) | (with_reducible refine Below.trans ?_ (Below.mono (by with_reducible assumption) (by first | omega | (simp <;> omega))))))⟩
                    · first | (with_reducible exact new_cell _ _ _ 0 _ rfl) | exact (box_set3 _ _ _ xb0 xb1 xb2).1
                    · first | (with_reducible exact new_cell _ _ _ 1 _ rfl) | exact (box_set3 _ _ _ xb0 xb1 xb2).2.1
                    · first | (with_reducible exact new_cell _ _ _ 2 _ rfl) | exact (box_set3 _ _ _ xb0 xb1 xb2).2.2
                    · show OwnE _ _ _ _ _ _ _; first | (with_reducible exact (OwnE.le (OwnE.set (OwnE.set (OwnE.set KC0.out (by first | omega | (simp <;> omega)) _) (by first | omega | (simp <;> omega)) _) (by first | omega | (simp <;> omega)) _) (by first | omega | (simp <;> omega)))) | (with_reducible exact (OwnE.le (OwnE.below KC0.out (by repeat (first | (with_reducible exact Below.refl _ _) | (with_reducible assumption) | (with_reducible refine Below.drew ?_) | (with_reducible refine below_drewN ?_ _) | (with_reducible refine Below.alloc ?_ (by first | omega | (simp <;> omega)) _) | (with_reducible refine Below.setCell ?_ (by first | omega | (simp <;> omega)) _) | (with_reducible refine Below.trans ?_ (Below.mono (by with_reducible assumption) (by first | omega | (simp <;> omega)))))) rfl) (by first | omega | (simp <;> omega))))
                    · show OwnE _ _ _ _ _ _ _; first | (with_reducible exact (OwnE.le (OwnE.set (OwnE.set (OwnE.set KC1.out (by first | omega | (simp <;> omega)) _) (by first | omega | (simp <;> omega)) _) (by first | omega | (simp <;> omega)) _) (by first | omega | (simp <;> omega)))) | (with_reducible exact (OwnE.le (OwnE.below KC1.out (by repeat (first | (with_reducible exact Below.refl _ _) | (with_reducible assumption) | (with_reducible refine Below.drew ?_) | (with_reducible refine below_drewN ?_ _) | (with_reducible refine Below.alloc ?_ (by first | omega | (simp <;> omega)) _) | (with_reducible refine Below.setCell ?_ (by first | omega | (simp <;> omega)) _) | (with_reducible refine Below.trans ?_ (Below.mono (by with_reducible assumption) (by first | omega | (simp <;> omega)))))) rfl) (by first | omega | (simp <;> omega))))
                    · show ∀ g, _ → _ ∧ _; intro g hg; have hlt := KC0.out.lt g hg; (try simp at hlt); (try simp); omega
                    · show ∀ g, _ → _ ∧ _; intro g hg; have hlt := KC1.out.lt g hg; (try simp at hlt); (try simp); omega
                    · exact KAP.out
                  exact EachB.nil
                exact EachB.nil
              refine EachB.cons rfl (fun K hK hB => ?_) ?_
              · skip
                (go_simp; first | (have xb0 := new_cell wC #[.int .i64 0, .slice none 0 0, .slice none 0 0] 24 0 (.int .i64 0) rfl; have yb0 := new_frz wC #[.int .i64 0, .slice none 0 0, .slice none 0 0] 24 0; have xb1 := new_cell wC #[.int .i64 0, .slice none 0 0, .slice none 0 0] 24 1 (.slice none 0 0) rfl; have yb1 := new_frz wC #[.int .i64 0, .slice none 0 0, .slice none 0 0] 24 1; have xb2 := new_cell wC #[.int .i64 0, .slice none 0 0, .slice none 0 0] 24 2 (.slice none 0 0) rfl; have yb2 := new_frz wC #[.int .i64 0, .slice none 0 0, .slice none 0 0] 24 2) | (have xb0 := new_cell wA1 #[.int .i64 0, .slice none 0 0, .slice none 0 0] 24 0 (.int .i64 0) rfl; have yb0 := new_frz wA1 #[.int .i64 0, .slice none 0 0, .slice none 0 0] 24 0; have xb1 := new_cell wA1 #[.int .i64 0, .slice none 0 0, .slice none 0 0] 24 1 (.slice none 0 0) rfl; have yb1 := new_frz wA1 #[.int .i64 0, .slice none 0 0, .slice none 0 0] 24 1; have xb2 := new_cell wA1 #[.int .i64 0, .slice none 0 0, .slice none 0 0] 24 2 (.slice none 0 0) rfl; have yb2 := new_frz wA1 #[.int .i64 0, .slice none 0 0, .slice none 0 0] 24 2) | (have xb0 := new_cell wA0 #[.int .i64 0, .slice none 0 0, .slice none 0 0] 24 0 (.int .i64 0) rfl; have yb0 := new_frz wA0 #[.int .i64 0, .slice none 0 0, .slice none 0 0] 24 0; have xb1 := new_cell wA0 #[.int .i64 0, .slice none 0 0, .slice none 0 0] 24 1 (.slice none 0 0) rfl; have yb1 := new_frz wA0 #[.int .i64 0, .slice none 0 0, .slice none 0 0] 24 1; have xb2 := new_cell wA0 #[.int .i64 0, .slice none 0 0, .slice none 0 0] 24 2 (.slice none 0 0) rfl; have yb2 := new_frz wA0 #[.int .i64 0, .slice none 0 0, .slice none 0 0] 24 2) | (have xb0 : ((w16.alloc (.cells #[.int .i64 0, .slice none 0 0, .slice none 0 0] 24)).drew).cell? ⟨w16.heap.size, 0, none⟩ = some (.int .i64 0) := new_cell w16 #[.int .i64 0, .slice none 0 0, .slice none 0 0] 24 0 (.int .i64 0) rfl; have yb0 : ((w16.alloc (.cells #[.int .i64 0, .slice none 0 0, .slice none 0 0] 24)).drew).frozen? ⟨w16.heap.size, 0, none⟩ = false := new_frz w16 #[.int .i64 0, .slice none 0 0, .slice none 0 0] 24 0; have xb1 : ((w16.alloc (.cells #[.int .i64 0, .slice none 0 0, .slice none 0 0] 24)).drew).cell? ⟨w16.heap.size, 1, none⟩ = some (.slice none 0 0) := new_cell w16 #[.int .i64 0, .slice none 0 0, .slice none 0 0] 24 1 (.slice none 0 0) rfl; have yb1 : ((w16.alloc (.cells #[.int .i64 0, .slice none 0 0, .slice none 0 0] 24)).drew).frozen? ⟨w16.heap.size, 1, none⟩ = false := new_frz w16 #[.int .i64 0, .slice none 0 0, .slice none 0 0] 24 1; have xb2 : ((w16.alloc (.cells #[.int .i64 0, .slice none 0 0, .slice none 0 0] 24)).drew).cell? ⟨w16.heap.size, 2, none⟩ = some (.slice none 0 0) := new_cell w16 #[.int .i64 0, .slice none 0 0, .slice none 0 0] 24 2 (.slice none 0 0) rfl; have yb2 : ((w16.alloc (.cells #[.int .i64 0, .slice none 0 0, .slice none 0 0] 24)).drew).frozen? ⟨w16.heap.size, 2, none⟩ = false := new_frz w16 #[.int .i64 0, .slice none 0 0, .slice none 0 0] 24 2))
                refine hK.out _ _ ?_ (fun hHeld5 => ?_)
                · ((try dsimp only); (first | (exact ⟨cell_drew c_paFirst0, cell_drew c_paFirst1, cell_drew c_paFirst2, cell_drew c_paSecond0, cell_drew c_paSecond1, cell_drew c_paSecond2⟩) | (go_split_ands; refine ⟨?_, ?_, ?_, ?_, ?_, ?_⟩ <;> first | assumption | (refine cell_alloc_keep _ ?_; assumption) | (refine below_cell hbC rfl ?_; assumption) | (refine below_cell hbA1 rfl ?_; assumption) | (refine below_cell hbA0 rfl ?_; assumption))))
                clear hB hK K hHeld2
                refine AnyB.each (rs := [4]) (by kernel_rfl) (by simp) ?_
                refine EachB.cons rfl (fun K hK hB => ?_) ?_
                · skip
                  (go_simp; go_at_call 23; refine (impl_ComposeTableaux_any d_aFirst d_aSecond _ _ _ _ _ (Rd.below R00.out (by repeat (first | (with_reducible exact Below.refl _ _) | (with_reducible assumption) | (with_reducible refine Below.drew ?_) | (with_reducible refine below_drewN ?_ _) | (with_reducible refine Below.alloc ?_ (by first | omega | (simp <;> omega)) _) | (with_reducible refine Below.setCell ?_ (by first | omega | (simp <;> omega)) _) | (with_reducible refine Below.trans ?_ (Below.mono (by with_reducible assumption) (by first | omega | (simp <;> omega)))))) rfl) (Rd.below R01.out (by repeat (first | (with_reducible exact Below.refl _ _) | (with_reducible assumption) | (with_reducible refine Below.drew ?_) | (with_reducible refine below_drewN ?_ _) | (with_reducible refine Below.alloc ?_ (by first | omega | (simp <;> omega)) _) | (with_reducible refine Below.setCell ?_ (by first | omega | (simp <;> omega)) _) | (with_reducible refine Below.trans ?_ (Below.mono (by with_reducible assumption) (by first | omega | (simp <;> omega)))))) rfl) (Rd.below R10.out (by repeat (first | (with_reducible exact Below.refl _ _) | (with_reducible assumption) | (with_reducible refine Below.drew ?_) | (with_reducible refine below_drewN ?_ _) | (with_reducible refine Below.alloc ?_ (by first | omega | (simp <;> omega)) _) | (with_reducible refine Below.setCell ?_ (by first | omega | (simp <;> omega)) _) | (with_reducible refine Below.trans ?_ (Below.mono (by with_reducible assumption) (by first | omega | (simp <;> omega)))))) rfl) (Rd.below R11.out (by repeat (first | (with_reducible exact Below.refl _ _) | (with_reducible assumption) | (with_reducible refine Below.drew ?_) | (with_reducible refine below_drewN ?_ _) | (with_reducible refine Below.alloc ?_ (by first | omega | (simp <;> omega)) _) | (with_reducible refine Below.setCell ?_ (by first | omega | (simp <;> omega)) _) | (with_reducible refine Below.trans ?_ (Below.mono (by with_reducible assumption) (by first | omega | (simp <;> omega)))))) rfl) LEN_aFirst0 LEN_aFirst1 LEN_aSecond0 LEN_aSecond1).mono ?_; rw [← Hr.out]; rintro e wC ⟨vC0, vC1, rfl, hC0, hC1, hapC, hbC⟩; obtain ⟨aC0, cC0, rfl⟩ := hC0.forms; have KC0 := Lib.hid hC0; clear hC0; obtain ⟨aC1, cC1, rfl⟩ := hC1.forms; have KC1 := Lib.hid hC1; clear hC1; have zC := hbC.size; (try simp at zC); have KAP := Lib.hid hapC; clear hapC; (try (replace yb0 := below_frz hbC rfl (World.block_lt_of_cell? _ _ xb0) yb0; replace xb0 := below_cell hbC rfl xb0; replace yb1 := below_frz hbC rfl (World.block_lt_of_cell? _ _ xb1) yb1; replace xb1 := below_cell hbC rfl xb1; replace yb2 := below_frz hbC rfl (World.block_lt_of_cell? _ _ xb2) yb2; replace xb2 := below_cell hbC rfl xb2)); dsimp only)
                  refine hK.out _ _ ?_ (fun hHeld6 => ?_)
                  · ((try dsimp only); (first | (exact ⟨cell_drew c_paFirst0, cell_drew c_paFirst1, cell_drew c_paFirst2, cell_drew c_paSecond0, cell_drew c_paSecond1, cell_drew c_paSecond2⟩) | (go_split_ands; refine ⟨?_, ?_, ?_, ?_, ?_, ?_⟩ <;> first | assumption | (refine cell_alloc_keep _ ?_; assumption) | (refine below_cell hbC rfl ?_; assumption) | (refine below_cell hbA1 rfl ?_; assumption) | (refine below_cell hbA0 rfl ?_; assumption))))
                  clear hB hK K hHeld5
                  refine AnyB.takeQ (i := 5) (oi := _) (v := ?_) (by simp only [List.getElem?_toArray, List.getElem?_cons_zero, List.getElem?_cons_succ]; rfl) (by kernel_rfl) (by kernel_rfl) (by kernel_rfl) (by intro _ _ _ h; exact h) (Or.inl ⟨by rfl, ?_⟩) ?_
                  rotate_left
                  · (intro w hSw; (try dsimp only at hSw); go_simp; (try (with_reducible rfl)))
                  try simp only [Act.put, List.setIfInBounds_toArray, List.set_cons_zero, List.set_cons_succ]
                  refine AnyB.takeQ (i := 6) (oi := _) (v := ?_) (by simp only [List.getElem?_toArray, List.getElem?_cons_zero, List.getElem?_cons_succ]; rfl) (by kernel_rfl) (by kernel_rfl) (by kernel_rfl) (by intro _ _ _ h; exact h) (Or.inl ⟨by rfl, ?_⟩) ?_
                  rotate_left
                  · (intro w hSw; (try dsimp only at hSw); go_simp; (try (with_reducible rfl)))
                  try simp only [Act.put, List.setIfInBounds_toArray, List.set_cons_zero, List.set_cons_succ]
                  refine AnyB.takeQ (i := 7) (oi := _) (v := ?_) (by simp only [List.getElem?_toArray, List.getElem?_cons_zero, List.getElem?_cons_succ]; rfl) (by kernel_rfl) (by kernel_rfl) (by kernel_rfl) (by intro _ _ _ h; exact h) (Or.inl ⟨by rfl, ?_⟩) ?_
                  rotate_left
                  · (intro w hSw; (try dsimp only at hSw); go_simp; (try (with_reducible rfl)))
                  try simp only [Act.put, List.setIfInBounds_toArray, List.set_cons_zero, List.set_cons_succ]
                  refine AnyB.each (rs := [9]) (by kernel_rfl) (by simp) ?_
                  refine EachB.cons rfl (fun K hK hB => ?_) ?_
                  · skip
                    go_simp
                    refine hB.out _ _ rfl ?_
                    clear hB hK K
                    refine AnyB.takeQ (i := 10) (oi := _) (v := ?_) (by simp only [List.getElem?_toArray, List.getElem?_cons_zero, List.getElem?_cons_succ]; rfl) (by kernel_rfl) (by kernel_rfl) (by kernel_rfl) (by intro _ _ _ h; exact h) (Or.inl ⟨by rfl, ?_⟩) ?_
                    rotate_left
                    · (intro w hSw; (try dsimp only at hSw); go_simp; (try (with_reducible rfl)))
                    try simp only [Act.put, List.setIfInBounds_toArray, List.set_cons_zero, List.set_cons_succ]
                    refine AnyB.none (by kernel_rfl) ?_ _
                    go_wp2_with fail
                    go_meet
                    refine ⟨_, aC0, cC0, aC1, cC1, rfl, rfl, ?_, ?_, ?_, ?_, ?_, ?_, ?_, ?_, (by repeat (first | (with_reducible exact Below.refl _ _) | (with_reducible assumption) | (with_reducible refine Below.drew ?_) | (with_reducible refine below_drewN ?_ _) | (with_reducible refine Below.alloc ?_ (by first | omega | (simp <;> omega)) _) | (with_reducible refine Below.setCell ?_ (by first | omega | (simp <;> omega)) _) | (with_reducible refine Below.trans ?_ (Below.mono (by with_reducible assumption) (by first | omega | (simp <;> omega))))))⟩
                    · first | (with_reducible exact new_cell _ _ _ 0 _ rfl) | exact (box_set3 _ _ _ xb0 xb1 xb2).1
                    · first | (with_reducible exact new_cell _ _ _ 1 _ rfl) | exact (box_set3 _ _ _ xb0 xb1 xb2).2.1
                    · first | (with_reducible exact new_cell _ _ _ 2 _ rfl) | exact (box_set3 _ _ _ xb0 xb1 xb2).2.2
                    · show OwnE _ _ _ _ _ _ _; first | (with_reducible exact (OwnE.le (OwnE.set (OwnE.set (OwnE.set KC0.out (by first | omega | (simp <;> omega)) _) (by first | omega | (simp <;> omega)) _) (by first | omega | (simp <;> omega)) _) (by first | omega | (simp <;> omega)))) | (with_reducible exact (OwnE.le (OwnE.below KC0.out (by repeat (first | (with_reducible exact Below.refl _ _) | (with_reducible assumption) | (with_reducible refine Below.drew ?_) | (with_reducible refine below_drewN ?_ _) | (with_reducible refine Below.alloc ?_ (by first | omega | (simp <;> omega)) _) | (with_reducible refine Below.setCell ?_ (by first | omega | (simp <;> omega)) _) | (with_reducible refine Below.trans ?_ (Below.mono (by with_reducible assumption) (by first | omega | (simp <;> omega)))))) rfl) (by first | omega | (simp <;> omega))))
                    · show OwnE _ _ _ _ _ _ _; first | (with_reducible exact (OwnE.le (OwnE.set (OwnE.set (OwnE.set KC1.out (by first | omega | (simp <;> omega)) _) (by first | omega | (simp <;> omega)) _) (by first | omega | (simp <;> omega)) _) (by first | omega | (simp <;> omega)))) | (with_reducible exact (OwnE.le (OwnE.below KC1.out (by repeat (first | (with_reducible exact Below.refl _ _) | (with_reducible assumption) | (with_reducible refine Below.drew ?_) | (with_reducible refine below_drewN ?_ _) | (with_reducible refine Below.alloc ?_ (by first | omega | (simp <;> omega)) _) | (with_reducible refine Below.setCell ?_ (by first | omega | (simp <;> omega)) _) | (with_reducible refine Below.trans ?_ (Below.mono (by with_reducible assumption) (by first | omega | (simp <;> omega)))))) rfl) (by first | omega | (simp <;> omega))))
                    · show ∀ g, _ → _ ∧ _; intro g hg; have hlt := KC0.out.lt g hg; (try simp at hlt); (try simp); omega
                    · show ∀ g, _ → _ ∧ _; intro g hg; have hlt := KC1.out.lt g hg; (try simp at hlt); (try simp); omega
                    · exact KAP.out
                  exact EachB.nil
                exact EachB.nil
              exact EachB.nil
            refine EachB.cons rfl (fun K hK hB => ?_) ?_
            · skip
              (go_simp; first | (have xb0 := new_cell wC #[.int .i64 0, .slice none 0 0, .slice none 0 0] 24 0 (.int .i64 0) rfl; have yb0 := new_frz wC #[.int .i64 0, .slice none 0 0, .slice none 0 0] 24 0; have xb1 := new_cell wC #[.int .i64 0, .slice none 0 0, .slice none 0 0] 24 1 (.slice none 0 0) rfl; have yb1 := new_frz wC #[.int .i64 0, .slice none 0 0, .slice none 0 0] 24 1; have xb2 := new_cell wC #[.int .i64 0, .slice none 0 0, .slice none 0 0] 24 2 (.slice none 0 0) rfl; have yb2 := new_frz wC #[.int .i64 0, .slice none 0 0, .slice none 0 0] 24 2) | (have xb0 := new_cell wA1 #[.int .i64 0, .slice none 0 0, .slice none 0 0] 24 0 (.int .i64 0) rfl; have yb0 := new_frz wA1 #[.int .i64 0, .slice none 0 0, .slice none 0 0] 24 0; have xb1 := new_cell wA1 #[.int .i64 0, .slice none 0 0, .slice none 0 0] 24 1 (.slice none 0 0) rfl; have yb1 := new_frz wA1 #[.int .i64 0, .slice none 0 0, .slice none 0 0] 24 1; have xb2 := new_cell wA1 #[.int .i64 0, .slice none 0 0, .slice none 0 0] 24 2 (.slice none 0 0) rfl; have yb2 := new_frz wA1 #[.int .i64 0, .slice none 0 0, .slice none 0 0] 24 2) | (have xb0 := new_cell wA0 #[.int .i64 0, .slice none 0 0, .slice none 0 0] 24 0 (.int .i64 0) rfl; have yb0 := new_frz wA0 #[.int .i64 0, .slice none 0 0, .slice none 0 0] 24 0; have xb1 := new_cell wA0 #[.int .i64 0, .slice none 0 0, .slice none 0 0] 24 1 (.slice none 0 0) rfl; have yb1 := new_frz wA0 #[.int .i64 0, .slice none 0 0, .slice none 0 0] 24 1; have xb2 := new_cell wA0 #[.int .i64 0, .slice none 0 0, .slice none 0 0] 24 2 (.slice none 0 0) rfl; have yb2 := new_frz wA0 #[.int .i64 0, .slice none 0 0, .slice none 0 0] 24 2) | (have xb0 : ((w16.alloc (.cells #[.int .i64 0, .slice none 0 0, .slice none 0 0] 24)).drew).cell? ⟨w16.heap.size, 0, none⟩ = some (.int .i64 0) := new_cell w16 #[.int .i64 0, .slice none 0 0, .slice none 0 0] 24 0 (.int .i64 0) rfl; have yb0 : ((w16.alloc (.cells #[.int .i64 0, .slice none 0 0, .slice none 0 0] 24)).drew).frozen? ⟨w16.heap.size, 0, none⟩ = false := new_frz w16 #[.int .i64 0, .slice none 0 0, .slice none 0 0] 24 0; have xb1 : ((w16.alloc (.cells #[.int .i64 0, .slice none 0 0, .slice none 0 0] 24)).drew).cell? ⟨w16.heap.size, 1, none⟩ = some (.slice none 0 0) := new_cell w16 #[.int .i64 0, .slice none 0 0, .slice none 0 0] 24 1 (.slice none 0 0) rfl; have yb1 : ((w16.alloc (.cells #[.int .i64 0, .slice none 0 0, .slice none 0 0] 24)).drew).frozen? ⟨w16.heap.size, 1, none⟩ = false := new_frz w16 #[.int .i64 0, .slice none 0 0, .slice none 0 0] 24 1; have xb2 : ((w16.alloc (.cells #[.int .i64 0, .slice none 0 0, .slice none 0 0] 24)).drew).cell? ⟨w16.heap.size, 2, none⟩ = some (.slice none 0 0) := new_cell w16 #[.int .i64 0, .slice none 0 0, .slice none 0 0] 24 2 (.slice none 0 0) rfl; have yb2 : ((w16.alloc (.cells #[.int .i64 0, .slice none 0 0, .slice none 0 0] 24)).drew).frozen? ⟨w16.heap.size, 2, none⟩ = false := new_frz w16 #[.int .i64 0, .slice none 0 0, .slice none 0 0] 24 2))
              refine hK.out _ _ ?_ (fun hHeld7 => ?_)
              · ((try dsimp only); (first | (exact ⟨cell_drew c_paFirst0, cell_drew c_paFirst1, cell_drew c_paFirst2, cell_drew c_paSecond0, cell_drew c_paSecond1, cell_drew c_paSecond2⟩) | (go_split_ands; refine ⟨?_, ?_, ?_, ?_, ?_, ?_⟩ <;> first | assumption | (refine cell_alloc_keep _ ?_; assumption) | (refine below_cell hbC rfl ?_; assumption) | (refine below_cell hbA1 rfl ?_; assumption) | (refine below_cell hbA0 rfl ?_; assumption))))
              clear hB hK K hHeld1
              refine AnyB.each (rs := [3]) (by kernel_rfl) (by simp) ?_
              refine EachB.cons rfl (fun K hK hB => ?_) ?_
              · skip
                (go_simp; go_at_call 20; refine (laws_toTableau_any d_aSecond _ _ _ (Rd.below HA_aSecond0.out (by repeat (first | (with_reducible exact Below.refl _ _) | (with_reducible assumption) | (with_reducible refine Below.drew ?_) | (with_reducible refine below_drewN ?_ _) | (with_reducible refine Below.alloc ?_ (by first | omega | (simp <;> omega)) _) | (with_reducible refine Below.setCell ?_ (by first | omega | (simp <;> omega)) _) | (with_reducible refine Below.trans ?_ (Below.mono (by with_reducible assumption) (by first | omega | (simp <;> omega)))))) rfl) (Rd.below HA_aSecond1.out (by repeat (first | (with_reducible exact Below.refl _ _) | (with_reducible assumption) | (with_reducible refine Below.drew ?_) | (with_reducible refine below_drewN ?_ _) | (with_reducible refine Below.alloc ?_ (by first | omega | (simp <;> omega)) _) | (with_reducible refine Below.setCell ?_ (by first | omega | (simp <;> omega)) _) | (with_reducible refine Below.trans ?_ (Below.mono (by with_reducible assumption) (by first | omega | (simp <;> omega)))))) rfl) LEN_aSecond0 LEN_aSecond1).mono ?_; rintro e wA1 ⟨vA10, vA11, rfl, hA10, hA11, _, hbA1⟩; obtain ⟨aA10, cA10, rfl⟩ := hA10.forms; have R10 := Lib.hid (hA10.rd); clear hA10; obtain ⟨aA11, cA11, rfl⟩ := hA11.forms; have R11 := Lib.hid (hA11.rd); clear hA11; have zA1 := hbA1.size; (try simp at zA1); (try (replace yb0 := below_frz hbA1 rfl (World.block_lt_of_cell? _ _ xb0) yb0; replace xb0 := below_cell hbA1 rfl xb0; replace yb1 := below_frz hbA1 rfl (World.block_lt_of_cell? _ _ xb1) yb1; replace xb1 := below_cell hbA1 rfl xb1; replace yb2 := below_frz hbA1 rfl (World.block_lt_of_cell? _ _ xb2) yb2; replace xb2 := below_cell hbA1 rfl xb2)); dsimp only)
                refine hK.out _ _ ?_ (fun hHeld8 => ?_)
                · ((try dsimp only); (first | (exact ⟨cell_drew c_paFirst0, cell_drew c_paFirst1, cell_drew c_paFirst2, cell_drew c_paSecond0, cell_drew c_paSecond1, cell_drew c_paSecond2⟩) | (go_split_ands; refine ⟨?_, ?_, ?_, ?_, ?_, ?_⟩ <;> first | assumption | (refine cell_alloc_keep _ ?_; assumption) | (refine below_cell hbC rfl ?_; assumption) | (refine below_cell hbA1 rfl ?_; assumption) | (refine below_cell hbA0 rfl ?_; assumption))))
                clear hB hK K hHeld7
                refine AnyB.each (rs := [4]) (by kernel_rfl) (by simp) ?_
                refine EachB.cons rfl (fun K hK hB => ?_) ?_
                · skip
                  (go_simp; go_at_call 23; refine (impl_ComposeTableaux_any d_aFirst d_aSecond _ _ _ _ _ (Rd.below R00.out (by repeat (first | (with_reducible exact Below.refl _ _) | (with_reducible assumption) | (with_reducible refine Below.drew ?_) | (with_reducible refine below_drewN ?_ _) | (with_reducible refine Below.alloc ?_ (by first | omega | (simp <;> omega)) _) | (with_reducible refine Below.setCell ?_ (by first | omega | (simp <;> omega)) _) | (with_reducible refine Below.trans ?_ (Below.mono (by with_reducible assumption) (by first | omega | (simp <;> omega)))))) rfl) (Rd.below R01.out (by repeat (first | (with_reducible exact Below.refl _ _) | (with_reducible assumption) | (with_reducible refine Below.drew ?_) | (with_reducible refine below_drewN ?_ _) | (with_reducible refine Below.alloc ?_ (by first | omega | (simp <;> omega)) _) | (with_reducible refine Below.setCell ?_ (by first | omega | (simp <;> omega)) _) | (with_reducible refine Below.trans ?_ (Below.mono (by with_reducible assumption) (by first | omega | (simp <;> omega)))))) rfl) (Rd.below R10.out (by repeat (first | (with_reducible exact Below.refl _ _) | (with_reducible assumption) | (with_reducible refine Below.drew ?_) | (with_reducible refine below_drewN ?_ _) | (with_reducible refine Below.alloc ?_ (by first | omega | (simp <;> omega)) _) | (with_reducible refine Below.setCell ?_ (by first | omega | (simp <;> omega)) _) | (with_reducible refine Below.trans ?_ (Below.mono (by with_reducible assumption) (by first | omega | (simp <;> omega)))))) rfl) (Rd.below R11.out (by repeat (first | (with_reducible exact Below.refl _ _) | (with_reducible assumption) | (with_reducible refine Below.drew ?_) | (with_reducible refine below_drewN ?_ _) | (with_reducible refine Below.alloc ?_ (by first | omega | (simp <;> omega)) _) | (with_reducible refine Below.setCell ?_ (by first | omega | (simp <;> omega)) _) | (with_reducible refine Below.trans ?_ (Below.mono (by with_reducible assumption) (by first | omega | (simp <;> omega)))))) rfl) LEN_aFirst0 LEN_aFirst1 LEN_aSecond0 LEN_aSecond1).mono ?_; rw [← Hr.out]; rintro e wC ⟨vC0, vC1, rfl, hC0, hC1, hapC, hbC⟩; obtain ⟨aC0, cC0, rfl⟩ := hC0.forms; have KC0 := Lib.hid hC0; clear hC0; obtain ⟨aC1, cC1, rfl⟩ := hC1.forms; have KC1 := Lib.hid hC1; clear hC1; have zC := hbC.size; (try simp at zC); have KAP := Lib.hid hapC; clear hapC; (try (replace yb0 := below_frz hbC rfl (World.block_lt_of_cell? _ _ xb0) yb0; replace xb0 := below_cell hbC rfl xb0; replace yb1 := below_frz hbC rfl (World.block_lt_of_cell? _ _ xb1) yb1; replace xb1 := below_cell hbC rfl xb1; replace yb2 := below_frz hbC rfl (World.block_lt_of_cell? _ _ xb2) yb2; replace xb2 := below_cell hbC rfl xb2)); dsimp only)
                  refine hK.out _ _ ?_ (fun hHeld9 => ?_)
                  · ((try dsimp only); (first | (exact ⟨cell_drew c_paFirst0, cell_drew c_paFirst1, cell_drew c_paFirst2, cell_drew c_paSecond0, cell_drew c_paSecond1, cell_drew c_paSecond2⟩) | (go_split_ands; refine ⟨?_, ?_, ?_, ?_, ?_, ?_⟩ <;> first | assumption | (refine cell_alloc_keep _ ?_; assumption) | (refine below_cell hbC rfl ?_; assumption) | (refine below_cell hbA1 rfl ?_; assumption) | (refine below_cell hbA0 rfl ?_; assumption))))
                  clear hB hK K hHeld8
                  refine AnyB.takeQ (i := 5) (oi := _) (v := ?_) (by simp only [List.getElem?_toArray, List.getElem?_cons_zero, List.getElem?_cons_succ]; rfl) (by kernel_rfl) (by kernel_rfl) (by kernel_rfl) (by intro _ _ _ h; exact h) (Or.inl ⟨by rfl, ?_⟩) ?_
                  rotate_left
                  · (intro w hSw; (try dsimp only at hSw); go_simp; (try (with_reducible rfl)))
                  try simp only [Act.put, List.setIfInBounds_toArray, List.set_cons_zero, List.set_cons_succ]
                  refine AnyB.takeQ (i := 6) (oi := _) (v := ?_) (by simp only [List.getElem?_toArray, List.getElem?_cons_zero, List.getElem?_cons_succ]; rfl) (by kernel_rfl) (by kernel_rfl) (by kernel_rfl) (by intro _ _ _ h; exact h) (Or.inl ⟨by rfl, ?_⟩) ?_
                  rotate_left
                  · (intro w hSw; (try dsimp only at hSw); go_simp; (try (with_reducible rfl)))
                  try simp only [Act.put, List.setIfInBounds_toArray, List.set_cons_zero, List.set_cons_succ]
                  refine AnyB.takeQ (i := 7) (oi := _) (v := ?_) (by simp only [List.getElem?_toArray, List.getElem?_cons_zero, List.getElem?_cons_succ]; rfl) (by kernel_rfl) (by kernel_rfl) (by kernel_rfl) (by intro _ _ _ h; exact h) (Or.inl ⟨by rfl, ?_⟩) ?_
                  rotate_left
                  · (intro w hSw; (try dsimp only at hSw); go_simp; (try (with_reducible rfl)))
                  try simp only [Act.put, List.setIfInBounds_toArray, List.set_cons_zero, List.set_cons_succ]
                  refine AnyB.each (rs := [9]) (by kernel_rfl) (by simp) ?_
                  refine EachB.cons rfl (fun K hK hB => ?_) ?_
                  · skip
                    go_simp
                    refine hB.out _ _ rfl ?_
                    clear hB hK K
                    refine AnyB.takeQ (i := 10) (oi := _) (v := ?_) (by simp only [List.getElem?_toArray, List.getElem?_cons_zero, List.getElem?_cons_succ]; rfl) (by kernel_rfl) (by kernel_rfl) (by kernel_rfl) (by intro _ _ _ h; exact h) (Or.inl ⟨by rfl, ?_⟩) ?_
                    rotate_left
                    · (intro w hSw; (try dsimp only at hSw); go_simp; (try (with_reducible rfl)))
                    try simp only [Act.put, List.setIfInBounds_toArray, List.set_cons_zero, List.set_cons_succ]
                    refine AnyB.none (by kernel_rfl) ?_ _
                    go_wp2_with fail
                    go_meet
                    refine ⟨_, aC0, cC0, aC1, cC1, rfl, rfl, ?_, ?_, ?_, ?_, ?_, ?_, ?_, ?_, (by repeat (first | (with_reducible exact Below.refl _ _) | (with_reducible assumption) | (with_reducible refine Below.drew ?_) | (with_reducible refine below_drewN ?_ _) | (with_reducible refine Below.alloc ?_ (by first | omega | (simp <;> omega)) _) | (with_reducible refine Below.setCell ?_ (by first | omega | (simp <;> omega)) _) | (with_reducible refine Below.trans ?_ (Below.mono (by with_reducible assumption) (by first | omega | (simp <;> omega))))))⟩
                    · first | (with_reducible exact new_cell _ _ _ 0 _ rfl) | exact (box_set3 _ _ _ xb0 xb1 xb2).1
                    · first | (with_reducible exact new_cell _ _ _ 1 _ rfl) | exact (box_set3 _ _ _ xb0 xb1 xb2).2.1
                    · first | (with_reducible exact new_cell _ _ _ 2 _ rfl) | exact (box_set3 _ _ _ xb0 xb1 xb2).2.2
                    · show OwnE _ _ _ _ _ _ _; first | (with_reducible exact (OwnE.le (OwnE.set (OwnE.set (OwnE.set KC0.out (by first | omega | (simp <;> omega)) _) (by first | omega | (simp <;> omega)) _) (by first | omega | (simp <;> omega)) _) (by first | omega | (simp <;> omega)))) | (with_reducible exact (OwnE.le (OwnE.below KC0.out (by repeat (first | (with_reducible exact Below.refl _ _) | (with_reducible assumption) | (with_reducible refine Below.drew ?_) | (with_reducible refine below_drewN ?_ _) | (with_reducible refine Below.alloc ?_ (by first | omega | (simp <;> omega)) _) | (with_reducible refine Below.setCell ?_ (by first | omega | (simp <;> omega)) _) | (with_reducible refine Below.trans ?_ (Below.mono (by with_reducible assumption) (by first | omega | (simp <;> omega)))))) rfl) (by first | omega | (simp <;> omega))))
                    · show OwnE _ _ _ _ _ _ _; first | (with_reducible exact (OwnE.le (OwnE.set (OwnE.set (OwnE.set KC1.out (by first | omega | (simp <;> omega)) _) (by first | omega | (simp <;> omega)) _) (by first | omega | (simp <;> omega)) _) (by first | omega | (simp <;> omega)))) | (with_reducible exact (OwnE.le (OwnE.below KC1.out (by repeat (first | (with_reducible exact Below.refl _ _) | (with_reducible assumption) | (with_reducible refine Below.drew ?_) | (with_reducible refine below_drewN ?_ _) | (with_reducible refine Below.alloc ?_ (by first | omega | (simp <;> omega)) _) | (with_reducible refine Below.setCell ?_ (by first | omega | (simp <;> omega)) _) | (with_reducible refine Below.trans ?_ (Below.mono (by with_reducible assumption) (by first | omega | (simp <;> omega)))))) rfl) (by first | omega | (simp <;> omega))))
                    · show ∀ g, _ → _ ∧ _; intro g hg; have hlt := KC0.out.lt g hg; (try simp at hlt); (try simp); omega
                    · show ∀ g, _ → _ ∧ _; intro g hg; have hlt := KC1.out.lt g hg; (try simp at hlt); (try simp); omega
                    · exact KAP.out
                  exact EachB.nil
                exact EachB.nil
              exact EachB.nil
            exact EachB.nil
          refine EachB.cons rfl (fun K hK hB => ?_) ?_
          · skip
            (go_simp; first | (have xb0 := new_cell wC #[.int .i64 0, .slice none 0 0, .slice none 0 0] 24 0 (.int .i64 0) rfl; have yb0 := new_frz wC #[.int .i64 0, .slice none 0 0, .slice none 0 0] 24 0; have xb1 := new_cell wC #[.int .i64 0, .slice none 0 0, .slice none 0 0] 24 1 (.slice none 0 0) rfl; have yb1 := new_frz wC #[.int .i64 0, .slice none 0 0, .slice none 0 0] 24 1; have xb2 := new_cell wC #[.int .i64 0, .slice none 0 0, .slice none 0 0] 24 2 (.slice none 0 0) rfl; have yb2 := new_frz wC #[.int .i64 0, .slice none 0 0, .slice none 0 0] 24 2) | (have xb0 := new_cell wA1 #[.int .i64 0, .slice none 0 0, .slice none 0 0] 24 0 (.int .i64 0) rfl; have yb0 := new_frz wA1 #[.int .i64 0, .slice none 0 0, .slice none 0 0] 24 0; have xb1 := new_cell wA1 #[.int .i64 0, .slice none 0 0, .slice none 0 0] 24 1 (.slice none 0 0) rfl; have yb1 := new_frz wA1 #[.int .i64 0, .slice none 0 0, .slice none 0 0] 24 1; have xb2 := new_cell wA1 #[.int .i64 0, .slice none 0 0, .slice none 0 0] 24 2 (.slice none 0 0) rfl; have yb2 := new_frz wA1 #[.int .i64 0, .slice none 0 0, .slice none 0 0] 24 2) | (have xb0 := new_cell wA0 #[.int .i64 0, .slice none 0 0, .slice none 0 0] 24 0 (.int .i64 0) rfl; have yb0 := new_frz wA0 #[.int .i64 0, .slice none 0 0, .slice none 0 0] 24 0; have xb1 := new_cell wA0 #[.int .i64 0, .slice none 0 0, .slice none 0 0] 24 1 (.slice none 0 0) rfl; have yb1 := new_frz wA0 #[.int .i64 0, .slice none 0 0, .slice none 0 0] 24 1; have xb2 := new_cell wA0 #[.int .i64 0, .slice none 0 0, .slice none 0 0] 24 2 (.slice none 0 0) rfl; have yb2 := new_frz wA0 #[.int .i64 0, .slice none 0 0, .slice none 0 0] 24 2) | (have xb0 : ((w16.alloc (.cells #[.int .i64 0, .slice none 0 0, .slice none 0 0] 24)).drew).cell? ⟨w16.heap.size, 0, none⟩ = some (.int .i64 0) := new_cell w16 #[.int .i64 0, .slice none 0 0, .slice none 0 0] 24 0 (.int .i64 0) rfl; have yb0 : ((w16.alloc (.cells #[.int .i64 0, .slice none 0 0, .slice none 0 0] 24)).drew).frozen? ⟨w16.heap.size, 0, none⟩ = false := new_frz w16 #[.int .i64 0, .slice none 0 0, .slice none 0 0] 24 0; have xb1 : ((w16.alloc (.cells #[.int .i64 0, .slice none 0 0, .slice none 0 0] 24)).drew).cell? ⟨w16.heap.size, 1, none⟩ = some (.slice none 0 0) := new_cell w16 #[.int .i64 0, .slice none 0 0, .slice none 0 0] 24 1 (.slice none 0 0) rfl; have yb1 : ((w16.alloc (.cells #[.int .i64 0, .slice none 0 0, .slice none 0 0] 24)).drew).frozen? ⟨w16.heap.size, 1, none⟩ = false := new_frz w16 #[.int .i64 0, .slice none 0 0, .slice none 0 0] 24 1; have xb2 : ((w16.alloc (.cells #[.int .i64 0, .slice none 0 0, .slice none 0 0] 24)).drew).cell? ⟨w16.heap.size, 2, none⟩ = some (.slice none 0 0) := new_cell w16 #[.int .i64 0, .slice none 0 0, .slice none 0 0] 24 2 (.slice none 0 0) rfl; have yb2 : ((w16.alloc (.cells #[.int .i64 0, .slice none 0 0, .slice none 0 0] 24)).drew).frozen? ⟨w16.heap.size, 2, none⟩ = false := new_frz w16 #[.int .i64 0, .slice none 0 0, .slice none 0 0] 24 2))
            refine hK.out _ _ ?_ (fun hHeld10 => ?_)
            · ((try dsimp only); (first | (exact ⟨cell_drew c_paFirst0, cell_drew c_paFirst1, cell_drew c_paFirst2, cell_drew c_paSecond0, cell_drew c_paSecond1, cell_drew c_paSecond2⟩) | (go_split_ands; refine ⟨?_, ?_, ?_, ?_, ?_, ?_⟩ <;> first | assumption | (refine cell_alloc_keep _ ?_; assumption) | (refine below_cell hbC rfl ?_; assumption) | (refine below_cell hbA1 rfl ?_; assumption) | (refine below_cell hbA0 rfl ?_; assumption))))
            clear hB hK K hHeld0
            refine AnyB.each (rs := [1]) (by kernel_rfl) (by simp) ?_
            refine EachB.cons rfl (fun K hK hB => ?_) ?_
            · skip
              (go_simp; go_at_call 20; refine (laws_toTableau_any d_aFirst _ _ _ (Rd.below HA_aFirst0.out (by repeat (first | (with_reducible exact Below.refl _ _) | (with_reducible assumption) | (with_reducible refine Below.drew ?_) | (with_reducible refine below_drewN ?_ _) | (with_reducible refine Below.alloc ?_ (by first | omega | (simp <;> omega)) _) | (with_reducible refine Below.setCell ?_ (by first | omega | (simp <;> omega)) _) | (with_reducible refine Below.trans ?_ (Below.mono (by with_reducible assumption) (by first | omega | (simp <;> omega)))))) rfl) (Rd.below HA_aFirst1.out (by repeat (first | (with_reducible exact Below.refl _ _) | (with_reducible assumption) | (with_reducible refine Below.drew ?_) | (with_reducible refine below_drewN ?_ _) | (with_reducible refine Below.alloc ?_ (by first | omega | (simp <;> omega)) _) | (with_reducible refine Below.setCell ?_ (by first | omega | (simp <;> omega)) _) | (with_reducible refine Below.trans ?_ (Below.mono (by with_reducible assumption) (by first | omega | (simp <;> omega)))))) rfl) LEN_aFirst0 LEN_aFirst1).mono ?_; rintro e wA0 ⟨vA00, vA01, rfl, hA00, hA01, _, hbA0⟩; obtain ⟨aA00, cA00, rfl⟩ := hA00.forms; have R00 := Lib.hid (hA00.rd); clear hA00; obtain ⟨aA01, cA01, rfl⟩ := hA01.forms; have R01 := Lib.hid (hA01.rd); clear hA01; have zA0 := hbA0.size; (try simp at zA0); (try (replace yb0 := below_frz hbA0 rfl (World.block_lt_of_cell? _ _ xb0) yb0; replace xb0 := below_cell hbA0 rfl xb0; replace yb1 := below_frz hbA0 rfl (World.block_lt_of_cell? _ _ xb1) yb1; replace xb1 := below_cell hbA0 rfl xb1; replace yb2 := below_frz hbA0 rfl (World.block_lt_of_cell? _ _ xb2) yb2; replace xb2 := below_cell hbA0 rfl xb2)); dsimp only)
              refine hK.out _ _ ?_ (fun hHeld11 => ?_)
              · ((try dsimp only); (first | (exact ⟨cell_drew c_paFirst0, cell_drew c_paFirst1, cell_drew c_paFirst2, cell_drew c_paSecond0, cell_drew c_paSecond1, cell_drew c_paSecond2⟩) | (go_split_ands; refine ⟨?_, ?_, ?_, ?_, ?_, ?_⟩ <;> first | assumption | (refine cell_alloc_keep _ ?_; assumption) | (refine below_cell hbC rfl ?_; assumption) | (refine below_cell hbA1 rfl ?_; assumption) | (refine below_cell hbA0 rfl ?_; assumption))))
              clear hB hK K hHeld10
              refine AnyB.each (rs := [3]) (by kernel_rfl) (by simp) ?_
              refine EachB.cons rfl (fun K hK hB => ?_) ?_
              · skip
                (go_simp; go_at_call 20; refine (laws_toTableau_any d_aSecond _ _ _ (Rd.below HA_aSecond0.out (by repeat (first | (with_reducible exact Below.refl _ _) | (with_reducible assumption) | (with_reducible refine Below.drew ?_) | (with_reducible refine below_drewN ?_ _) | (with_reducible refine Below.alloc ?_ (by first | omega | (simp <;> omega)) _) | (with_reducible refine Below.setCell ?_ (by first | omega | (simp <;> omega)) _) | (with_reducible refine Below.trans ?_ (Below.mono (by with_reducible assumption) (by first | omega | (simp <;> omega)))))) rfl) (Rd.below HA_aSecond1.out (by repeat (first | (with_reducible exact Below.refl _ _) | (with_reducible assumption) | (with_reducible refine Below.drew ?_) | (with_reducible refine below_drewN ?_ _) | (with_reducible refine Below.alloc ?_ (by first | omega | (simp <;> omega)) _) | (with_reducible refine Below.setCell ?_ (by first | omega | (simp <;> omega)) _) | (with_reducible refine Below.trans ?_ (Below.mono (by with_reducible assumption) (by first | omega | (simp <;> omega)))))) rfl) LEN_aSecond0 LEN_aSecond1).mono ?_; rintro e wA1 ⟨vA10, vA11, rfl, hA10, hA11, _, hbA1⟩; obtain ⟨aA10, cA10, rfl⟩ := hA10.forms; have R10 := Lib.hid (hA10.rd); clear hA10; obtain ⟨aA11, cA11, rfl⟩ := hA11.forms; have R11 := Lib.hid (hA11.rd); clear hA11; have zA1 := hbA1.size; (try simp at zA1); (try (replace yb0 := below_frz hbA1 rfl (World.block_lt_of_cell? _ _ xb0) yb0; replace xb0 := below_cell hbA1 rfl xb0; replace yb1 := below_frz hbA1 rfl (World.block_lt_of_cell? _ _ xb1) yb1; replace xb1 := below_cell hbA1 rfl xb1; replace yb2 := below_frz hbA1 rfl (World.block_lt_of_cell? _ _ xb2) yb2; replace xb2 := below_cell hbA1 rfl xb2)); dsimp only)
                refine hK.out _ _ ?_ (fun hHeld12 => ?_)
                · ((try dsimp only); (first | (exact ⟨cell_drew c_paFirst0, cell_drew c_paFirst1, cell_drew c_paFirst2, cell_drew c_paSecond0, cell_drew c_paSecond1, cell_drew c_paSecond2⟩) | (go_split_ands; refine ⟨?_, ?_, ?_, ?_, ?_, ?_⟩ <;> first | assumption | (refine cell_alloc_keep _ ?_; assumption) | (refine below_cell hbC rfl ?_; assumption) | (refine below_cell hbA1 rfl ?_; assumption) | (refine below_cell hbA0 rfl ?_; assumption))))
                clear hB hK K hHeld11
                refine AnyB.each (rs := [4]) (by kernel_rfl) (by simp) ?_
                refine EachB.cons rfl (fun K hK hB => ?_) ?_
                · skip
                  (go_simp; go_at_call 23; refine (impl_ComposeTableaux_any d_aFirst d_aSecond _ _ _ _ _ (Rd.below R00.out (by repeat (first | (with_reducible exact Below.refl _ _) | (with_reducible assumption) | (with_reducible refine Below.drew ?_) | (with_reducible refine below_drewN ?_ _) | (with_reducible refine Below.alloc ?_ (by first | omega | (simp <;> omega)) _) | (with_reducible refine Below.setCell ?_ (by first | omega | (simp <;> omega)) _) | (with_reducible refine Below.trans ?_ (Below.mono (by with_reducible assumption) (by first | omega | (simp <;> omega)))))) rfl) (Rd.below R01.out (by repeat (first | (with_reducible exact Below.refl _ _) | (with_reducible assumption) | (with_reducible refine Below.drew ?_) | (with_reducible refine below_drewN ?_ _) | (with_reducible refine Below.alloc ?_ (by first | omega | (simp <;> omega)) _) | (with_reducible refine Below.setCell ?_ (by first | omega | (simp <;> omega)) _) | (with_reducible refine Below.trans ?_ (Below.mono (by with_reducible assumption) (by first | omega | (simp <;> omega)))))) rfl) (Rd.below R10.out (by repeat (first | (with_reducible exact Below.refl _ _) | (with_reducible assumption) | (with_reducible refine Below.drew ?_) | (with_reducible refine below_drewN ?_ _) | (with_reducible refine Below.alloc ?_ (by first | omega | (simp <;> omega)) _) | (with_reducible refine Below.setCell ?_ (by first | omega | (simp <;> omega)) _) | (with_reducible refine Below.trans ?_ (Below.mono (by with_reducible assumption) (by first | omega | (simp <;> omega)))))) rfl) (Rd.below R11.out (by repeat (first | (with_reducible exact Below.refl _ _) | (with_reducible assumption) | (with_reducible refine Below.drew ?_) | (with_reducible refine below_drewN ?_ _) | (with_reducible refine Below.alloc ?_ (by first | omega | (simp <;> omega)) _) | (with_reducible refine Below.setCell ?_ (by first | omega | (simp <;> omega)) _) | (with_reducible refine Below.trans ?_ (Below.mono (by with_reducible assumption) (by first | omega | (simp <;> omega)))))) rfl) LEN_aFirst0 LEN_aFirst1 LEN_aSecond0 LEN_aSecond1).mono ?_; rw [← Hr.out]; rintro e wC ⟨vC0, vC1, rfl, hC0, hC1, hapC, hbC⟩; obtain ⟨aC0, cC0, rfl⟩ := hC0.forms; have KC0 := Lib.hid hC0; clear hC0; obtain ⟨aC1, cC1, rfl⟩ := hC1.forms; have KC1 := Lib.hid hC1; clear hC1; have zC := hbC.size; (try simp at zC); have KAP := Lib.hid hapC; clear hapC; (try (replace yb0 := below_frz hbC rfl (World.block_lt_of_cell? _ _ xb0) yb0; replace xb0 := below_cell hbC rfl xb0; replace yb1 := below_frz hbC rfl (World.block_lt_of_cell? _ _ xb1) yb1; replace xb1 := below_cell hbC rfl xb1; replace yb2 := below_frz hbC rfl (World.block_lt_of_cell? _ _ xb2) yb2; replace xb2 := below_cell hbC rfl xb2)); dsimp only)
                  refine hK.out _ _ ?_ (fun hHeld13 => ?_)
                  · ((try dsimp only); (first | (exact ⟨cell_drew c_paFirst0, cell_drew c_paFirst1, cell_drew c_paFirst2, cell_drew c_paSecond0, cell_drew c_paSecond1, cell_drew c_paSecond2⟩) | (go_split_ands; refine ⟨?_, ?_, ?_, ?_, ?_, ?_⟩ <;> first | assumption | (refine cell_alloc_keep _ ?_; assumption) | (refine below_cell hbC rfl ?_; assumption) | (refine below_cell hbA1 rfl ?_; assumption) | (refine below_cell hbA0 rfl ?_; assumption))))
                  clear hB hK K hHeld12
                  refine AnyB.takeQ (i := 5) (oi := _) (v := ?_) (by simp only [List.getElem?_toArray, List.getElem?_cons_zero, List.getElem?_cons_succ]; rfl) (by kernel_rfl) (by kernel_rfl) (by kernel_rfl) (by intro _ _ _ h; exact h) (Or.inl ⟨by rfl, ?_⟩) ?_
                  rotate_left
                  · (intro w hSw; (try dsimp only at hSw); go_simp; (try (with_reducible rfl)))
                  try simp only [Act.put, List.setIfInBounds_toArray, List.set_cons_zero, List.set_cons_succ]
                  refine AnyB.takeQ (i := 6) (oi := _) (v := ?_) (by simp only [List.getElem?_toArray, List.getElem?_cons_zero, List.getElem?_cons_succ]; rfl) (by kernel_rfl) (by kernel_rfl) (by kernel_rfl) (by intro _ _ _ h; exact h) (Or.inl ⟨by rfl, ?_⟩) ?_
                  rotate_left
                  · (intro w hSw; (try dsimp only at hSw); go_simp; (try (with_reducible rfl)))
                  try simp only [Act.put, List.setIfInBounds_toArray, List.set_cons_zero, List.set_cons_succ]
                  refine AnyB.takeQ (i := 7) (oi := _) (v := ?_) (by simp only [List.getElem?_toArray, List.getElem?_cons_zero, List.getElem?_cons_succ]; rfl) (by kernel_rfl) (by kernel_rfl) (by kernel_rfl) (by intro _ _ _ h; exact h) (Or.inl ⟨by rfl, ?_⟩) ?_
                  rotate_left
                  · (intro w hSw; (try dsimp only at hSw); go_simp; (try (with_reducible rfl)))
                  try simp only [Act.put, List.setIfInBounds_toArray, List.set_cons_zero, List.set_cons_succ]
                  refine AnyB.each (rs := [9]) (by kernel_rfl) (by simp) ?_
                  refine EachB.cons rfl (fun K hK hB => ?_) ?_
                  · skip
                    go_simp
                    refine hB.out _ _ rfl ?_
                    clear hB hK K
                    refine AnyB.takeQ (i := 10) (oi := _) (v := ?_) (by simp only [List.getElem?_toArray, List.getElem?_cons_zero, List.getElem?_cons_succ]; rfl) (by kernel_rfl) (by kernel_rfl) (by kernel_rfl) (by intro _ _ _ h; exact h) (Or.inl ⟨by rfl, ?_⟩) ?_
                    rotate_left
                    · (intro w hSw; (try dsimp only at hSw); go_simp; (try (with_reducible rfl)))
                    try simp only [Act.put, List.setIfInBounds_toArray, List.set_cons_zero, List.set_cons_succ]
                    refine AnyB.none (by kernel_rfl) ?_ _
                    go_wp2_with fail
                    go_meet
                    refine ⟨_, aC0, cC0, aC1, cC1, rfl, rfl, ?_, ?_, ?_, ?_, ?_, ?_, ?_, ?_, (by repeat (first | (with_reducible exact Below.refl _ _) | (with_reducible assumption) | (with_reducible refine Below.drew ?_) | (with_reducible refine below_drewN ?_ _) | (with_reducible refine Below.alloc ?_ (by first | omega | (simp <;> omega)) _) | (with_reducible refine Below.setCell ?_ (by first | omega | (simp <;> omega)) _) | (with_reducible refine Below.trans ?_ (Below.mono (by with_reducible assumption) (by first | omega | (simp <;> omega))))))⟩
                    · first | (with_reducible exact new_cell _ _ _ 0 _ rfl) | exact (box_set3 _ _ _ xb0 xb1 xb2).1
                    · first | (with_reducible exact new_cell _ _ _ 1 _ rfl) | exact (box_set3 _ _ _ xb0 xb1 xb2).2.1
                    · first | (with_reducible exact new_cell _ _ _ 2 _ rfl) | exact (box_set3 _ _ _ xb0 xb1 xb2).2.2
                    · show OwnE _ _ _ _ _ _ _; first | (with_reducible exact (OwnE.le (OwnE.set (OwnE.set (OwnE.set KC0.out (by first | omega | (simp <;> omega)) _) (by first | omega | (simp <;> omega)) _) (by first | omega | (simp <;> omega)) _) (by first | omega | (simp <;> omega)))) | (with_reducible exact (OwnE.le (OwnE.below KC0.out (by repeat (first | (with_reducible exact Below.refl _ _) | (with_reducible assumption) | (with_reducible refine Below.drew ?_) | (with_reducible refine below_drewN ?_ _) | (with_reducible refine Below.alloc ?_ (by first | omega | (simp <;> omega)) _) | (with_reducible refine Below.setCell ?_ (by first | omega | (simp <;> omega)) _) | (with_reducible refine Below.trans ?_ (Below.mono (by with_reducible assumption) (by first | omega | (simp <;> omega)))))) rfl) (by first | omega | (simp <;> omega))))
                    · show OwnE _ _ _ _ _ _ _; first | (with_reducible exact (OwnE.le (OwnE.set (OwnE.set (OwnE.set KC1.out (by first | omega | (simp <;> omega)) _) (by first | omega | (simp <;> omega)) _) (by first | omega | (simp <;> omega)) _) (by first | omega | (simp <;> omega)))) | (with_reducible exact (OwnE.le (OwnE.below KC1.out (by repeat (first | (with_reducible exact Below.refl _ _) | (with_reducible assumption) | (with_reducible refine Below.drew ?_) | (with_reducible refine below_drewN ?_ _) | (with_reducible refine Below.alloc ?_ (by first | omega | (simp <;> omega)) _) | (with_reducible refine Below.setCell ?_ (by first | omega | (simp <;> omega)) _) | (with_reducible refine Below.trans ?_ (Below.mono (by with_reducible assumption) (by first | omega | (simp <;> omega)))))) rfl) (by first | omega | (simp <;> omega))))
                    · show ∀ g, _ → _ ∧ _; intro g hg; have hlt := KC0.out.lt g hg; (try simp at hlt); (try simp); omega
                    · show ∀ g, _ → _ ∧ _; intro g hg; have hlt := KC1.out.lt g hg; (try simp at hlt); (try simp); omega
                    · exact KAP.out
                  exact EachB.nil
                exact EachB.nil
              exact EachB.nil
            exact EachB.nil
          exact EachB.nil
        case rest =>
          obtain ⟨gh0, ah00, caph00, ah01, caph01, rfl, rfl, c_h00, c_h01, c_h02, Oh00, Oh01, LL_h00, LL_h01, AP_h0, hb17⟩ := hcut
          replace Ow00 := Lib.hid (show OwnE wc (w.heap.size) 54 (.slice aw00 (((r.getD Tab.zero)).xs).length capw00) E3.cs 3 (((r.getD Tab.zero)).xs) from OwnE.below Ow00.out hb17 rfl)
          replace Ow01 := Lib.hid (show OwnE wc (w.heap.size) 54 (.slice aw01 (((r.getD Tab.zero)).zs).length capw01) E3.cs 3 (((r.getD Tab.zero)).zs) from OwnE.below Ow01.out hb17 rfl)
          replace Ox00 := Lib.hid (show wc.ownsRow (w.heap.size) 54 3 (.slice ax00 ((d_aFirst).xs).length capx00) ((d_aFirst).xs).length (marks (1) (((d_aFirst).xs).length * 3)) from own_below Ox00.out hb17 rfl)
          replace Ox01 := Lib.hid (show wc.ownsRow (w.heap.size) 54 3 (.slice ax01 ((d_aFirst).zs).length capx01) ((d_aFirst).zs).length (marks (1 + ((((d_aFirst).xs).length * 3 : Nat) : Int)) (((d_aFirst).zs).length * 3)) from own_below Ox01.out hb17 rfl)
          replace Ox10 := Lib.hid (show wc.ownsRow (w.heap.size) 54 3 (.slice ax10 ((d_aSecond).xs).length capx10) ((d_aSecond).xs).length (marks (1 + ((((d_aFirst).xs).length * 3 : Nat) : Int) + ((((d_aFirst).zs).length * 3 : Nat) : Int)) (((d_aSecond).xs).length * 3)) from own_below Ox10.out hb17 rfl)
          replace Ox11 := Lib.hid (show wc.ownsRow (w.heap.size) 54 3 (.slice ax11 ((d_aSecond).zs).length capx11) ((d_aSecond).zs).length (marks (1 + ((((d_aFirst).xs).length * 3 : Nat) : Int) + ((((d_aFirst).zs).length * 3 : Nat) : Int) + ((((d_aSecond).xs).length * 3 : Nat) : Int)) (((d_aSecond).zs).length * 3)) from own_below Ox11.out hb17 rfl)
          replace Og00 := Lib.hid (show wc.ownsRow (w.heap.size) 54 3 (.slice ag00 (((r.getD Tab.zero)).xs).length capg00) (((r.getD Tab.zero)).xs).length (marks (1) ((((r.getD Tab.zero)).xs).length * 3)) from own_below Og00.out hb17 rfl)
          replace Og01 := Lib.hid (show wc.ownsRow (w.heap.size) 54 3 (.slice ag01 (((r.getD Tab.zero)).zs).length capg01) (((r.getD Tab.zero)).zs).length (marks (1 + (((((r.getD Tab.zero)).xs).length * 3 : Nat) : Int)) ((((r.getD Tab.zero)).zs).length * 3)) from own_below Og01.out hb17 rfl)
          replace c_paFirst0 := below_cell hb17 rfl c_paFirst0
          replace c_paFirst1 := below_cell hb17 rfl c_paFirst1
          replace c_paFirst2 := below_cell hb17 rfl c_paFirst2
          replace c_paSecond0 := below_cell hb17 rfl c_paSecond0
          replace c_paSecond1 := below_cell hb17 rfl c_paSecond1
          replace c_paSecond2 := below_cell hb17 rfl c_paSecond2
          replace c_w00 := below_cell hb17 rfl c_w00
          replace c_w01 := below_cell hb17 rfl c_w01
          replace c_w02 := below_cell hb17 rfl c_w02
          replace c_x00 := below_cell hb17 rfl c_x00
          replace c_x01 := below_cell hb17 rfl c_x01
          replace c_x02 := below_cell hb17 rfl c_x02
          replace c_x10 := below_cell hb17 rfl c_x10
          replace c_x11 := below_cell hb17 rfl c_x11
          replace c_x12 := below_cell hb17 rfl c_x12
          replace c_g00 := below_cell hb17 rfl c_g00
          replace c_g01 := below_cell hb17 rfl c_g01
          replace c_g02 := below_cell hb17 rfl c_g02
          have BB17 : Below w.heap.size w wc := below_step BB16 hb17
          have ZZ17 : w16.heap.size ≤ wc.heap.size := hb17.size
          clear LT16_0 LT16_1 LT16_2 LT16_3 LT16_4 LT16_5
          clear hb17 BB16
          have LT17_0 : w.heap.size < wc.heap.size := World.block_lt_of_cell? wc _ c_paFirst0
          have LT17_1 : w.heap.size + 1 < wc.heap.size := World.block_lt_of_cell? wc _ c_paSecond0
          have LT17_2 : gw0 < wc.heap.size := World.block_lt_of_cell? wc _ c_w00
          have LT17_3 : w4.heap.size < wc.heap.size := World.block_lt_of_cell? wc _ c_x00
          have LT17_4 : w5.heap.size < wc.heap.size := World.block_lt_of_cell? wc _ c_x10
          have LT17_5 : w6.heap.size < wc.heap.size := World.block_lt_of_cell? wc _ c_g00
          have LT17_6 : gh0 < wc.heap.size := World.block_lt_of_cell? wc _ c_h00
          generalize wc = w17 at *
          have PG_h0 : gh0 < w17.heap.size := World.block_lt_of_cell? w17 _ c_h00
          go_wp2_with fail
          refine (laws_eqTableau_same (r.getD Tab.zero) _ _ _ _ _ (Oh00.out).rd (Oh01.out).rd (Ow00.out).rd (Ow01.out).rd).mono ?_; rintro e w18 ⟨rfl, hb18⟩
          replace Ow00 := Lib.hid (show OwnE w18 (w.heap.size) 54 (.slice aw00 (((r.getD Tab.zero)).xs).length capw00) E3.cs 3 (((r.getD Tab.zero)).xs) from OwnE.below Ow00.out hb18 rfl)
          replace Ow01 := Lib.hid (show OwnE w18 (w.heap.size) 54 (.slice aw01 (((r.getD Tab.zero)).zs).length capw01) E3.cs 3 (((r.getD Tab.zero)).zs) from OwnE.below Ow01.out hb18 rfl)
          replace Ox00 := Lib.hid (show w18.ownsRow (w.heap.size) 54 3 (.slice ax00 ((d_aFirst).xs).length capx00) ((d_aFirst).xs).length (marks (1) (((d_aFirst).xs).length * 3)) from own_below Ox00.out hb18 rfl)
          replace Ox01 := Lib.hid (show w18.ownsRow (w.heap.size) 54 3 (.slice ax01 ((d_aFirst).zs).length capx01) ((d_aFirst).zs).length (marks (1 + ((((d_aFirst).xs).length * 3 : Nat) : Int)) (((d_aFirst).zs).length * 3)) from own_below Ox01.out hb18 rfl)
          replace Ox10 := Lib.hid (show w18.ownsRow (w.heap.size) 54 3 (.slice ax10 ((d_aSecond).xs).length capx10) ((d_aSecond).xs).length (marks (1 + ((((d_aFirst).xs).length * 3 : Nat) : Int) + ((((d_aFirst).zs).length * 3 : Nat) : Int)) (((d_aSecond).xs).length * 3)) from own_below Ox10.out hb18 rfl)
          replace Ox11 := Lib.hid (show w18.ownsRow (w.heap.size) 54 3 (.slice ax11 ((d_aSecond).zs).length capx11) ((d_aSecond).zs).length (marks (1 + ((((d_aFirst).xs).length * 3 : Nat) : Int) + ((((d_aFirst).zs).length * 3 : Nat) : Int) + ((((d_aSecond).xs).length * 3 : Nat) : Int)) (((d_aSecond).zs).length * 3)) from own_below Ox11.out hb18 rfl)
          replace Og00 := Lib.hid (show w18.ownsRow (w.heap.size) 54 3 (.slice ag00 (((r.getD Tab.zero)).xs).length capg00) (((r.getD Tab.zero)).xs).length (marks (1) ((((r.getD Tab.zero)).xs).length * 3)) from own_below Og00.out hb18 rfl)
          replace Og01 := Lib.hid (show w18.ownsRow (w.heap.size) 54 3 (.slice ag01 (((r.getD Tab.zero)).zs).length capg01) (((r.getD Tab.zero)).zs).length (marks (1 + (((((r.getD Tab.zero)).xs).length * 3 : Nat) : Int)) ((((r.getD Tab.zero)).zs).length * 3)) from own_below Og01.out hb18 rfl)
          replace Oh00 := Lib.hid (show OwnE w18 (w.heap.size) 54 (.slice ah00 (((r.getD Tab.zero)).xs).length caph00) E3.cs 3 (((r.getD Tab.zero)).xs) from OwnE.below Oh00.out hb18 rfl)
          replace Oh01 := Lib.hid (show OwnE w18 (w.heap.size) 54 (.slice ah01 (((r.getD Tab.zero)).zs).length caph01) E3.cs 3 (((r.getD Tab.zero)).zs) from OwnE.below Oh01.out hb18 rfl)
          replace c_paFirst0 := below_cell hb18 rfl c_paFirst0
          replace c_paFirst1 := below_cell hb18 rfl c_paFirst1
          replace c_paFirst2 := below_cell hb18 rfl c_paFirst2
          replace c_paSecond0 := below_cell hb18 rfl c_paSecond0
          replace c_paSecond1 := below_cell hb18 rfl c_paSecond1
          replace c_paSecond2 := below_cell hb18 rfl c_paSecond2
          replace c_w00 := below_cell hb18 rfl c_w00
          replace c_w01 := below_cell hb18 rfl c_w01
          replace c_w02 := below_cell hb18 rfl c_w02
          replace c_x00 := below_cell hb18 rfl c_x00
          replace c_x01 := below_cell hb18 rfl c_x01
          replace c_x02 := below_cell hb18 rfl c_x02
          replace c_x10 := below_cell hb18 rfl c_x10
          replace c_x11 := below_cell hb18 rfl c_x11
          replace c_x12 := below_cell hb18 rfl c_x12
          replace c_g00 := below_cell hb18 rfl c_g00
          replace c_g01 := below_cell hb18 rfl c_g01
          replace c_g02 := below_cell hb18 rfl c_g02
          replace c_h00 := below_cell hb18 rfl c_h00
          replace c_h01 := below_cell hb18 rfl c_h01
          replace c_h02 := below_cell hb18 rfl c_h02
          have BB18 : Below w.heap.size w w18 := below_step BB17 hb18
          have ZZ18 : w17.heap.size ≤ w18.heap.size := by have := hb18.size; (try simp at this); omega
          clear LT17_0 LT17_1 LT17_2 LT17_3 LT17_4 LT17_5 LT17_6
          have LT18_0 : w.heap.size < w18.heap.size := World.block_lt_of_cell? w18 _ c_paFirst0
          have LT18_1 : w.heap.size + 1 < w18.heap.size := World.block_lt_of_cell? w18 _ c_paSecond0
          have LT18_2 : gw0 < w18.heap.size := World.block_lt_of_cell? w18 _ c_w00
          have LT18_3 : w4.heap.size < w18.heap.size := World.block_lt_of_cell? w18 _ c_x00
          have LT18_4 : w5.heap.size < w18.heap.size := World.block_lt_of_cell? w18 _ c_x10
          have LT18_5 : w6.heap.size < w18.heap.size := World.block_lt_of_cell? w18 _ c_g00
          have LT18_6 : gh0 < w18.heap.size := World.block_lt_of_cell? w18 _ c_h00
          clear hb18 BB17
          go_wp2_with fail
          refine (laws_heldTableau_any _ _ _ _ _ _ _ (Rd.of_own Og00.out) (Rd.of_own Og01.out) (by omega) (by omega) (by omega) (by omega)).mono ?_; rintro e w19 ⟨rfl, hb19⟩
          replace Ow00 := Lib.hid (show OwnE w19 (w.heap.size) 54 (.slice aw00 (((r.getD Tab.zero)).xs).length capw00) E3.cs 3 (((r.getD Tab.zero)).xs) from OwnE.below Ow00.out hb19 rfl)
          replace Ow01 := Lib.hid (show OwnE w19 (w.heap.size) 54 (.slice aw01 (((r.getD Tab.zero)).zs).length capw01) E3.cs 3 (((r.getD Tab.zero)).zs) from OwnE.below Ow01.out hb19 rfl)
          replace Ox00 := Lib.hid (show w19.ownsRow (w.heap.size) 54 3 (.slice ax00 ((d_aFirst).xs).length capx00) ((d_aFirst).xs).length (marks (1) (((d_aFirst).xs).length * 3)) from own_below Ox00.out hb19 rfl)
          replace Ox01 := Lib.hid (show w19.ownsRow (w.heap.size) 54 3 (.slice ax01 ((d_aFirst).zs).length capx01) ((d_aFirst).zs).length (marks (1 + ((((d_aFirst).xs).length * 3 : Nat) : Int)) (((d_aFirst).zs).length * 3)) from own_below Ox01.out hb19 rfl)
          replace Ox10 := Lib.hid (show w19.ownsRow (w.heap.size) 54 3 (.slice ax10 ((d_aSecond).xs).length capx10) ((d_aSecond).xs).length (marks (1 + ((((d_aFirst).xs).length * 3 : Nat) : Int) + ((((d_aFirst).zs).length * 3 : Nat) : Int)) (((d_aSecond).xs).length * 3)) from own_below Ox10.out hb19 rfl)
          replace Ox11 := Lib.hid (show w19.ownsRow (w.heap.size) 54 3 (.slice ax11 ((d_aSecond).zs).length capx11) ((d_aSecond).zs).length (marks (1 + ((((d_aFirst).xs).length * 3 : Nat) : Int) + ((((d_aFirst).zs).length * 3 : Nat) : Int) + ((((d_aSecond).xs).length * 3 : Nat) : Int)) (((d_aSecond).zs).length * 3)) from own_below Ox11.out hb19 rfl)
          replace Og00 := Lib.hid (show w19.ownsRow (w.heap.size) 54 3 (.slice ag00 (((r.getD Tab.zero)).xs).length capg00) (((r.getD Tab.zero)).xs).length (marks (1) ((((r.getD Tab.zero)).xs).length * 3)) from own_below Og00.out hb19 rfl)
          replace Og01 := Lib.hid (show w19.ownsRow (w.heap.size) 54 3 (.slice ag01 (((r.getD Tab.zero)).zs).length capg01) (((r.getD Tab.zero)).zs).length (marks (1 + (((((r.getD Tab.zero)).xs).length * 3 : Nat) : Int)) ((((r.getD Tab.zero)).zs).length * 3)) from own_below Og01.out hb19 rfl)
          replace Oh00 := Lib.hid (show OwnE w19 (w.heap.size) 54 (.slice ah00 (((r.getD Tab.zero)).xs).length caph00) E3.cs 3 (((r.getD Tab.zero)).xs) from OwnE.below Oh00.out hb19 rfl)
          replace Oh01 := Lib.hid (show OwnE w19 (w.heap.size) 54 (.slice ah01 (((r.getD Tab.zero)).zs).length caph01) E3.cs 3 (((r.getD Tab.zero)).zs) from OwnE.below Oh01.out hb19 rfl)
          replace c_paFirst0 := below_cell hb19 rfl c_paFirst0
          replace c_paFirst1 := below_cell hb19 rfl c_paFirst1
          replace c_paFirst2 := below_cell hb19 rfl c_paFirst2
          replace c_paSecond0 := below_cell hb19 rfl c_paSecond0
          replace c_paSecond1 := below_cell hb19 rfl c_paSecond1
          replace c_paSecond2 := below_cell hb19 rfl c_paSecond2
          replace c_w00 := below_cell hb19 rfl c_w00
          replace c_w01 := below_cell hb19 rfl c_w01
          replace c_w02 := below_cell hb19 rfl c_w02
          replace c_x00 := below_cell hb19 rfl c_x00
          replace c_x01 := below_cell hb19 rfl c_x01
          replace c_x02 := below_cell hb19 rfl c_x02
          replace c_x10 := below_cell hb19 rfl c_x10
          replace c_x11 := below_cell hb19 rfl c_x11
          replace c_x12 := below_cell hb19 rfl c_x12
          replace c_g00 := below_cell hb19 rfl c_g00
          replace c_g01 := below_cell hb19 rfl c_g01
          replace c_g02 := below_cell hb19 rfl c_g02
          replace c_h00 := below_cell hb19 rfl c_h00
          replace c_h01 := below_cell hb19 rfl c_h01
          replace c_h02 := below_cell hb19 rfl c_h02
          have BB19 : Below w.heap.size w w19 := below_step BB18 hb19
          have ZZ19 : w18.heap.size ≤ w19.heap.size := by have := hb19.size; (try simp at this); omega
          clear LT18_0 LT18_1 LT18_2 LT18_3 LT18_4 LT18_5 LT18_6
          have LT19_0 : w.heap.size < w19.heap.size := World.block_lt_of_cell? w19 _ c_paFirst0
          have LT19_1 : w.heap.size + 1 < w19.heap.size := World.block_lt_of_cell? w19 _ c_paSecond0
          have LT19_2 : gw0 < w19.heap.size := World.block_lt_of_cell? w19 _ c_w00
          have LT19_3 : w4.heap.size < w19.heap.size := World.block_lt_of_cell? w19 _ c_x00
          have LT19_4 : w5.heap.size < w19.heap.size := World.block_lt_of_cell? w19 _ c_x10
          have LT19_5 : w6.heap.size < w19.heap.size := World.block_lt_of_cell? w19 _ c_g00
          have LT19_6 : gh0 < w19.heap.size := World.block_lt_of_cell? w19 _ c_h00
          clear hb19 BB18
          have hne19 : ¬ (1 + (((((r.getD Tab.zero)).xs).length * 3 : Nat) : Int) + (((((r.getD Tab.zero)).zs).length * 3 : Nat) : Int) : Int) < 0 := by omega
          go_wp2_with fail
          go_ret
          exact ⟨rfl, BB19⟩
    · skip
      have BB0 := Below.refl w.heap.size w
      go_enter Try.func5, Try.ntmps5
      go_wp2_with fail
      have BP0 := Lib.hid (show Below w.heap.size w ((w.alloc (.cells #[.int .i64 ((d_aFirst).n), .slice a_aFirst0 ((d_aFirst).xs).length cap_aFirst0, .slice a_aFirst1 ((d_aFirst).zs).length cap_aFirst1] 32)).alloc (.cells #[.int .i64 ((d_aSecond).n), .slice a_aSecond0 ((d_aSecond).xs).length cap_aSecond0, .slice a_aSecond1 ((d_aSecond).zs).length cap_aSecond1] 32)) from (by repeat (first | exact Below.refl _ _ | assumption | refine Below.drew ?_ | refine below_drewN ?_ _ | refine Below.alloc ?_ (by first | omega | (simp <;> omega)) _ | refine Below.setCell ?_ (by first | omega | (simp <;> omega)) _ | refine Below.trans ?_ (Below.mono (by assumption) (by first | omega | (simp <;> omega))))))
      have c_paFirst0 : ((w.alloc (.cells #[.int .i64 ((d_aFirst).n), .slice a_aFirst0 ((d_aFirst).xs).length cap_aFirst0, .slice a_aFirst1 ((d_aFirst).zs).length cap_aFirst1] 32)).alloc (.cells #[.int .i64 ((d_aSecond).n), .slice a_aSecond0 ((d_aSecond).xs).length cap_aSecond0, .slice a_aSecond1 ((d_aSecond).zs).length cap_aSecond1] 32)).cell? ⟨w.heap.size, 0, none⟩ = some (.int .i64 ((d_aFirst).n)) := (by repeat (first | (refine Eq.trans (World.cell?_alloc_at _ _ _ _ ?hh) ?_; (case hh => (simp; done)); rfl) | refine cell_alloc_keep _ ?_))
      have c_paFirst1 : ((w.alloc (.cells #[.int .i64 ((d_aFirst).n), .slice a_aFirst0 ((d_aFirst).xs).length cap_aFirst0, .slice a_aFirst1 ((d_aFirst).zs).length cap_aFirst1] 32)).alloc (.cells #[.int .i64 ((d_aSecond).n), .slice a_aSecond0 ((d_aSecond).xs).length cap_aSecond0, .slice a_aSecond1 ((d_aSecond).zs).length cap_aSecond1] 32)).cell? ⟨w.heap.size, 1, none⟩ = some (.slice a_aFirst0 ((d_aFirst).xs).length cap_aFirst0) := (by repeat (first | (refine Eq.trans (World.cell?_alloc_at _ _ _ _ ?hh) ?_; (case hh => (simp; done)); rfl) | refine cell_alloc_keep _ ?_))
      have c_paFirst2 : ((w.alloc (.cells #[.int .i64 ((d_aFirst).n), .slice a_aFirst0 ((d_aFirst).xs).length cap_aFirst0, .slice a_aFirst1 ((d_aFirst).zs).length cap_aFirst1] 32)).alloc (.cells #[.int .i64 ((d_aSecond).n), .slice a_aSecond0 ((d_aSecond).xs).length cap_aSecond0, .slice a_aSecond1 ((d_aSecond).zs).length cap_aSecond1] 32)).cell? ⟨w.heap.size, 2, none⟩ = some (.slice a_aFirst1 ((d_aFirst).zs).length cap_aFirst1) := (by repeat (first | (refine Eq.trans (World.cell?_alloc_at _ _ _ _ ?hh) ?_; (case hh => (simp; done)); rfl) | refine cell_alloc_keep _ ?_))
      have c_paSecond0 : ((w.alloc (.cells #[.int .i64 ((d_aFirst).n), .slice a_aFirst0 ((d_aFirst).xs).length cap_aFirst0, .slice a_aFirst1 ((d_aFirst).zs).length cap_aFirst1] 32)).alloc (.cells #[.int .i64 ((d_aSecond).n), .slice a_aSecond0 ((d_aSecond).xs).length cap_aSecond0, .slice a_aSecond1 ((d_aSecond).zs).length cap_aSecond1] 32)).cell? ⟨w.heap.size + 1, 0, none⟩ = some (.int .i64 ((d_aSecond).n)) := (by repeat (first | (refine Eq.trans (World.cell?_alloc_at _ _ _ _ ?hh) ?_; (case hh => (simp; done)); rfl) | refine cell_alloc_keep _ ?_))
      have c_paSecond1 : ((w.alloc (.cells #[.int .i64 ((d_aFirst).n), .slice a_aFirst0 ((d_aFirst).xs).length cap_aFirst0, .slice a_aFirst1 ((d_aFirst).zs).length cap_aFirst1] 32)).alloc (.cells #[.int .i64 ((d_aSecond).n), .slice a_aSecond0 ((d_aSecond).xs).length cap_aSecond0, .slice a_aSecond1 ((d_aSecond).zs).length cap_aSecond1] 32)).cell? ⟨w.heap.size + 1, 1, none⟩ = some (.slice a_aSecond0 ((d_aSecond).xs).length cap_aSecond0) := (by repeat (first | (refine Eq.trans (World.cell?_alloc_at _ _ _ _ ?hh) ?_; (case hh => (simp; done)); rfl) | refine cell_alloc_keep _ ?_))
      have c_paSecond2 : ((w.alloc (.cells #[.int .i64 ((d_aFirst).n), .slice a_aFirst0 ((d_aFirst).xs).length cap_aFirst0, .slice a_aFirst1 ((d_aFirst).zs).length cap_aFirst1] 32)).alloc (.cells #[.int .i64 ((d_aSecond).n), .slice a_aSecond0 ((d_aSecond).xs).length cap_aSecond0, .slice a_aSecond1 ((d_aSecond).zs).length cap_aSecond1] 32)).cell? ⟨w.heap.size + 1, 2, none⟩ = some (.slice a_aSecond1 ((d_aSecond).zs).length cap_aSecond1) := (by repeat (first | (refine Eq.trans (World.cell?_alloc_at _ _ _ _ ?hh) ?_; (case hh => (simp; done)); rfl) | refine cell_alloc_keep _ ?_))
      refine (laws_szTableau_ok d_aFirst _ _ _ _ (Rd.below HA_aFirst0.out (below_step BB0 BP0.out) rfl) (Rd.below HA_aFirst1.out (below_step BB0 BP0.out) rfl) (by omega) (by omega)).mono ?_; rintro e w1 ⟨rfl, hb1⟩
      replace c_paFirst0 := below_cell hb1 rfl c_paFirst0
      replace c_paFirst1 := below_cell hb1 rfl c_paFirst1
      replace c_paFirst2 := below_cell hb1 rfl c_paFirst2
      replace c_paSecond0 := below_cell hb1 rfl c_paSecond0
      replace c_paSecond1 := below_cell hb1 rfl c_paSecond1
      replace c_paSecond2 := below_cell hb1 rfl c_paSecond2
      have BB1 : Below w.heap.size w w1 := below_step (below_step BB0 BP0.out) hb1
      have ZZ1 : w.heap.size + 2 ≤ w1.heap.size := by have := hb1.size; (try simp at this); omega
      clear BP0
      have LT1_0 : w.heap.size < w1.heap.size := World.block_lt_of_cell? w1 _ c_paFirst0
      have LT1_1 : w.heap.size + 1 < w1.heap.size := World.block_lt_of_cell? w1 _ c_paSecond0
      clear hb1 BB0
      go_wp2_with fail
      refine (laws_szTableau_no d_aSecond _ _ _ _ (Rd.below HA_aSecond0.out BB1 rfl) (Rd.below HA_aSecond1.out BB1 rfl) (by omega) (by omega) (by omega)).mono ?_; rintro e w2 ⟨rfl, hb2⟩
      replace c_paFirst0 := below_cell hb2 rfl c_paFirst0
      replace c_paFirst1 := below_cell hb2 rfl c_paFirst1
      replace c_paFirst2 := below_cell hb2 rfl c_paFirst2
      replace c_paSecond0 := below_cell hb2 rfl c_paSecond0
      replace c_paSecond1 := below_cell hb2 rfl c_paSecond1
      replace c_paSecond2 := below_cell hb2 rfl c_paSecond2
      have BB2 : Below w.heap.size w w2 := below_step BB1 hb2
      have ZZ2 : w1.heap.size ≤ w2.heap.size := by have := hb2.size; (try simp at this); omega
      clear LT1_0 LT1_1
      have LT2_0 : w.heap.size < w2.heap.size := World.block_lt_of_cell? w2 _ c_paFirst0
      have LT2_1 : w.heap.size + 1 < w2.heap.size := World.block_lt_of_cell? w2 _ c_paSecond0
      clear hb2 BB1
      go_wp2_with fail
      go_ret
      exact ⟨rfl, BB2⟩
  · skip
    have BB0 := Below.refl w.heap.size w
    go_enter Try.func5, Try.ntmps5
    go_wp2_with fail
    have BP0 := Lib.hid (show Below w.heap.size w ((w.alloc (.cells #[.int .i64 ((d_aFirst).n), .slice a_aFirst0 ((d_aFirst).xs).length cap_aFirst0, .slice a_aFirst1 ((d_aFirst).zs).length cap_aFirst1] 32)).alloc (.cells #[.int .i64 ((d_aSecond).n), .slice a_aSecond0 ((d_aSecond).xs).length cap_aSecond0, .slice a_aSecond1 ((d_aSecond).zs).length cap_aSecond1] 32)) from (by repeat (first | exact Below.refl _ _ | assumption | refine Below.drew ?_ | refine below_drewN ?_ _ | refine Below.alloc ?_ (by first | omega | (simp <;> omega)) _ | refine Below.setCell ?_ (by first | omega | (simp <;> omega)) _ | refine Below.trans ?_ (Below.mono (by assumption) (by first | omega | (simp <;> omega))))))
    have c_paFirst0 : ((w.alloc (.cells #[.int .i64 ((d_aFirst).n), .slice a_aFirst0 ((d_aFirst).xs).length cap_aFirst0, .slice a_aFirst1 ((d_aFirst).zs).length cap_aFirst1] 32)).alloc (.cells #[.int .i64 ((d_aSecond).n), .slice a_aSecond0 ((d_aSecond).xs).length cap_aSecond0, .slice a_aSecond1 ((d_aSecond).zs).length cap_aSecond1] 32)).cell? ⟨w.heap.size, 0, none⟩ = some (.int .i64 ((d_aFirst).n)) := (by repeat (first | (refine Eq.trans (World.cell?_alloc_at _ _ _ _ ?hh) ?_; (case hh => (simp; done)); rfl) | refine cell_alloc_keep _ ?_))
    have c_paFirst1 : ((w.alloc (.cells #[.int .i64 ((d_aFirst).n), .slice a_aFirst0 ((d_aFirst).xs).length cap_aFirst0, .slice a_aFirst1 ((d_aFirst).zs).length cap_aFirst1] 32)).alloc (.cells #[.int .i64 ((d_aSecond).n), .slice a_aSecond0 ((d_aSecond).xs).length cap_aSecond0, .slice a_aSecond1 ((d_aSecond).zs).length cap_aSecond1] 32)).cell? ⟨w.heap.size, 1, none⟩ = some (.slice a_aFirst0 ((d_aFirst).xs).length cap_aFirst0) := (by repeat (first | (refine Eq.trans (World.cell?_alloc_at _ _ _ _ ?hh) ?_; (case hh => (simp; done)); rfl) | refine cell_alloc_keep _ ?_))
    have c_paFirst2 : ((w.alloc (.cells #[.int .i64 ((d_aFirst).n), .slice a_aFirst0 ((d_aFirst).xs).length cap_aFirst0, .slice a_aFirst1 ((d_aFirst).zs).length cap_aFirst1] 32)).alloc (.cells #[.int .i64 ((d_aSecond).n), .slice a_aSecond0 ((d_aSecond).xs).length cap_aSecond0, .slice a_aSecond1 ((d_aSecond).zs).length cap_aSecond1] 32)).cell? ⟨w.heap.size, 2, none⟩ = some (.slice a_aFirst1 ((d_aFirst).zs).length cap_aFirst1) := (by repeat (first | (refine Eq.trans (World.cell?_alloc_at _ _ _ _ ?hh) ?_; (case hh => (simp; done)); rfl) | refine cell_alloc_keep _ ?_))
    have c_paSecond0 : ((w.alloc (.cells #[.int .i64 ((d_aFirst).n), .slice a_aFirst0 ((d_aFirst).xs).length cap_aFirst0, .slice a_aFirst1 ((d_aFirst).zs).length cap_aFirst1] 32)).alloc (.cells #[.int .i64 ((d_aSecond).n), .slice a_aSecond0 ((d_aSecond).xs).length cap_aSecond0, .slice a_aSecond1 ((d_aSecond).zs).length cap_aSecond1] 32)).cell? ⟨w.heap.size + 1, 0, none⟩ = some (.int .i64 ((d_aSecond).n)) := (by repeat (first | (refine Eq.trans (World.cell?_alloc_at _ _ _ _ ?hh) ?_; (case hh => (simp; done)); rfl) | refine cell_alloc_keep _ ?_))
    have c_paSecond1 : ((w.alloc (.cells #[.int .i64 ((d_aFirst).n), .slice a_aFirst0 ((d_aFirst).xs).length cap_aFirst0, .slice a_aFirst1 ((d_aFirst).zs).length cap_aFirst1] 32)).alloc (.cells #[.int .i64 ((d_aSecond).n), .slice a_aSecond0 ((d_aSecond).xs).length cap_aSecond0, .slice a_aSecond1 ((d_aSecond).zs).length cap_aSecond1] 32)).cell? ⟨w.heap.size + 1, 1, none⟩ = some (.slice a_aSecond0 ((d_aSecond).xs).length cap_aSecond0) := (by repeat (first | (refine Eq.trans (World.cell?_alloc_at _ _ _ _ ?hh) ?_; (case hh => (simp; done)); rfl) | refine cell_alloc_keep _ ?_))
    have c_paSecond2 : ((w.alloc (.cells #[.int .i64 ((d_aFirst).n), .slice a_aFirst0 ((d_aFirst).xs).length cap_aFirst0, .slice a_aFirst1 ((d_aFirst).zs).length cap_aFirst1] 32)).alloc (.cells #[.int .i64 ((d_aSecond).n), .slice a_aSecond0 ((d_aSecond).xs).length cap_aSecond0, .slice a_aSecond1 ((d_aSecond).zs).length cap_aSecond1] 32)).cell? ⟨w.heap.size + 1, 2, none⟩ = some (.slice a_aSecond1 ((d_aSecond).zs).length cap_aSecond1) := (by repeat (first | (refine Eq.trans (World.cell?_alloc_at _ _ _ _ ?hh) ?_; (case hh => (simp; done)); rfl) | refine cell_alloc_keep _ ?_))
    refine (laws_szTableau_no d_aFirst _ _ _ _ (Rd.below HA_aFirst0.out (below_step BB0 BP0.out) rfl) (Rd.below HA_aFirst1.out (below_step BB0 BP0.out) rfl) (by omega) (by omega) (by omega)).mono ?_; rintro e w1 ⟨rfl, hb1⟩
    replace c_paFirst0 := below_cell hb1 rfl c_paFirst0
    replace c_paFirst1 := below_cell hb1 rfl c_paFirst1
    replace c_paFirst2 := below_cell hb1 rfl c_paFirst2
    replace c_paSecond0 := below_cell hb1 rfl c_paSecond0
    replace c_paSecond1 := below_cell hb1 rfl c_paSecond1
    replace c_paSecond2 := below_cell hb1 rfl c_paSecond2
    have BB1 : Below w.heap.size w w1 := below_step (below_step BB0 BP0.out) hb1
    have ZZ1 : w.heap.size + 2 ≤ w1.heap.size := by have := hb1.size; (try simp at this); omega
    clear BP0
    have LT1_0 : w.heap.size < w1.heap.size := World.block_lt_of_cell? w1 _ c_paFirst0
    have LT1_1 : w.heap.size + 1 < w1.heap.size := World.block_lt_of_cell? w1 _ c_paSecond0
    clear hb1 BB0
    go_wp2_with fail
    go_ret
    exact ⟨rfl, BB1⟩
end Go.Proofs.Ytpeodfiapofagaa
