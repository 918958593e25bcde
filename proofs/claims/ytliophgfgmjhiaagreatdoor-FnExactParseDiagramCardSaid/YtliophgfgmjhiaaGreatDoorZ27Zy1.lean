/- The text of a diagram: the reference. -/
import Derived.Test.YtliophgfgmjhiaaGreatDoorZ23Zx9
import Derived.Test.YtliophgfgmjhiaaGreatDoorZ06Zx4
import Derived.Test.YtliophgfgmjhiaaGreatDoorZ04Brk
import Derived.BigRegion
import Derived.BigQuiet
import Derived.Deep.DeepCutAuto
namespace Go.Proofs.YtliophgfgmjhiaaGreatDoor
set_option linter.unusedSimpArgs false
set_option linter.unusedVariables false
set_option linter.unnecessarySimpa false
set_option maxRecDepth 200000
open Go.ChangeShapes Go.WideShapes Go.ChangeAt Go.RowKit

theorem spec_l1Int_any (n : Int) (w : World) (h0 : -100 < n) (h1 : n < 100) : Calls Tryz.prog 44 #[.int .i64 n] w fun e w' => e = .returned (.string (intB n)) ∧ Below w.heap.size w w' := by
  by_cases hn : n < 0
  · obtain ⟨k, hk⟩ : ∃ k : Nat, n = -(k : Int) := ⟨(-n).toNat, by omega⟩
    have hlt : k < 100 := by omega
    have HR := Lib.hid (show ⟨#[45]⟩ ++ numB k = intB n from by unfold intB; rw [if_pos hn, hk]; simp)
    subst hk
    have hw : IntKind.i64.wrap (k : Int) = (k : Int) := IntWalk.i64_in _ (by omega)
    have hsz := num_size hlt
    have k5 : ¬ 9223372036854775807 < 1 + (numB k).size := by omega
    obtain ⟨R, hR⟩ : ∃ R, R = intB (-(k : Int)) := ⟨_, rfl⟩
    rw [← hR] at HR ⊢
    clear hR
    go_enter Tryz.func44, Tryz.ntmps44
    go_wp2_with fail
    refine (spec_l1Num_any k _ hlt).mono ?_; rintro e w1 ⟨rfl, hb1⟩
    go_wp2_with fail
    go_ret
    exact ⟨ret_str HR.out, hb1⟩
  · obtain ⟨k, rfl⟩ : ∃ k : Nat, n = (k : Int) := ⟨n.toNat, by omega⟩
    have hlt : k < 100 := by omega
    have HR := Lib.hid (show numB k = intB (k : Int) from by unfold intB; rw [if_neg hn]; rfl)
    have i0 : ¬ (k : Int) < 0 := by omega
    obtain ⟨R, hR⟩ : ∃ R, R = intB (k : Int) := ⟨_, rfl⟩
    rw [← hR] at HR ⊢
    clear hR hn
    go_enter Tryz.func44, Tryz.ntmps44
    go_wp2_with fail
    refine (spec_l1Num_any k _ hlt).mono ?_; rintro e w1 ⟨rfl, hb1⟩
    go_wp2_with fail
    go_ret
    exact ⟨ret_str HR.out, hb1⟩
theorem conv_z (b : UInt8) {W : World} {g : Nat} {z : Int} (hc : W.cell? ⟨g, 0, none⟩ = some (.int .u8 z)) (hz : z = (b.toNat : Int)) : (Sem.run Tryz.prog (convert 73 9 (Value.slice (some { block := g, off := 0 }) 1 1)) W) = .ok (.string ⟨#[b]⟩) W := by
  subst hz
  exact run_convert_bytes_back (P := Tryz.prog) _ 73 9 5 ⟨g, 0, none⟩ 1 [b] Tryz.underlying73 Tryz.underlying5 Tryz.underlying9 (fun j hj => by
    have h0 : j = 0 := by simpa using hj
    subst h0
    simp only [List.getElem_cons_zero]
    exact hc)
set_option maxHeartbeats 16000000 in
theorem spec_l16Text_any (d : Dia) (v0 v1 : Value) (w : World) (h0 : RdE w v0 E2.cs 2 d.ns) (h1 : RdE w v1 EW.cs 3 d.ws) (n1 : d.ws.length ≤ 2097152) (hg : GoodS d) :
    Calls Tryz.prog 27 #[.agg #[.int .i64 d.n, v0, v1, .int .i64 d.turn, .int .i64 d.root]] w fun e w' => e = .returned (.string (diaT d)) ∧ Below w.heap.size w w' := by
  obtain ⟨A, c, rfl, HN⟩ := e2_at h0
  obtain ⟨A1, c1, rfl, HW⟩ := eW_at h1
  clear h0 h1
  have HG := Lib.hid hg
  obtain ⟨h1, h2, h3, h4⟩ := hg.1
  clear hg
  obtain ⟨n, hn⟩ : ∃ n : Nat, d.n = (n : Int) := ⟨d.n.toNat, by omega⟩
  obtain ⟨u, hu⟩ : ∃ n : Nat, d.turn = (n : Int) := ⟨d.turn.toNat, by omega⟩
  obtain ⟨r, hr⟩ : ∃ r, r = d.root := ⟨_, rfl⟩
  have HHZ := Lib.hid (show headZ d = numB n ++ ⟨#[59]⟩ ++ numB u ++ ⟨#[59]⟩ ++ intB r ++ ⟨#[59]⟩ from by unfold headZ; rw [hn, hu, hr]; rfl)
  have ln : n < 100 := by omega
  have lu : u < 100 := by omega
  have lr0 : -100 < r := by omega
  have lr1 : r < 100 := by omega
  have s1 := num_size ln
  have s2 := num_size lu
  have s3 := int_size lr0 lr1
  have k1 : ¬ 9223372036854775807 < (numB n).size + 1 := by omega
  have k2 : ¬ 9223372036854775807 < (numB n).size + 1 + (numB u).size := by omega
  have k3 : ¬ 9223372036854775807 < (numB n).size + 1 + (numB u).size + 1 := by omega
  have k4 : ¬ 9223372036854775807 < (numB n).size + 1 + (numB u).size + 1 + (intB r).size := by omega
  have k5 : ¬ 9223372036854775807 < (numB n).size + 1 + (numB u).size + 1 + (intB r).size + 1 := by omega
  rw [hn, hu, ← hr]
  clear h1 h3 h4 hn hu hr
  go_enter Tryz.func27, Tryz.ntmps27
  go_upto_region 1 with fail
  obtain ⟨W, hW⟩ : ∃ W, W = (w.alloc (.cells #[.int .i64 (n : Int), .slice A d.ns.length c, .slice A1 d.ws.length c1, .int .i64 (u : Int), .int .i64 r] 25)) := ⟨_, rfl⟩
  have x0 : W.drew.cell? ⟨w.heap.size, 0, none⟩ = some (.int .i64 (n : Int)) := by rw [hW]; exact (by repeat (first | (refine Eq.trans (World.cell?_alloc_at _ _ _ _ ?hh) ?_; (case hh => (simp; done)); rfl) | refine cell_alloc_keep _ ?_ | refine cell_drew ?_ | refine below_cell (by assumption) rfl ?_))
  have x1 : W.drew.cell? ⟨w.heap.size, 1, none⟩ = some (.slice A d.ns.length c) := by rw [hW]; exact (by repeat (first | (refine Eq.trans (World.cell?_alloc_at _ _ _ _ ?hh) ?_; (case hh => (simp; done)); rfl) | refine cell_alloc_keep _ ?_ | refine cell_drew ?_ | refine below_cell (by assumption) rfl ?_))
  have x2 : W.drew.cell? ⟨w.heap.size, 2, none⟩ = some (.slice A1 d.ws.length c1) := by rw [hW]; exact (by repeat (first | (refine Eq.trans (World.cell?_alloc_at _ _ _ _ ?hh) ?_; (case hh => (simp; done)); rfl) | refine cell_alloc_keep _ ?_ | refine cell_drew ?_ | refine below_cell (by assumption) rfl ?_))
  have x3 : W.drew.cell? ⟨w.heap.size, 3, none⟩ = some (.int .i64 (u : Int)) := by rw [hW]; exact (by repeat (first | (refine Eq.trans (World.cell?_alloc_at _ _ _ _ ?hh) ?_; (case hh => (simp; done)); rfl) | refine cell_alloc_keep _ ?_ | refine cell_drew ?_ | refine below_cell (by assumption) rfl ?_))
  have x4 : W.drew.cell? ⟨w.heap.size, 4, none⟩ = some (.int .i64 r) := by rw [hW]; exact (by repeat (first | (refine Eq.trans (World.cell?_alloc_at _ _ _ _ ?hh) ?_; (case hh => (simp; done)); rfl) | refine cell_alloc_keep _ ?_ | refine cell_drew ?_ | refine below_cell (by assumption) rfl ?_))
  have BW := Lib.hid (show Below w.heap.size w W.drew from by rw [hW]; exact (by repeat (first | exact Below.refl _ _ | assumption | refine Below.drew ?_ | refine below_drewN ?_ _ | refine Below.alloc ?_ (by first | omega | (simp <;> omega)) _ | refine Below.setCell ?_ (by first | omega | (simp <;> omega)) _ | refine Below.trans ?_ (Below.mono (by assumption) (by first | omega | (simp <;> omega))))))
  have zW : w.heap.size + 1 ≤ W.drew.heap.size := by rw [hW]; simp
  rw [← hW]
  clear hW
  refine AnyB.begin (S := (fun w' => w'.cell? ⟨w.heap.size, 0, none⟩ = some (.int .i64 (n : Int)) ∧ w'.cell? ⟨w.heap.size, 3, none⟩ = some (.int .i64 (u : Int)) ∧ w'.cell? ⟨w.heap.size, 4, none⟩ = some (.int .i64 r))) [] (by kernel_rfl) ?_ (fun hHeld0 => ?_)
  · ((try dsimp only); (first | exact ⟨x0, x3, x4⟩))
  refine AnyB.takeQ (i := 0) (oi := _) (v := ?_) (by simp only [List.getElem?_toArray, List.getElem?_cons_zero, List.getElem?_cons_succ]; rfl) (by kernel_rfl) (by kernel_rfl) (by kernel_rfl) (by intro _ _ _ h; exact h) (Or.inl ⟨by rfl, ?_⟩) ?_
  rotate_left
  · (intro w hSw; (try dsimp only at hSw); go_simp; (try (with_reducible rfl)))
  try simp only [Act.put, List.setIfInBounds_toArray, List.set_cons_zero, List.set_cons_succ]
  refine AnyB.take (i := 1) (oi := _) (v := ?_) (by simp only [List.getElem?_toArray, List.getElem?_cons_zero, List.getElem?_cons_succ]; rfl) (by kernel_rfl) (by kernel_rfl) (by kernel_rfl) (by kernel_rfl) (by kernel_rfl) (by intro _ _ _ h; exact h) (Or.inl ⟨by rfl, ?_⟩) (by assumption) ?_
  rotate_left
  · (intro w hSw; (try dsimp only at hSw); go_simp; (try (with_reducible rfl)))
  try simp only [Act.put, List.setIfInBounds_toArray, List.set_cons_zero, List.set_cons_succ]
  refine AnyB.takeQ (i := 4) (oi := _) (v := ?_) (by simp only [List.getElem?_toArray, List.getElem?_cons_zero, List.getElem?_cons_succ]; rfl) (by kernel_rfl) (by kernel_rfl) (by kernel_rfl) (by intro _ _ _ h; exact h) (Or.inl ⟨by rfl, ?_⟩) ?_
  rotate_left
  · (intro w hSw; (try dsimp only at hSw); go_simp; (try (with_reducible rfl)))
  try simp only [Act.put, List.setIfInBounds_toArray, List.set_cons_zero, List.set_cons_succ]
  refine AnyB.take (i := 5) (oi := _) (v := ?_) (by simp only [List.getElem?_toArray, List.getElem?_cons_zero, List.getElem?_cons_succ]; rfl) (by kernel_rfl) (by kernel_rfl) (by kernel_rfl) (by kernel_rfl) (by kernel_rfl) (by intro _ _ _ h; exact h) (Or.inl ⟨by rfl, ?_⟩) (by assumption) ?_
  rotate_left
  · (intro w hSw; (try dsimp only at hSw); go_simp; (try (with_reducible rfl)))
  try simp only [Act.put, List.setIfInBounds_toArray, List.set_cons_zero, List.set_cons_succ]
  refine AnyB.takeQ (i := 9) (oi := _) (v := ?_) (by simp only [List.getElem?_toArray, List.getElem?_cons_zero, List.getElem?_cons_succ]; rfl) (by kernel_rfl) (by kernel_rfl) (by kernel_rfl) (by intro _ _ _ h; exact h) (Or.inl ⟨by rfl, ?_⟩) ?_
  rotate_left
  · (intro w hSw; (try dsimp only at hSw); go_simp; (try (with_reducible rfl)))
  try simp only [Act.put, List.setIfInBounds_toArray, List.set_cons_zero, List.set_cons_succ]
  refine AnyB.take (i := 10) (oi := _) (v := ?_) (by simp only [List.getElem?_toArray, List.getElem?_cons_zero, List.getElem?_cons_succ]; rfl) (by kernel_rfl) (by kernel_rfl) (by kernel_rfl) (by kernel_rfl) (by kernel_rfl) (by intro _ _ _ h; exact h) (Or.inl ⟨by rfl, ?_⟩) (by assumption) ?_
  rotate_left
  · (intro w hSw; (try dsimp only at hSw); go_simp; (try (with_reducible rfl)))
  try simp only [Act.put, List.setIfInBounds_toArray, List.set_cons_zero, List.set_cons_succ]
  refine AnyB.each (rs := [2]) (by kernel_rfl) (by simp) ?_
  refine EachB.cons rfl (fun K hK hB => ?_) ?_
  · skip
    (go_simp; go_at_call 43; refine (spec_l1Num_any n _ ln).mono ?_; rintro e w2 ⟨rfl, hbb⟩; replace x0 := bel_zx hbb x0; replace x1 := bel_zx hbb x1; replace x2 := bel_zx hbb x2; replace x3 := bel_zx hbb x3; replace x4 := bel_zx hbb x4; replace BW := Lib.hid (below_step BW.out hbb); replace zW := Nat.le_trans zW hbb.size; clear hbb; dsimp only)
    refine hK.out _ _ ?_ (fun hHeld1 => ?_)
    · ((try dsimp only); (first | exact ⟨x0, x3, x4⟩))
    clear hB hK K hHeld0
    refine AnyB.takeQ (i := 3) (oi := _) (v := ?_) (by simp only [List.getElem?_toArray, List.getElem?_cons_zero, List.getElem?_cons_succ]; rfl) (by kernel_rfl) (by kernel_rfl) (by kernel_rfl) (by intro _ _ _ h; exact h) (Or.inl ⟨by rfl, ?_⟩) ?_
    rotate_left
    · (intro w hSw; (try dsimp only at hSw); go_simp; (try (with_reducible rfl)))
    try simp only [Act.put, List.setIfInBounds_toArray, List.set_cons_zero, List.set_cons_succ]
    refine AnyB.each (rs := [6]) (by kernel_rfl) (by simp) ?_
    refine EachB.cons rfl (fun K hK hB => ?_) ?_
    · skip
      (go_simp; go_at_call 43; refine (spec_l1Num_any u _ lu).mono ?_; rintro e w2 ⟨rfl, hbb⟩; replace x0 := bel_zx hbb x0; replace x1 := bel_zx hbb x1; replace x2 := bel_zx hbb x2; replace x3 := bel_zx hbb x3; replace x4 := bel_zx hbb x4; replace BW := Lib.hid (below_step BW.out hbb); replace zW := Nat.le_trans zW hbb.size; clear hbb; dsimp only)
      refine hK.out _ _ ?_ (fun hHeld2 => ?_)
      · ((try dsimp only); (first | exact ⟨x0, x3, x4⟩))
      clear hB hK K hHeld1
      refine AnyB.takeQ (i := 7) (oi := _) (v := ?_) (by simp only [List.getElem?_toArray, List.getElem?_cons_zero, List.getElem?_cons_succ]; rfl) (by kernel_rfl) (by kernel_rfl) (by kernel_rfl) (by intro _ _ _ h; exact h) (Or.inl ⟨by rfl, ?_⟩) ?_
      rotate_left
      · (intro w hSw; (try dsimp only at hSw); go_simp; (try (with_reducible rfl)))
      try simp only [Act.put, List.setIfInBounds_toArray, List.set_cons_zero, List.set_cons_succ]
      refine AnyB.takeQ (i := 8) (oi := _) (v := ?_) (by simp only [List.getElem?_toArray, List.getElem?_cons_zero, List.getElem?_cons_succ]; rfl) (by kernel_rfl) (by kernel_rfl) (by kernel_rfl) (by intro _ _ _ h; exact h) (Or.inl ⟨by rfl, ?_⟩) ?_
      rotate_left
      · (intro w hSw; (try dsimp only at hSw); go_simp; (try (with_reducible rfl)))
      try simp only [Act.put, List.setIfInBounds_toArray, List.set_cons_zero, List.set_cons_succ]
      refine AnyB.each (rs := [11]) (by kernel_rfl) (by simp) ?_
      refine EachB.cons rfl (fun K hK hB => ?_) ?_
      · skip
        (go_simp; go_at_call 44; refine (spec_l1Int_any r _ lr0 lr1).mono ?_; rintro e w2 ⟨rfl, hbb⟩; replace x0 := bel_zx hbb x0; replace x1 := bel_zx hbb x1; replace x2 := bel_zx hbb x2; replace x3 := bel_zx hbb x3; replace x4 := bel_zx hbb x4; replace BW := Lib.hid (below_step BW.out hbb); replace zW := Nat.le_trans zW hbb.size; clear hbb; dsimp only)
        refine hK.out _ _ ?_ (fun hHeld3 => ?_)
        · ((try dsimp only); (first | exact ⟨x0, x3, x4⟩))
        clear hB hK K hHeld2
        refine AnyB.takeQ (i := 12) (oi := _) (v := ?_) (by simp only [List.getElem?_toArray, List.getElem?_cons_zero, List.getElem?_cons_succ]; rfl) (by kernel_rfl) (by kernel_rfl) (by kernel_rfl) (by intro _ _ _ h; exact h) (Or.inl ⟨by rfl, ?_⟩) ?_
        rotate_left
        · (intro w hSw; (try dsimp only at hSw); go_simp; (try (with_reducible rfl)))
        try simp only [Act.put, List.setIfInBounds_toArray, List.set_cons_zero, List.set_cons_succ]
        refine AnyB.takeQ (i := 13) (oi := _) (v := ?_) (by simp only [List.getElem?_toArray, List.getElem?_cons_zero, List.getElem?_cons_succ]; rfl) (by kernel_rfl) (by kernel_rfl) (by kernel_rfl) (by intro _ _ _ h; exact h) (Or.inl ⟨by rfl, ?_⟩) ?_
        rotate_left
        · (intro w hSw; (try dsimp only at hSw); go_simp; (try (with_reducible rfl)))
        try simp only [Act.put, List.setIfInBounds_toArray, List.set_cons_zero, List.set_cons_succ]
        refine AnyB.takeQ (i := 14) (oi := _) (v := ?_) (by simp only [List.getElem?_toArray, List.getElem?_cons_zero, List.getElem?_cons_succ]; rfl) (by kernel_rfl) (by kernel_rfl) (by kernel_rfl) (by intro _ _ _ h; exact h) (Or.inl ⟨by rfl, ?_⟩) ?_
        rotate_left
        · (intro w hSw; (try dsimp only at hSw); go_simp; (try (with_reducible rfl)))
        try simp only [Act.put, List.setIfInBounds_toArray, List.set_cons_zero, List.set_cons_succ]
        refine AnyB.none (by kernel_rfl) ?_ _
        rw [← HHZ.out]
        clear x0 x3 x4 k1 k2 k3 k4 k5 s1 s2 s3
        obtain ⟨wA, hwA⟩ : ∃ wA : World, wA = w2 := ⟨_, rfl⟩
        have zA : Hid (w.heap.size + 1 ≤ wA.heap.size) := (show _ ≤ _ by rw [hwA]; exact zW)
        clear hwA zA wA
        have HB0 := Lib.hid (acc_0 (headZ d) (d.ns.map nodeT))
        obtain ⟨hz0, hhz0⟩ : ∃ z, z = headZ d := ⟨_, rfl⟩
        rw [← hhz0]
        rw [← hhz0] at HB0
        have HHZ0 := Lib.hid hhz0
        clear hhz0 HHZ
        go_wp2_with fail
        go_loopw [3, 26] (fun ss si wr => ∃ k : Nat, k ≤ d.ns.length ∧ ss = .string (accT hz0 (d.ns.map nodeT) k) ∧ si = .int .i64 k ∧ Hid (Below w.heap.size w wr) ∧ w.heap.size + 1 ≤ wr.heap.size ∧ wr.cell? ⟨w.heap.size, 1, none⟩ = some (.slice A d.ns.length c) ∧ wr.cell? ⟨w.heap.size, 2, none⟩ = some (.slice A1 d.ws.length c1)) (fun _ si _ => d.ns.length - (intOf si).toNat)
        case atStart => exact ⟨0, Nat.zero_le _, by rw [HB0.out], rfl, BW, zW, x1, x2⟩
        case round =>
          clear BW zW x1 x2
          obtain ⟨k, hk, rfl, rfl, hB, hsz, x1, x2⟩ := hrel
          by_cases hlt : k < d.ns.length
          · have i1 : (k : Int) < (d.ns.length : Int) := by omega
            obtain ⟨b, off, rfl, hb, q0, q1⟩ := HN.out k hlt
            replace q0 := (hB.out.cell hb).trans q0
            replace q1 := (hB.out.cell hb).trans q1
            have hok := good_nk HG.out hlt
            have hts := nodes_size HG.out (Nat.le_of_lt hlt)
            rw [← HHZ0.out] at hts
            have hgd := getD_node hlt
            obtain ⟨x, hx⟩ : ∃ x, x = d.ns.getD k ⟨0, 0⟩ := ⟨_, rfl⟩
            rw [← hx] at q0 q1 hok hgd
            have HT : accT hz0 (d.ns.map nodeT) (k + 1) = (if k = 0 then accT hz0 (d.ns.map nodeT) k else accT hz0 (d.ns.map nodeT) k ++ ⟨#[44]⟩) ++ nodeT x := by
              split
              · next h0 => exact acc_1 rfl (by rw [List.length_map]; exact hlt) h0 hgd.symm
              · next h0 => exact acc_2 rfl (by rw [List.length_map]; exact hlt) h0 hgd.symm
            clear hx hgd
            obtain ⟨T, hT⟩ : ∃ T, T = accT hz0 (d.ns.map nodeT) k := ⟨_, rfl⟩
            rw [← hT] at hts HT ⊢
            clear hT
            obtain ⟨SS, hSS⟩ : ∃ S, S = (if k = 0 then T else T ++ ⟨#[44]⟩) := ⟨_, rfl⟩
            have hss : SS.size ≤ 201 := by
              rw [hSS]
              split
              · omega
              · rw [app_size, one_size]; omega
            rw [← hSS] at HT
            have HT := Lib.hid HT
            have hBX := Lib.hid (show Below w.heap.size w (wr.alloc (.cells #[.int .i64 x.a, .int .i64 x.b] 36)) from Below.alloc hB.out (by omega) _)
            have e0 : (wr.alloc (.cells #[.int .i64 x.a, .int .i64 x.b] 36)).cell? ⟨wr.heap.size, 0, none⟩ = some (.int .i64 x.a) := (by repeat (first | (refine Eq.trans (World.cell?_alloc_at _ _ _ _ ?hh) ?_; (case hh => (simp; done)); rfl) | refine cell_alloc_keep _ ?_))
            have e1 : (wr.alloc (.cells #[.int .i64 x.a, .int .i64 x.b] 36)).cell? ⟨wr.heap.size, 1, none⟩ = some (.int .i64 x.b) := (by repeat (first | (refine Eq.trans (World.cell?_alloc_at _ _ _ _ ?hh) ?_; (case hh => (simp; done)); rfl) | refine cell_alloc_keep _ ?_))
            have y1 : (wr.alloc (.cells #[.int .i64 x.a, .int .i64 x.b] 36)).cell? ⟨w.heap.size, 1, none⟩ = some (.slice (some ⟨b, off, none⟩) d.ns.length c) := cell_alloc_keep _ x1
            have y2 : (wr.alloc (.cells #[.int .i64 x.a, .int .i64 x.b] 36)).cell? ⟨w.heap.size, 2, none⟩ = some (.slice A1 d.ws.length c1) := cell_alloc_keep _ x2
            have zN : w.heap.size + 1 ≤ (wr.alloc (.cells #[.int .i64 x.a, .int .i64 x.b] 36)).heap.size := by simp; omega
            go_upto_if 32 with fail
            go_cut [3] (fun s3 wx => s3 = .string SS ∧ wx = (wr.alloc (.cells #[.int .i64 x.a, .int .i64 x.b] 36)))
            case first =>
              by_cases hk0 : k = 0
              · have i5 : ¬ (0 : Int) < (k : Int) := by omega
                have e5 : SS = T := by rw [hSS, if_pos hk0]
                clear hk0 hSS
                subst e5
                go_wp2_with fail
                go_meet
                exact ⟨rfl, rfl⟩
              · have i5 : (0 : Int) < (k : Int) := by omega
                have e5 : SS = T ++ ⟨#[44]⟩ := by rw [hSS, if_neg hk0]
                have k5 : ¬ 9223372036854775807 < T.size + 1 := by omega
                clear hk0 hSS
                have E5 := Lib.hid e5
                clear e5
                go_wp2_with fail
                go_meet
                exact ⟨by rw [E5.out], rfl⟩
            case rest =>
              obtain ⟨rfl, rfl⟩ := hcut
              clear hSS hts
              obtain ⟨q, hq⟩ : ∃ n : Nat, x.b = (n : Int) := ⟨x.b.toNat, by unfold okN at hok; omega⟩
              have hq9 : q < 100 := by unfold okN at hok; omega
              have hnz := num_size hq9
              have g1 : ¬ 9223372036854775807 < SS.size + 1 := by omega
              have g2 : ¬ 9223372036854775807 < 1 + (numB q).size := by omega
              have g3 : ¬ 9223372036854775807 < SS.size + (1 + (numB q).size) := by omega
              have hka : x.a = 0 ∨ x.a = 1 ∨ x.a = 2 ∨ x.a = 3 := by unfold okN at hok; omega
              clear hok
              replace HT := HT.out
              rcases hka with ka | ka | ka | ka
              · rw [node_0 ka] at HT
                have b0 : (x.a == 0) = true := by simpa using ka
                have HT := Lib.hid HT
                clear ka hq
                go_wp2_with fail
                go_roundw
                case rel => exact ⟨k + 1, by omega, by rw [HT.out], by go_num, hBX, zN, y1, y2⟩
                case measure => simp [intOf]; omega
              · have HN9 := Lib.hid (show nodeT x = ⟨#[105]⟩ ++ numB q from by rw [node_t (by omega), hq, ka]; rfl)
                rw [HN9.out] at HT
                rw [ka] at e0 hBX y1 y2 e1 zN ⊢
                rw [hq] at e0 hBX y1 y2 e1 zN ⊢
                have HT := Lib.hid HT
                clear ka HN9 hq
                go_upto_region 9 with fail
                obtain ⟨W, hW⟩ : ∃ W, W = (wr.alloc (.cells #[.int .i64 1, .int .i64 (q : Int)] 36)) := ⟨_, rfl⟩
                rw [← hW] at e0 hBX y1 y2 e1 zN ⊢
                clear hW
                replace e0 : W.drew.cell? _ = _ := e0; replace e1 : W.drew.cell? _ = _ := e1; replace y1 : W.drew.cell? _ = _ := y1; replace y2 : W.drew.cell? _ = _ := y2
                replace hBX := Lib.hid (show Below w.heap.size w W.drew from Below.drew hBX.out)
                replace zN : w.heap.size + 1 ≤ W.drew.heap.size := zN
                obtain ⟨N, hN⟩ : ∃ N, N = wr.heap.size := ⟨_, rfl⟩
                rw [← hN] at e0 e1 hsz ⊢
                clear hN
                have hix : (((ByteArray.mk #[32, 105, 111, 122])[1]'(by decide)).toNat : Int) = 105 := rfl
                have hcv := fun (V : World) => conv_z 105 (W := V.alloc (.cells #[.int .u8 105] 5)) (g := V.heap.size) (z := 105) (by repeat (first | (refine Eq.trans (World.cell?_alloc_at _ _ _ _ ?hh) ?_; (case hh => (simp; done)); rfl) | refine cell_alloc_keep _ ?_)) rfl
                have hcv3 := conv_z 105 (W := (W.alloc (.cells #[.int .u8 105] 5)).drew) (g := W.heap.size) (z := 105) (by repeat (first | (refine Eq.trans (World.cell?_alloc_at _ _ _ _ ?hh) ?_; (case hh => (simp; done)); rfl) | refine cell_alloc_keep _ ?_ | refine cell_drew ?_ | refine below_cell (by assumption) rfl ?_)) rfl
                refine AnyB.begin (S := (fun w' => w'.cell? ⟨N, 0, none⟩ = some (.int .i64 1) ∧ w'.cell? ⟨N, 1, none⟩ = some (.int .i64 (q : Int)))) [] (by kernel_rfl) ?_ (fun hHeld0 => ?_)
                · ((try dsimp only); (first | exact ⟨e0, e1⟩ | exact ⟨cell_alloc_keep _ e0, cell_alloc_keep _ e1⟩))
                refine AnyB.takeQ (i := 0) (oi := _) (v := ?_) (by simp only [List.getElem?_toArray, List.getElem?_cons_zero, List.getElem?_cons_succ]; rfl) (by kernel_rfl) (by kernel_rfl) (by kernel_rfl) (by intro _ _ _ h; exact h) (Or.inl ⟨by rfl, ?_⟩) ?_
                rotate_left
                · (intro w hSw; (try dsimp only at hSw); go_simp; (try (with_reducible rfl)))
                try simp only [Act.put, List.setIfInBounds_toArray, List.set_cons_zero, List.set_cons_succ]
                refine AnyB.takeQ (i := 1) (oi := _) (v := ?_) (by simp only [List.getElem?_toArray, List.getElem?_cons_zero, List.getElem?_cons_succ]; rfl) (by kernel_rfl) (by kernel_rfl) (by kernel_rfl) (by intro _ _ _ h; exact h) (Or.inl ⟨by rfl, ?_⟩) ?_
                rotate_left
                · (intro w hSw; (try dsimp only at hSw); go_simp; (try (with_reducible rfl)))
                try simp only [Act.put, List.setIfInBounds_toArray, List.set_cons_zero, List.set_cons_succ]
                refine AnyB.take (i := 2) (oi := _) (v := ?_) (by simp only [List.getElem?_toArray, List.getElem?_cons_zero, List.getElem?_cons_succ]; rfl) (by kernel_rfl) (by kernel_rfl) (by kernel_rfl) (by kernel_rfl) (by kernel_rfl) (by intro _ _ _ h; exact h) (Or.inl ⟨by rfl, ?_⟩) (by assumption) ?_
                rotate_left
                · (intro w hSw; (try dsimp only at hSw); go_simp; (try (with_reducible rfl)))
                try simp only [Act.put, List.setIfInBounds_toArray, List.set_cons_zero, List.set_cons_succ]
                refine AnyB.takeQ (i := 6) (oi := _) (v := ?_) (by simp only [List.getElem?_toArray, List.getElem?_cons_zero, List.getElem?_cons_succ]; rfl) (by kernel_rfl) (by kernel_rfl) (by kernel_rfl) (by intro _ _ _ h; exact h) (Or.inl ⟨by rfl, ?_⟩) ?_
                rotate_left
                · (intro w hSw; (try dsimp only at hSw); go_simp; (try (with_reducible rfl)))
                try simp only [Act.put, List.setIfInBounds_toArray, List.set_cons_zero, List.set_cons_succ]
                refine AnyB.take (i := 7) (oi := _) (v := ?_) (by simp only [List.getElem?_toArray, List.getElem?_cons_zero, List.getElem?_cons_succ]; rfl) (by kernel_rfl) (by kernel_rfl) (by kernel_rfl) (by kernel_rfl) (by kernel_rfl) (by intro _ _ _ h; exact h) (Or.inl ⟨by rfl, ?_⟩) (by assumption) ?_
                rotate_left
                · (intro w hSw; (try dsimp only at hSw); go_simp; (try (with_reducible rfl)))
                try simp only [Act.put, List.setIfInBounds_toArray, List.set_cons_zero, List.set_cons_succ]
                refine AnyB.each (rs := [3, 8]) (by kernel_rfl) (by simp) ?_
                refine EachB.cons rfl (fun K hK hB => ?_) ?_
                · skip
                  go_simp
                  refine hK.out _ _ ?_ (fun hHeld1 => ?_)
                  · ((try dsimp only); (first | exact ⟨e0, e1⟩ | exact ⟨cell_alloc_keep _ e0, cell_alloc_keep _ e1⟩))
                  clear hB hK K hHeld0
                  refine AnyB.each (rs := [4, 8]) (by kernel_rfl) (by simp) ?_
                  refine EachB.cons rfl (fun K hK hB => ?_) ?_
                  · skip
                    go_simp
                    refine hK.out _ _ ?_ (fun hHeld2 => ?_)
                    · ((try dsimp only); (first | exact ⟨e0, e1⟩ | exact ⟨cell_alloc_keep _ e0, cell_alloc_keep _ e1⟩))
                    clear hB hK K hHeld1
                    refine AnyB.each (rs := [5, 8]) (by kernel_rfl) (by simp) ?_
                    refine EachB.cons rfl (fun K hK hB => ?_) ?_
                    · skip
                      go_simp
                      refine hK.out _ _ ?_ (fun hHeld3 => ?_)
                      · ((try dsimp only); (first | exact ⟨e0, e1⟩ | exact ⟨cell_alloc_keep _ e0, cell_alloc_keep _ e1⟩))
                      clear hB hK K hHeld2
                      refine AnyB.each (rs := [8]) (by kernel_rfl) (by simp) ?_
                      refine EachB.cons rfl (fun K hK hB => ?_) ?_
                      · skip
                        (go_simp; go_at_call 43; refine (spec_l1Num_any q _ hq9).mono ?_; rintro e w3 ⟨rfl, hbb⟩; (first | ((with_reducible replace e0 := bel_zx hbb e0); replace e1 := bel_zx hbb e1; replace y1 := bel_zx hbb y1; replace y2 := bel_zx hbb y2; replace hBX := Lib.hid (below_step hBX.out hbb); replace zN := Nat.le_trans zN hbb.size) | (have hcv2 := conv_z 105 (z := 105) (bel_zx hbb (show (W.alloc (.cells #[.int .u8 105] 5)).drew.cell? ⟨W.heap.size, 0, none⟩ = some (.int .u8 105) from (by repeat (first | (refine Eq.trans (World.cell?_alloc_at _ _ _ _ ?hh) ?_; (case hh => (simp; done)); rfl) | refine cell_alloc_keep _ ?_ | refine cell_drew ?_ | refine below_cell (by assumption) rfl ?_)))) rfl; replace e0 := bel_zx hbb (show (W.alloc (.cells #[.int .u8 105] 5)).drew.cell? _ = _ from cell_alloc_keep _ e0); replace e1 := bel_zx hbb (show (W.alloc (.cells #[.int .u8 105] 5)).drew.cell? _ = _ from cell_alloc_keep _ e1); replace y1 := bel_zx hbb (show (W.alloc (.cells #[.int .u8 105] 5)).drew.cell? _ = _ from cell_alloc_keep _ y1); replace y2 := bel_zx hbb (show (W.alloc (.cells #[.int .u8 105] 5)).drew.cell? _ = _ from cell_alloc_keep _ y2); replace hBX := Lib.hid (below_step (show Below w.heap.size w (W.alloc (.cells #[.int .u8 105] 5)).drew from Below.alloc hBX.out (by omega) _) hbb); replace zN := Nat.le_trans (Nat.le_trans zN (show W.drew.heap.size ≤ (W.alloc (.cells #[.int .u8 105] 5)).drew.heap.size from by simp)) hbb.size)); clear hbb; dsimp only)
                        refine hK.out _ _ ?_ (fun hHeld4 => ?_)
                        · ((try dsimp only); (first | exact ⟨e0, e1⟩ | exact ⟨cell_alloc_keep _ e0, cell_alloc_keep _ e1⟩))
                        clear hB hK K hHeld3
                        refine AnyB.takeQ (i := 9) (oi := _) (v := ?_) (by simp only [List.getElem?_toArray, List.getElem?_cons_zero, List.getElem?_cons_succ]; rfl) (by kernel_rfl) (by kernel_rfl) (by kernel_rfl) (by intro _ _ _ h; exact h) (Or.inl ⟨by rfl, ?_⟩) ?_
                        rotate_left
                        · (intro w hSw; (try dsimp only at hSw); go_simp; (try (with_reducible rfl)))
                        try simp only [Act.put, List.setIfInBounds_toArray, List.set_cons_zero, List.set_cons_succ]
                        refine AnyB.takeQ (i := 10) (oi := _) (v := ?_) (by simp only [List.getElem?_toArray, List.getElem?_cons_zero, List.getElem?_cons_succ]; rfl) (by kernel_rfl) (by kernel_rfl) (by kernel_rfl) (by intro _ _ _ h; exact h) (Or.inl ⟨by rfl, ?_⟩) ?_
                        rotate_left
                        · (intro w hSw; (try dsimp only at hSw); go_simp; (try (with_reducible rfl)))
                        try simp only [Act.put, List.setIfInBounds_toArray, List.set_cons_zero, List.set_cons_succ]
                        refine AnyB.takeQ (i := 11) (oi := _) (v := ?_) (by simp only [List.getElem?_toArray, List.getElem?_cons_zero, List.getElem?_cons_succ]; rfl) (by kernel_rfl) (by kernel_rfl) (by kernel_rfl) (by intro _ _ _ h; exact h) (Or.inl ⟨by rfl, ?_⟩) ?_
                        rotate_left
                        · (intro w hSw; (try dsimp only at hSw); go_simp; (try (with_reducible rfl)))
                        try simp only [Act.put, List.setIfInBounds_toArray, List.set_cons_zero, List.set_cons_succ]
                        refine AnyB.none (by kernel_rfl) ?_ _
                        go_wp2_with fail
                        go_roundw
                        case rel => exact ⟨k + 1, by omega, by rw [HT.out], by go_num, by first | exact hBX | exact (show Below _ _ _ from Below.alloc hBX.out (by omega) _), by first | exact zN | (simp; omega), by first | exact y1 | exact cell_alloc_keep _ y1, by first | exact y2 | exact cell_alloc_keep _ y2⟩
                        case measure => simp [intOf]; omega
                      exact EachB.nil
                    refine EachB.cons rfl (fun K hK hB => ?_) ?_
                    · skip
                      (go_simp; go_at_call 43; refine (spec_l1Num_any q _ hq9).mono ?_; rintro e w3 ⟨rfl, hbb⟩; (first | ((with_reducible replace e0 := bel_zx hbb e0); replace e1 := bel_zx hbb e1; replace y1 := bel_zx hbb y1; replace y2 := bel_zx hbb y2; replace hBX := Lib.hid (below_step hBX.out hbb); replace zN := Nat.le_trans zN hbb.size) | (have hcv2 := conv_z 105 (z := 105) (bel_zx hbb (show (W.alloc (.cells #[.int .u8 105] 5)).drew.cell? ⟨W.heap.size, 0, none⟩ = some (.int .u8 105) from (by repeat (first | (refine Eq.trans (World.cell?_alloc_at _ _ _ _ ?hh) ?_; (case hh => (simp; done)); rfl) | refine cell_alloc_keep _ ?_ | refine cell_drew ?_ | refine below_cell (by assumption) rfl ?_)))) rfl; replace e0 := bel_zx hbb (show (W.alloc (.cells #[.int .u8 105] 5)).drew.cell? _ = _ from cell_alloc_keep _ e0); replace e1 := bel_zx hbb (show (W.alloc (.cells #[.int .u8 105] 5)).drew.cell? _ = _ from cell_alloc_keep _ e1); replace y1 := bel_zx hbb (show (W.alloc (.cells #[.int .u8 105] 5)).drew.cell? _ = _ from cell_alloc_keep _ y1); replace y2 := bel_zx hbb (show (W.alloc (.cells #[.int .u8 105] 5)).drew.cell? _ = _ from cell_alloc_keep _ y2); replace hBX := Lib.hid (below_step (show Below w.heap.size w (W.alloc (.cells #[.int .u8 105] 5)).drew from Below.alloc hBX.out (by omega) _) hbb); replace zN := Nat.le_trans (Nat.le_trans zN (show W.drew.heap.size ≤ (W.alloc (.cells #[.int .u8 105] 5)).drew.heap.size from by simp)) hbb.size)); clear hbb; dsimp only)
                      refine hK.out _ _ ?_ (fun hHeld5 => ?_)
                      · ((try dsimp only); (first | exact ⟨e0, e1⟩ | exact ⟨cell_alloc_keep _ e0, cell_alloc_keep _ e1⟩))
                      clear hB hK K hHeld2
                      refine AnyB.each (rs := [5]) (by kernel_rfl) (by simp) ?_
                      refine EachB.cons rfl (fun K hK hB => ?_) ?_
                      · skip
                        go_simp
                        refine hK.out _ _ ?_ (fun hHeld6 => ?_)
                        · ((try dsimp only); (first | exact ⟨e0, e1⟩ | exact ⟨cell_alloc_keep _ e0, cell_alloc_keep _ e1⟩))
                        clear hB hK K hHeld5
                        refine AnyB.takeQ (i := 9) (oi := _) (v := ?_) (by simp only [List.getElem?_toArray, List.getElem?_cons_zero, List.getElem?_cons_succ]; rfl) (by kernel_rfl) (by kernel_rfl) (by kernel_rfl) (by intro _ _ _ h; exact h) (Or.inl ⟨by rfl, ?_⟩) ?_
                        rotate_left
                        · (intro w hSw; (try dsimp only at hSw); go_simp; (try (with_reducible rfl)))
                        try simp only [Act.put, List.setIfInBounds_toArray, List.set_cons_zero, List.set_cons_succ]
                        refine AnyB.takeQ (i := 10) (oi := _) (v := ?_) (by simp only [List.getElem?_toArray, List.getElem?_cons_zero, List.getElem?_cons_succ]; rfl) (by kernel_rfl) (by kernel_rfl) (by kernel_rfl) (by intro _ _ _ h; exact h) (Or.inl ⟨by rfl, ?_⟩) ?_
                        rotate_left
                        · (intro w hSw; (try dsimp only at hSw); go_simp; (try (with_reducible rfl)))
                        try simp only [Act.put, List.setIfInBounds_toArray, List.set_cons_zero, List.set_cons_succ]
                        refine AnyB.takeQ (i := 11) (oi := _) (v := ?_) (by simp only [List.getElem?_toArray, List.getElem?_cons_zero, List.getElem?_cons_succ]; rfl) (by kernel_rfl) (by kernel_rfl) (by kernel_rfl) (by intro _ _ _ h; exact h) (Or.inl ⟨by rfl, ?_⟩) ?_
                        rotate_left
                        · (intro w hSw; (try dsimp only at hSw); go_simp; (try (with_reducible rfl)))
                        try simp only [Act.put, List.setIfInBounds_toArray, List.set_cons_zero, List.set_cons_succ]
                        refine AnyB.none (by kernel_rfl) ?_ _
                        go_wp2_with fail
                        go_roundw
                        case rel => exact ⟨k + 1, by omega, by rw [HT.out], by go_num, by first | exact hBX | exact (show Below _ _ _ from Below.alloc hBX.out (by omega) _), by first | exact zN | (simp; omega), by first | exact y1 | exact cell_alloc_keep _ y1, by first | exact y2 | exact cell_alloc_keep _ y2⟩
                        case measure => simp [intOf]; omega
                      exact EachB.nil
                    exact EachB.nil
                  refine EachB.cons rfl (fun K hK hB => ?_) ?_
                  · skip
                    (go_simp; go_at_call 43; refine (spec_l1Num_any q _ hq9).mono ?_; rintro e w3 ⟨rfl, hbb⟩; (first | ((with_reducible replace e0 := bel_zx hbb e0); replace e1 := bel_zx hbb e1; replace y1 := bel_zx hbb y1; replace y2 := bel_zx hbb y2; replace hBX := Lib.hid (below_step hBX.out hbb); replace zN := Nat.le_trans zN hbb.size) | (have hcv2 := conv_z 105 (z := 105) (bel_zx hbb (show (W.alloc (.cells #[.int .u8 105] 5)).drew.cell? ⟨W.heap.size, 0, none⟩ = some (.int .u8 105) from (by repeat (first | (refine Eq.trans (World.cell?_alloc_at _ _ _ _ ?hh) ?_; (case hh => (simp; done)); rfl) | refine cell_alloc_keep _ ?_ | refine cell_drew ?_ | refine below_cell (by assumption) rfl ?_)))) rfl; replace e0 := bel_zx hbb (show (W.alloc (.cells #[.int .u8 105] 5)).drew.cell? _ = _ from cell_alloc_keep _ e0); replace e1 := bel_zx hbb (show (W.alloc (.cells #[.int .u8 105] 5)).drew.cell? _ = _ from cell_alloc_keep _ e1); replace y1 := bel_zx hbb (show (W.alloc (.cells #[.int .u8 105] 5)).drew.cell? _ = _ from cell_alloc_keep _ y1); replace y2 := bel_zx hbb (show (W.alloc (.cells #[.int .u8 105] 5)).drew.cell? _ = _ from cell_alloc_keep _ y2); replace hBX := Lib.hid (below_step (show Below w.heap.size w (W.alloc (.cells #[.int .u8 105] 5)).drew from Below.alloc hBX.out (by omega) _) hbb); replace zN := Nat.le_trans (Nat.le_trans zN (show W.drew.heap.size ≤ (W.alloc (.cells #[.int .u8 105] 5)).drew.heap.size from by simp)) hbb.size)); clear hbb; dsimp only)
                    refine hK.out _ _ ?_ (fun hHeld7 => ?_)
                    · ((try dsimp only); (first | exact ⟨e0, e1⟩ | exact ⟨cell_alloc_keep _ e0, cell_alloc_keep _ e1⟩))
                    clear hB hK K hHeld1
                    refine AnyB.each (rs := [4]) (by kernel_rfl) (by simp) ?_
                    refine EachB.cons rfl (fun K hK hB => ?_) ?_
                    · skip
                      go_simp
                      refine hK.out _ _ ?_ (fun hHeld8 => ?_)
                      · ((try dsimp only); (first | exact ⟨e0, e1⟩ | exact ⟨cell_alloc_keep _ e0, cell_alloc_keep _ e1⟩))
                      clear hB hK K hHeld7
                      refine AnyB.each (rs := [5]) (by kernel_rfl) (by simp) ?_
                      refine EachB.cons rfl (fun K hK hB => ?_) ?_
                      · skip
                        go_simp
                        refine hK.out _ _ ?_ (fun hHeld9 => ?_)
                        · ((try dsimp only); (first | exact ⟨e0, e1⟩ | exact ⟨cell_alloc_keep _ e0, cell_alloc_keep _ e1⟩))
                        clear hB hK K hHeld8
                        refine AnyB.takeQ (i := 9) (oi := _) (v := ?_) (by simp only [List.getElem?_toArray, List.getElem?_cons_zero, List.getElem?_cons_succ]; rfl) (by kernel_rfl) (by kernel_rfl) (by kernel_rfl) (by intro _ _ _ h; exact h) (Or.inl ⟨by rfl, ?_⟩) ?_
                        rotate_left
                        · (intro w hSw; (try dsimp only at hSw); go_simp; (try (with_reducible rfl)))
                        try simp only [Act.put, List.setIfInBounds_toArray, List.set_cons_zero, List.set_cons_succ]
                        refine AnyB.takeQ (i := 10) (oi := _) (v := ?_) (by simp only [List.getElem?_toArray, List.getElem?_cons_zero, List.getElem?_cons_succ]; rfl) (by kernel_rfl) (by kernel_rfl) (by kernel_rfl) (by intro _ _ _ h; exact h) (Or.inl ⟨by rfl, ?_⟩) ?_
                        rotate_left
                        · (intro w hSw; (try dsimp only at hSw); go_simp; (try (with_reducible rfl)))
                        try simp only [Act.put, List.setIfInBounds_toArray, List.set_cons_zero, List.set_cons_succ]
                        refine AnyB.takeQ (i := 11) (oi := _) (v := ?_) (by simp only [List.getElem?_toArray, List.getElem?_cons_zero, List.getElem?_cons_succ]; rfl) (by kernel_rfl) (by kernel_rfl) (by kernel_rfl) (by intro _ _ _ h; exact h) (Or.inl ⟨by rfl, ?_⟩) ?_
                        rotate_left
                        · (intro w hSw; (try dsimp only at hSw); go_simp; (try (with_reducible rfl)))
                        try simp only [Act.put, List.setIfInBounds_toArray, List.set_cons_zero, List.set_cons_succ]
                        refine AnyB.none (by kernel_rfl) ?_ _
                        go_wp2_with fail
                        go_roundw
                        case rel => exact ⟨k + 1, by omega, by rw [HT.out], by go_num, by first | exact hBX | exact (show Below _ _ _ from Below.alloc hBX.out (by omega) _), by first | exact zN | (simp; omega), by first | exact y1 | exact cell_alloc_keep _ y1, by first | exact y2 | exact cell_alloc_keep _ y2⟩
                        case measure => simp [intOf]; omega
                      exact EachB.nil
                    exact EachB.nil
                  exact EachB.nil
                refine EachB.cons rfl (fun K hK hB => ?_) ?_
                · skip
                  (go_simp; go_at_call 43; refine (spec_l1Num_any q _ hq9).mono ?_; rintro e w3 ⟨rfl, hbb⟩; (first | ((with_reducible replace e0 := bel_zx hbb e0); replace e1 := bel_zx hbb e1; replace y1 := bel_zx hbb y1; replace y2 := bel_zx hbb y2; replace hBX := Lib.hid (below_step hBX.out hbb); replace zN := Nat.le_trans zN hbb.size) | (have hcv2 := conv_z 105 (z := 105) (bel_zx hbb (show (W.alloc (.cells #[.int .u8 105] 5)).drew.cell? ⟨W.heap.size, 0, none⟩ = some (.int .u8 105) from (by repeat (first | (refine Eq.trans (World.cell?_alloc_at _ _ _ _ ?hh) ?_; (case hh => (simp; done)); rfl) | refine cell_alloc_keep _ ?_ | refine cell_drew ?_ | refine below_cell (by assumption) rfl ?_)))) rfl; replace e0 := bel_zx hbb (show (W.alloc (.cells #[.int .u8 105] 5)).drew.cell? _ = _ from cell_alloc_keep _ e0); replace e1 := bel_zx hbb (show (W.alloc (.cells #[.int .u8 105] 5)).drew.cell? _ = _ from cell_alloc_keep _ e1); replace y1 := bel_zx hbb (show (W.alloc (.cells #[.int .u8 105] 5)).drew.cell? _ = _ from cell_alloc_keep _ y1); replace y2 := bel_zx hbb (show (W.alloc (.cells #[.int .u8 105] 5)).drew.cell? _ = _ from cell_alloc_keep _ y2); replace hBX := Lib.hid (below_step (show Below w.heap.size w (W.alloc (.cells #[.int .u8 105] 5)).drew from Below.alloc hBX.out (by omega) _) hbb); replace zN := Nat.le_trans (Nat.le_trans zN (show W.drew.heap.size ≤ (W.alloc (.cells #[.int .u8 105] 5)).drew.heap.size from by simp)) hbb.size)); clear hbb; dsimp only)
                  refine hK.out _ _ ?_ (fun hHeld10 => ?_)
                  · ((try dsimp only); (first | exact ⟨e0, e1⟩ | exact ⟨cell_alloc_keep _ e0, cell_alloc_keep _ e1⟩))
                  clear hB hK K hHeld0
                  refine AnyB.each (rs := [3]) (by kernel_rfl) (by simp) ?_
                  refine EachB.cons rfl (fun K hK hB => ?_) ?_
                  · skip
                    go_simp
                    refine hK.out _ _ ?_ (fun hHeld11 => ?_)
                    · ((try dsimp only); (first | exact ⟨e0, e1⟩ | exact ⟨cell_alloc_keep _ e0, cell_alloc_keep _ e1⟩))
                    clear hB hK K hHeld10
                    refine AnyB.each (rs := [4]) (by kernel_rfl) (by simp) ?_
                    refine EachB.cons rfl (fun K hK hB => ?_) ?_
                    · skip
                      go_simp
                      refine hK.out _ _ ?_ (fun hHeld12 => ?_)
                      · ((try dsimp only); (first | exact ⟨e0, e1⟩ | exact ⟨cell_alloc_keep _ e0, cell_alloc_keep _ e1⟩))
                      clear hB hK K hHeld11
                      refine AnyB.each (rs := [5]) (by kernel_rfl) (by simp) ?_
                      refine EachB.cons rfl (fun K hK hB => ?_) ?_
                      · skip
                        go_simp
                        refine hK.out _ _ ?_ (fun hHeld13 => ?_)
                        · ((try dsimp only); (first | exact ⟨e0, e1⟩ | exact ⟨cell_alloc_keep _ e0, cell_alloc_keep _ e1⟩))
                        clear hB hK K hHeld12
                        refine AnyB.takeQ (i := 9) (oi := _) (v := ?_) (by simp only [List.getElem?_toArray, List.getElem?_cons_zero, List.getElem?_cons_succ]; rfl) (by kernel_rfl) (by kernel_rfl) (by kernel_rfl) (by intro _ _ _ h; exact h) (Or.inl ⟨by rfl, ?_⟩) ?_
                        rotate_left
                        · (intro w hSw; (try dsimp only at hSw); go_simp; (try (with_reducible rfl)))
                        try simp only [Act.put, List.setIfInBounds_toArray, List.set_cons_zero, List.set_cons_succ]
                        refine AnyB.takeQ (i := 10) (oi := _) (v := ?_) (by simp only [List.getElem?_toArray, List.getElem?_cons_zero, List.getElem?_cons_succ]; rfl) (by kernel_rfl) (by kernel_rfl) (by kernel_rfl) (by intro _ _ _ h; exact h) (Or.inl ⟨by rfl, ?_⟩) ?_
                        rotate_left
                        · (intro w hSw; (try dsimp only at hSw); go_simp; (try (with_reducible rfl)))
                        try simp only [Act.put, List.setIfInBounds_toArray, List.set_cons_zero, List.set_cons_succ]
                        refine AnyB.takeQ (i := 11) (oi := _) (v := ?_) (by simp only [List.getElem?_toArray, List.getElem?_cons_zero, List.getElem?_cons_succ]; rfl) (by kernel_rfl) (by kernel_rfl) (by kernel_rfl) (by intro _ _ _ h; exact h) (Or.inl ⟨by rfl, ?_⟩) ?_
                        rotate_left
                        · (intro w hSw; (try dsimp only at hSw); go_simp; (try (with_reducible rfl)))
                        try simp only [Act.put, List.setIfInBounds_toArray, List.set_cons_zero, List.set_cons_succ]
                        refine AnyB.none (by kernel_rfl) ?_ _
                        go_wp2_with fail
                        go_roundw
                        case rel => exact ⟨k + 1, by omega, by rw [HT.out], by go_num, by first | exact hBX | exact (show Below _ _ _ from Below.alloc hBX.out (by omega) _), by first | exact zN | (simp; omega), by first | exact y1 | exact cell_alloc_keep _ y1, by first | exact y2 | exact cell_alloc_keep _ y2⟩
                        case measure => simp [intOf]; omega
                      exact EachB.nil
                    exact EachB.nil
                  exact EachB.nil
                exact EachB.nil
              · have HN9 := Lib.hid (show nodeT x = ⟨#[111]⟩ ++ numB q from by rw [node_t (by omega), hq, ka]; rfl)
                rw [HN9.out] at HT
                rw [ka] at e0 hBX y1 y2 e1 zN ⊢
                rw [hq] at e0 hBX y1 y2 e1 zN ⊢
                have HT := Lib.hid HT
                clear ka HN9 hq
                go_upto_region 9 with fail
                obtain ⟨W, hW⟩ : ∃ W, W = (wr.alloc (.cells #[.int .i64 2, .int .i64 (q : Int)] 36)) := ⟨_, rfl⟩
                rw [← hW] at e0 hBX y1 y2 e1 zN ⊢
                clear hW
                replace e0 : W.drew.cell? _ = _ := e0; replace e1 : W.drew.cell? _ = _ := e1; replace y1 : W.drew.cell? _ = _ := y1; replace y2 : W.drew.cell? _ = _ := y2
                replace hBX := Lib.hid (show Below w.heap.size w W.drew from Below.drew hBX.out)
                replace zN : w.heap.size + 1 ≤ W.drew.heap.size := zN
                obtain ⟨N, hN⟩ : ∃ N, N = wr.heap.size := ⟨_, rfl⟩
                rw [← hN] at e0 e1 hsz ⊢
                clear hN
                have hix : (((ByteArray.mk #[32, 105, 111, 122])[2]'(by decide)).toNat : Int) = 111 := rfl
                have hcv := fun (V : World) => conv_z 111 (W := V.alloc (.cells #[.int .u8 111] 5)) (g := V.heap.size) (z := 111) (by repeat (first | (refine Eq.trans (World.cell?_alloc_at _ _ _ _ ?hh) ?_; (case hh => (simp; done)); rfl) | refine cell_alloc_keep _ ?_)) rfl
                have hcv3 := conv_z 111 (W := (W.alloc (.cells #[.int .u8 111] 5)).drew) (g := W.heap.size) (z := 111) (by repeat (first | (refine Eq.trans (World.cell?_alloc_at _ _ _ _ ?hh) ?_; (case hh => (simp; done)); rfl) | refine cell_alloc_keep _ ?_ | refine cell_drew ?_ | refine below_cell (by assumption) rfl ?_)) rfl
                refine AnyB.begin (S := (fun w' => w'.cell? ⟨N, 0, none⟩ = some (.int .i64 2) ∧ w'.cell? ⟨N, 1, none⟩ = some (.int .i64 (q : Int)))) [] (by kernel_rfl) ?_ (fun hHeld0 => ?_)
                · ((try dsimp only); (first | exact ⟨e0, e1⟩ | exact ⟨cell_alloc_keep _ e0, cell_alloc_keep _ e1⟩))
                refine AnyB.takeQ (i := 0) (oi := _) (v := ?_) (by simp only [List.getElem?_toArray, List.getElem?_cons_zero, List.getElem?_cons_succ]; rfl) (by kernel_rfl) (by kernel_rfl) (by kernel_rfl) (by intro _ _ _ h; exact h) (Or.inl ⟨by rfl, ?_⟩) ?_
                rotate_left
                · (intro w hSw; (try dsimp only at hSw); go_simp; (try (with_reducible rfl)))
                try simp only [Act.put, List.setIfInBounds_toArray, List.set_cons_zero, List.set_cons_succ]
                refine AnyB.takeQ (i := 1) (oi := _) (v := ?_) (by simp only [List.getElem?_toArray, List.getElem?_cons_zero, List.getElem?_cons_succ]; rfl) (by kernel_rfl) (by kernel_rfl) (by kernel_rfl) (by intro _ _ _ h; exact h) (Or.inl ⟨by rfl, ?_⟩) ?_
                rotate_left
                · (intro w hSw; (try dsimp only at hSw); go_simp; (try (with_reducible rfl)))
                try simp only [Act.put, List.setIfInBounds_toArray, List.set_cons_zero, List.set_cons_succ]
                refine AnyB.take (i := 2) (oi := _) (v := ?_) (by simp only [List.getElem?_toArray, List.getElem?_cons_zero, List.getElem?_cons_succ]; rfl) (by kernel_rfl) (by kernel_rfl) (by kernel_rfl) (by kernel_rfl) (by kernel_rfl) (by intro _ _ _ h; exact h) (Or.inl ⟨by rfl, ?_⟩) (by assumption) ?_
                rotate_left
                · (intro w hSw; (try dsimp only at hSw); go_simp; (try (with_reducible rfl)))
                try simp only [Act.put, List.setIfInBounds_toArray, List.set_cons_zero, List.set_cons_succ]
                refine AnyB.takeQ (i := 6) (oi := _) (v := ?_) (by simp only [List.getElem?_toArray, List.getElem?_cons_zero, List.getElem?_cons_succ]; rfl) (by kernel_rfl) (by kernel_rfl) (by kernel_rfl) (by intro _ _ _ h; exact h) (Or.inl ⟨by rfl, ?_⟩) ?_
                rotate_left
                · (intro w hSw; (try dsimp only at hSw); go_simp; (try (with_reducible rfl)))
                try simp only [Act.put, List.setIfInBounds_toArray, List.set_cons_zero, List.set_cons_succ]
                refine AnyB.take (i := 7) (oi := _) (v := ?_) (by simp only [List.getElem?_toArray, List.getElem?_cons_zero, List.getElem?_cons_succ]; rfl) (by kernel_rfl) (by kernel_rfl) (by kernel_rfl) (by kernel_rfl) (by kernel_rfl) (by intro _ _ _ h; exact h) (Or.inl ⟨by rfl, ?_⟩) (by assumption) ?_
                rotate_left
                · (intro w hSw; (try dsimp only at hSw); go_simp; (try (with_reducible rfl)))
                try simp only [Act.put, List.setIfInBounds_toArray, List.set_cons_zero, List.set_cons_succ]
                refine AnyB.each (rs := [3, 8]) (by kernel_rfl) (by simp) ?_
                refine EachB.cons rfl (fun K hK hB => ?_) ?_
                · skip
                  go_simp
                  refine hK.out _ _ ?_ (fun hHeld1 => ?_)
                  · ((try dsimp only); (first | exact ⟨e0, e1⟩ | exact ⟨cell_alloc_keep _ e0, cell_alloc_keep _ e1⟩))
                  clear hB hK K hHeld0
                  refine AnyB.each (rs := [4, 8]) (by kernel_rfl) (by simp) ?_
                  refine EachB.cons rfl (fun K hK hB => ?_) ?_
                  · skip
                    go_simp
                    refine hK.out _ _ ?_ (fun hHeld2 => ?_)
                    · ((try dsimp only); (first | exact ⟨e0, e1⟩ | exact ⟨cell_alloc_keep _ e0, cell_alloc_keep _ e1⟩))
                    clear hB hK K hHeld1
                    refine AnyB.each (rs := [5, 8]) (by kernel_rfl) (by simp) ?_
                    refine EachB.cons rfl (fun K hK hB => ?_) ?_
                    · skip
                      go_simp
                      refine hK.out _ _ ?_ (fun hHeld3 => ?_)
                      · ((try dsimp only); (first | exact ⟨e0, e1⟩ | exact ⟨cell_alloc_keep _ e0, cell_alloc_keep _ e1⟩))
                      clear hB hK K hHeld2
                      refine AnyB.each (rs := [8]) (by kernel_rfl) (by simp) ?_
                      refine EachB.cons rfl (fun K hK hB => ?_) ?_
                      · skip
                        (go_simp; go_at_call 43; refine (spec_l1Num_any q _ hq9).mono ?_; rintro e w3 ⟨rfl, hbb⟩; (first | ((with_reducible replace e0 := bel_zx hbb e0); replace e1 := bel_zx hbb e1; replace y1 := bel_zx hbb y1; replace y2 := bel_zx hbb y2; replace hBX := Lib.hid (below_step hBX.out hbb); replace zN := Nat.le_trans zN hbb.size) | (have hcv2 := conv_z 111 (z := 111) (bel_zx hbb (show (W.alloc (.cells #[.int .u8 111] 5)).drew.cell? ⟨W.heap.size, 0, none⟩ = some (.int .u8 111) from (by repeat (first | (refine Eq.trans (World.cell?_alloc_at _ _ _ _ ?hh) ?_; (case hh => (simp; done)); rfl) | refine cell_alloc_keep _ ?_ | refine cell_drew ?_ | refine below_cell (by assumption) rfl ?_)))) rfl; replace e0 := bel_zx hbb (show (W.alloc (.cells #[.int .u8 111] 5)).drew.cell? _ = _ from cell_alloc_keep _ e0); replace e1 := bel_zx hbb (show (W.alloc (.cells #[.int .u8 111] 5)).drew.cell? _ = _ from cell_alloc_keep _ e1); replace y1 := bel_zx hbb (show (W.alloc (.cells #[.int .u8 111] 5)).drew.cell? _ = _ from cell_alloc_keep _ y1); replace y2 := bel_zx hbb (show (W.alloc (.cells #[.int .u8 111] 5)).drew.cell? _ = _ from cell_alloc_keep _ y2); replace hBX := Lib.hid (below_step (show Below w.heap.size w (W.alloc (.cells #[.int .u8 111] 5)).drew from Below.alloc hBX.out (by omega) _) hbb); replace zN := Nat.le_trans (Nat.le_trans zN (show W.drew.heap.size ≤ (W.alloc (.cells #[.int .u8 111] 5)).drew.heap.size from by simp)) hbb.size)); clear hbb; dsimp only)
                        refine hK.out _ _ ?_ (fun hHeld4 => ?_)
                        · ((try dsimp only); (first | exact ⟨e0, e1⟩ | exact ⟨cell_alloc_keep _ e0, cell_alloc_keep _ e1⟩))
                        clear hB hK K hHeld3
                        refine AnyB.takeQ (i := 9) (oi := _) (v := ?_) (by simp only [List.getElem?_toArray, List.getElem?_cons_zero, List.getElem?_cons_succ]; rfl) (by kernel_rfl) (by kernel_rfl) (by kernel_rfl) (by intro _ _ _ h; exact h) (Or.inl ⟨by rfl, ?_⟩) ?_
                        rotate_left
                        · (intro w hSw; (try dsimp only at hSw); go_simp; (try (with_reducible rfl)))
                        try simp only [Act.put, List.setIfInBounds_toArray, List.set_cons_zero, List.set_cons_succ]
                        refine AnyB.takeQ (i := 10) (oi := _) (v := ?_) (by simp only [List.getElem?_toArray, List.getElem?_cons_zero, List.getElem?_cons_succ]; rfl) (by kernel_rfl) (by kernel_rfl) (by kernel_rfl) (by intro _ _ _ h; exact h) (Or.inl ⟨by rfl, ?_⟩) ?_
                        rotate_left
                        · (intro w hSw; (try dsimp only at hSw); go_simp; (try (with_reducible rfl)))
                        try simp only [Act.put, List.setIfInBounds_toArray, List.set_cons_zero, List.set_cons_succ]
                        refine AnyB.takeQ (i := 11) (oi := _) (v := ?_) (by simp only [List.getElem?_toArray, List.getElem?_cons_zero, List.getElem?_cons_succ]; rfl) (by kernel_rfl) (by kernel_rfl) (by kernel_rfl) (by intro _ _ _ h; exact h) (Or.inl ⟨by rfl, ?_⟩) ?_
                        rotate_left
                        · (intro w hSw; (try dsimp only at hSw); go_simp; (try (with_reducible rfl)))
                        try simp only [Act.put, List.setIfInBounds_toArray, List.set_cons_zero, List.set_cons_succ]
                        refine AnyB.none (by kernel_rfl) ?_ _
                        go_wp2_with fail
                        go_roundw
                        case rel => exact ⟨k + 1, by omega, by rw [HT.out], by go_num, by first | exact hBX | exact (show Below _ _ _ from Below.alloc hBX.out (by omega) _), by first | exact zN | (simp; omega), by first | exact y1 | exact cell_alloc_keep _ y1, by first | exact y2 | exact cell_alloc_keep _ y2⟩
                        case measure => simp [intOf]; omega
                      exact EachB.nil
                    refine EachB.cons rfl (fun K hK hB => ?_) ?_
                    · skip
                      (go_simp; go_at_call 43; refine (spec_l1Num_any q _ hq9).mono ?_; rintro e w3 ⟨rfl, hbb⟩; (first | ((with_reducible replace e0 := bel_zx hbb e0); replace e1 := bel_zx hbb e1; replace y1 := bel_zx hbb y1; replace y2 := bel_zx hbb y2; replace hBX := Lib.hid (below_step hBX.out hbb); replace zN := Nat.le_trans zN hbb.size) | (have hcv2 := conv_z 111 (z := 111) (bel_zx hbb (show (W.alloc (.cells #[.int .u8 111] 5)).drew.cell? ⟨W.heap.size, 0, none⟩ = some (.int .u8 111) from (by repeat (first | (refine Eq.trans (World.cell?_alloc_at _ _ _ _ ?hh) ?_; (case hh => (simp; done)); rfl) | refine cell_alloc_keep _ ?_ | refine cell_drew ?_ | refine below_cell (by assumption) rfl ?_)))) rfl; replace e0 := bel_zx hbb (show (W.alloc (.cells #[.int .u8 111] 5)).drew.cell? _ = _ from cell_alloc_keep _ e0); replace e1 := bel_zx hbb (show (W.alloc (.cells #[.int .u8 111] 5)).drew.cell? _ = _ from cell_alloc_keep _ e1); replace y1 := bel_zx hbb (show (W.alloc (.cells #[.int .u8 111] 5)).drew.cell? _ = _ from cell_alloc_keep _ y1); replace y2 := bel_zx hbb (show (W.alloc (.cells #[.int .u8 111] 5)).drew.cell? _ = _ from cell_alloc_keep _ y2); replace hBX := Lib.hid (below_step (show Below w.heap.size w (W.alloc (.cells #[.int .u8 111] 5)).drew from Below.alloc hBX.out (by omega) _) hbb); replace zN := Nat.le_trans (Nat.le_trans zN (show W.drew.heap.size ≤ (W.alloc (.cells #[.int .u8 111] 5)).drew.heap.size from by simp)) hbb.size)); clear hbb; dsimp only)
                      refine hK.out _ _ ?_ (fun hHeld5 => ?_)
                      · ((try dsimp only); (first | exact ⟨e0, e1⟩ | exact ⟨cell_alloc_keep _ e0, cell_alloc_keep _ e1⟩))
                      clear hB hK K hHeld2
                      refine AnyB.each (rs := [5]) (by kernel_rfl) (by simp) ?_
                      refine EachB.cons rfl (fun K hK hB => ?_) ?_
                      · skip
                        go_simp
                        refine hK.out _ _ ?_ (fun hHeld6 => ?_)
                        · ((try dsimp only); (first | exact ⟨e0, e1⟩ | exact ⟨cell_alloc_keep _ e0, cell_alloc_keep _ e1⟩))
                        clear hB hK K hHeld5
                        refine AnyB.takeQ (i := 9) (oi := _) (v := ?_) (by simp only [List.getElem?_toArray, List.getElem?_cons_zero, List.getElem?_cons_succ]; rfl) (by kernel_rfl) (by kernel_rfl) (by kernel_rfl) (by intro _ _ _ h; exact h) (Or.inl ⟨by rfl, ?_⟩) ?_
                        rotate_left
                        · (intro w hSw; (try dsimp only at hSw); go_simp; (try (with_reducible rfl)))
                        try simp only [Act.put, List.setIfInBounds_toArray, List.set_cons_zero, List.set_cons_succ]
                        refine AnyB.takeQ (i := 10) (oi := _) (v := ?_) (by simp only [List.getElem?_toArray, List.getElem?_cons_zero, List.getElem?_cons_succ]; rfl) (by kernel_rfl) (by kernel_rfl) (by kernel_rfl) (by intro _ _ _ h; exact h) (Or.inl ⟨by rfl, ?_⟩) ?_
                        rotate_left
                        · (intro w hSw; (try dsimp only at hSw); go_simp; (try (with_reducible rfl)))
                        try simp only [Act.put, List.setIfInBounds_toArray, List.set_cons_zero, List.set_cons_succ]
                        refine AnyB.takeQ (i := 11) (oi := _) (v := ?_) (by simp only [List.getElem?_toArray, List.getElem?_cons_zero, List.getElem?_cons_succ]; rfl) (by kernel_rfl) (by kernel_rfl) (by kernel_rfl) (by intro _ _ _ h; exact h) (Or.inl ⟨by rfl, ?_⟩) ?_
                        rotate_left
                        · (intro w hSw; (try dsimp only at hSw); go_simp; (try (with_reducible rfl)))
                        try simp only [Act.put, List.setIfInBounds_toArray, List.set_cons_zero, List.set_cons_succ]
                        refine AnyB.none (by kernel_rfl) ?_ _
                        go_wp2_with fail
                        go_roundw
                        case rel => exact ⟨k + 1, by omega, by rw [HT.out], by go_num, by first | exact hBX | exact (show Below _ _ _ from Below.alloc hBX.out (by omega) _), by first | exact zN | (simp; omega), by first | exact y1 | exact cell_alloc_keep _ y1, by first | exact y2 | exact cell_alloc_keep _ y2⟩
                        case measure => simp [intOf]; omega
                      exact EachB.nil
                    exact EachB.nil
                  refine EachB.cons rfl (fun K hK hB => ?_) ?_
                  · skip
                    (go_simp; go_at_call 43; refine (spec_l1Num_any q _ hq9).mono ?_; rintro e w3 ⟨rfl, hbb⟩; (first | ((with_reducible replace e0 := bel_zx hbb e0); replace e1 := bel_zx hbb e1; replace y1 := bel_zx hbb y1; replace y2 := bel_zx hbb y2; replace hBX := Lib.hid (below_step hBX.out hbb); replace zN := Nat.le_trans zN hbb.size) | (have hcv2 := conv_z 111 (z := 111) (bel_zx hbb (show (W.alloc (.cells #[.int .u8 111] 5)).drew.cell? ⟨W.heap.size, 0, none⟩ = some (.int .u8 111) from (by repeat (first | (refine Eq.trans (World.cell?_alloc_at _ _ _ _ ?hh) ?_; (case hh => (simp; done)); rfl) | refine cell_alloc_keep _ ?_ | refine cell_drew ?_ | refine below_cell (by assumption) rfl ?_)))) rfl; replace e0 := bel_zx hbb (show (W.alloc (.cells #[.int .u8 111] 5)).drew.cell? _ = _ from cell_alloc_keep _ e0); replace e1 := bel_zx hbb (show (W.alloc (.cells #[.int .u8 111] 5)).drew.cell? _ = _ from cell_alloc_keep _ e1); replace y1 := bel_zx hbb (show (W.alloc (.cells #[.int .u8 111] 5)).drew.cell? _ = _ from cell_alloc_keep _ y1); replace y2 := bel_zx hbb (show (W.alloc (.cells #[.int .u8 111] 5)).drew.cell? _ = _ from cell_alloc_keep _ y2); replace hBX := Lib.hid (below_step (show Below w.heap.size w (W.alloc (.cells #[.int .u8 111] 5)).drew from Below.alloc hBX.out (by omega) _) hbb); replace zN := Nat.le_trans (Nat.le_trans zN (show W.drew.heap.size ≤ (W.alloc (.cells #[.int .u8 111] 5)).drew.heap.size from by simp)) hbb.size)); clear hbb; dsimp only)
                    refine hK.out _ _ ?_ (fun hHeld7 => ?_)
                    · ((try dsimp only); (first | exact ⟨e0, e1⟩ | exact ⟨cell_alloc_keep _ e0, cell_alloc_keep _ e1⟩))
                    clear hB hK K hHeld1
                    refine AnyB.each (rs := [4]) (by kernel_rfl) (by simp) ?_
                    refine EachB.cons rfl (fun K hK hB => ?_) ?_
                    · skip
                      go_simp
                      refine hK.out _ _ ?_ (fun hHeld8 => ?_)
                      · ((try dsimp only); (first | exact ⟨e0, e1⟩ | exact ⟨cell_alloc_keep _ e0, cell_alloc_keep _ e1⟩))
                      clear hB hK K hHeld7
                      refine AnyB.each (rs := [5]) (by kernel_rfl) (by simp) ?_
                      refine EachB.cons rfl (fun K hK hB => ?_) ?_
                      · skip
                        go_simp
                        refine hK.out _ _ ?_ (fun hHeld9 => ?_)
                        · ((try dsimp only); (first | exact ⟨e0, e1⟩ | exact ⟨cell_alloc_keep _ e0, cell_alloc_keep _ e1⟩))
                        clear hB hK K hHeld8
                        refine AnyB.takeQ (i := 9) (oi := _) (v := ?_) (by simp only [List.getElem?_toArray, List.getElem?_cons_zero, List.getElem?_cons_succ]; rfl) (by kernel_rfl) (by kernel_rfl) (by kernel_rfl) (by intro _ _ _ h; exact h) (Or.inl ⟨by rfl, ?_⟩) ?_
                        rotate_left
                        · (intro w hSw; (try dsimp only at hSw); go_simp; (try (with_reducible rfl)))
                        try simp only [Act.put, List.setIfInBounds_toArray, List.set_cons_zero, List.set_cons_succ]
                        refine AnyB.takeQ (i := 10) (oi := _) (v := ?_) (by simp only [List.getElem?_toArray, List.getElem?_cons_zero, List.getElem?_cons_succ]; rfl) (by kernel_rfl) (by kernel_rfl) (by kernel_rfl) (by intro _ _ _ h; exact h) (Or.inl ⟨by rfl, ?_⟩) ?_
                        rotate_left
                        · (intro w hSw; (try dsimp only at hSw); go_simp; (try (with_reducible rfl)))
                        try simp only [Act.put, List.setIfInBounds_toArray, List.set_cons_zero, List.set_cons_succ]
                        refine AnyB.takeQ (i := 11) (oi := _) (v := ?_) (by simp only [List.getElem?_toArray, List.getElem?_cons_zero, List.getElem?_cons_succ]; rfl) (by kernel_rfl) (by kernel_rfl) (by kernel_rfl) (by intro _ _ _ h; exact h) (Or.inl ⟨by rfl, ?_⟩) ?_
                        rotate_left
                        · (intro w hSw; (try dsimp only at hSw); go_simp; (try (with_reducible rfl)))
                        try simp only [Act.put, List.setIfInBounds_toArray, List.set_cons_zero, List.set_cons_succ]
                        refine AnyB.none (by kernel_rfl) ?_ _
                        go_wp2_with fail
                        go_roundw
                        case rel => exact ⟨k + 1, by omega, by rw [HT.out], by go_num, by first | exact hBX | exact (show Below _ _ _ from Below.alloc hBX.out (by omega) _), by first | exact zN | (simp; omega), by first | exact y1 | exact cell_alloc_keep _ y1, by first | exact y2 | exact cell_alloc_keep _ y2⟩
                        case measure => simp [intOf]; omega
                      exact EachB.nil
                    exact EachB.nil
                  exact EachB.nil
                refine EachB.cons rfl (fun K hK hB => ?_) ?_
                · skip
                  (go_simp; go_at_call 43; refine (spec_l1Num_any q _ hq9).mono ?_; rintro e w3 ⟨rfl, hbb⟩; (first | ((with_reducible replace e0 := bel_zx hbb e0); replace e1 := bel_zx hbb e1; replace y1 := bel_zx hbb y1; replace y2 := bel_zx hbb y2; replace hBX := Lib.hid (below_step hBX.out hbb); replace zN := Nat.le_trans zN hbb.size) | (have hcv2 := conv_z 111 (z := 111) (bel_zx hbb (show (W.alloc (.cells #[.int .u8 111] 5)).drew.cell? ⟨W.heap.size, 0, none⟩ = some (.int .u8 111) from (by repeat (first | (refine Eq.trans (World.cell?_alloc_at _ _ _ _ ?hh) ?_; (case hh => (simp; done)); rfl) | refine cell_alloc_keep _ ?_ | refine cell_drew ?_ | refine below_cell (by assumption) rfl ?_)))) rfl; replace e0 := bel_zx hbb (show (W.alloc (.cells #[.int .u8 111] 5)).drew.cell? _ = _ from cell_alloc_keep _ e0); replace e1 := bel_zx hbb (show (W.alloc (.cells #[.int .u8 111] 5)).drew.cell? _ = _ from cell_alloc_keep _ e1); replace y1 := bel_zx hbb (show (W.alloc (.cells #[.int .u8 111] 5)).drew.cell? _ = _ from cell_alloc_keep _ y1); replace y2 := bel_zx hbb (show (W.alloc (.cells #[.int .u8 111] 5)).drew.cell? _ = _ from cell_alloc_keep _ y2); replace hBX := Lib.hid (below_step (show Below w.heap.size w (W.alloc (.cells #[.int .u8 111] 5)).drew from Below.alloc hBX.out (by omega) _) hbb); replace zN := Nat.le_trans (Nat.le_trans zN (show W.drew.heap.size ≤ (W.alloc (.cells #[.int .u8 111] 5)).drew.heap.size from by simp)) hbb.size)); clear hbb; dsimp only)
                  refine hK.out _ _ ?_ (fun hHeld10 => ?_)
                  · ((try dsimp only); (first | exact ⟨e0, e1⟩ | exact ⟨cell_alloc_keep _ e0, cell_alloc_keep _ e1⟩))
                  clear hB hK K hHeld0
                  refine AnyB.each (rs := [3]) (by kernel_rfl) (by simp) ?_
                  refine EachB.cons rfl (fun K hK hB => ?_) ?_
                  · skip
                    go_simp
                    refine hK.out _ _ ?_ (fun hHeld11 => ?_)
                    · ((try dsimp only); (first | exact ⟨e0, e1⟩ | exact ⟨cell_alloc_keep _ e0, cell_alloc_keep _ e1⟩))
                    clear hB hK K hHeld10
                    refine AnyB.each (rs := [4]) (by kernel_rfl) (by simp) ?_
                    refine EachB.cons rfl (fun K hK hB => ?_) ?_
                    · skip
                      go_simp
                      refine hK.out _ _ ?_ (fun hHeld12 => ?_)
                      · ((try dsimp only); (first | exact ⟨e0, e1⟩ | exact ⟨cell_alloc_keep _ e0, cell_alloc_keep _ e1⟩))
                      clear hB hK K hHeld11
                      refine AnyB.each (rs := [5]) (by kernel_rfl) (by simp) ?_
                      refine EachB.cons rfl (fun K hK hB => ?_) ?_
                      · skip
                        go_simp
                        refine hK.out _ _ ?_ (fun hHeld13 => ?_)
                        · ((try dsimp only); (first | exact ⟨e0, e1⟩ | exact ⟨cell_alloc_keep _ e0, cell_alloc_keep _ e1⟩))
                        clear hB hK K hHeld12
                        refine AnyB.takeQ (i := 9) (oi := _) (v := ?_) (by simp only [List.getElem?_toArray, List.getElem?_cons_zero, List.getElem?_cons_succ]; rfl) (by kernel_rfl) (by kernel_rfl) (by kernel_rfl) (by intro _ _ _ h; exact h) (Or.inl ⟨by rfl, ?_⟩) ?_
                        rotate_left
                        · (intro w hSw; (try dsimp only at hSw); go_simp; (try (with_reducible rfl)))
                        try simp only [Act.put, List.setIfInBounds_toArray, List.set_cons_zero, List.set_cons_succ]
                        refine AnyB.takeQ (i := 10) (oi := _) (v := ?_) (by simp only [List.getElem?_toArray, List.getElem?_cons_zero, List.getElem?_cons_succ]; rfl) (by kernel_rfl) (by kernel_rfl) (by kernel_rfl) (by intro _ _ _ h; exact h) (Or.inl ⟨by rfl, ?_⟩) ?_
                        rotate_left
                        · (intro w hSw; (try dsimp only at hSw); go_simp; (try (with_reducible rfl)))
                        try simp only [Act.put, List.setIfInBounds_toArray, List.set_cons_zero, List.set_cons_succ]
                        refine AnyB.takeQ (i := 11) (oi := _) (v := ?_) (by simp only [List.getElem?_toArray, List.getElem?_cons_zero, List.getElem?_cons_succ]; rfl) (by kernel_rfl) (by kernel_rfl) (by kernel_rfl) (by intro _ _ _ h; exact h) (Or.inl ⟨by rfl, ?_⟩) ?_
                        rotate_left
                        · (intro w hSw; (try dsimp only at hSw); go_simp; (try (with_reducible rfl)))
                        try simp only [Act.put, List.setIfInBounds_toArray, List.set_cons_zero, List.set_cons_succ]
                        refine AnyB.none (by kernel_rfl) ?_ _
                        go_wp2_with fail
                        go_roundw
                        case rel => exact ⟨k + 1, by omega, by rw [HT.out], by go_num, by first | exact hBX | exact (show Below _ _ _ from Below.alloc hBX.out (by omega) _), by first | exact zN | (simp; omega), by first | exact y1 | exact cell_alloc_keep _ y1, by first | exact y2 | exact cell_alloc_keep _ y2⟩
                        case measure => simp [intOf]; omega
                      exact EachB.nil
                    exact EachB.nil
                  exact EachB.nil
                exact EachB.nil
              · have HN9 := Lib.hid (show nodeT x = ⟨#[122]⟩ ++ numB q from by rw [node_t (by omega), hq, ka]; rfl)
                rw [HN9.out] at HT
                rw [ka] at e0 hBX y1 y2 e1 zN ⊢
                rw [hq] at e0 hBX y1 y2 e1 zN ⊢
                have HT := Lib.hid HT
                clear ka HN9 hq
                go_upto_region 9 with fail
                obtain ⟨W, hW⟩ : ∃ W, W = (wr.alloc (.cells #[.int .i64 3, .int .i64 (q : Int)] 36)) := ⟨_, rfl⟩
                rw [← hW] at e0 hBX y1 y2 e1 zN ⊢
                clear hW
                replace e0 : W.drew.cell? _ = _ := e0; replace e1 : W.drew.cell? _ = _ := e1; replace y1 : W.drew.cell? _ = _ := y1; replace y2 : W.drew.cell? _ = _ := y2
                replace hBX := Lib.hid (show Below w.heap.size w W.drew from Below.drew hBX.out)
                replace zN : w.heap.size + 1 ≤ W.drew.heap.size := zN
                obtain ⟨N, hN⟩ : ∃ N, N = wr.heap.size := ⟨_, rfl⟩
                rw [← hN] at e0 e1 hsz ⊢
                clear hN
                have hix : (((ByteArray.mk #[32, 105, 111, 122])[3]'(by decide)).toNat : Int) = 122 := rfl
                have hcv := fun (V : World) => conv_z 122 (W := V.alloc (.cells #[.int .u8 122] 5)) (g := V.heap.size) (z := 122) (by repeat (first | (refine Eq.trans (World.cell?_alloc_at _ _ _ _ ?hh) ?_; (case hh => (simp; done)); rfl) | refine cell_alloc_keep _ ?_)) rfl
                have hcv3 := conv_z 122 (W := (W.alloc (.cells #[.int .u8 122] 5)).drew) (g := W.heap.size) (z := 122) (by repeat (first | (refine Eq.trans (World.cell?_alloc_at _ _ _ _ ?hh) ?_; (case hh => (simp; done)); rfl) | refine cell_alloc_keep _ ?_ | refine cell_drew ?_ | refine below_cell (by assumption) rfl ?_)) rfl
                refine AnyB.begin (S := (fun w' => w'.cell? ⟨N, 0, none⟩ = some (.int .i64 3) ∧ w'.cell? ⟨N, 1, none⟩ = some (.int .i64 (q : Int)))) [] (by kernel_rfl) ?_ (fun hHeld0 => ?_)
                · ((try dsimp only); (first | exact ⟨e0, e1⟩ | exact ⟨cell_alloc_keep _ e0, cell_alloc_keep _ e1⟩))
                refine AnyB.takeQ (i := 0) (oi := _) (v := ?_) (by simp only [List.getElem?_toArray, List.getElem?_cons_zero, List.getElem?_cons_succ]; rfl) (by kernel_rfl) (by kernel_rfl) (by kernel_rfl) (by intro _ _ _ h; exact h) (Or.inl ⟨by rfl, ?_⟩) ?_
                rotate_left
                · (intro w hSw; (try dsimp only at hSw); go_simp; (try (with_reducible rfl)))
                try simp only [Act.put, List.setIfInBounds_toArray, List.set_cons_zero, List.set_cons_succ]
                refine AnyB.takeQ (i := 1) (oi := _) (v := ?_) (by simp only [List.getElem?_toArray, List.getElem?_cons_zero, List.getElem?_cons_succ]; rfl) (by kernel_rfl) (by kernel_rfl) (by kernel_rfl) (by intro _ _ _ h; exact h) (Or.inl ⟨by rfl, ?_⟩) ?_
                rotate_left
                · (intro w hSw; (try dsimp only at hSw); go_simp; (try (with_reducible rfl)))
                try simp only [Act.put, List.setIfInBounds_toArray, List.set_cons_zero, List.set_cons_succ]
                refine AnyB.take (i := 2) (oi := _) (v := ?_) (by simp only [List.getElem?_toArray, List.getElem?_cons_zero, List.getElem?_cons_succ]; rfl) (by kernel_rfl) (by kernel_rfl) (by kernel_rfl) (by kernel_rfl) (by kernel_rfl) (by intro _ _ _ h; exact h) (Or.inl ⟨by rfl, ?_⟩) (by assumption) ?_
                rotate_left
                · (intro w hSw; (try dsimp only at hSw); go_simp; (try (with_reducible rfl)))
                try simp only [Act.put, List.setIfInBounds_toArray, List.set_cons_zero, List.set_cons_succ]
                refine AnyB.takeQ (i := 6) (oi := _) (v := ?_) (by simp only [List.getElem?_toArray, List.getElem?_cons_zero, List.getElem?_cons_succ]; rfl) (by kernel_rfl) (by kernel_rfl) (by kernel_rfl) (by intro _ _ _ h; exact h) (Or.inl ⟨by rfl, ?_⟩) ?_
                rotate_left
                · (intro w hSw; (try dsimp only at hSw); go_simp; (try (with_reducible rfl)))
                try simp only [Act.put, List.setIfInBounds_toArray, List.set_cons_zero, List.set_cons_succ]
                refine AnyB.take (i := 7) (oi := _) (v := ?_) (by simp only [List.getElem?_toArray, List.getElem?_cons_zero, List.getElem?_cons_succ]; rfl) (by kernel_rfl) (by kernel_rfl) (by kernel_rfl) (by kernel_rfl) (by kernel_rfl) (by intro _ _ _ h; exact h) (Or.inl ⟨by rfl, ?_⟩) (by assumption) ?_
                rotate_left
                · (intro w hSw; (try dsimp only at hSw); go_simp; (try (with_reducible rfl)))
                try simp only [Act.put, List.setIfInBounds_toArray, List.set_cons_zero, List.set_cons_succ]
                refine AnyB.each (rs := [3, 8]) (by kernel_rfl) (by simp) ?_
                refine EachB.cons rfl (fun K hK hB => ?_) ?_
                · skip
                  go_simp
                  refine hK.out _ _ ?_ (fun hHeld1 => ?_)
                  · ((try dsimp only); (first | exact ⟨e0, e1⟩ | exact ⟨cell_alloc_keep _ e0, cell_alloc_keep _ e1⟩))
                  clear hB hK K hHeld0
                  refine AnyB.each (rs := [4, 8]) (by kernel_rfl) (by simp) ?_
                  refine EachB.cons rfl (fun K hK hB => ?_) ?_
                  · skip
                    go_simp
                    refine hK.out _ _ ?_ (fun hHeld2 => ?_)
                    · ((try dsimp only); (first | exact ⟨e0, e1⟩ | exact ⟨cell_alloc_keep _ e0, cell_alloc_keep _ e1⟩))
                    clear hB hK K hHeld1
                    refine AnyB.each (rs := [5, 8]) (by kernel_rfl) (by simp) ?_
                    refine EachB.cons rfl (fun K hK hB => ?_) ?_
                    · skip
                      go_simp
                      refine hK.out _ _ ?_ (fun hHeld3 => ?_)
                      · ((try dsimp only); (first | exact ⟨e0, e1⟩ | exact ⟨cell_alloc_keep _ e0, cell_alloc_keep _ e1⟩))
                      clear hB hK K hHeld2
                      refine AnyB.each (rs := [8]) (by kernel_rfl) (by simp) ?_
                      refine EachB.cons rfl (fun K hK hB => ?_) ?_
                      · skip
                        (go_simp; go_at_call 43; refine (spec_l1Num_any q _ hq9).mono ?_; rintro e w3 ⟨rfl, hbb⟩; (first | ((with_reducible replace e0 := bel_zx hbb e0); replace e1 := bel_zx hbb e1; replace y1 := bel_zx hbb y1; replace y2 := bel_zx hbb y2; replace hBX := Lib.hid (below_step hBX.out hbb); replace zN := Nat.le_trans zN hbb.size) | (have hcv2 := conv_z 122 (z := 122) (bel_zx hbb (show (W.alloc (.cells #[.int .u8 122] 5)).drew.cell? ⟨W.heap.size, 0, none⟩ = some (.int .u8 122) from (by repeat (first | (refine Eq.trans (World.cell?_alloc_at _ _ _ _ ?hh) ?_; (case hh => (simp; done)); rfl) | refine cell_alloc_keep _ ?_ | refine cell_drew ?_ | refine below_cell (by assumption) rfl ?_)))) rfl; replace e0 := bel_zx hbb (show (W.alloc (.cells #[.int .u8 122] 5)).drew.cell? _ = _ from cell_alloc_keep _ e0); replace e1 := bel_zx hbb (show (W.alloc (.cells #[.int .u8 122] 5)).drew.cell? _ = _ from cell_alloc_keep _ e1); replace y1 := bel_zx hbb (show (W.alloc (.cells #[.int .u8 122] 5)).drew.cell? _ = _ from cell_alloc_keep _ y1); replace y2 := bel_zx hbb (show (W.alloc (.cells #[.int .u8 122] 5)).drew.cell? _ = _ from cell_alloc_keep _ y2); replace hBX := Lib.hid (below_step (show Below w.heap.size w (W.alloc (.cells #[.int .u8 122] 5)).drew from Below.alloc hBX.out (by omega) _) hbb); replace zN := Nat.le_trans (Nat.le_trans zN (show W.drew.heap.size ≤ (W.alloc (.cells #[.int .u8 122] 5)).drew.heap.size from by simp)) hbb.size)); clear hbb; dsimp only)
                        refine hK.out _ _ ?_ (fun hHeld4 => ?_)
                        · ((try dsimp only); (first | exact ⟨e0, e1⟩ | exact ⟨cell_alloc_keep _ e0, cell_alloc_keep _ e1⟩))
                        clear hB hK K hHeld3
                        refine AnyB.takeQ (i := 9) (oi := _) (v := ?_) (by simp only [List.getElem?_toArray, List.getElem?_cons_zero, List.getElem?_cons_succ]; rfl) (by kernel_rfl) (by kernel_rfl) (by kernel_rfl) (by intro _ _ _ h; exact h) (Or.inl ⟨by rfl, ?_⟩) ?_
                        rotate_left
                        · (intro w hSw; (try dsimp only at hSw); go_simp; (try (with_reducible rfl)))
                        try simp only [Act.put, List.setIfInBounds_toArray, List.set_cons_zero, List.set_cons_succ]
                        refine AnyB.takeQ (i := 10) (oi := _) (v := ?_) (by simp only [List.getElem?_toArray, List.getElem?_cons_zero, List.getElem?_cons_succ]; rfl) (by kernel_rfl) (by kernel_rfl) (by kernel_rfl) (by intro _ _ _ h; exact h) (Or.inl ⟨by rfl, ?_⟩) ?_
                        rotate_left
                        · (intro w hSw; (try dsimp only at hSw); go_simp; (try (with_reducible rfl)))
                        try simp only [Act.put, List.setIfInBounds_toArray, List.set_cons_zero, List.set_cons_succ]
                        refine AnyB.takeQ (i := 11) (oi := _) (v := ?_) (by simp only [List.getElem?_toArray, List.getElem?_cons_zero, List.getElem?_cons_succ]; rfl) (by kernel_rfl) (by kernel_rfl) (by kernel_rfl) (by intro _ _ _ h; exact h) (Or.inl ⟨by rfl, ?_⟩) ?_
                        rotate_left
                        · (intro w hSw; (try dsimp only at hSw); go_simp; (try (with_reducible rfl)))
                        try simp only [Act.put, List.setIfInBounds_toArray, List.set_cons_zero, List.set_cons_succ]
                        refine AnyB.none (by kernel_rfl) ?_ _
                        go_wp2_with fail
                        go_roundw
                        case rel => exact ⟨k + 1, by omega, by rw [HT.out], by go_num, by first | exact hBX | exact (show Below _ _ _ from Below.alloc hBX.out (by omega) _), by first | exact zN | (simp; omega), by first | exact y1 | exact cell_alloc_keep _ y1, by first | exact y2 | exact cell_alloc_keep _ y2⟩
                        case measure => simp [intOf]; omega
                      exact EachB.nil
                    refine EachB.cons rfl (fun K hK hB => ?_) ?_
                    · skip
                      (go_simp; go_at_call 43; refine (spec_l1Num_any q _ hq9).mono ?_; rintro e w3 ⟨rfl, hbb⟩; (first | ((with_reducible replace e0 := bel_zx hbb e0); replace e1 := bel_zx hbb e1; replace y1 := bel_zx hbb y1; replace y2 := bel_zx hbb y2; replace hBX := Lib.hid (below_step hBX.out hbb); replace zN := Nat.le_trans zN hbb.size) | (have hcv2 := conv_z 122 (z := 122) (bel_zx hbb (show (W.alloc (.cells #[.int .u8 122] 5)).drew.cell? ⟨W.heap.size, 0, none⟩ = some (.int .u8 122) from (by repeat (first | (refine Eq.trans (World.cell?_alloc_at _ _ _ _ ?hh) ?_; (case hh => (simp; done)); rfl) | refine cell_alloc_keep _ ?_ | refine cell_drew ?_ | refine below_cell (by assumption) rfl ?_)))) rfl; replace e0 := bel_zx hbb (show (W.alloc (.cells #[.int .u8 122] 5)).drew.cell? _ = _ from cell_alloc_keep _ e0); replace e1 := bel_zx hbb (show (W.alloc (.cells #[.int .u8 122] 5)).drew.cell? _ = _ from cell_alloc_keep _ e1); replace y1 := bel_zx hbb (show (W.alloc (.cells #[.int .u8 122] 5)).drew.cell? _ = _ from cell_alloc_keep _ y1); replace y2 := bel_zx hbb (show (W.alloc (.cells #[.int .u8 122] 5)).drew.cell? _ = _ from cell_alloc_keep _ y2); replace hBX := Lib.hid (below_step (show Below w.heap.size w (W.alloc (.cells #[.int .u8 122] 5)).drew from Below.alloc hBX.out (by omega) _) hbb); replace zN := Nat.le_trans (Nat.le_trans zN (show W.drew.heap.size ≤ (W.alloc (.cells #[.int .u8 122] 5)).drew.heap.size from by simp)) hbb.size)); clear hbb; dsimp only)
                      refine hK.out _ _ ?_ (fun hHeld5 => ?_)
                      · ((try dsimp only); (first | exact ⟨e0, e1⟩ | exact ⟨cell_alloc_keep _ e0, cell_alloc_keep _ e1⟩))
                      clear hB hK K hHeld2
                      refine AnyB.each (rs := [5]) (by kernel_rfl) (by simp) ?_
                      refine EachB.cons rfl (fun K hK hB => ?_) ?_
                      · skip
                        go_simp
                        refine hK.out _ _ ?_ (fun hHeld6 => ?_)
                        · ((try dsimp only); (first | exact ⟨e0, e1⟩ | exact ⟨cell_alloc_keep _ e0, cell_alloc_keep _ e1⟩))
                        clear hB hK K hHeld5
                        refine AnyB.takeQ (i := 9) (oi := _) (v := ?_) (by simp only [List.getElem?_toArray, List.getElem?_cons_zero, List.getElem?_cons_succ]; rfl) (by kernel_rfl) (by kernel_rfl) (by kernel_rfl) (by intro _ _ _ h; exact h) (Or.inl ⟨by rfl, ?_⟩) ?_
                        rotate_left
                        · (intro w hSw; (try dsimp only at hSw); go_simp; (try (with_reducible rfl)))
                        try simp only [Act.put, List.setIfInBounds_toArray, List.set_cons_zero, List.set_cons_succ]
                        refine AnyB.takeQ (i := 10) (oi := _) (v := ?_) (by simp only [List.getElem?_toArray, List.getElem?_cons_zero, List.getElem?_cons_succ]; rfl) (by kernel_rfl) (by kernel_rfl) (by kernel_rfl) (by intro _ _ _ h; exact h) (Or.inl ⟨by rfl, ?_⟩) ?_
                        rotate_left
                        · (intro w hSw; (try dsimp only at hSw); go_simp; (try (with_reducible rfl)))
                        try simp only [Act.put, List.setIfInBounds_toArray, List.set_cons_zero, List.set_cons_succ]
                        refine AnyB.takeQ (i := 11) (oi := _) (v := ?_) (by simp only [List.getElem?_toArray, List.getElem?_cons_zero, List.getElem?_cons_succ]; rfl) (by kernel_rfl) (by kernel_rfl) (by kernel_rfl) (by intro _ _ _ h; exact h) (Or.inl ⟨by rfl, ?_⟩) ?_
                        rotate_left
                        · (intro w hSw; (try dsimp only at hSw); go_simp; (try (with_reducible rfl)))
                        try simp only [Act.put, List.setIfInBounds_toArray, List.set_cons_zero, List.set_cons_succ]
                        refine AnyB.none (by kernel_rfl) ?_ _
                        go_wp2_with fail
                        go_roundw
                        case rel => exact ⟨k + 1, by omega, by rw [HT.out], by go_num, by first | exact hBX | exact (show Below _ _ _ from Below.alloc hBX.out (by omega) _), by first | exact zN | (simp; omega), by first | exact y1 | exact cell_alloc_keep _ y1, by first | exact y2 | exact cell_alloc_keep _ y2⟩
                        case measure => simp [intOf]; omega
                      exact EachB.nil
                    exact EachB.nil
                  refine EachB.cons rfl (fun K hK hB => ?_) ?_
                  · skip
                    (go_simp; go_at_call 43; refine (spec_l1Num_any q _ hq9).mono ?_; rintro e w3 ⟨rfl, hbb⟩; (first | ((with_reducible replace e0 := bel_zx hbb e0); replace e1 := bel_zx hbb e1; replace y1 := bel_zx hbb y1; replace y2 := bel_zx hbb y2; replace hBX := Lib.hid (below_step hBX.out hbb); replace zN := Nat.le_trans zN hbb.size) | (have hcv2 := conv_z 122 (z := 122) (bel_zx hbb (show (W.alloc (.cells #[.int .u8 122] 5)).drew.cell? ⟨W.heap.size, 0, none⟩ = some (.int .u8 122) from (by repeat (first | (refine Eq.trans (World.cell?_alloc_at _ _ _ _ ?hh) ?_; (case hh => (simp; done)); rfl) | refine cell_alloc_keep _ ?_ | refine cell_drew ?_ | refine below_cell (by assumption) rfl ?_)))) rfl; replace e0 := bel_zx hbb (show (W.alloc (.cells #[.int .u8 122] 5)).drew.cell? _ = _ from cell_alloc_keep _ e0); replace e1 := bel_zx hbb (show (W.alloc (.cells #[.int .u8 122] 5)).drew.cell? _ = _ from cell_alloc_keep _ e1); replace y1 := bel_zx hbb (show (W.alloc (.cells #[.int .u8 122] 5)).drew.cell? _ = _ from cell_alloc_keep _ y1); replace y2 := bel_zx hbb (show (W.alloc (.cells #[.int .u8 122] 5)).drew.cell? _ = _ from cell_alloc_keep _ y2); replace hBX := Lib.hid (below_step (show Below w.heap.size w (W.alloc (.cells #[.int .u8 122] 5)).drew from Below.alloc hBX.out (by omega) _) hbb); replace zN := Nat.le_trans (Nat.le_trans zN (show W.drew.heap.size ≤ (W.alloc (.cells #[.int .u8 122] 5)).drew.heap.size from by simp)) hbb.size)); clear hbb; dsimp only)
                    refine hK.out _ _ ?_ (fun hHeld7 => ?_)
                    · ((try dsimp only); (first | exact ⟨e0, e1⟩ | exact ⟨cell_alloc_keep _ e0, cell_alloc_keep _ e1⟩))
                    clear hB hK K hHeld1
                    refine AnyB.each (rs := [4]) (by kernel_rfl) (by simp) ?_
                    refine EachB.cons rfl (fun K hK hB => ?_) ?_
                    · skip
                      go_simp
                      refine hK.out _ _ ?_ (fun hHeld8 => ?_)
                      · ((try dsimp only); (first | exact ⟨e0, e1⟩ | exact ⟨cell_alloc_keep _ e0, cell_alloc_keep _ e1⟩))
                      clear hB hK K hHeld7
                      refine AnyB.each (rs := [5]) (by kernel_rfl) (by simp) ?_
                      refine EachB.cons rfl (fun K hK hB => ?_) ?_
                      · skip
                        go_simp
                        refine hK.out _ _ ?_ (fun hHeld9 => ?_)
                        · ((try dsimp only); (first | exact ⟨e0, e1⟩ | exact ⟨cell_alloc_keep _ e0, cell_alloc_keep _ e1⟩))
                        clear hB hK K hHeld8
                        refine AnyB.takeQ (i := 9) (oi := _) (v := ?_) (by simp only [List.getElem?_toArray, List.getElem?_cons_zero, List.getElem?_cons_succ]; rfl) (by kernel_rfl) (by kernel_rfl) (by kernel_rfl) (by intro _ _ _ h; exact h) (Or.inl ⟨by rfl, ?_⟩) ?_
                        rotate_left
                        · (intro w hSw; (try dsimp only at hSw); go_simp; (try (with_reducible rfl)))
                        try simp only [Act.put, List.setIfInBounds_toArray, List.set_cons_zero, List.set_cons_succ]
                        refine AnyB.takeQ (i := 10) (oi := _) (v := ?_) (by simp only [List.getElem?_toArray, List.getElem?_cons_zero, List.getElem?_cons_succ]; rfl) (by kernel_rfl) (by kernel_rfl) (by kernel_rfl) (by intro _ _ _ h; exact h) (Or.inl ⟨by rfl, ?_⟩) ?_
                        rotate_left
                        · (intro w hSw; (try dsimp only at hSw); go_simp; (try (with_reducible rfl)))
                        try simp only [Act.put, List.setIfInBounds_toArray, List.set_cons_zero, List.set_cons_succ]
                        refine AnyB.takeQ (i := 11) (oi := _) (v := ?_) (by simp only [List.getElem?_toArray, List.getElem?_cons_zero, List.getElem?_cons_succ]; rfl) (by kernel_rfl) (by kernel_rfl) (by kernel_rfl) (by intro _ _ _ h; exact h) (Or.inl ⟨by rfl, ?_⟩) ?_
                        rotate_left
                        · (intro w hSw; (try dsimp only at hSw); go_simp; (try (with_reducible rfl)))
                        try simp only [Act.put, List.setIfInBounds_toArray, List.set_cons_zero, List.set_cons_succ]
                        refine AnyB.none (by kernel_rfl) ?_ _
                        go_wp2_with fail
                        go_roundw
                        case rel => exact ⟨k + 1, by omega, by rw [HT.out], by go_num, by first | exact hBX | exact (show Below _ _ _ from Below.alloc hBX.out (by omega) _), by first | exact zN | (simp; omega), by first | exact y1 | exact cell_alloc_keep _ y1, by first | exact y2 | exact cell_alloc_keep _ y2⟩
                        case measure => simp [intOf]; omega
                      exact EachB.nil
                    exact EachB.nil
                  exact EachB.nil
                refine EachB.cons rfl (fun K hK hB => ?_) ?_
                · skip
                  (go_simp; go_at_call 43; refine (spec_l1Num_any q _ hq9).mono ?_; rintro e w3 ⟨rfl, hbb⟩; (first | ((with_reducible replace e0 := bel_zx hbb e0); replace e1 := bel_zx hbb e1; replace y1 := bel_zx hbb y1; replace y2 := bel_zx hbb y2; replace hBX := Lib.hid (below_step hBX.out hbb); replace zN := Nat.le_trans zN hbb.size) | (have hcv2 := conv_z 122 (z := 122) (bel_zx hbb (show (W.alloc (.cells #[.int .u8 122] 5)).drew.cell? ⟨W.heap.size, 0, none⟩ = some (.int .u8 122) from (by repeat (first | (refine Eq.trans (World.cell?_alloc_at _ _ _ _ ?hh) ?_; (case hh => (simp; done)); rfl) | refine cell_alloc_keep _ ?_ | refine cell_drew ?_ | refine below_cell (by assumption) rfl ?_)))) rfl; replace e0 := bel_zx hbb (show (W.alloc (.cells #[.int .u8 122] 5)).drew.cell? _ = _ from cell_alloc_keep _ e0); replace e1 := bel_zx hbb (show (W.alloc (.cells #[.int .u8 122] 5)).drew.cell? _ = _ from cell_alloc_keep _ e1); replace y1 := bel_zx hbb (show (W.alloc (.cells #[.int .u8 122] 5)).drew.cell? _ = _ from cell_alloc_keep _ y1); replace y2 := bel_zx hbb (show (W.alloc (.cells #[.int .u8 122] 5)).drew.cell? _ = _ from cell_alloc_keep _ y2); replace hBX := Lib.hid (below_step (show Below w.heap.size w (W.alloc (.cells #[.int .u8 122] 5)).drew from Below.alloc hBX.out (by omega) _) hbb); replace zN := Nat.le_trans (Nat.le_trans zN (show W.drew.heap.size ≤ (W.alloc (.cells #[.int .u8 122] 5)).drew.heap.size from by simp)) hbb.size)); clear hbb; dsimp only)
                  refine hK.out _ _ ?_ (fun hHeld10 => ?_)
                  · ((try dsimp only); (first | exact ⟨e0, e1⟩ | exact ⟨cell_alloc_keep _ e0, cell_alloc_keep _ e1⟩))
                  clear hB hK K hHeld0
                  refine AnyB.each (rs := [3]) (by kernel_rfl) (by simp) ?_
                  refine EachB.cons rfl (fun K hK hB => ?_) ?_
                  · skip
                    go_simp
                    refine hK.out _ _ ?_ (fun hHeld11 => ?_)
                    · ((try dsimp only); (first | exact ⟨e0, e1⟩ | exact ⟨cell_alloc_keep _ e0, cell_alloc_keep _ e1⟩))
                    clear hB hK K hHeld10
                    refine AnyB.each (rs := [4]) (by kernel_rfl) (by simp) ?_
                    refine EachB.cons rfl (fun K hK hB => ?_) ?_
                    · skip
                      go_simp
                      refine hK.out _ _ ?_ (fun hHeld12 => ?_)
                      · ((try dsimp only); (first | exact ⟨e0, e1⟩ | exact ⟨cell_alloc_keep _ e0, cell_alloc_keep _ e1⟩))
                      clear hB hK K hHeld11
                      refine AnyB.each (rs := [5]) (by kernel_rfl) (by simp) ?_
                      refine EachB.cons rfl (fun K hK hB => ?_) ?_
                      · skip
                        go_simp
                        refine hK.out _ _ ?_ (fun hHeld13 => ?_)
                        · ((try dsimp only); (first | exact ⟨e0, e1⟩ | exact ⟨cell_alloc_keep _ e0, cell_alloc_keep _ e1⟩))
                        clear hB hK K hHeld12
                        refine AnyB.takeQ (i := 9) (oi := _) (v := ?_) (by simp only [List.getElem?_toArray, List.getElem?_cons_zero, List.getElem?_cons_succ]; rfl) (by kernel_rfl) (by kernel_rfl) (by kernel_rfl) (by intro _ _ _ h; exact h) (Or.inl ⟨by rfl, ?_⟩) ?_
                        rotate_left
                        · (intro w hSw; (try dsimp only at hSw); go_simp; (try (with_reducible rfl)))
                        try simp only [Act.put, List.setIfInBounds_toArray, List.set_cons_zero, List.set_cons_succ]
                        refine AnyB.takeQ (i := 10) (oi := _) (v := ?_) (by simp only [List.getElem?_toArray, List.getElem?_cons_zero, List.getElem?_cons_succ]; rfl) (by kernel_rfl) (by kernel_rfl) (by kernel_rfl) (by intro _ _ _ h; exact h) (Or.inl ⟨by rfl, ?_⟩) ?_
                        rotate_left
                        · (intro w hSw; (try dsimp only at hSw); go_simp; (try (with_reducible rfl)))
                        try simp only [Act.put, List.setIfInBounds_toArray, List.set_cons_zero, List.set_cons_succ]
                        refine AnyB.takeQ (i := 11) (oi := _) (v := ?_) (by simp only [List.getElem?_toArray, List.getElem?_cons_zero, List.getElem?_cons_succ]; rfl) (by kernel_rfl) (by kernel_rfl) (by kernel_rfl) (by intro _ _ _ h; exact h) (Or.inl ⟨by rfl, ?_⟩) ?_
                        rotate_left
                        · (intro w hSw; (try dsimp only at hSw); go_simp; (try (with_reducible rfl)))
                        try simp only [Act.put, List.setIfInBounds_toArray, List.set_cons_zero, List.set_cons_succ]
                        refine AnyB.none (by kernel_rfl) ?_ _
                        go_wp2_with fail
                        go_roundw
                        case rel => exact ⟨k + 1, by omega, by rw [HT.out], by go_num, by first | exact hBX | exact (show Below _ _ _ from Below.alloc hBX.out (by omega) _), by first | exact zN | (simp; omega), by first | exact y1 | exact cell_alloc_keep _ y1, by first | exact y2 | exact cell_alloc_keep _ y2⟩
                        case measure => simp [intOf]; omega
                      exact EachB.nil
                    exact EachB.nil
                  exact EachB.nil
                exact EachB.nil
          · have i1 : ¬ (k : Int) < (d.ns.length : Int) := by omega
            rw [acc_all (show (d.ns.map nodeT).length ≤ k by rw [List.length_map]; omega)]
            have HM0 := Lib.hid (acc_0 (midZ d) (d.ws.map wireT))
            have hms := mid_size HG.out
            have HMD := Lib.hid (show hz0 ++ joinL (d.ns.map nodeT) 44 ++ ⟨#[59]⟩ = midZ d from by rw [HHZ0.out]; rfl)
            have HDM := Lib.hid (dia_mid d)
            have hjs : (hz0 ++ joinL (d.ns.map nodeT) 44).size + 1 ≤ 201 := by rw [← HMD.out, app_size, one_size] at hms; exact hms
            obtain ⟨M, hM⟩ : ∃ M, M = midZ d := ⟨_, rfl⟩
            obtain ⟨J, hJ⟩ : ∃ J, J = hz0 ++ joinL (d.ns.map nodeT) 44 := ⟨_, rfl⟩
            rw [← hM] at HM0 HMD hms HDM
            have HMM := Lib.hid hM
            rw [← hJ] at HMD hjs ⊢
            clear hM hJ
            have k6 : ¬ 9223372036854775807 < J.size + 1 := by omega
            have HB := Lib.hid hB.out
            clear hB
            go_wp2_with fail
            rw [HMD.out]
            go_loopw [3, 57] (fun ss si wr => ∃ k : Nat, k ≤ d.ws.length ∧ ss = .string (accT M (d.ws.map wireT) k) ∧ si = .int .i64 k ∧ Hid (Below w.heap.size w wr) ∧ w.heap.size + 1 ≤ wr.heap.size) (fun _ si _ => d.ws.length - (intOf si).toNat)
            case atStart => exact ⟨0, Nat.zero_le _, by rw [HM0.out], rfl, HB, hsz⟩
            case round =>
              clear HB hsz x1 x2 hk hlt i1 k6
              obtain ⟨k, hk, rfl, rfl, hB, hsz⟩ := hrel
              by_cases hlt : k < d.ws.length
              · have i1 : (k : Int) < (d.ws.length : Int) := by omega
                obtain ⟨b, off, rfl, hb, q0, q1, q2⟩ := HW.out k hlt
                replace q0 := (hB.out.cell hb).trans q0
                replace q1 := (hB.out.cell hb).trans q1
                replace q2 := (hB.out.cell hb).trans q2
                have hok := good_wk HG.out hlt
                have hts := wires_size HG.out (Nat.le_of_lt hlt)
                rw [← HMM.out] at hts
                have hgd := getD_wire hlt
                obtain ⟨x, hx⟩ : ∃ x, x = d.ws.getD k ⟨0, 0, false⟩ := ⟨_, rfl⟩
                rw [← hx] at q0 q1 q2 hok hgd
                have HT : accT M (d.ws.map wireT) (k + 1) = (if k = 0 then accT M (d.ws.map wireT) k else accT M (d.ws.map wireT) k ++ ⟨#[44]⟩) ++ wireT x := by
                  split
                  · next h0 => exact acc_1 rfl (by rw [List.length_map]; exact hlt) h0 hgd.symm
                  · next h0 => exact acc_2 rfl (by rw [List.length_map]; exact hlt) h0 hgd.symm
                clear hx hgd
                obtain ⟨T, hT⟩ : ∃ T, T = accT M (d.ws.map wireT) k := ⟨_, rfl⟩
                rw [← hT] at hts HT ⊢
                clear hT
                obtain ⟨SS, hSS⟩ : ∃ S, S = (if k = 0 then T else T ++ ⟨#[44]⟩) := ⟨_, rfl⟩
                have hss : SS.size ≤ 202 + k * 6 := by
                  rw [hSS]
                  split
                  · omega
                  · rw [app_size, one_size]; omega
                rw [← hSS] at HT
                obtain ⟨p, hp⟩ : ∃ n : Nat, x.a = (n : Int) := ⟨x.a.toNat, by unfold okW at hok; omega⟩
                obtain ⟨q, hq⟩ : ∃ n : Nat, x.b = (n : Int) := ⟨x.b.toNat, by unfold okW at hok; omega⟩
                have hp9 : p < 100 := by unfold okW at hok; omega
                have hq9 : q < 100 := by unfold okW at hok; omega
                have hn1 := num_size hp9
                have hn2 := num_size hq9
                have g1 : ¬ 9223372036854775807 < (numB p).size + 1 := by omega
                have g2 : ¬ 9223372036854775807 < (numB p).size + 1 + (numB q).size := by omega
                have g3 : ¬ 9223372036854775807 < SS.size + ((numB p).size + 1 + (numB q).size) := by omega
                rw [hp] at q0; rw [hq] at q1
                clear hok
                have hBX := Lib.hid (show Below w.heap.size w (wr.alloc (.cells #[.int .i64 (p : Int), .int .i64 (q : Int), .bool x.h] 40)) from Below.alloc hB.out (by omega) _)
                have e0 : (wr.alloc (.cells #[.int .i64 (p : Int), .int .i64 (q : Int), .bool x.h] 40)).cell? ⟨wr.heap.size, 0, none⟩ = some (.int .i64 (p : Int)) := (by repeat (first | (refine Eq.trans (World.cell?_alloc_at _ _ _ _ ?hh) ?_; (case hh => (simp; done)); rfl) | refine cell_alloc_keep _ ?_))
                have e1 : (wr.alloc (.cells #[.int .i64 (p : Int), .int .i64 (q : Int), .bool x.h] 40)).cell? ⟨wr.heap.size, 1, none⟩ = some (.int .i64 (q : Int)) := (by repeat (first | (refine Eq.trans (World.cell?_alloc_at _ _ _ _ ?hh) ?_; (case hh => (simp; done)); rfl) | refine cell_alloc_keep _ ?_))
                have e2 : (wr.alloc (.cells #[.int .i64 (p : Int), .int .i64 (q : Int), .bool x.h] 40)).cell? ⟨wr.heap.size, 2, none⟩ = some (.bool x.h) := (by repeat (first | (refine Eq.trans (World.cell?_alloc_at _ _ _ _ ?hh) ?_; (case hh => (simp; done)); rfl) | refine cell_alloc_keep _ ?_))
                have zN : w.heap.size + 1 ≤ (wr.alloc (.cells #[.int .i64 (p : Int), .int .i64 (q : Int), .bool x.h] 40)).heap.size := by simp; omega
                have HP := Lib.hid hp; have HQ := Lib.hid hq; replace HT := Lib.hid HT
                clear hp hq
                go_upto_if 63 with fail
                go_cut [3] (fun s3 wx => s3 = .string SS ∧ wx = (wr.alloc (.cells #[.int .i64 (p : Int), .int .i64 (q : Int), .bool x.h] 40)))
                case first =>
                  by_cases hk0 : k = 0
                  · have i5 : ¬ (0 : Int) < (k : Int) := by omega
                    have e5 : SS = T := by rw [hSS, if_pos hk0]
                    clear hk0 hSS
                    subst e5
                    go_wp2_with fail
                    go_meet
                    exact ⟨rfl, rfl⟩
                  · have i5 : (0 : Int) < (k : Int) := by omega
                    have e5 : SS = T ++ ⟨#[44]⟩ := by rw [hSS, if_neg hk0]
                    have k5 : ¬ 9223372036854775807 < T.size + 1 := by omega
                    clear hk0 hSS
                    have E5 := Lib.hid e5
                    clear e5
                    go_wp2_with fail
                    go_meet
                    exact ⟨by rw [E5.out], rfl⟩
                case rest =>
                  obtain ⟨rfl, rfl⟩ := hcut
                  clear hSS hts
                  have hp := HP.out; have hq := HQ.out
                  replace HT := HT.out
                  clear HP HQ
                  cases hh : x.h with
                  | true =>
                    have HW9 := Lib.hid (show wireT x = numB p ++ ⟨#[61]⟩ ++ numB q from by unfold wireT; rw [hp, hq, hh]; rfl)
                    rw [HW9.out] at HT
                    rw [hh] at e0 e1 e2 hBX zN
                    have HT := Lib.hid HT
                    clear hh HW9 hp hq
                    go_upto_region 20 with fail
                    obtain ⟨W, hW⟩ : ∃ W, W = (wr.alloc (.cells #[.int .i64 (p : Int), .int .i64 (q : Int), .bool true] 40)) := ⟨_, rfl⟩
                    rw [← hW] at e0 hBX e1 e2 zN ⊢
                    clear hW
                    replace e0 : W.drew.cell? _ = _ := e0; replace e1 : W.drew.cell? _ = _ := e1; replace e2 : W.drew.cell? _ = _ := e2
                    replace hBX := Lib.hid (show Below w.heap.size w W.drew from Below.drew hBX.out)
                    replace zN : w.heap.size + 1 ≤ W.drew.heap.size := zN
                    obtain ⟨N, hN⟩ : ∃ N, N = wr.heap.size := ⟨_, rfl⟩
                    rw [← hN] at e0 e1 e2 hsz ⊢
                    clear hN
                    refine AnyB.begin (S := (fun w' => w'.cell? ⟨N, 0, none⟩ = some (.int .i64 (p : Int)) ∧ w'.cell? ⟨N, 1, none⟩ = some (.int .i64 (q : Int)))) [] (by kernel_rfl) ?_ (fun hHeld0 => ?_)
                    · ((try dsimp only); (first | exact ⟨e0, e1⟩))
                    refine AnyB.takeQ (i := 0) (oi := _) (v := ?_) (by simp only [List.getElem?_toArray, List.getElem?_cons_zero, List.getElem?_cons_succ]; rfl) (by kernel_rfl) (by kernel_rfl) (by kernel_rfl) (by intro _ _ _ h; exact h) (Or.inl ⟨by rfl, ?_⟩) ?_
                    rotate_left
                    · (intro w hSw; (try dsimp only at hSw); go_simp; (try (with_reducible rfl)))
                    try simp only [Act.put, List.setIfInBounds_toArray, List.set_cons_zero, List.set_cons_succ]
                    refine AnyB.takeQ (i := 1) (oi := _) (v := ?_) (by simp only [List.getElem?_toArray, List.getElem?_cons_zero, List.getElem?_cons_succ]; rfl) (by kernel_rfl) (by kernel_rfl) (by kernel_rfl) (by intro _ _ _ h; exact h) (Or.inl ⟨by rfl, ?_⟩) ?_
                    rotate_left
                    · (intro w hSw; (try dsimp only at hSw); go_simp; (try (with_reducible rfl)))
                    try simp only [Act.put, List.setIfInBounds_toArray, List.set_cons_zero, List.set_cons_succ]
                    refine AnyB.take (i := 2) (oi := _) (v := ?_) (by simp only [List.getElem?_toArray, List.getElem?_cons_zero, List.getElem?_cons_succ]; rfl) (by kernel_rfl) (by kernel_rfl) (by kernel_rfl) (by kernel_rfl) (by kernel_rfl) (by intro _ _ _ h; exact h) (Or.inl ⟨by rfl, ?_⟩) (by assumption) ?_
                    rotate_left
                    · (intro w hSw; (try dsimp only at hSw); go_simp; (try (with_reducible rfl)))
                    try simp only [Act.put, List.setIfInBounds_toArray, List.set_cons_zero, List.set_cons_succ]
                    refine AnyB.takeQ (i := 4) (oi := _) (v := ?_) (by simp only [List.getElem?_toArray, List.getElem?_cons_zero, List.getElem?_cons_succ]; rfl) (by kernel_rfl) (by kernel_rfl) (by kernel_rfl) (by intro _ _ _ h; exact h) (Or.inl ⟨by rfl, ?_⟩) ?_
                    rotate_left
                    · (intro w hSw; (try dsimp only at hSw); go_simp; (try (with_reducible rfl)))
                    try simp only [Act.put, List.setIfInBounds_toArray, List.set_cons_zero, List.set_cons_succ]
                    refine AnyB.takeQ (i := 6) (oi := _) (v := ?_) (by simp only [List.getElem?_toArray, List.getElem?_cons_zero, List.getElem?_cons_succ]; rfl) (by kernel_rfl) (by kernel_rfl) (by kernel_rfl) (by intro _ _ _ h; exact h) (Or.inl ⟨by rfl, ?_⟩) ?_
                    rotate_left
                    · (intro w hSw; (try dsimp only at hSw); go_simp; (try (with_reducible rfl)))
                    try simp only [Act.put, List.setIfInBounds_toArray, List.set_cons_zero, List.set_cons_succ]
                    refine AnyB.take (i := 7) (oi := _) (v := ?_) (by simp only [List.getElem?_toArray, List.getElem?_cons_zero, List.getElem?_cons_succ]; rfl) (by kernel_rfl) (by kernel_rfl) (by kernel_rfl) (by kernel_rfl) (by kernel_rfl) (by intro _ _ _ h; exact h) (Or.inl ⟨by rfl, ?_⟩) (by assumption) ?_
                    rotate_left
                    · (intro w hSw; (try dsimp only at hSw); go_simp; (try (with_reducible rfl)))
                    try simp only [Act.put, List.setIfInBounds_toArray, List.set_cons_zero, List.set_cons_succ]
                    refine AnyB.each (rs := [3]) (by kernel_rfl) (by simp) ?_
                    refine EachB.cons rfl (fun K hK hB => ?_) ?_
                    · skip
                      (go_simp; go_at_call 43; refine (spec_l1Num_any p _ hp9).mono ?_; rintro e w3 ⟨rfl, hbb⟩; replace e0 := bel_zx hbb e0; replace e1 := bel_zx hbb e1; replace hBX := Lib.hid (below_step hBX.out hbb); replace zN := Nat.le_trans zN hbb.size; clear hbb; dsimp only)
                      refine hK.out _ _ ?_ (fun hHeld1 => ?_)
                      · ((try dsimp only); (first | exact ⟨e0, e1⟩))
                      clear hB hK K hHeld0
                      refine AnyB.takeQ (i := 5) (oi := _) (v := ?_) (by simp only [List.getElem?_toArray, List.getElem?_cons_zero, List.getElem?_cons_succ]; rfl) (by kernel_rfl) (by kernel_rfl) (by kernel_rfl) (by intro _ _ _ h; exact h) (Or.inl ⟨by rfl, ?_⟩) ?_
                      rotate_left
                      · (intro w hSw; (try dsimp only at hSw); go_simp; (try (with_reducible rfl)))
                      try simp only [Act.put, List.setIfInBounds_toArray, List.set_cons_zero, List.set_cons_succ]
                      refine AnyB.each (rs := [8]) (by kernel_rfl) (by simp) ?_
                      refine EachB.cons rfl (fun K hK hB => ?_) ?_
                      · skip
                        (go_simp; go_at_call 43; refine (spec_l1Num_any q _ hq9).mono ?_; rintro e w3 ⟨rfl, hbb⟩; replace e0 := bel_zx hbb e0; replace e1 := bel_zx hbb e1; replace hBX := Lib.hid (below_step hBX.out hbb); replace zN := Nat.le_trans zN hbb.size; clear hbb; dsimp only)
                        refine hK.out _ _ ?_ (fun hHeld2 => ?_)
                        · ((try dsimp only); (first | exact ⟨e0, e1⟩))
                        clear hB hK K hHeld1
                        refine AnyB.takeQ (i := 9) (oi := _) (v := ?_) (by simp only [List.getElem?_toArray, List.getElem?_cons_zero, List.getElem?_cons_succ]; rfl) (by kernel_rfl) (by kernel_rfl) (by kernel_rfl) (by intro _ _ _ h; exact h) (Or.inl ⟨by rfl, ?_⟩) ?_
                        rotate_left
                        · (intro w hSw; (try dsimp only at hSw); go_simp; (try (with_reducible rfl)))
                        try simp only [Act.put, List.setIfInBounds_toArray, List.set_cons_zero, List.set_cons_succ]
                        refine AnyB.takeQ (i := 10) (oi := _) (v := ?_) (by simp only [List.getElem?_toArray, List.getElem?_cons_zero, List.getElem?_cons_succ]; rfl) (by kernel_rfl) (by kernel_rfl) (by kernel_rfl) (by intro _ _ _ h; exact h) (Or.inl ⟨by rfl, ?_⟩) ?_
                        rotate_left
                        · (intro w hSw; (try dsimp only at hSw); go_simp; (try (with_reducible rfl)))
                        try simp only [Act.put, List.setIfInBounds_toArray, List.set_cons_zero, List.set_cons_succ]
                        refine AnyB.takeQ (i := 11) (oi := _) (v := ?_) (by simp only [List.getElem?_toArray, List.getElem?_cons_zero, List.getElem?_cons_succ]; rfl) (by kernel_rfl) (by kernel_rfl) (by kernel_rfl) (by intro _ _ _ h; exact h) (Or.inl ⟨by rfl, ?_⟩) ?_
                        rotate_left
                        · (intro w hSw; (try dsimp only at hSw); go_simp; (try (with_reducible rfl)))
                        try simp only [Act.put, List.setIfInBounds_toArray, List.set_cons_zero, List.set_cons_succ]
                        refine AnyB.none (by kernel_rfl) ?_ _
                        go_wp2_with fail
                        go_roundw
                        case rel => exact ⟨k + 1, by omega, by rw [HT.out], by go_num, hBX, zN⟩
                        case measure => simp [intOf]; omega
                      exact EachB.nil
                    exact EachB.nil
                  | false =>
                    have HW9 := Lib.hid (show wireT x = numB p ++ ⟨#[45]⟩ ++ numB q from by unfold wireT; rw [hp, hq, hh]; rfl)
                    rw [HW9.out] at HT
                    rw [hh] at e0 e1 e2 hBX zN
                    have HT := Lib.hid HT
                    clear hh HW9 hp hq
                    go_upto_region 20 with fail
                    obtain ⟨W, hW⟩ : ∃ W, W = (wr.alloc (.cells #[.int .i64 (p : Int), .int .i64 (q : Int), .bool false] 40)) := ⟨_, rfl⟩
                    rw [← hW] at e0 hBX e1 e2 zN ⊢
                    clear hW
                    replace e0 : W.drew.cell? _ = _ := e0; replace e1 : W.drew.cell? _ = _ := e1; replace e2 : W.drew.cell? _ = _ := e2
                    replace hBX := Lib.hid (show Below w.heap.size w W.drew from Below.drew hBX.out)
                    replace zN : w.heap.size + 1 ≤ W.drew.heap.size := zN
                    obtain ⟨N, hN⟩ : ∃ N, N = wr.heap.size := ⟨_, rfl⟩
                    rw [← hN] at e0 e1 e2 hsz ⊢
                    clear hN
                    refine AnyB.begin (S := (fun w' => w'.cell? ⟨N, 0, none⟩ = some (.int .i64 (p : Int)) ∧ w'.cell? ⟨N, 1, none⟩ = some (.int .i64 (q : Int)))) [] (by kernel_rfl) ?_ (fun hHeld0 => ?_)
                    · ((try dsimp only); (first | exact ⟨e0, e1⟩))
                    refine AnyB.takeQ (i := 0) (oi := _) (v := ?_) (by simp only [List.getElem?_toArray, List.getElem?_cons_zero, List.getElem?_cons_succ]; rfl) (by kernel_rfl) (by kernel_rfl) (by kernel_rfl) (by intro _ _ _ h; exact h) (Or.inl ⟨by rfl, ?_⟩) ?_
                    rotate_left
                    · (intro w hSw; (try dsimp only at hSw); go_simp; (try (with_reducible rfl)))
                    try simp only [Act.put, List.setIfInBounds_toArray, List.set_cons_zero, List.set_cons_succ]
                    refine AnyB.takeQ (i := 1) (oi := _) (v := ?_) (by simp only [List.getElem?_toArray, List.getElem?_cons_zero, List.getElem?_cons_succ]; rfl) (by kernel_rfl) (by kernel_rfl) (by kernel_rfl) (by intro _ _ _ h; exact h) (Or.inl ⟨by rfl, ?_⟩) ?_
                    rotate_left
                    · (intro w hSw; (try dsimp only at hSw); go_simp; (try (with_reducible rfl)))
                    try simp only [Act.put, List.setIfInBounds_toArray, List.set_cons_zero, List.set_cons_succ]
                    refine AnyB.take (i := 2) (oi := _) (v := ?_) (by simp only [List.getElem?_toArray, List.getElem?_cons_zero, List.getElem?_cons_succ]; rfl) (by kernel_rfl) (by kernel_rfl) (by kernel_rfl) (by kernel_rfl) (by kernel_rfl) (by intro _ _ _ h; exact h) (Or.inl ⟨by rfl, ?_⟩) (by assumption) ?_
                    rotate_left
                    · (intro w hSw; (try dsimp only at hSw); go_simp; (try (with_reducible rfl)))
                    try simp only [Act.put, List.setIfInBounds_toArray, List.set_cons_zero, List.set_cons_succ]
                    refine AnyB.takeQ (i := 4) (oi := _) (v := ?_) (by simp only [List.getElem?_toArray, List.getElem?_cons_zero, List.getElem?_cons_succ]; rfl) (by kernel_rfl) (by kernel_rfl) (by kernel_rfl) (by intro _ _ _ h; exact h) (Or.inl ⟨by rfl, ?_⟩) ?_
                    rotate_left
                    · (intro w hSw; (try dsimp only at hSw); go_simp; (try (with_reducible rfl)))
                    try simp only [Act.put, List.setIfInBounds_toArray, List.set_cons_zero, List.set_cons_succ]
                    refine AnyB.takeQ (i := 6) (oi := _) (v := ?_) (by simp only [List.getElem?_toArray, List.getElem?_cons_zero, List.getElem?_cons_succ]; rfl) (by kernel_rfl) (by kernel_rfl) (by kernel_rfl) (by intro _ _ _ h; exact h) (Or.inl ⟨by rfl, ?_⟩) ?_
                    rotate_left
                    · (intro w hSw; (try dsimp only at hSw); go_simp; (try (with_reducible rfl)))
                    try simp only [Act.put, List.setIfInBounds_toArray, List.set_cons_zero, List.set_cons_succ]
                    refine AnyB.take (i := 7) (oi := _) (v := ?_) (by simp only [List.getElem?_toArray, List.getElem?_cons_zero, List.getElem?_cons_succ]; rfl) (by kernel_rfl) (by kernel_rfl) (by kernel_rfl) (by kernel_rfl) (by kernel_rfl) (by intro _ _ _ h; exact h) (Or.inl ⟨by rfl, ?_⟩) (by assumption) ?_
                    rotate_left
                    · (intro w hSw; (try dsimp only at hSw); go_simp; (try (with_reducible rfl)))
                    try simp only [Act.put, List.setIfInBounds_toArray, List.set_cons_zero, List.set_cons_succ]
                    refine AnyB.each (rs := [3]) (by kernel_rfl) (by simp) ?_
                    refine EachB.cons rfl (fun K hK hB => ?_) ?_
                    · skip
                      (go_simp; go_at_call 43; refine (spec_l1Num_any p _ hp9).mono ?_; rintro e w3 ⟨rfl, hbb⟩; replace e0 := bel_zx hbb e0; replace e1 := bel_zx hbb e1; replace hBX := Lib.hid (below_step hBX.out hbb); replace zN := Nat.le_trans zN hbb.size; clear hbb; dsimp only)
                      refine hK.out _ _ ?_ (fun hHeld1 => ?_)
                      · ((try dsimp only); (first | exact ⟨e0, e1⟩))
                      clear hB hK K hHeld0
                      refine AnyB.takeQ (i := 5) (oi := _) (v := ?_) (by simp only [List.getElem?_toArray, List.getElem?_cons_zero, List.getElem?_cons_succ]; rfl) (by kernel_rfl) (by kernel_rfl) (by kernel_rfl) (by intro _ _ _ h; exact h) (Or.inl ⟨by rfl, ?_⟩) ?_
                      rotate_left
                      · (intro w hSw; (try dsimp only at hSw); go_simp; (try (with_reducible rfl)))
                      try simp only [Act.put, List.setIfInBounds_toArray, List.set_cons_zero, List.set_cons_succ]
                      refine AnyB.each (rs := [8]) (by kernel_rfl) (by simp) ?_
                      refine EachB.cons rfl (fun K hK hB => ?_) ?_
                      · skip
                        (go_simp; go_at_call 43; refine (spec_l1Num_any q _ hq9).mono ?_; rintro e w3 ⟨rfl, hbb⟩; replace e0 := bel_zx hbb e0; replace e1 := bel_zx hbb e1; replace hBX := Lib.hid (below_step hBX.out hbb); replace zN := Nat.le_trans zN hbb.size; clear hbb; dsimp only)
                        refine hK.out _ _ ?_ (fun hHeld2 => ?_)
                        · ((try dsimp only); (first | exact ⟨e0, e1⟩))
                        clear hB hK K hHeld1
                        refine AnyB.takeQ (i := 9) (oi := _) (v := ?_) (by simp only [List.getElem?_toArray, List.getElem?_cons_zero, List.getElem?_cons_succ]; rfl) (by kernel_rfl) (by kernel_rfl) (by kernel_rfl) (by intro _ _ _ h; exact h) (Or.inl ⟨by rfl, ?_⟩) ?_
                        rotate_left
                        · (intro w hSw; (try dsimp only at hSw); go_simp; (try (with_reducible rfl)))
                        try simp only [Act.put, List.setIfInBounds_toArray, List.set_cons_zero, List.set_cons_succ]
                        refine AnyB.takeQ (i := 10) (oi := _) (v := ?_) (by simp only [List.getElem?_toArray, List.getElem?_cons_zero, List.getElem?_cons_succ]; rfl) (by kernel_rfl) (by kernel_rfl) (by kernel_rfl) (by intro _ _ _ h; exact h) (Or.inl ⟨by rfl, ?_⟩) ?_
                        rotate_left
                        · (intro w hSw; (try dsimp only at hSw); go_simp; (try (with_reducible rfl)))
                        try simp only [Act.put, List.setIfInBounds_toArray, List.set_cons_zero, List.set_cons_succ]
                        refine AnyB.takeQ (i := 11) (oi := _) (v := ?_) (by simp only [List.getElem?_toArray, List.getElem?_cons_zero, List.getElem?_cons_succ]; rfl) (by kernel_rfl) (by kernel_rfl) (by kernel_rfl) (by intro _ _ _ h; exact h) (Or.inl ⟨by rfl, ?_⟩) ?_
                        rotate_left
                        · (intro w hSw; (try dsimp only at hSw); go_simp; (try (with_reducible rfl)))
                        try simp only [Act.put, List.setIfInBounds_toArray, List.set_cons_zero, List.set_cons_succ]
                        refine AnyB.none (by kernel_rfl) ?_ _
                        go_wp2_with fail
                        go_roundw
                        case rel => exact ⟨k + 1, by omega, by rw [HT.out], by go_num, hBX, zN⟩
                        case measure => simp [intOf]; omega
                      exact EachB.nil
                    exact EachB.nil
              · have i1 : ¬ (k : Int) < (d.ws.length : Int) := by omega
                have HD : diaT d = accT M (d.ws.map wireT) k := by rw [acc_all (show (d.ws.map wireT).length ≤ k by rw [List.length_map]; omega)]; exact HDM.out
                replace HD := Lib.hid HD
                have B := hB.out
                go_wp2_with fail
                go_ret
                exact ⟨ret_str HD.out.symm, B⟩
      exact EachB.nil
    exact EachB.nil
  exact EachB.nil
end Go.Proofs.YtliophgfgmjhiaaGreatDoor
