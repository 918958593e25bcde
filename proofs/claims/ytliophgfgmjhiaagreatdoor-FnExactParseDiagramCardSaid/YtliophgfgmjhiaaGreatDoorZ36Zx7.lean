/- A diagram's validity: the program's test of the ends. -/
import Derived.Test.YtliophgfgmjhiaaGreatDoorZ34Zx5
import Derived.BigGuardPart
import Derived.BigRegion
namespace Go.Proofs.YtliophgfgmjhiaaGreatDoor
set_option linter.unusedSimpArgs false
set_option linter.unusedVariables false
set_option linter.unnecessarySimpa false
set_option maxRecDepth 200000
open Go.ChangeShapes Go.WideShapes Go.ChangeAt Go.RowKit

theorem impl_find_any (d : Dia) (v0 v1 : Value) (a b : Int) (w : World) (h0 : RdE w v0 E2.cs 2 d.ns) (h1 : RdE w v1 EW.cs 3 d.ws) (n0 : d.ns.length ≤ 2097152) :
    Calls Tryz.prog 76 #[.agg #[.int .i64 d.n, v0, v1, .int .i64 d.turn, .int .i64 d.root], .int .i64 a, .int .i64 b] w fun e w' => (∃ j : Int, e = .returned (.int .i64 j) ∧ (⟨a, b⟩ ∈ d.ns ↔ 0 ≤ j)) ∧ Below w.heap.size w w' := by
  have H0 := Lib.hid h0
  obtain ⟨A, c, rfl, _⟩ := e2_at h0
  obtain ⟨A1, c1, rfl, _⟩ := eW_at h1
  clear h0 h1
  go_enter Tryz.func76, Tryz.ntmps76
  go_wp2_with fail
  refine (slices_Index_Node _ d.ns ⟨a, b⟩ _ (Rd.below H0.out (show Below w.heap.size w _ from (by repeat (first | exact Below.refl _ _ | assumption | refine Below.drew ?_ | refine below_drewN ?_ _ | refine Below.alloc ?_ (by first | omega | (simp <;> omega)) _ | refine Below.setCell ?_ (by first | omega | (simp <;> omega)) _ | refine Below.trans ?_ (Below.mono (by assumption) (by first | omega | (simp <;> omega)))))) rfl) n0).mono ?_; rintro e w1 ⟨⟨j, rfl, hj⟩, hb1⟩
  go_wp2_with fail
  go_ret
  exact ⟨⟨j, rfl, hj⟩, Below.trans (show Below w.heap.size w _ from (by repeat (first | exact Below.refl _ _ | assumption | refine Below.drew ?_ | refine below_drewN ?_ _ | refine Below.alloc ?_ (by first | omega | (simp <;> omega)) _ | refine Below.setCell ?_ (by first | omega | (simp <;> omega)) _ | refine Below.trans ?_ (Below.mono (by assumption) (by first | omega | (simp <;> omega)))))) (hb1.mono (by simp))⟩
noncomputable instance (d : Dia) : Decidable (endsI d) := Classical.propDecidable _
theorem end_succ {ns : List E2} {i : Nat} {x : E2} (hi : i < ns.length) (hx : x = ns.getD i ⟨0, 0⟩) : endTo ns (i + 1) = endTo ns i + (if endB x = true then 1 else 0) := by
  subst hx; exact filt_succ endB ⟨0, 0⟩ ns i hi
theorem end_all {ns : List E2} {i : Nat} (h : ns.length ≤ i) : endTo ns i = endN ns := filt_all _ _ _ h
theorem end_1 {x : E2} (h : x.a = 1) : endB x = true := by unfold endB; rw [decide_eq_true h]; rfl
theorem end_2 {x : E2} (h : x.a = 2) : endB x = true := by unfold endB; rw [decide_eq_true h, Bool.or_true]
theorem end_0 {x : E2} (h : ¬ x.a = 1) (h2 : ¬ x.a = 2) : endB x = false := by unfold endB; rw [decide_eq_false h, decide_eq_false h2]; rfl
theorem ei_no {d : Dia} {q : Nat} (h1 : (q : Int) < d.n) (h : ¬ (⟨1, (q : Int)⟩ ∈ d.ns ∧ ⟨2, (q : Int)⟩ ∈ d.ns)) : false = decide (endsI d) := by
  symm; exact decide_eq_false fun g => h (g.1 q (by omega) h1)
theorem ei_end {d : Dia} {q : Nat} (hq : d.n ≤ (q : Int)) (h : ∀ j : Nat, j < q → ⟨1, (j : Int)⟩ ∈ d.ns ∧ ⟨2, (j : Int)⟩ ∈ d.ns) : decide ((endN d.ns : Int) = 2 * d.n) = decide (endsI d) := by
  rw [Bool.eq_iff_iff, decide_eq_true_eq, decide_eq_true_eq]
  refine ⟨fun g => ⟨fun j h0 h1 => ?_, g⟩, fun g => g.2⟩
  have := h j.toNat (by omega)
  rwa [show ((j.toNat : Nat) : Int) = j from by omega] at this
theorem nat_next {P : Nat → Prop} {k : Nat} (h : ∀ j, j < k → P j) (h2 : P k) : ∀ j, j < k + 1 → P j := fun j hj => by
  by_cases e : j = k
  · subst e; exact h2
  · exact h j (by omega)
theorem bel_z7 {w w' : World} {b o : Nat} {u : Value} (hb : Below w.heap.size w w') (hc : w.cell? ⟨b, o, none⟩ = some u) : w'.cell? ⟨b, o, none⟩ = some u := (hb.cell (World.block_lt_of_cell? _ _ hc)).trans hc
set_option maxHeartbeats 8000000 in
theorem impl_hasEnds_any (d : Dia) (v0 v1 : Value) (w : World) (h0 : RdE w v0 E2.cs 2 d.ns) (h1 : RdE w v1 EW.cs 3 d.ws) (n0 : d.ns.length ≤ 2097152) (hn : 1 ≤ d.n ∧ d.n ≤ 5) :
    Calls Tryz.prog 57 #[.agg #[.int .i64 d.n, v0, v1, .int .i64 d.turn, .int .i64 d.root]] w fun e w' => e = .returned (.bool (decide (endsI d))) ∧ Below w.heap.size w w' := by
  have H0 := Lib.hid h0; have H1 := Lib.hid h1
  obtain ⟨A, c, rfl, HN⟩ := e2_at h0
  obtain ⟨A1, c1, rfl, _⟩ := eW_at h1
  clear h0 h1
  obtain ⟨hn1, hn5⟩ := hn
  go_enter Tryz.func57, Tryz.ntmps57
  go_wp2_with fail
  go_loopw [3, 10] (fun sn si wr => ∃ i : Nat, i ≤ d.ns.length ∧ sn = .int .i64 (endTo d.ns i : Nat) ∧ si = .int .i64 i ∧ Hid (Below w.heap.size w wr) ∧ w.heap.size + 1 ≤ wr.heap.size ∧ wr.cell? ⟨w.heap.size, 0, none⟩ = some (.int .i64 d.n) ∧ wr.cell? ⟨w.heap.size, 1, none⟩ = some (.slice A d.ns.length c) ∧ wr.cell? ⟨w.heap.size, 2, none⟩ = some (.slice A1 d.ws.length c1) ∧ wr.cell? ⟨w.heap.size, 3, none⟩ = some (.int .i64 d.turn) ∧ wr.cell? ⟨w.heap.size, 4, none⟩ = some (.int .i64 d.root)) (fun _ si _ => d.ns.length - (intOf si).toNat)
  case atStart => exact ⟨0, Nat.zero_le _, rfl, rfl, (show Below _ _ _ from (by repeat (first | exact Below.refl _ _ | assumption | refine Below.drew ?_ | refine below_drewN ?_ _ | refine Below.alloc ?_ (by first | omega | (simp <;> omega)) _ | refine Below.setCell ?_ (by first | omega | (simp <;> omega)) _ | refine Below.trans ?_ (Below.mono (by assumption) (by first | omega | (simp <;> omega)))))), by simp, (by repeat (first | (refine Eq.trans (World.cell?_alloc_at _ _ _ _ ?hh) ?_; (case hh => (simp; done)); rfl) | refine cell_alloc_keep _ ?_)), (by repeat (first | (refine Eq.trans (World.cell?_alloc_at _ _ _ _ ?hh) ?_; (case hh => (simp; done)); rfl) | refine cell_alloc_keep _ ?_)), (by repeat (first | (refine Eq.trans (World.cell?_alloc_at _ _ _ _ ?hh) ?_; (case hh => (simp; done)); rfl) | refine cell_alloc_keep _ ?_)), (by repeat (first | (refine Eq.trans (World.cell?_alloc_at _ _ _ _ ?hh) ?_; (case hh => (simp; done)); rfl) | refine cell_alloc_keep _ ?_)), (by repeat (first | (refine Eq.trans (World.cell?_alloc_at _ _ _ _ ?hh) ?_; (case hh => (simp; done)); rfl) | refine cell_alloc_keep _ ?_))⟩
  case round =>
    obtain ⟨i, hi, rfl, rfl, hB, hsz, x0, x1, x2, x3, x4⟩ := hrel
    by_cases hlt : i < d.ns.length
    · have i1 : (i : Int) < (d.ns.length : Int) := by omega
      obtain ⟨b, off, rfl, hb, q0, q1⟩ := HN.out i hlt
      replace q0 := (hB.out.cell hb).trans q0
      replace q1 := (hB.out.cell hb).trans q1
      obtain ⟨x, hx⟩ : ∃ x, x = d.ns.getD i ⟨0, 0⟩ := ⟨_, rfl⟩
      have HS := end_succ hlt hx
      rw [← hx] at q0 q1
      have hle : endTo d.ns i ≤ i := filt_le endB d.ns i
      clear hx
      obtain ⟨D, hD⟩ : ∃ D, D = endTo d.ns i := ⟨_, rfl⟩
      rw [← hD] at HS hle ⊢
      clear hD
      by_cases e1 : x.a = 1
      · rw [end_1 e1, if_pos rfl] at HS
        have b1 : (x.a == 1) = true := by simpa using e1
        have HS := Lib.hid HS
        clear e1
        go_wp2_with fail
        go_roundw
        case rel => exact ⟨i + 1, by omega, by rw [HS.out]; go_num, by go_num, (show Below _ _ _ from Below.alloc hB.out (by omega) _), by simp; omega, cell_alloc_keep _ x0, cell_alloc_keep _ x1, cell_alloc_keep _ x2, cell_alloc_keep _ x3, cell_alloc_keep _ x4⟩
        case measure => simp [intOf]; omega
      · by_cases e2 : x.a = 2
        · rw [end_2 e2, if_pos rfl] at HS
          have b1 : (x.a == 1) = false := by simpa using e1
          have b2 : (x.a == 2) = true := by simpa using e2
          have HS := Lib.hid HS
          clear e1 e2
          go_wp2_with fail
          go_roundw
          case rel => exact ⟨i + 1, by omega, by rw [HS.out]; go_num, by go_num, (show Below _ _ _ from Below.alloc hB.out (by omega) _), by simp; omega, cell_alloc_keep _ x0, cell_alloc_keep _ x1, cell_alloc_keep _ x2, cell_alloc_keep _ x3, cell_alloc_keep _ x4⟩
          case measure => simp [intOf]; omega
        · rw [end_0 e1 e2, if_neg (by simp)] at HS
          have b1 : (x.a == 1) = false := by simpa using e1
          have b2 : (x.a == 2) = false := by simpa using e2
          have HS := Lib.hid HS
          clear e1 e2
          go_wp2_with fail
          go_roundw
          case rel => exact ⟨i + 1, by omega, by rw [HS.out]; rfl, by go_num, (show Below _ _ _ from Below.alloc hB.out (by omega) _), by simp; omega, cell_alloc_keep _ x0, cell_alloc_keep _ x1, cell_alloc_keep _ x2, cell_alloc_keep _ x3, cell_alloc_keep _ x4⟩
          case measure => simp [intOf]; omega
    · have i1 : ¬ (i : Int) < (d.ns.length : Int) := by omega
      rw [end_all (show d.ns.length ≤ i by omega)]
      have hel : endN d.ns ≤ 2097152 := Nat.le_trans (List.length_filter_le _ _) n0
      have HE9 := Lib.hid (fun q h9 h8 => ei_end (d := d) (q := q) h9 h8)
      obtain ⟨E, hE⟩ : ∃ E, E = endN d.ns := ⟨_, rfl⟩
      rw [← hE] at hel HE9 ⊢
      clear hE
      have HB := Lib.hid hB.out
      clear hB
      go_wp2_with fail
      go_loopw [27] (fun si wr => ∃ q : Nat, q ≤ 5 ∧ si = .int .i64 q ∧ Hid (∀ j : Nat, j < q → ⟨1, (j : Int)⟩ ∈ d.ns ∧ ⟨2, (j : Int)⟩ ∈ d.ns) ∧ Hid (Below w.heap.size w wr) ∧ w.heap.size + 1 ≤ wr.heap.size ∧ wr.cell? ⟨w.heap.size, 0, none⟩ = some (.int .i64 d.n) ∧ wr.cell? ⟨w.heap.size, 1, none⟩ = some (.slice A d.ns.length c) ∧ wr.cell? ⟨w.heap.size, 2, none⟩ = some (.slice A1 d.ws.length c1) ∧ wr.cell? ⟨w.heap.size, 3, none⟩ = some (.int .i64 d.turn) ∧ wr.cell? ⟨w.heap.size, 4, none⟩ = some (.int .i64 d.root)) (fun si _ => 5 - (intOf si).toNat)
      case atStart => exact ⟨0, by decide, rfl, (show ∀ j : Nat, j < 0 → _ from fun j hj => by omega), HB, hsz, x0, x1, x2, x3, x4⟩
      case round =>
        clear HB hsz x0 x1 x2 x3 x4
        obtain ⟨q, hq, rfl, hP, hB, hsz, x0, x1, x2, x3, x4⟩ := hrel
        by_cases hlq : (q : Int) < d.n
        · go_wp2_with fail
          refine (impl_find_any d _ _ 1 q _ (Rd.below H0.out hB.out rfl) (Rd.below H1.out hB.out rfl) n0).mono ?_; rintro e w2 ⟨⟨j, rfl, hj⟩, hb2⟩
          replace x0 := bel_z7 hb2 x0; replace x1 := bel_z7 hb2 x1; replace x2 := bel_z7 hb2 x2; replace x3 := bel_z7 hb2 x3; replace x4 := bel_z7 hb2 x4
          have z2 := hb2.size
          replace hB := Lib.hid (below_step hB.out hb2)
          clear hb2
          by_cases hj0 : j < 0
          · have HR := Lib.hid (ei_no hlq (fun h => absurd (hj.1 h.1) (by omega)))
            have B := hB.out
            clear hj hP
            go_wp2_with fail
            go_ret
            exact ⟨ret_bool HR.out, B⟩
          · have M1 := Lib.hid (hj.2 (by omega))
            clear hj
            go_wp2_with fail
            refine (impl_find_any d _ _ 2 q _ (Rd.below H0.out hB.out rfl) (Rd.below H1.out hB.out rfl) n0).mono ?_; rintro e w3 ⟨⟨j2, rfl, hj⟩, hb2⟩
            replace x0 := bel_z7 hb2 x0; replace x1 := bel_z7 hb2 x1; replace x2 := bel_z7 hb2 x2; replace x3 := bel_z7 hb2 x3; replace x4 := bel_z7 hb2 x4
            have z3 := hb2.size
            replace hB := Lib.hid (below_step hB.out hb2)
            clear hb2
            by_cases hj2 : j2 < 0
            · have HR := Lib.hid (ei_no hlq (fun h => absurd (hj.1 h.2) (by omega)))
              have B := hB.out
              clear hj hP
              go_wp2_with fail
              go_ret
              exact ⟨ret_bool HR.out, B⟩
            · have M2 := Lib.hid (hj.2 (by omega))
              have HK := Lib.hid (nat_next (P := fun j : Nat => ⟨1, (j : Int)⟩ ∈ d.ns ∧ ⟨2, (j : Int)⟩ ∈ d.ns) hP.out ⟨M1.out, M2.out⟩)
              clear hj hP
              go_wp2_with fail
              go_roundw
              case rel => exact ⟨q + 1, by omega, by go_num, HK, hB, by omega, x0, x1, x2, x3, x4⟩
              case measure => simp [intOf]; omega
        · have HE := Lib.hid (HE9.out q (by omega) hP.out)
          have B := hB.out
          clear hP HE9
          go_wp2_with fail
          go_ret
          exact ⟨ret_bool (by rw [← HE.out, Bool.eq_iff_iff]; simp), B⟩
end Go.Proofs.YtliophgfgmjhiaaGreatDoor
