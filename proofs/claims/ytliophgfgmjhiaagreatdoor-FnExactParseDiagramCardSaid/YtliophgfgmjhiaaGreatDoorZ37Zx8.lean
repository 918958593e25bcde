/- A diagram's validity: the program's test. -/
import Derived.Test.YtliophgfgmjhiaaGreatDoorZ35Zx6
import Derived.Test.YtliophgfgmjhiaaGreatDoorZ36Zx7
import Derived.Test.YtliophgfgmjhiaaGreatDoorZ04Brk
import Derived.BigRegion
import Derived.BigQuiet
import Derived.Deep.DeepCutAuto
namespace Go.Proofs.YtliophgfgmjhiaaGreatDoor
set_option linter.unusedSimpArgs false
set_option linter.unusedVariables false
set_option linter.unnecessarySimpa false
set_option maxRecDepth 200000
open Go.ChangeShapes Go.WideShapes Go.ChangeAt Go.RowKit

noncomputable instance (d : Dia) : Decidable (GoodI d) := Classical.propDecidable _
theorem gi_n {d : Dia} (h : ¬ (1 ≤ d.n ∧ d.n ≤ 5)) : false = decide (GoodI d) := (decide_eq_false fun g => h g.1.1).symm
theorem gi_l {d : Dia} (h : ¬ d.ns.length ≤ 40) : false = decide (GoodI d) := (decide_eq_false fun g => h g.1.2.1).symm
theorem gi_t {d : Dia} (h : ¬ (0 ≤ d.turn ∧ d.turn ≤ 7)) : false = decide (GoodI d) := (decide_eq_false fun g => h g.1.2.2.1).symm
theorem gi_r {d : Dia} (h : ¬ (-60 ≤ d.root ∧ d.root ≤ 60)) : false = decide (GoodI d) := (decide_eq_false fun g => h g.1.2.2.2).symm
theorem gi_c {d : Dia} (h : (d.ns.any fun g => !decide (isN d.n g)) = true) : false = decide (GoodI d) := by
  symm; refine decide_eq_false fun g => ?_
  obtain ⟨x, hx, hb⟩ := List.any_eq_true.1 h
  rw [decide_eq_true (g.2.1 x hx)] at hb
  cases hb
theorem gi_c2 {d : Dia} (h : (d.ns.any fun g => !decide (isN d.n g)) = false) : ∀ x ∈ d.ns, isN d.n x := by
  intro x hx
  have := List.any_eq_false.1 h x hx
  simpa using this
theorem gi_e {d : Dia} (h : ¬ endsI d) : false = decide (GoodI d) := (decide_eq_false fun g => h g.2.2.1).symm
theorem gi_w {d : Dia} {i : Nat} (hi : i < d.ws.length) (h : ¬ zxWire d i) : false = decide (GoodI d) := (decide_eq_false fun g => h (g.2.2.2.1 i hi)).symm
theorem gi_k {d : Dia} {i : Nat} (hi : i < d.ns.length) (h : ¬ degOk d i) : false = decide (GoodI d) := (decide_eq_false fun g => h (g.2.2.2.2 i hi)).symm
theorem gi_y {d : Dia} {i k : Nat} (h1 : zxHead d) (hc : ∀ x ∈ d.ns, isN d.n x) (he : endsI d) (h2 : ∀ j, j < i → zxWire d j) (hi : d.ws.length ≤ i) (h3 : ∀ j, j < k → degOk d j) (hk : d.ns.length ≤ k) : true = decide (GoodI d) :=
  (decide_eq_true ⟨h1, hc, he, fun j hj => h2 j (by omega), fun j hj => h3 j (by omega)⟩).symm
theorem wi_1 {d : Dia} {i : Nat} {x : EW} (hx : x = d.ws.getD i ⟨0, 0, false⟩) (h : x.a < 0 ∨ x.b ≤ x.a ∨ (d.ns.length : Int) ≤ x.b) : ¬ zxWire d i := by
  subst hx; intro g; have := g.1; omega
theorem wi_3 {d : Dia} {i : Nat} {x y : EW} (hx : x = d.ws.getD i ⟨0, 0, false⟩) (hy : y = d.ws.getD (i - 1) ⟨0, 0, false⟩) (h0 : i ≠ 0) (h : 0 ≤ cmpW y x) : ¬ zxWire d i := by
  subst hx hy; intro g; have h1 := (less_iff _ _).2 (g.2 h0); have h2 := cmpW_ge (d.ws.getD (i - 1) ⟨0, 0, false⟩) (d.ws.getD i ⟨0, 0, false⟩); rw [h1, decide_eq_true h] at h2; cases h2
theorem wi_y {d : Dia} {i : Nat} {x y : EW} (hx : x = d.ws.getD i ⟨0, 0, false⟩) (hy : y = d.ws.getD (i - 1) ⟨0, 0, false⟩) (h1 : ¬ x.a < 0) (h2 : ¬ x.b ≤ x.a) (h3 : ¬ (d.ns.length : Int) ≤ x.b) (h : i = 0 ∨ ¬ 0 ≤ cmpW y x) : zxWire d i := by
  subst hx hy; refine ⟨by omega, fun h0 => (less_iff _ _).1 ?_⟩
  rcases h with h | h
  · exact absurd h h0
  · have h2 := cmpW_ge (d.ws.getD (i - 1) ⟨0, 0, false⟩) (d.ws.getD i ⟨0, 0, false⟩)
    rw [decide_eq_false h] at h2
    cases hl : lessB (d.ws.getD (i - 1) ⟨0, 0, false⟩) (d.ws.getD i ⟨0, 0, false⟩) with
    | true => rfl
    | false => rw [hl] at h2; cases h2
theorem dg_0 {d : Dia} {k : Nat} {x : E2} (hx : x = d.ns.getD k ⟨0, 0⟩) (h : x.a = 0) : degOk d k ↔ degW d.ws k = 0 := by subst hx; unfold degOk; omega
theorem dg_1 {d : Dia} {k : Nat} {x : E2} (hx : x = d.ns.getD k ⟨0, 0⟩) (h : x.a = 1 ∨ x.a = 2) : degOk d k ↔ degW d.ws k = 1 := by subst hx; unfold degOk; omega
theorem dg_2 {d : Dia} {k : Nat} {x : E2} (hx : x = d.ns.getD k ⟨0, 0⟩) (h0 : ¬ x.a = 0) (h : ¬ x.a = 1) (h2 : ¬ x.a = 2) : degOk d k := by subst hx; unfold degOk; omega
set_option maxHeartbeats 16000000 in
theorem impl_IsValidDiagram_any (d : Dia) (v0 v1 : Value) (w : World) (h0 : RdE w v0 E2.cs 2 d.ns) (h1 : RdE w v1 EW.cs 3 d.ws) (n0 : d.ns.length ≤ 2097152) (n1 : d.ws.length ≤ 2097152) :
    Calls Tryz.prog 33 #[.agg #[.int .i64 d.n, v0, v1, .int .i64 d.turn, .int .i64 d.root]] w fun e w' => e = .returned (.bool (decide (GoodI d))) ∧ Below w.heap.size w w' := by
  have H0 := Lib.hid h0; have H1 := Lib.hid h1
  have eg := enters_of Tryz.func55 (by kernel_rfl) rfl
  have Eg := Lib.hid eg; clear eg
  obtain ⟨A, c, rfl, HN⟩ := e2_at h0
  obtain ⟨A1, c1, rfl, HW⟩ := eW_at h1
  clear h0 h1
  by_cases hn : 1 ≤ d.n ∧ d.n ≤ 5
  rotate_left
  · have D1 := Lib.hid (decide_eq_false hn)
    have HR := Lib.hid (gi_n hn)
    clear hn
    go_enter Tryz.func33, Tryz.ntmps33
    go_wp2_with fail
    refine (within_p _ _ _ _).mono ?_; rintro e w1 ⟨rfl, rfl⟩; rw [D1.out]
    go_wp2_with fail
    go_ret
    exact ⟨ret_bool HR.out, (by repeat (first | exact Below.refl _ _ | assumption | refine Below.drew ?_ | refine below_drewN ?_ _ | refine Below.alloc ?_ (by first | omega | (simp <;> omega)) _ | refine Below.setCell ?_ (by first | omega | (simp <;> omega)) _ | refine Below.trans ?_ (Below.mono (by assumption) (by first | omega | (simp <;> omega)))))⟩
  by_cases hl : d.ns.length ≤ 40
  rotate_left
  · have D1 := Lib.hid (decide_eq_true hn)
    have HR := Lib.hid (gi_l hl)
    have b1 : (40 : Int) < (d.ns.length : Int) := by omega
    clear hn hl
    go_enter Tryz.func33, Tryz.ntmps33
    go_wp2_with fail
    refine (within_p _ _ _ _).mono ?_; rintro e w1 ⟨rfl, rfl⟩; rw [D1.out]
    go_wp2_with fail
    go_ret
    exact ⟨ret_bool HR.out, (by repeat (first | exact Below.refl _ _ | assumption | refine Below.drew ?_ | refine below_drewN ?_ _ | refine Below.alloc ?_ (by first | omega | (simp <;> omega)) _ | refine Below.setCell ?_ (by first | omega | (simp <;> omega)) _ | refine Below.trans ?_ (Below.mono (by assumption) (by first | omega | (simp <;> omega)))))⟩
  have b1 : ¬ (40 : Int) < (d.ns.length : Int) := by omega
  by_cases ht : 0 ≤ d.turn ∧ d.turn ≤ 7
  rotate_left
  · have D1 := Lib.hid (decide_eq_true hn)
    have D2 := Lib.hid (decide_eq_false ht)
    have HR := Lib.hid (gi_t ht)
    clear hn ht
    go_enter Tryz.func33, Tryz.ntmps33
    go_wp2_with fail
    refine (within_p _ _ _ _).mono ?_; rintro e w1 ⟨rfl, rfl⟩; rw [D1.out]
    go_wp2_with fail
    all_goals (first | (exfalso; omega) | skip)
    refine (within_p _ _ _ _).mono ?_; rintro e w1 ⟨rfl, rfl⟩; rw [D2.out]
    go_wp2_with fail
    go_ret
    exact ⟨ret_bool HR.out, (by repeat (first | exact Below.refl _ _ | assumption | refine Below.drew ?_ | refine below_drewN ?_ _ | refine Below.alloc ?_ (by first | omega | (simp <;> omega)) _ | refine Below.setCell ?_ (by first | omega | (simp <;> omega)) _ | refine Below.trans ?_ (Below.mono (by assumption) (by first | omega | (simp <;> omega)))))⟩
  by_cases hr : -60 ≤ d.root ∧ d.root ≤ 60
  rotate_left
  · have D1 := Lib.hid (decide_eq_true hn)
    have D2 := Lib.hid (decide_eq_true ht)
    have D3 := Lib.hid (decide_eq_false hr)
    have HR := Lib.hid (gi_r hr)
    clear hn ht hr
    go_enter Tryz.func33, Tryz.ntmps33
    go_wp2_with fail
    refine (within_p _ _ _ _).mono ?_; rintro e w1 ⟨rfl, rfl⟩; rw [D1.out]
    go_wp2_with fail
    all_goals (first | (exfalso; omega) | skip)
    refine (within_p _ _ _ _).mono ?_; rintro e w1 ⟨rfl, rfl⟩; rw [D2.out]
    go_wp2_with fail
    refine (within_p _ _ _ _).mono ?_; rintro e w1 ⟨rfl, rfl⟩; rw [D3.out]
    go_wp2_with fail
    go_ret
    exact ⟨ret_bool HR.out, (by repeat (first | exact Below.refl _ _ | assumption | refine Below.drew ?_ | refine below_drewN ?_ _ | refine Below.alloc ?_ (by first | omega | (simp <;> omega)) _ | refine Below.setCell ?_ (by first | omega | (simp <;> omega)) _ | refine Below.trans ?_ (Below.mono (by assumption) (by first | omega | (simp <;> omega)))))⟩
  have D1 := Lib.hid (decide_eq_true hn)
  have D2 := Lib.hid (decide_eq_true ht)
  have D3 := Lib.hid (decide_eq_true hr)
  have HZ := Lib.hid (show zxHead d from ⟨hn, hl, ht, hr⟩)
  have HHN := Lib.hid hn
  clear hn ht hr
  cases hc : d.ns.any fun g => !decide (isN d.n g) with
  | true =>
    have HR := Lib.hid (gi_c hc)
    have HC := Lib.hid hc
    clear hc
    go_enter Tryz.func33, Tryz.ntmps33
    go_wp2_with fail
    refine (within_p _ _ _ _).mono ?_; rintro e w1 ⟨rfl, rfl⟩; rw [D1.out]
    go_wp2_with fail
    all_goals (first | (exfalso; omega) | skip)
    refine (within_p _ _ _ _).mono ?_; rintro e w1 ⟨rfl, rfl⟩; rw [D2.out]
    go_wp2_with fail
    refine (within_p _ _ _ _).mono ?_; rintro e w1 ⟨rfl, rfl⟩; rw [D3.out]
    go_wp2_with fail
    refine (slices_ContainsFunc_Node _ _ (fun g => !decide (isN d.n g)) Eg.out _ d.ns _ (Rd.below H0.out (show Below w.heap.size w _ from (by repeat (first | exact Below.refl _ _ | assumption | refine Below.drew ?_ | refine below_drewN ?_ _ | refine Below.alloc ?_ (by first | omega | (simp <;> omega)) _ | refine Below.setCell ?_ (by first | omega | (simp <;> omega)) _ | refine Below.trans ?_ (Below.mono (by assumption) (by first | omega | (simp <;> omega)))))) rfl) (IsValidDiagram1_any w.heap.size d.n _ _ HHN.out (by simp) (by repeat (first | (refine Eq.trans (World.cell?_alloc_at _ _ _ _ ?hh) ?_; (case hh => (simp; done)); rfl) | refine cell_alloc_keep _ ?_)))).mono ?_; rintro e w2 ⟨rfl, hb2⟩; rw [HC.out]
    go_wp2_with fail
    go_ret
    exact ⟨ret_bool HR.out, Below.trans (show Below w.heap.size w _ from (by repeat (first | exact Below.refl _ _ | assumption | refine Below.drew ?_ | refine below_drewN ?_ _ | refine Below.alloc ?_ (by first | omega | (simp <;> omega)) _ | refine Below.setCell ?_ (by first | omega | (simp <;> omega)) _ | refine Below.trans ?_ (Below.mono (by assumption) (by first | omega | (simp <;> omega)))))) (hb2.mono (by simp))⟩
  | false =>
  have HNN := Lib.hid (gi_c2 hc)
  have HC := Lib.hid hc
  clear hc
  go_enter Tryz.func33, Tryz.ntmps33
  go_wp2_with fail
  refine (within_p _ _ _ _).mono ?_; rintro e w1 ⟨rfl, rfl⟩; rw [D1.out]
  go_wp2_with fail
  all_goals (first | (exfalso; omega) | skip)
  refine (within_p _ _ _ _).mono ?_; rintro e w1 ⟨rfl, rfl⟩; rw [D2.out]
  go_wp2_with fail
  refine (within_p _ _ _ _).mono ?_; rintro e w1 ⟨rfl, rfl⟩; rw [D3.out]
  go_wp2_with fail
  refine (slices_ContainsFunc_Node _ _ (fun g => !decide (isN d.n g)) Eg.out _ d.ns _ (Rd.below H0.out (show Below w.heap.size w _ from (by repeat (first | exact Below.refl _ _ | assumption | refine Below.drew ?_ | refine below_drewN ?_ _ | refine Below.alloc ?_ (by first | omega | (simp <;> omega)) _ | refine Below.setCell ?_ (by first | omega | (simp <;> omega)) _ | refine Below.trans ?_ (Below.mono (by assumption) (by first | omega | (simp <;> omega)))))) rfl) (IsValidDiagram1_any w.heap.size d.n _ _ HHN.out (by simp) (by repeat (first | (refine Eq.trans (World.cell?_alloc_at _ _ _ _ ?hh) ?_; (case hh => (simp; done)); rfl) | refine cell_alloc_keep _ ?_)))).mono ?_; rintro e w2 ⟨rfl, hb2⟩; rw [HC.out]
  have HB2 := Lib.hid (show Below w.heap.size w w2 from Below.trans (show Below w.heap.size w _ from (by repeat (first | exact Below.refl _ _ | assumption | refine Below.drew ?_ | refine below_drewN ?_ _ | refine Below.alloc ?_ (by first | omega | (simp <;> omega)) _ | refine Below.setCell ?_ (by first | omega | (simp <;> omega)) _ | refine Below.trans ?_ (Below.mono (by assumption) (by first | omega | (simp <;> omega)))))) (hb2.mono (by simp)))
  have x0 : w2.cell? ⟨w.heap.size, 0, none⟩ = some (.int .i64 d.n) := bel_z7 hb2 (by repeat (first | (refine Eq.trans (World.cell?_alloc_at _ _ _ _ ?hh) ?_; (case hh => (simp; done)); rfl) | refine cell_alloc_keep _ ?_))
  have x1 : w2.cell? ⟨w.heap.size, 1, none⟩ = some (.slice A d.ns.length c) := bel_z7 hb2 (by repeat (first | (refine Eq.trans (World.cell?_alloc_at _ _ _ _ ?hh) ?_; (case hh => (simp; done)); rfl) | refine cell_alloc_keep _ ?_))
  have x2 : w2.cell? ⟨w.heap.size, 2, none⟩ = some (.slice A1 d.ws.length c1) := bel_z7 hb2 (by repeat (first | (refine Eq.trans (World.cell?_alloc_at _ _ _ _ ?hh) ?_; (case hh => (simp; done)); rfl) | refine cell_alloc_keep _ ?_))
  have x3 : w2.cell? ⟨w.heap.size, 3, none⟩ = some (.int .i64 d.turn) := bel_z7 hb2 (by repeat (first | (refine Eq.trans (World.cell?_alloc_at _ _ _ _ ?hh) ?_; (case hh => (simp; done)); rfl) | refine cell_alloc_keep _ ?_))
  have x4 : w2.cell? ⟨w.heap.size, 4, none⟩ = some (.int .i64 d.root) := bel_z7 hb2 (by repeat (first | (refine Eq.trans (World.cell?_alloc_at _ _ _ _ ?hh) ?_; (case hh => (simp; done)); rfl) | refine cell_alloc_keep _ ?_))
  have z2 : w.heap.size + 1 ≤ w2.heap.size := by have := hb2.size; simp at this; omega
  clear hb2 HC
  go_wp2_with fail
  refine (impl_hasEnds_any d _ _ _ (Rd.below H0.out HB2.out rfl) (Rd.below H1.out HB2.out rfl) n0 HHN.out).mono ?_; rintro e w3 ⟨rfl, hb3⟩
  replace x0 := bel_z7 hb3 x0; replace x1 := bel_z7 hb3 x1; replace x2 := bel_z7 hb3 x2; replace x3 := bel_z7 hb3 x3; replace x4 := bel_z7 hb3 x4
  have z3 := hb3.size
  replace HB2 := Lib.hid (below_step HB2.out hb3)
  clear hb3
  cases he : decide (endsI d) with
  | false =>
    have HR := Lib.hid (gi_e (of_decide_eq_false he))
    have B := HB2.out
    clear he
    go_wp2_with fail
    go_ret
    exact ⟨ret_bool HR.out, B⟩
  | true =>
  have HE := Lib.hid (of_decide_eq_true he)
  clear he
  go_wp2_with fail
  go_loopw [43] (fun si wr => ∃ i : Nat, i ≤ d.ws.length ∧ si = .int .i64 i ∧ Hid (∀ j, j < i → zxWire d j) ∧ Hid (Below w.heap.size w wr) ∧ w.heap.size + 1 ≤ wr.heap.size ∧ wr.cell? ⟨w.heap.size, 0, none⟩ = some (.int .i64 d.n) ∧ wr.cell? ⟨w.heap.size, 1, none⟩ = some (.slice A d.ns.length c) ∧ wr.cell? ⟨w.heap.size, 2, none⟩ = some (.slice A1 d.ws.length c1) ∧ wr.cell? ⟨w.heap.size, 3, none⟩ = some (.int .i64 d.turn) ∧ wr.cell? ⟨w.heap.size, 4, none⟩ = some (.int .i64 d.root)) (fun si _ => d.ws.length - (intOf si).toNat)
  case atStart => exact ⟨0, Nat.zero_le _, rfl, (show ∀ j, j < 0 → _ from fun j hj => by omega), HB2, by omega, x0, x1, x2, x3, x4⟩
  case round =>
    clear HB2 x0 x1 x2 x3 x4
    obtain ⟨i, hi, rfl, hP, hB, hsz, x0, x1, x2, x3, x4⟩ := hrel
    by_cases hlt : i < d.ws.length
    · have i1 : (i : Int) < (d.ws.length : Int) := by omega
      obtain ⟨b, off, rfl, hb, q0, q1, q2⟩ := HW.out i hlt
      obtain ⟨b', off', hbb', _, p0, p1, p2⟩ := HW.out (i - 1) (by omega)
      injection hbb' with hbb'
      injection hbb' with e1 e2
      subst e1 e2
      replace q0 := (hB.out.cell hb).trans q0
      replace q1 := (hB.out.cell hb).trans q1
      replace q2 := (hB.out.cell hb).trans q2
      replace p0 := (hB.out.cell hb).trans p0
      replace p1 := (hB.out.cell hb).trans p1
      replace p2 := (hB.out.cell hb).trans p2
      obtain ⟨x, hx⟩ : ∃ x, x = d.ws.getD i ⟨0, 0, false⟩ := ⟨_, rfl⟩
      obtain ⟨y, hy⟩ : ∃ x, x = d.ws.getD (i - 1) ⟨0, 0, false⟩ := ⟨_, rfl⟩
      rw [← hx] at q0 q1 q2
      rw [← hy] at p0 p1 p2
      have HX := Lib.hid hx
      have HY := Lib.hid hy
      clear hx hy
      go_upto_region 6 with fail
      have BN := Lib.hid (show Below w.heap.size w (wr.alloc (.cells #[.int .i64 x.a, .int .i64 x.b, .bool x.h] 40)) from Below.alloc hB.out (by omega) _)
      have y0 : (wr.alloc (.cells #[.int .i64 x.a, .int .i64 x.b, .bool x.h] 40)).cell? ⟨w.heap.size, 0, none⟩ = some (.int .i64 d.n) := cell_alloc_keep _ x0
      have y1 : (wr.alloc (.cells #[.int .i64 x.a, .int .i64 x.b, .bool x.h] 40)).cell? ⟨w.heap.size, 1, none⟩ = some (.slice A d.ns.length c) := cell_alloc_keep _ x1
      have y2 : (wr.alloc (.cells #[.int .i64 x.a, .int .i64 x.b, .bool x.h] 40)).cell? ⟨w.heap.size, 2, none⟩ = some (.slice (some ⟨b, off, none⟩) d.ws.length c1) := cell_alloc_keep _ x2
      have y3 : (wr.alloc (.cells #[.int .i64 x.a, .int .i64 x.b, .bool x.h] 40)).cell? ⟨w.heap.size, 3, none⟩ = some (.int .i64 d.turn) := cell_alloc_keep _ x3
      have y4 : (wr.alloc (.cells #[.int .i64 x.a, .int .i64 x.b, .bool x.h] 40)).cell? ⟨w.heap.size, 4, none⟩ = some (.int .i64 d.root) := cell_alloc_keep _ x4
      have e0 : (wr.alloc (.cells #[.int .i64 x.a, .int .i64 x.b, .bool x.h] 40)).cell? ⟨wr.heap.size, 0, none⟩ = some (.int .i64 x.a) := (by repeat (first | (refine Eq.trans (World.cell?_alloc_at _ _ _ _ ?hh) ?_; (case hh => (simp; done)); rfl) | refine cell_alloc_keep _ ?_))
      have e1 : (wr.alloc (.cells #[.int .i64 x.a, .int .i64 x.b, .bool x.h] 40)).cell? ⟨wr.heap.size, 1, none⟩ = some (.int .i64 x.b) := (by repeat (first | (refine Eq.trans (World.cell?_alloc_at _ _ _ _ ?hh) ?_; (case hh => (simp; done)); rfl) | refine cell_alloc_keep _ ?_))
      have e2 : (wr.alloc (.cells #[.int .i64 x.a, .int .i64 x.b, .bool x.h] 40)).cell? ⟨wr.heap.size, 2, none⟩ = some (.bool x.h) := (by repeat (first | (refine Eq.trans (World.cell?_alloc_at _ _ _ _ ?hh) ?_; (case hh => (simp; done)); rfl) | refine cell_alloc_keep _ ?_))
      replace p0 : (wr.alloc (.cells #[.int .i64 x.a, .int .i64 x.b, .bool x.h] 40)).cell? ⟨b, off + (i - 1) * 3, none⟩ = some (.int .i64 y.a) := cell_alloc_keep _ p0
      replace p1 : (wr.alloc (.cells #[.int .i64 x.a, .int .i64 x.b, .bool x.h] 40)).cell? ⟨b, off + (i - 1) * 3 + 1, none⟩ = some (.int .i64 y.b) := cell_alloc_keep _ p1
      replace p2 : (wr.alloc (.cells #[.int .i64 x.a, .int .i64 x.b, .bool x.h] 40)).cell? ⟨b, off + (i - 1) * 3 + 2, none⟩ = some (.bool y.h) := cell_alloc_keep _ p2
      have zN : w.heap.size + 1 ≤ (wr.alloc (.cells #[.int .i64 x.a, .int .i64 x.b, .bool x.h] 40)).heap.size := by simp; omega
      clear x0 x1 x2 x3 x4 q0 q1 q2 hB
      obtain ⟨W, hW⟩ : ∃ W, W = (wr.alloc (.cells #[.int .i64 x.a, .int .i64 x.b, .bool x.h] 40)) := ⟨_, rfl⟩
      rw [← hW] at BN y0 y1 y2 y3 y4 e0 e1 e2 p0 p1 p2 zN ⊢
      clear hW
      obtain ⟨N, hN⟩ : ∃ N, N = wr.heap.size := ⟨_, rfl⟩
      rw [← hN] at e0 e1 e2 hsz ⊢
      clear hN
      by_cases g1 : x.a < 0
      · have HR := Lib.hid (gi_w hlt (wi_1 HX.out (.inl g1)))
        clear hP
        go_quiet (fail)
        all_goals
          go_wp2_with fail
          go_ret
          exact ⟨ret_bool HR.out, below_drewN BN.out _⟩

      by_cases g2 : x.b ≤ x.a
      · have HR := Lib.hid (gi_w hlt (wi_1 HX.out (.inr (.inl g2))))
        clear hP
        go_quiet (fail)
        all_goals
          go_wp2_with fail
          go_ret
          exact ⟨ret_bool HR.out, below_drewN BN.out _⟩

      by_cases g3 : (d.ns.length : Int) ≤ x.b
      · have HR := Lib.hid (gi_w hlt (wi_1 HX.out (.inr (.inr g3))))
        clear hP
        go_quiet (fail)
        all_goals
          go_wp2_with fail
          go_ret
          exact ⟨ret_bool HR.out, below_drewN BN.out _⟩

      by_cases hi0 : i = 0
      · have HK := Lib.hid (all_next hP.out (wi_y HX.out HY.out g1 g2 g3 (.inl hi0)))
        have b2 : decide (0 < i) = false := by simp; omega
        have b3 : decide ((0 : Int) < (i : Int)) = false := by simp; omega
        clear hP
        go_quiet (fail)
        all_goals
          go_wp2_with fail
          go_roundw
          case rel => exact ⟨i + 1, by omega, by go_num, HK, below_drewN BN.out _, by simpa using zN, by simpa using y0, by simpa using y1, by simpa using y2, by simpa using y3, by simpa using y4⟩
          case measure => simp [intOf]; omega
      · have b2 : decide ((0 : Int) < (i : Int)) = true := by simp; omega
        obtain ⟨p, hp⟩ : ∃ p, p = i - 1 := ⟨_, rfl⟩
        have hkk : IntKind.i64.wrap ((i : Int) - 1) = (p : Int) := by rw [show (i : Int) - 1 = (p : Int) from by omega]; exact IntWalk.i64_in _ (by omega)
        rw [← hp] at p0 p1 p2
        have i2 : (p : Int) < (d.ws.length : Int) := by omega
        have i3 : (0 : Int) < (i : Int) := by omega
        have i4 : 0 < i := by omega
        have b4 : decide (0 < i) = true := by simp; omega
        clear hp
        have HI0 := Lib.hid hi0
        replace BN := Lib.hid (show Below w.heap.size w W.drew from Below.drew BN.out)
        replace zN : w.heap.size + 1 ≤ W.drew.heap.size := zN
        replace e0 : W.drew.cell? _ = _ := e0
        replace e1 : W.drew.cell? _ = _ := e1
        replace e2 : W.drew.cell? _ = _ := e2
        replace y0 : W.drew.cell? _ = _ := y0
        replace y1 : W.drew.cell? _ = _ := y1
        replace y2 : W.drew.cell? _ = _ := y2
        replace y3 : W.drew.cell? _ = _ := y3
        replace y4 : W.drew.cell? _ = _ := y4
        replace p0 : W.drew.cell? _ = _ := p0
        replace p1 : W.drew.cell? _ = _ := p1
        replace p2 : W.drew.cell? _ = _ := p2
        have HG := Lib.hid (fun h => all_next hP.out (wi_y HX.out HY.out g1 g2 g3 (.inr h)))
        have HF := Lib.hid (fun h => gi_w hlt (wi_3 HX.out HY.out HI0.out h))
        clear hP hi0
        refine AnyB.begin (S := (fun w' => w'.cell? ⟨w.heap.size, 1, none⟩ = some (.slice A d.ns.length c) ∧ w'.cell? ⟨w.heap.size, 2, none⟩ = some (.slice (some ⟨b, off, none⟩) d.ws.length c1) ∧ w'.cell? ⟨N, 0, none⟩ = some (.int .i64 x.a) ∧ w'.cell? ⟨N, 1, none⟩ = some (.int .i64 x.b) ∧ w'.cell? ⟨N, 2, none⟩ = some (.bool x.h) ∧ w'.cell? ⟨b, off + p * 3, none⟩ = some (.int .i64 y.a) ∧ w'.cell? ⟨b, off + p * 3 + 1, none⟩ = some (.int .i64 y.b) ∧ w'.cell? ⟨b, off + p * 3 + 2, none⟩ = some (.bool y.h))) [] (by kernel_rfl) ?_ (fun hHeld0 => ?_)
        · ((try dsimp only); (first | exact ⟨y1, y2, e0, e1, e2, p0, p1, p2⟩))
        refine AnyB.takeQ (i := 0) (oi := _) (v := ?_) (by simp only [List.getElem?_toArray, List.getElem?_cons_zero, List.getElem?_cons_succ]; rfl) (by kernel_rfl) (by kernel_rfl) (by kernel_rfl) (by intro _ _ _ h; exact h) (Or.inl ⟨by rfl, ?_⟩) ?_
        rotate_left
        · (intro w hSw; (try dsimp only at hSw); go_simp; (try (with_reducible rfl)))
        try simp only [Act.put, List.setIfInBounds_toArray, List.set_cons_zero, List.set_cons_succ]
        refine AnyB.take (i := 1) (oi := _) (v := ?_) (by simp only [List.getElem?_toArray, List.getElem?_cons_zero, List.getElem?_cons_succ]; rfl) (by kernel_rfl) (by kernel_rfl) (by kernel_rfl) (by kernel_rfl) (by kernel_rfl) (by intro _ _ _ h; exact h) (Or.inl ⟨by rfl, ?_⟩) (by assumption) ?_
        rotate_left
        · (intro w hSw; (try dsimp only at hSw); go_simp; (try (with_reducible rfl)))
        try simp only [Act.put, List.setIfInBounds_toArray, List.set_cons_zero, List.set_cons_succ]
        refine AnyB.takeQ (i := 2) (oi := _) (v := ?_) (by simp only [List.getElem?_toArray, List.getElem?_cons_zero, List.getElem?_cons_succ]; rfl) (by kernel_rfl) (by kernel_rfl) (by kernel_rfl) (by intro _ _ _ h; exact h) (Or.inl ⟨by rfl, ?_⟩) ?_
        rotate_left
        · (intro w hSw; (try dsimp only at hSw); go_simp; (try (with_reducible rfl)))
        try simp only [Act.put, List.setIfInBounds_toArray, List.set_cons_zero, List.set_cons_succ]
        refine AnyB.takeQ (i := 3) (oi := _) (v := ?_) (by simp only [List.getElem?_toArray, List.getElem?_cons_zero, List.getElem?_cons_succ]; rfl) (by kernel_rfl) (by kernel_rfl) (by kernel_rfl) (by intro _ _ _ h; exact h) (Or.inl ⟨by rfl, ?_⟩) ?_
        rotate_left
        · (intro w hSw; (try dsimp only at hSw); go_simp; (try (with_reducible rfl)))
        try simp only [Act.put, List.setIfInBounds_toArray, List.set_cons_zero, List.set_cons_succ]
        refine AnyB.takeQ (i := 4) (oi := _) (v := ?_) (by simp only [List.getElem?_toArray, List.getElem?_cons_zero, List.getElem?_cons_succ]; rfl) (by kernel_rfl) (by kernel_rfl) (by kernel_rfl) (by intro _ _ _ h; exact h) (Or.inl ⟨by rfl, ?_⟩) ?_
        rotate_left
        · (intro w hSw; (try dsimp only at hSw); go_simp; (try (with_reducible rfl)))
        try simp only [Act.put, List.setIfInBounds_toArray, List.set_cons_zero, List.set_cons_succ]
        refine AnyB.take (i := 5) (oi := _) (v := ?_) (by simp only [List.getElem?_toArray, List.getElem?_cons_zero, List.getElem?_cons_succ]; rfl) (by kernel_rfl) (by kernel_rfl) (by kernel_rfl) (by kernel_rfl) (by kernel_rfl) (by intro _ _ _ h; exact h) (Or.inl ⟨by rfl, ?_⟩) (by assumption) ?_
        rotate_left
        · (intro w hSw; (try dsimp only at hSw); go_simp; (try (with_reducible rfl)))
        try simp only [Act.put, List.setIfInBounds_toArray, List.set_cons_zero, List.set_cons_succ]
        refine AnyB.takeQ (i := 6) (oi := _) (v := ?_) (by simp only [List.getElem?_toArray, List.getElem?_cons_zero, List.getElem?_cons_succ]; rfl) (by kernel_rfl) (by kernel_rfl) (by kernel_rfl) (by intro _ _ _ h; exact h) (Or.inl ⟨by rfl, ?_⟩) ?_
        rotate_left
        · (intro w hSw; (try dsimp only at hSw); go_simp; (try (with_reducible rfl)))
        try simp only [Act.put, List.setIfInBounds_toArray, List.set_cons_zero, List.set_cons_succ]
        refine AnyB.take (i := 7) (oi := _) (v := ?_) (by simp only [List.getElem?_toArray, List.getElem?_cons_zero, List.getElem?_cons_succ]; rfl) (by kernel_rfl) (by kernel_rfl) (by kernel_rfl) (by kernel_rfl) (by kernel_rfl) (by intro _ _ _ h; exact h) (Or.inl ⟨by rfl, ?_⟩) (by assumption) ?_
        rotate_left
        · (intro w hSw; (try dsimp only at hSw); go_simp; (try (with_reducible rfl)))
        try simp only [Act.put, List.setIfInBounds_toArray, List.set_cons_zero, List.set_cons_succ]
        refine AnyB.takeQ (i := 8) (oi := _) (v := ?_) (by simp only [List.getElem?_toArray, List.getElem?_cons_zero, List.getElem?_cons_succ]; rfl) (by kernel_rfl) (by kernel_rfl) (by kernel_rfl) (by intro _ _ _ h; exact h) (Or.inl ⟨by rfl, ?_⟩) ?_
        rotate_left
        · (intro w hSw; (try dsimp only at hSw); go_simp; (try (with_reducible rfl)))
        try simp only [Act.put, List.setIfInBounds_toArray, List.set_cons_zero, List.set_cons_succ]
        refine AnyB.takeQ (i := 9) (oi := _) (v := ?_) (by simp only [List.getElem?_toArray, List.getElem?_cons_zero, List.getElem?_cons_succ]; rfl) (by kernel_rfl) (by kernel_rfl) (by kernel_rfl) (by intro _ _ _ h; exact h) (Or.inl ⟨by rfl, ?_⟩) ?_
        rotate_left
        · (intro w hSw; (try dsimp only at hSw); go_simp; (try (with_reducible rfl)))
        try simp only [Act.put, List.setIfInBounds_toArray, List.set_cons_zero, List.set_cons_succ]
        refine AnyB.takeQ (i := 10) (oi := _) (v := ?_) (by simp only [List.getElem?_toArray, List.getElem?_cons_zero, List.getElem?_cons_succ]; rfl) (by kernel_rfl) (by kernel_rfl) (by kernel_rfl) (by intro _ _ _ h; exact h) (Or.inl ⟨by rfl, ?_⟩) ?_
        rotate_left
        · (intro w hSw; (try dsimp only at hSw); go_simp; (try (with_reducible rfl)))
        try simp only [Act.put, List.setIfInBounds_toArray, List.set_cons_zero, List.set_cons_succ]
        refine AnyB.takeQ (i := 11) (oi := _) (v := ?_) (by simp only [List.getElem?_toArray, List.getElem?_cons_zero, List.getElem?_cons_succ]; rfl) (by kernel_rfl) (by kernel_rfl) (by kernel_rfl) (by intro _ _ _ h; exact h) (Or.inl ⟨by rfl, ?_⟩) ?_
        rotate_left
        · (intro w hSw; (try dsimp only at hSw); go_simp; (try (with_reducible rfl)))
        try simp only [Act.put, List.setIfInBounds_toArray, List.set_cons_zero, List.set_cons_succ]
        refine AnyB.take (i := 12) (oi := _) (v := ?_) (by simp only [List.getElem?_toArray, List.getElem?_cons_zero, List.getElem?_cons_succ]; rfl) (by kernel_rfl) (by kernel_rfl) (by kernel_rfl) (by kernel_rfl) (by kernel_rfl) (by intro _ _ _ h; exact h) (Or.inl ⟨by rfl, ?_⟩) (by assumption) ?_
        rotate_left
        · (intro w hSw; (try dsimp only at hSw); go_simp; (try (with_reducible rfl)))
        try simp only [Act.put, List.setIfInBounds_toArray, List.set_cons_zero, List.set_cons_succ]
        refine AnyB.takeQ (i := 13) (oi := _) (v := ?_) (by simp only [List.getElem?_toArray, List.getElem?_cons_zero, List.getElem?_cons_succ]; rfl) (by kernel_rfl) (by kernel_rfl) (by kernel_rfl) (by intro _ _ _ h; exact h) (Or.inl ⟨by rfl, ?_⟩) ?_
        rotate_left
        · (intro w hSw; (try dsimp only at hSw); go_simp; (try (with_reducible rfl)))
        try simp only [Act.put, List.setIfInBounds_toArray, List.set_cons_zero, List.set_cons_succ]
        refine AnyB.take (i := 14) (oi := _) (v := ?_) (by simp only [List.getElem?_toArray, List.getElem?_cons_zero, List.getElem?_cons_succ]; rfl) (by kernel_rfl) (by kernel_rfl) (by kernel_rfl) (by kernel_rfl) (by kernel_rfl) (by intro _ _ _ h; exact h) (Or.inl ⟨by rfl, ?_⟩) (by assumption) ?_
        rotate_left
        · (intro w hSw; (try dsimp only at hSw); go_simp; (try (with_reducible rfl)))
        try simp only [Act.put, List.setIfInBounds_toArray, List.set_cons_zero, List.set_cons_succ]
        refine AnyB.takeQ (i := 15) (oi := _) (v := ?_) (by simp only [List.getElem?_toArray, List.getElem?_cons_zero, List.getElem?_cons_succ]; rfl) (by kernel_rfl) (by kernel_rfl) (by kernel_rfl) (by intro _ _ _ h; exact h) (Or.inl ⟨by rfl, ?_⟩) ?_
        rotate_left
        · (intro w hSw; (try dsimp only at hSw); go_simp; (try (with_reducible rfl)))
        try simp only [Act.put, List.setIfInBounds_toArray, List.set_cons_zero, List.set_cons_succ]
        refine AnyB.takeQ (i := 16) (oi := _) (v := ?_) (by simp only [List.getElem?_toArray, List.getElem?_cons_zero, List.getElem?_cons_succ]; rfl) (by kernel_rfl) (by kernel_rfl) (by kernel_rfl) (by intro _ _ _ h; exact h) (Or.inl ⟨by rfl, ?_⟩) ?_
        rotate_left
        · (intro w hSw; (try dsimp only at hSw); go_simp; (try (with_reducible rfl)))
        try simp only [Act.put, List.setIfInBounds_toArray, List.set_cons_zero, List.set_cons_succ]
        refine AnyB.takeQ (i := 17) (oi := _) (v := ?_) (by simp only [List.getElem?_toArray, List.getElem?_cons_zero, List.getElem?_cons_succ]; rfl) (by kernel_rfl) (by kernel_rfl) (by kernel_rfl) (by intro _ _ _ h; exact h) (Or.inl ⟨by rfl, ?_⟩) ?_
        rotate_left
        · (intro w hSw; (try dsimp only at hSw); go_simp; (try (with_reducible rfl)))
        try simp only [Act.put, List.setIfInBounds_toArray, List.set_cons_zero, List.set_cons_succ]
        refine AnyB.takeQ (i := 18) (oi := _) (v := ?_) (by simp only [List.getElem?_toArray, List.getElem?_cons_zero, List.getElem?_cons_succ]; rfl) (by kernel_rfl) (by kernel_rfl) (by kernel_rfl) (by intro _ _ _ h; exact h) (Or.inl ⟨by rfl, ?_⟩) ?_
        rotate_left
        · (intro w hSw; (try dsimp only at hSw); go_simp; (try (with_reducible rfl)))
        try simp only [Act.put, List.setIfInBounds_toArray, List.set_cons_zero, List.set_cons_succ]
        refine AnyB.takeQ (i := 19) (oi := _) (v := ?_) (by simp only [List.getElem?_toArray, List.getElem?_cons_zero, List.getElem?_cons_succ]; rfl) (by kernel_rfl) (by kernel_rfl) (by kernel_rfl) (by intro _ _ _ h; exact h) (Or.inl ⟨by rfl, ?_⟩) ?_
        rotate_left
        · (intro w hSw; (try dsimp only at hSw); go_simp; (try (with_reducible rfl)))
        try simp only [Act.put, List.setIfInBounds_toArray, List.set_cons_zero, List.set_cons_succ]
        refine AnyB.takeQ (i := 20) (oi := _) (v := ?_) (by simp only [List.getElem?_toArray, List.getElem?_cons_zero, List.getElem?_cons_succ]; rfl) (by kernel_rfl) (by kernel_rfl) (by kernel_rfl) (by intro _ _ _ h; exact h) (Or.inl ⟨by rfl, ?_⟩) ?_
        rotate_left
        · (intro w hSw; (try dsimp only at hSw); go_simp; (try (with_reducible rfl)))
        try simp only [Act.put, List.setIfInBounds_toArray, List.set_cons_zero, List.set_cons_succ]
        refine AnyB.takeQ (i := 21) (oi := _) (v := ?_) (by simp only [List.getElem?_toArray, List.getElem?_cons_zero, List.getElem?_cons_succ]; rfl) (by kernel_rfl) (by kernel_rfl) (by kernel_rfl) (by intro _ _ _ h; exact h) (Or.inl ⟨by rfl, ?_⟩) ?_
        rotate_left
        · (intro w hSw; (try dsimp only at hSw); go_simp; (try (with_reducible rfl)))
        try simp only [Act.put, List.setIfInBounds_toArray, List.set_cons_zero, List.set_cons_succ]
        refine AnyB.takeQ (i := 22) (oi := _) (v := ?_) (by simp only [List.getElem?_toArray, List.getElem?_cons_zero, List.getElem?_cons_succ]; rfl) (by kernel_rfl) (by kernel_rfl) (by kernel_rfl) (by intro _ _ _ h; exact h) (Or.inl ⟨by rfl, ?_⟩) ?_
        rotate_left
        · (intro w hSw; (try dsimp only at hSw); go_simp; (try (with_reducible rfl)))
        try simp only [Act.put, List.setIfInBounds_toArray, List.set_cons_zero, List.set_cons_succ]
        refine AnyB.take (i := 23) (oi := _) (v := ?_) (by simp only [List.getElem?_toArray, List.getElem?_cons_zero, List.getElem?_cons_succ]; rfl) (by kernel_rfl) (by kernel_rfl) (by kernel_rfl) (by kernel_rfl) (by kernel_rfl) (by intro _ _ _ h; exact h) (Or.inl ⟨by rfl, ?_⟩) (by assumption) ?_
        rotate_left
        · (intro w hSw; (try dsimp only at hSw); go_simp; (try (with_reducible rfl)))
        try simp only [Act.put, List.setIfInBounds_toArray, List.set_cons_zero, List.set_cons_succ]
        refine AnyB.takeQ (i := 24) (oi := _) (v := ?_) (by simp only [List.getElem?_toArray, List.getElem?_cons_zero, List.getElem?_cons_succ]; rfl) (by kernel_rfl) (by kernel_rfl) (by kernel_rfl) (by intro _ _ _ h; exact h) (Or.inl ⟨by rfl, ?_⟩) ?_
        rotate_left
        · (intro w hSw; (try dsimp only at hSw); go_simp; (try (with_reducible rfl)))
        try simp only [Act.put, List.setIfInBounds_toArray, List.set_cons_zero, List.set_cons_succ]
        refine AnyB.takeQ (i := 25) (oi := _) (v := ?_) (by simp only [List.getElem?_toArray, List.getElem?_cons_zero, List.getElem?_cons_succ]; rfl) (by kernel_rfl) (by kernel_rfl) (by kernel_rfl) (by intro _ _ _ h; exact h) (Or.inl ⟨by rfl, ?_⟩) ?_
        rotate_left
        · (intro w hSw; (try dsimp only at hSw); go_simp; (try (with_reducible rfl)))
        try simp only [Act.put, List.setIfInBounds_toArray, List.set_cons_zero, List.set_cons_succ]
        refine AnyB.takeQ (i := 26) (oi := _) (v := ?_) (by simp only [List.getElem?_toArray, List.getElem?_cons_zero, List.getElem?_cons_succ]; rfl) (by kernel_rfl) (by kernel_rfl) (by kernel_rfl) (by intro _ _ _ h; exact h) (Or.inl ⟨by rfl, ?_⟩) ?_
        rotate_left
        · (intro w hSw; (try dsimp only at hSw); go_simp; (try (with_reducible rfl)))
        try simp only [Act.put, List.setIfInBounds_toArray, List.set_cons_zero, List.set_cons_succ]
        refine AnyB.take (i := 27) (oi := _) (v := ?_) (by simp only [List.getElem?_toArray, List.getElem?_cons_zero, List.getElem?_cons_succ]; rfl) (by kernel_rfl) (by kernel_rfl) (by kernel_rfl) (by kernel_rfl) (by kernel_rfl) (by intro _ _ _ h; exact h) (Or.inl ⟨by rfl, ?_⟩) (by assumption) ?_
        rotate_left
        · (intro w hSw; (try dsimp only at hSw); go_simp; (try (with_reducible rfl)))
        try simp only [Act.put, List.setIfInBounds_toArray, List.set_cons_zero, List.set_cons_succ]
        refine AnyB.take (i := 28) (oi := _) (v := ?_) (by simp only [List.getElem?_toArray, List.getElem?_cons_zero, List.getElem?_cons_succ]; rfl) (by kernel_rfl) (by kernel_rfl) (by kernel_rfl) (by kernel_rfl) (by kernel_rfl) (by intro _ _ _ h; exact h) (Or.inl ⟨by rfl, ?_⟩) (by assumption) ?_
        rotate_left
        · (intro w hSw; (try dsimp only at hSw); go_simp; (try (with_reducible rfl)))
        try simp only [Act.put, List.setIfInBounds_toArray, List.set_cons_zero, List.set_cons_succ]
        refine AnyB.each (rs := [29]) (by kernel_rfl) (by simp) ?_
        refine EachB.cons rfl (fun K hK hB => ?_) ?_
        · skip
          (go_simp; go_at_call 58; refine (impl_compareWires_any y x _).mono ?_; rintro e w2 ⟨rfl, hbb⟩; replace e0 := bel_z7 hbb e0; replace e1 := bel_z7 hbb e1; replace e2 := bel_z7 hbb e2; replace y0 := bel_z7 hbb y0; replace y1 := bel_z7 hbb y1; replace y2 := bel_z7 hbb y2; replace y3 := bel_z7 hbb y3; replace y4 := bel_z7 hbb y4; replace p0 := bel_z7 hbb p0; replace p1 := bel_z7 hbb p1; replace p2 := bel_z7 hbb p2; replace BN := Lib.hid (below_step BN.out hbb); replace zN := Nat.le_trans zN hbb.size; clear hbb; dsimp only)
          refine hK.out _ _ ?_ (fun hHeld1 => ?_)
          · ((try dsimp only); (first | exact ⟨y1, y2, e0, e1, e2, p0, p1, p2⟩))
          clear hB hK K hHeld0
          refine AnyB.takeQ (i := 30) (oi := _) (v := ?_) (by simp only [List.getElem?_toArray, List.getElem?_cons_zero, List.getElem?_cons_succ]; rfl) (by kernel_rfl) (by kernel_rfl) (by kernel_rfl) (by intro _ _ _ h; exact h) (Or.inl ⟨by rfl, ?_⟩) ?_
          rotate_left
          · (intro w hSw; (try dsimp only at hSw); go_simp; (try (with_reducible rfl)))
          try simp only [Act.put, List.setIfInBounds_toArray, List.set_cons_zero, List.set_cons_succ]
          refine AnyB.takeQ (i := 31) (oi := _) (v := ?_) (by simp only [List.getElem?_toArray, List.getElem?_cons_zero, List.getElem?_cons_succ]; rfl) (by kernel_rfl) (by kernel_rfl) (by kernel_rfl) (by intro _ _ _ h; exact h) (Or.inl ⟨by rfl, ?_⟩) ?_
          rotate_left
          · (intro w hSw; (try dsimp only at hSw); go_simp; (try (with_reducible rfl)))
          try simp only [Act.put, List.setIfInBounds_toArray, List.set_cons_zero, List.set_cons_succ]
          refine AnyB.takeQ (i := 32) (oi := _) (v := ?_) (by simp only [List.getElem?_toArray, List.getElem?_cons_zero, List.getElem?_cons_succ]; rfl) (by kernel_rfl) (by kernel_rfl) (by kernel_rfl) (by intro _ _ _ h; exact h) (Or.inl ⟨by rfl, ?_⟩) ?_
          rotate_left
          · (intro w hSw; (try dsimp only at hSw); go_simp; (try (with_reducible rfl)))
          try simp only [Act.put, List.setIfInBounds_toArray, List.set_cons_zero, List.set_cons_succ]
          refine AnyB.none (by kernel_rfl) ?_ _
          by_cases hl9 : 0 ≤ cmpW y x
          · have HR := Lib.hid (HF.out hl9)
            go_wp2_with fail
            go_ret
            exact ⟨ret_bool HR.out, BN.out⟩
          · have HK := Lib.hid (HG.out hl9)
            go_wp2_with fail
            go_roundw
            case rel => exact ⟨i + 1, by omega, by go_num, HK, BN, zN, y0, y1, y2, y3, y4⟩
            case measure => simp [intOf]; omega
        exact EachB.nil
    · have i1 : ¬ (i : Int) < (d.ws.length : Int) := by omega
      have HPW := Lib.hid hP.out
      have HB := Lib.hid hB.out
      clear hP hB
      go_wp2_with fail
      go_loopw [85] (fun si wr => ∃ k : Nat, k ≤ d.ns.length ∧ si = .int .i64 k ∧ Hid (∀ j, j < k → degOk d j) ∧ Hid (Below w.heap.size w wr) ∧ w.heap.size + 1 ≤ wr.heap.size ∧ wr.cell? ⟨w.heap.size, 0, none⟩ = some (.int .i64 d.n) ∧ wr.cell? ⟨w.heap.size, 1, none⟩ = some (.slice A d.ns.length c) ∧ wr.cell? ⟨w.heap.size, 2, none⟩ = some (.slice A1 d.ws.length c1) ∧ wr.cell? ⟨w.heap.size, 3, none⟩ = some (.int .i64 d.turn) ∧ wr.cell? ⟨w.heap.size, 4, none⟩ = some (.int .i64 d.root)) (fun si _ => d.ns.length - (intOf si).toNat)
      case atStart => exact ⟨0, Nat.zero_le _, rfl, (show ∀ j, j < 0 → _ from fun j hj => by omega), HB, hsz, x0, x1, x2, x3, x4⟩
      case round =>
        clear HB hsz x0 x1 x2 x3 x4
        obtain ⟨k, hk, rfl, hP, hB, hsz, x0, x1, x2, x3, x4⟩ := hrel
        by_cases hlk : k < d.ns.length
        · have j1 : (k : Int) < (d.ns.length : Int) := by omega
          obtain ⟨b, off, rfl, hb, q0, q1⟩ := HN.out k hlk
          replace q0 := (hB.out.cell hb).trans q0
          replace q1 := (hB.out.cell hb).trans q1
          obtain ⟨x, hx⟩ : ∃ x, x = d.ns.getD k ⟨0, 0⟩ := ⟨_, rfl⟩
          rw [← hx] at q0 q1
          have HX := Lib.hid hx
          clear hx
          have hdl := deg_le d.ws k
          have BX := Lib.hid (show Below w.heap.size w (wr.alloc (.cells #[.int .i64 x.a, .int .i64 x.b] 36)) from Below.alloc hB.out (by omega) _)
          by_cases a0 : x.a = 0
          · have b0 : (x.a == 0) = true := by simpa using a0
            have b5 : (x.a == 1) = false := by simp; omega
            have b6 : (x.a == 2) = false := by simp; omega
            have HQ := Lib.hid (dg_0 HX.out a0)
            clear a0
            have s0 : (wr.alloc (.cells #[.int .i64 x.a, .int .i64 x.b] 36)).cell? ⟨w.heap.size, 0, none⟩ = some (.int .i64 d.n) := cell_alloc_keep _ x0
            have s1 : (wr.alloc (.cells #[.int .i64 x.a, .int .i64 x.b] 36)).cell? ⟨w.heap.size, 1, none⟩ = some (.slice (some ⟨b, off, none⟩) d.ns.length c) := cell_alloc_keep _ x1
            have s2 : (wr.alloc (.cells #[.int .i64 x.a, .int .i64 x.b] 36)).cell? ⟨w.heap.size, 2, none⟩ = some (.slice A1 d.ws.length c1) := cell_alloc_keep _ x2
            have s3 : (wr.alloc (.cells #[.int .i64 x.a, .int .i64 x.b] 36)).cell? ⟨w.heap.size, 3, none⟩ = some (.int .i64 d.turn) := cell_alloc_keep _ x3
            have s4 : (wr.alloc (.cells #[.int .i64 x.a, .int .i64 x.b] 36)).cell? ⟨w.heap.size, 4, none⟩ = some (.int .i64 d.root) := cell_alloc_keep _ x4
            go_wp2_with fail
            refine (impl_degree_any d _ _ k _ (Rd.below H0.out BX.out rfl) (Rd.below H1.out BX.out rfl) n1).mono ?_; rintro e w4 ⟨rfl, hb4⟩
            replace x0 := bel_z7 hb4 s0; replace x1 := bel_z7 hb4 s1; replace x2 := bel_z7 hb4 s2; replace x3 := bel_z7 hb4 s3; replace x4 := bel_z7 hb4 s4; clear s0 s1 s2 s3 s4
            have t0 : w4.cell? ⟨wr.heap.size, 0, none⟩ = some (.int .i64 x.a) := bel_z7 hb4 (by repeat (first | (refine Eq.trans (World.cell?_alloc_at _ _ _ _ ?hh) ?_; (case hh => (simp; done)); rfl) | refine cell_alloc_keep _ ?_))
            have z4 : w.heap.size + 1 ≤ w4.heap.size := by have := hb4.size; simp at this; omega
            have B4 := Lib.hid (below_step BX.out hb4)
            clear hb4 BX hB
            obtain ⟨D, hD⟩ : ∃ D, D = degW d.ws k := ⟨_, rfl⟩
            rw [← hD] at HQ hdl ⊢
            clear hD
            by_cases d0 : D = 0
            · have b1 : ((D : Int) != 0) = false := by simpa using d0
              have HK := Lib.hid (all_next hP.out (HQ.out.2 d0))
              clear d0 hP
              go_wp2_with fail
              go_roundw
              case rel => exact ⟨k + 1, by omega, by go_num, HK, B4, z4, x0, x1, x2, x3, x4⟩
              case measure => simp [intOf]; omega
            · have b1 : ((D : Int) != 0) = true := by simpa using d0
              have HR := Lib.hid (gi_k hlk (fun h => d0 (HQ.out.1 h)))
              clear d0 hP
              go_wp2_with fail
              go_ret
              exact ⟨ret_bool HR.out, B4.out⟩
          by_cases a12 : x.a = 1 ∨ x.a = 2
          · have b0 : (x.a == 0) = false := by simpa using a0
            have HQ := Lib.hid (dg_1 HX.out a12)
            by_cases a1 : x.a = 1
            · have b5 : (x.a == 1) = true := by simpa using a1
              clear a0 a12 a1
              have s0 : (wr.alloc (.cells #[.int .i64 x.a, .int .i64 x.b] 36)).cell? ⟨w.heap.size, 0, none⟩ = some (.int .i64 d.n) := cell_alloc_keep _ x0
              have s1 : (wr.alloc (.cells #[.int .i64 x.a, .int .i64 x.b] 36)).cell? ⟨w.heap.size, 1, none⟩ = some (.slice (some ⟨b, off, none⟩) d.ns.length c) := cell_alloc_keep _ x1
              have s2 : (wr.alloc (.cells #[.int .i64 x.a, .int .i64 x.b] 36)).cell? ⟨w.heap.size, 2, none⟩ = some (.slice A1 d.ws.length c1) := cell_alloc_keep _ x2
              have s3 : (wr.alloc (.cells #[.int .i64 x.a, .int .i64 x.b] 36)).cell? ⟨w.heap.size, 3, none⟩ = some (.int .i64 d.turn) := cell_alloc_keep _ x3
              have s4 : (wr.alloc (.cells #[.int .i64 x.a, .int .i64 x.b] 36)).cell? ⟨w.heap.size, 4, none⟩ = some (.int .i64 d.root) := cell_alloc_keep _ x4
              go_wp2_with fail
              refine (impl_degree_any d _ _ k _ (Rd.below H0.out BX.out rfl) (Rd.below H1.out BX.out rfl) n1).mono ?_; rintro e w4 ⟨rfl, hb4⟩
              replace x0 := bel_z7 hb4 s0; replace x1 := bel_z7 hb4 s1; replace x2 := bel_z7 hb4 s2; replace x3 := bel_z7 hb4 s3; replace x4 := bel_z7 hb4 s4; clear s0 s1 s2 s3 s4
              have z4 : w.heap.size + 1 ≤ w4.heap.size := by have := hb4.size; simp at this; omega
              have B4 := Lib.hid (below_step BX.out hb4)
              clear hb4 BX hB
              obtain ⟨D, hD⟩ : ∃ D, D = degW d.ws k := ⟨_, rfl⟩
              rw [← hD] at HQ hdl ⊢
              clear hD
              by_cases d0 : D = 1
              · have b1 : ((D : Int) != 1) = false := by simp; omega
                have HK := Lib.hid (all_next hP.out (HQ.out.2 d0))
                clear d0 hP
                go_wp2_with fail
                go_roundw
                case rel => exact ⟨k + 1, by omega, by go_num, HK, B4, z4, x0, x1, x2, x3, x4⟩
                case measure => simp [intOf]; omega
              · have b1 : ((D : Int) != 1) = true := by simp; omega
                have HR := Lib.hid (gi_k hlk (fun h => d0 (HQ.out.1 h)))
                clear d0 hP
                go_wp2_with fail
                go_ret
                exact ⟨ret_bool HR.out, B4.out⟩
            · have b5 : (x.a == 1) = false := by simpa using a1
              have b6 : (x.a == 2) = true := by simp; omega
              clear a0 a12 a1
              have s0 : (wr.alloc (.cells #[.int .i64 x.a, .int .i64 x.b] 36)).cell? ⟨w.heap.size, 0, none⟩ = some (.int .i64 d.n) := cell_alloc_keep _ x0
              have s1 : (wr.alloc (.cells #[.int .i64 x.a, .int .i64 x.b] 36)).cell? ⟨w.heap.size, 1, none⟩ = some (.slice (some ⟨b, off, none⟩) d.ns.length c) := cell_alloc_keep _ x1
              have s2 : (wr.alloc (.cells #[.int .i64 x.a, .int .i64 x.b] 36)).cell? ⟨w.heap.size, 2, none⟩ = some (.slice A1 d.ws.length c1) := cell_alloc_keep _ x2
              have s3 : (wr.alloc (.cells #[.int .i64 x.a, .int .i64 x.b] 36)).cell? ⟨w.heap.size, 3, none⟩ = some (.int .i64 d.turn) := cell_alloc_keep _ x3
              have s4 : (wr.alloc (.cells #[.int .i64 x.a, .int .i64 x.b] 36)).cell? ⟨w.heap.size, 4, none⟩ = some (.int .i64 d.root) := cell_alloc_keep _ x4
              go_wp2_with fail
              refine (impl_degree_any d _ _ k _ (Rd.below H0.out BX.out rfl) (Rd.below H1.out BX.out rfl) n1).mono ?_; rintro e w4 ⟨rfl, hb4⟩
              replace x0 := bel_z7 hb4 s0; replace x1 := bel_z7 hb4 s1; replace x2 := bel_z7 hb4 s2; replace x3 := bel_z7 hb4 s3; replace x4 := bel_z7 hb4 s4; clear s0 s1 s2 s3 s4
              have z4 : w.heap.size + 1 ≤ w4.heap.size := by have := hb4.size; simp at this; omega
              have B4 := Lib.hid (below_step BX.out hb4)
              clear hb4 BX hB
              obtain ⟨D, hD⟩ : ∃ D, D = degW d.ws k := ⟨_, rfl⟩
              rw [← hD] at HQ hdl ⊢
              clear hD
              by_cases d0 : D = 1
              · have b1 : ((D : Int) != 1) = false := by simp; omega
                have HK := Lib.hid (all_next hP.out (HQ.out.2 d0))
                clear d0 hP
                go_wp2_with fail
                go_roundw
                case rel => exact ⟨k + 1, by omega, by go_num, HK, B4, z4, x0, x1, x2, x3, x4⟩
                case measure => simp [intOf]; omega
              · have b1 : ((D : Int) != 1) = true := by simp; omega
                have HR := Lib.hid (gi_k hlk (fun h => d0 (HQ.out.1 h)))
                clear d0 hP
                go_wp2_with fail
                go_ret
                exact ⟨ret_bool HR.out, B4.out⟩
          · have HK := Lib.hid (all_next hP.out (dg_2 HX.out a0 (fun h => a12 (.inl h)) (fun h => a12 (.inr h))))
            have b0 : (x.a == 0) = false := by simpa using a0
            have b5 : (x.a == 1) = false := by simp; omega
            have b6 : (x.a == 2) = false := by simp; omega
            clear a0 a12 hP
            go_wp2_with fail
            go_roundw
            case rel => exact ⟨k + 1, by omega, by go_num, HK, BX, by simp; omega, cell_alloc_keep _ x0, cell_alloc_keep _ x1, cell_alloc_keep _ x2, cell_alloc_keep _ x3, cell_alloc_keep _ x4⟩
            case measure => simp [intOf]; omega
        · have j1 : ¬ (k : Int) < (d.ns.length : Int) := by omega
          have HR := Lib.hid (gi_y HZ.out HNN.out HE.out HPW.out (show d.ws.length ≤ i by omega) hP.out (show d.ns.length ≤ k by omega))
          have B := hB.out
          clear hP
          go_wp2_with fail
          go_ret
          exact ⟨ret_bool HR.out, B⟩
end Go.Proofs.YtliophgfgmjhiaaGreatDoor
