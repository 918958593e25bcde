/- A diagram's validity: the reference's test. -/
import Derived.Test.YtliophgfgmjhiaaGreatDoorZ05Zx3
import Derived.Test.YtliophgfgmjhiaaGreatDoorZ04Brk
import Derived.BigRegion
import Derived.BigQuiet
import Derived.Deep.DeepCutAuto
namespace Go.Proofs.YtliophgfgmjhiaaGreatDoor
set_option linter.unusedSimpArgs false
set_option linter.unusedVariables false
set_option linter.unnecessarySimpa false
set_option maxRecDepth 200000
open Go.ChangeShapes Go.WideShapes Go.ChangeAt Go.RowKit

theorem bel_zx {w w' : World} {b o : Nat} {u : Value} (hb : Below w.heap.size w w') (hc : w.cell? ⟨b, o, none⟩ = some u) : w'.cell? ⟨b, o, none⟩ = some u := (hb.cell (World.block_lt_of_cell? _ _ hc)).trans hc
theorem quietC {f : FuncId} {args : Array Value} {w : World} {n : Nat} {a b : Bool} (h : Calls Tryz.prog f args (w.drewN n) fun e w' => e = .returned (.bool a) ∧ w.drewN n = w') (he : a = b) : Calls Tryz.prog f args (w.drewN n) fun e w'' => e = .returned (.bool b) ∧ ∃ m, w'' = w.drewN m := by
  subst he; exact h.mono fun _ _ ⟨he, hm⟩ => ⟨he, n, hm.symm⟩
theorem zg_n {d : Dia} (h : ¬ (1 ≤ d.n ∧ d.n ≤ 5)) : false = decide (GoodS d) := (decide_eq_false fun g => h g.1.1).symm
theorem zg_l {d : Dia} (h : ¬ d.ns.length ≤ 40) : false = decide (GoodS d) := (decide_eq_false fun g => h g.1.2.1).symm
theorem zg_t {d : Dia} (h : ¬ (0 ≤ d.turn ∧ d.turn ≤ 7)) : false = decide (GoodS d) := (decide_eq_false fun g => h g.1.2.2.1).symm
theorem zg_r {d : Dia} (h : ¬ (-60 ≤ d.root ∧ d.root ≤ 60)) : false = decide (GoodS d) := (decide_eq_false fun g => h g.1.2.2.2).symm
theorem zg_w {d : Dia} {i : Nat} (hi : i < d.ws.length) (h : ¬ zxWire d i) : false = decide (GoodS d) := (decide_eq_false fun g => h (g.2.1 i hi)).symm
theorem zg_k {d : Dia} {i : Nat} (hi : i < d.ns.length) (h : decide (zxNode d i) = false) : false = decide (GoodS d) := (decide_eq_false fun g => of_decide_eq_false h (g.2.2.1 i hi)).symm
theorem zg_e {d : Dia} {i k : Nat} (h1 : zxHead d) (h2 : ∀ j, j < i → zxWire d j) (hi : d.ws.length ≤ i) (h3 : ∀ j, j < k → zxNode d j) (hk : d.ns.length ≤ k) : decide (endsS d) = decide (GoodS d) := by
  rw [Bool.eq_iff_iff, decide_eq_true_eq, decide_eq_true_eq]
  exact ⟨fun h => ⟨h1, fun j hj => h2 j (by omega), fun j hj => h3 j (by omega), h⟩, fun h => h.2.2.2⟩
theorem all_next {P : Nat → Prop} {k : Nat} (h : ∀ j, j < k → P j) (h2 : P k) : ∀ j, j < k + 1 → P j := fun j hj => by
  by_cases e : j = k
  · subst e; exact h2
  · exact h j (by omega)
theorem zw_1 {d : Dia} {i : Nat} {x : EW} (hx : x = d.ws.getD i ⟨0, 0, false⟩) (h : ¬ (0 ≤ x.a ∧ x.a ≤ x.b - 1)) : ¬ zxWire d i := by
  subst hx; intro g; have := g.1; omega
theorem zw_2 {d : Dia} {i : Nat} {x : EW} (hx : x = d.ws.getD i ⟨0, 0, false⟩) (h : (d.ns.length : Int) ≤ x.b) : ¬ zxWire d i := by
  subst hx; intro g; have := g.1; omega
theorem zw_3 {d : Dia} {i : Nat} {x y : EW} (hx : x = d.ws.getD i ⟨0, 0, false⟩) (hy : y = d.ws.getD (i - 1) ⟨0, 0, false⟩) (h0 : i ≠ 0) (h : lessB y x = false) : ¬ zxWire d i := by
  subst hx hy; intro g; have := (less_iff _ _).2 (g.2 h0); rw [h] at this; cases this
theorem zw_y {d : Dia} {i : Nat} {x y : EW} (hx : x = d.ws.getD i ⟨0, 0, false⟩) (hy : y = d.ws.getD (i - 1) ⟨0, 0, false⟩) (h1 : 0 ≤ x.a ∧ x.a ≤ x.b - 1) (h2 : ¬ (d.ns.length : Int) ≤ x.b) (h : i = 0 ∨ lessB y x = true) : zxWire d i := by
  subst hx hy; refine ⟨by omega, fun h0 => (less_iff _ _).1 ?_⟩
  rcases h with h | h
  · exact absurd h h0
  · exact h
set_option maxHeartbeats 8000000 in
theorem spec_l16Good_any (d : Dia) (v0 v1 : Value) (w : World) (h0 : RdE w v0 E2.cs 2 d.ns) (h1 : RdE w v1 EW.cs 3 d.ws) (n0 : d.ns.length ≤ 2097152) (n1 : d.ws.length ≤ 2097152) (hbw : ∀ i, i < d.ws.length → -1 ≤ (d.ws.getD i ⟨0, 0, false⟩).b ∧ (d.ws.getD i ⟨0, 0, false⟩).b ≤ 1000000) :
    Calls Tryz.prog 26 #[.agg #[.int .i64 d.n, v0, v1, .int .i64 d.turn, .int .i64 d.root]] w fun e w' => e = .returned (.bool (decide (GoodS d))) ∧ Below w.heap.size w w' := by
  have H0 := Lib.hid h0; have H1 := Lib.hid h1
  obtain ⟨A, c, rfl, _⟩ := e2_at h0
  obtain ⟨A1, c1, rfl, HW⟩ := eW_at h1
  clear h0 h1
  have HBW := Lib.hid hbw
  clear hbw
  by_cases hn : 1 ≤ d.n ∧ d.n ≤ 5
  rotate_left
  · have D1 := Lib.hid (decide_eq_false hn)
    have HR := Lib.hid (zg_n hn)
    clear hn
    go_enter Tryz.func26, Tryz.ntmps26
    go_wp2_with fail
    refine (l1In_p _ _ _ _).mono ?_; rintro e w1 ⟨rfl, rfl⟩; rw [D1.out]
    go_wp2_with fail
    go_ret
    exact ⟨ret_bool HR.out, (by repeat (first | exact Below.refl _ _ | assumption | refine Below.drew ?_ | refine below_drewN ?_ _ | refine Below.alloc ?_ (by first | omega | (simp <;> omega)) _ | refine Below.setCell ?_ (by first | omega | (simp <;> omega)) _ | refine Below.trans ?_ (Below.mono (by assumption) (by first | omega | (simp <;> omega)))))⟩
  by_cases hl : d.ns.length ≤ 40
  rotate_left
  · have D1 := Lib.hid (decide_eq_true hn)
    have HR := Lib.hid (zg_l hl)
    have b1 : (40 : Int) < (d.ns.length : Int) := by omega
    clear hn hl
    go_enter Tryz.func26, Tryz.ntmps26
    go_wp2_with fail
    refine (l1In_p _ _ _ _).mono ?_; rintro e w1 ⟨rfl, rfl⟩; rw [D1.out]
    go_wp2_with fail
    go_ret
    exact ⟨ret_bool HR.out, (by repeat (first | exact Below.refl _ _ | assumption | refine Below.drew ?_ | refine below_drewN ?_ _ | refine Below.alloc ?_ (by first | omega | (simp <;> omega)) _ | refine Below.setCell ?_ (by first | omega | (simp <;> omega)) _ | refine Below.trans ?_ (Below.mono (by assumption) (by first | omega | (simp <;> omega)))))⟩
  have b1 : ¬ (40 : Int) < (d.ns.length : Int) := by omega
  by_cases ht : 0 ≤ d.turn ∧ d.turn ≤ 7
  rotate_left
  · have D1 := Lib.hid (decide_eq_true hn)
    have D2 := Lib.hid (decide_eq_false ht)
    have HR := Lib.hid (zg_t ht)
    clear hn ht
    go_enter Tryz.func26, Tryz.ntmps26
    go_wp2_with fail
    refine (l1In_p _ _ _ _).mono ?_; rintro e w1 ⟨rfl, rfl⟩; rw [D1.out]
    go_wp2_with fail
    all_goals (first | (exfalso; omega) | skip)
    refine (l1In_p _ _ _ _).mono ?_; rintro e w1 ⟨rfl, rfl⟩; rw [D2.out]
    go_wp2_with fail
    go_ret
    exact ⟨ret_bool HR.out, (by repeat (first | exact Below.refl _ _ | assumption | refine Below.drew ?_ | refine below_drewN ?_ _ | refine Below.alloc ?_ (by first | omega | (simp <;> omega)) _ | refine Below.setCell ?_ (by first | omega | (simp <;> omega)) _ | refine Below.trans ?_ (Below.mono (by assumption) (by first | omega | (simp <;> omega)))))⟩
  by_cases hr : -60 ≤ d.root ∧ d.root ≤ 60
  rotate_left
  · have D1 := Lib.hid (decide_eq_true hn)
    have D2 := Lib.hid (decide_eq_true ht)
    have D3 := Lib.hid (decide_eq_false hr)
    have HR := Lib.hid (zg_r hr)
    clear hn ht hr
    go_enter Tryz.func26, Tryz.ntmps26
    go_wp2_with fail
    refine (l1In_p _ _ _ _).mono ?_; rintro e w1 ⟨rfl, rfl⟩; rw [D1.out]
    go_wp2_with fail
    all_goals (first | (exfalso; omega) | skip)
    refine (l1In_p _ _ _ _).mono ?_; rintro e w1 ⟨rfl, rfl⟩; rw [D2.out]
    go_wp2_with fail
    refine (l1In_p _ _ _ _).mono ?_; rintro e w1 ⟨rfl, rfl⟩; rw [D3.out]
    go_wp2_with fail
    go_ret
    exact ⟨ret_bool HR.out, (by repeat (first | exact Below.refl _ _ | assumption | refine Below.drew ?_ | refine below_drewN ?_ _ | refine Below.alloc ?_ (by first | omega | (simp <;> omega)) _ | refine Below.setCell ?_ (by first | omega | (simp <;> omega)) _ | refine Below.trans ?_ (Below.mono (by assumption) (by first | omega | (simp <;> omega)))))⟩
  have D1 := Lib.hid (decide_eq_true hn)
  have D2 := Lib.hid (decide_eq_true ht)
  have D3 := Lib.hid (decide_eq_true hr)
  have HZ := Lib.hid (show zxHead d from ⟨hn, hl, ht, hr⟩)
  have HHN := Lib.hid hn
  clear hn ht hr
  go_enter Tryz.func26, Tryz.ntmps26
  go_wp2_with fail
  refine (l1In_p _ _ _ _).mono ?_; rintro e w1 ⟨rfl, rfl⟩; rw [D1.out]
  go_wp2_with fail
  all_goals (first | (exfalso; omega) | skip)
  refine (l1In_p _ _ _ _).mono ?_; rintro e w1 ⟨rfl, rfl⟩; rw [D2.out]
  go_wp2_with fail
  refine (l1In_p _ _ _ _).mono ?_; rintro e w1 ⟨rfl, rfl⟩; rw [D3.out]
  go_wp2_with fail
  go_loopw [31] (fun si wr => ∃ i : Nat, i ≤ d.ws.length ∧ si = .int .i64 i ∧ Hid (∀ j, j < i → zxWire d j) ∧ Hid (Below w.heap.size w wr) ∧ w.heap.size + 1 ≤ wr.heap.size ∧ wr.cell? ⟨w.heap.size, 0, none⟩ = some (.int .i64 d.n) ∧ wr.cell? ⟨w.heap.size, 1, none⟩ = some (.slice A d.ns.length c) ∧ wr.cell? ⟨w.heap.size, 2, none⟩ = some (.slice A1 d.ws.length c1) ∧ wr.cell? ⟨w.heap.size, 3, none⟩ = some (.int .i64 d.turn) ∧ wr.cell? ⟨w.heap.size, 4, none⟩ = some (.int .i64 d.root)) (fun si _ => d.ws.length - (intOf si).toNat)
  case atStart => exact ⟨0, Nat.zero_le _, rfl, (show ∀ j, j < 0 → _ from fun j hj => by omega), (show Below _ _ _ from (by repeat (first | exact Below.refl _ _ | assumption | refine Below.drew ?_ | refine below_drewN ?_ _ | refine Below.alloc ?_ (by first | omega | (simp <;> omega)) _ | refine Below.setCell ?_ (by first | omega | (simp <;> omega)) _ | refine Below.trans ?_ (Below.mono (by assumption) (by first | omega | (simp <;> omega)))))), by simp, (by repeat (first | (refine Eq.trans (World.cell?_alloc_at _ _ _ _ ?hh) ?_; (case hh => (simp; done)); rfl) | refine cell_alloc_keep _ ?_)), (by repeat (first | (refine Eq.trans (World.cell?_alloc_at _ _ _ _ ?hh) ?_; (case hh => (simp; done)); rfl) | refine cell_alloc_keep _ ?_)), (by repeat (first | (refine Eq.trans (World.cell?_alloc_at _ _ _ _ ?hh) ?_; (case hh => (simp; done)); rfl) | refine cell_alloc_keep _ ?_)), (by repeat (first | (refine Eq.trans (World.cell?_alloc_at _ _ _ _ ?hh) ?_; (case hh => (simp; done)); rfl) | refine cell_alloc_keep _ ?_)), (by repeat (first | (refine Eq.trans (World.cell?_alloc_at _ _ _ _ ?hh) ?_; (case hh => (simp; done)); rfl) | refine cell_alloc_keep _ ?_))⟩
  case round =>
    obtain ⟨i, hi, rfl, hP, hB, hsz, x0, x1, x2, x3, x4⟩ := hrel
    by_cases hlt : i < d.ws.length
    · have i1 : (i : Int) < (d.ws.length : Int) := by omega
      obtain ⟨b, off, rfl, hb, q0, q1, q2⟩ := HW.out i hlt
      obtain ⟨b', off', hbb', _, p0, p1, p2⟩ := HW.out (i - 1) (by omega)
      injection hbb' with hbb'
      injection hbb' with e1 e2
      subst e1 e2
      have hbw := HBW.out i hlt
      replace q0 := (hB.out.cell hb).trans q0
      replace q1 := (hB.out.cell hb).trans q1
      replace q2 := (hB.out.cell hb).trans q2
      replace p0 := (hB.out.cell hb).trans p0
      replace p1 := (hB.out.cell hb).trans p1
      replace p2 := (hB.out.cell hb).trans p2
      obtain ⟨x, hx⟩ : ∃ x, x = d.ws.getD i ⟨0, 0, false⟩ := ⟨_, rfl⟩
      obtain ⟨y, hy⟩ : ∃ x, x = d.ws.getD (i - 1) ⟨0, 0, false⟩ := ⟨_, rfl⟩
      rw [← hx] at q0 q1 q2 hbw
      rw [← hy] at p0 p1 p2
      have HX := Lib.hid hx
      have HY := Lib.hid hy
      clear hx hy
      have hwr : IntKind.i64.wrap (x.b - 1) = x.b - 1 := IntWalk.i64_in _ (by omega)
      go_upto_region 6 with fail
      have BN := Lib.hid (show Below w.heap.size w (wr.alloc (.cells #[.int .i64 x.a, .int .i64 x.b, .bool x.h] 40)) from Below.alloc hB.out (by omega) _)
      have y0 : (wr.alloc (.cells #[.int .i64 x.a, .int .i64 x.b, .bool x.h] 40)).cell? ⟨w.heap.size, 0, none⟩ = some (.int .i64 d.n) := cell_alloc_keep _ x0
      have y1 : (wr.alloc (.cells #[.int .i64 x.a, .int .i64 x.b, .bool x.h] 40)).cell? ⟨w.heap.size, 1, none⟩ = some (.slice A d.ns.length c) := cell_alloc_keep _ x1
      have y2 : (wr.alloc (.cells #[.int .i64 x.a, .int .i64 x.b, .bool x.h] 40)).cell? ⟨w.heap.size, 2, none⟩ = some (.slice (some ⟨b, off, none⟩) d.ws.length c1) := cell_alloc_keep _ x2
      have y3 : (wr.alloc (.cells #[.int .i64 x.a, .int .i64 x.b, .bool x.h] 40)).cell? ⟨w.heap.size, 3, none⟩ = some (.int .i64 d.turn) := cell_alloc_keep _ x3
      have y4 : (wr.alloc (.cells #[.int .i64 x.a, .int .i64 x.b, .bool x.h] 40)).cell? ⟨w.heap.size, 4, none⟩ = some (.int .i64 d.root) := cell_alloc_keep _ x4
      have e0 : (wr.alloc (.cells #[.int .i64 x.a, .int .i64 x.b, .bool x.h] 40)).cell? ⟨wr.heap.size, 0, none⟩ = some (.int .i64 x.a) := (by repeat (first | (refine Eq.trans (World.cell?_alloc_at _ _ _ _ ?hh) ?_; (case hh => (simp; done)); rfl) | refine cell_alloc_keep _ ?_))
      have e1 : (wr.alloc (.cells #[.int .i64 x.a, .int .i64 x.b, .bool x.h] 40)).cell? ⟨wr.heap.size, 1, none⟩ = some (.int .i64 x.b) := (by repeat (first | (refine Eq.trans (World.cell?_alloc_at _ _ _ _ ?hh) ?_; (case hh => (simp; done)); rfl) | refine cell_alloc_keep _ ?_))
      have e2 : (wr.alloc (.cells #[.int .i64 x.a, .int .i64 x.b, .bool x.h] 40)).cell? ⟨wr.heap.size, 2, none⟩ = some (.bool x.h) := (by repeat (first | (refine Eq.trans (World.cell?_alloc_at _ _ _ _ ?hh) ?_; (case hh => (simp; done)); rfl) | refine cell_alloc_keep _ ?_))
      replace p0 : (wr.alloc (.cells #[.int .i64 x.a, .int .i64 x.b, .bool x.h] 40)).cell? ⟨b, off + (i - 1) * 3, none⟩ = some (.int .i64 y.a) := cell_alloc_keep _ p0
      replace p1 : (wr.alloc (.cells #[.int .i64 x.a, .int .i64 x.b, .bool x.h] 40)).cell? ⟨b, off + (i - 1) * 3 + 1, none⟩ = some (.int .i64 y.b) := cell_alloc_keep _ p1
      replace p2 : (wr.alloc (.cells #[.int .i64 x.a, .int .i64 x.b, .bool x.h] 40)).cell? ⟨b, off + (i - 1) * 3 + 2, none⟩ = some (.bool y.h) := cell_alloc_keep _ p2
      have zN : w.heap.size + 1 ≤ (wr.alloc (.cells #[.int .i64 x.a, .int .i64 x.b, .bool x.h] 40)).heap.size := by simp; omega
      clear x0 x1 x2 x3 x4 q0 q1 q2 hB
      obtain ⟨W, hW⟩ : ∃ W, W = (wr.alloc (.cells #[.int .i64 x.a, .int .i64 x.b, .bool x.h] 40)) := ⟨_, rfl⟩
      rw [← hW] at BN y0 y1 y2 y3 y4 e0 e1 e2 p0 p1 p2 zN ⊢
      clear hW
      obtain ⟨N, hN⟩ : ∃ N, N = wr.heap.size := ⟨_, rfl⟩
      rw [← hN] at e0 e1 e2 hsz ⊢
      clear hN
      by_cases g1 : 0 ≤ x.a ∧ x.a ≤ x.b - 1
      rotate_left
      · have HR := Lib.hid (zg_w hlt (zw_1 HX.out g1))
        have E1 := Lib.hid (decide_eq_false g1)
        clear g1 hbw hP
        go_quiet ((go_at_call 39; exact quietC (l1In_p x.a 0 (x.b - 1) _) E1.out))
        all_goals
          go_wp2_with fail
          go_ret
          exact ⟨ret_bool HR.out, below_drewN BN.out _⟩
      · have E1 := Lib.hid (decide_eq_true g1)
        by_cases g2 : (d.ns.length : Int) ≤ x.b
        · have HR := Lib.hid (zg_w hlt (zw_2 HX.out g2))
          clear g1 hbw hP
          go_quiet ((go_at_call 39; exact quietC (l1In_p x.a 0 (x.b - 1) _) E1.out))
          all_goals
            go_wp2_with fail
            go_ret
            exact ⟨ret_bool HR.out, below_drewN BN.out _⟩
        · by_cases hi0 : i = 0
          · have HK := Lib.hid (all_next hP.out (zw_y HX.out HY.out g1 g2 (.inl hi0)))
            have b2 : decide (0 < i) = false := by simp; omega
            have b3 : decide ((0 : Int) < (i : Int)) = false := by simp; omega
            clear g1 hbw hP
            go_quiet ((go_at_call 39; exact quietC (l1In_p x.a 0 (x.b - 1) _) E1.out))
            all_goals
              go_wp2_with fail
              go_roundw
              case rel => exact ⟨i + 1, by omega, by go_num, HK, below_drewN BN.out _, by simpa using zN, by simpa using y0, by simpa using y1, by simpa using y2, by simpa using y3, by simpa using y4⟩
              case measure => simp [intOf]; omega
          · have b2 : decide ((0 : Int) < (i : Int)) = true := by simp; omega
            obtain ⟨p, hp⟩ : ∃ p, p = i - 1 := ⟨_, rfl⟩
            have hkk : IntKind.i64.wrap ((i : Int) - 1) = (p : Int) := by rw [show (i : Int) - 1 = (p : Int) from by omega]; exact IntWalk.i64_in _ (by omega)
            rw [← hp] at p0 p1 p2
            have i2 : (p : Int) < (d.ws.length : Int) := by omega
            have i3 : (0 : Int) < (i : Int) := by omega
            have i4 : 0 < i := by omega
            have b4 : decide (0 < i) = true := by simp; omega
            clear hp
            have HI0 := Lib.hid hi0
            replace BN := Lib.hid (show Below w.heap.size w W.drew from Below.drew BN.out)
            replace zN : w.heap.size + 1 ≤ W.drew.heap.size := zN
            replace e0 : W.drew.cell? _ = _ := e0
            replace e1 : W.drew.cell? _ = _ := e1
            replace e2 : W.drew.cell? _ = _ := e2
            replace y0 : W.drew.cell? _ = _ := y0
            replace y1 : W.drew.cell? _ = _ := y1
            replace y2 : W.drew.cell? _ = _ := y2
            replace y3 : W.drew.cell? _ = _ := y3
            replace y4 : W.drew.cell? _ = _ := y4
            replace p0 : W.drew.cell? _ = _ := p0
            replace p1 : W.drew.cell? _ = _ := p1
            replace p2 : W.drew.cell? _ = _ := p2
            have HG := Lib.hid (fun h => all_next hP.out (zw_y HX.out HY.out g1 g2 (.inr h)))
            have HF := Lib.hid (fun h => zg_w hlt (zw_3 HX.out HY.out HI0.out h))
            have G2 : decide ((d.ns.length : Int) ≤ x.b) = false := decide_eq_false g2
            clear g1 hP hi0
            refine AnyB.begin (S := (fun w' => w'.cell? ⟨w.heap.size, 1, none⟩ = some (.slice A d.ns.length c) ∧ w'.cell? ⟨w.heap.size, 2, none⟩ = some (.slice (some ⟨b, off, none⟩) d.ws.length c1) ∧ w'.cell? ⟨N, 0, none⟩ = some (.int .i64 x.a) ∧ w'.cell? ⟨N, 1, none⟩ = some (.int .i64 x.b) ∧ w'.cell? ⟨N, 2, none⟩ = some (.bool x.h) ∧ w'.cell? ⟨b, off + p * 3, none⟩ = some (.int .i64 y.a) ∧ w'.cell? ⟨b, off + p * 3 + 1, none⟩ = some (.int .i64 y.b) ∧ w'.cell? ⟨b, off + p * 3 + 2, none⟩ = some (.bool y.h))) [] (by kernel_rfl) ?_ (fun hHeld0 => ?_)
            · ((try dsimp only); (first | exact ⟨y1, y2, e0, e1, e2, p0, p1, p2⟩))
            refine AnyB.takeQ (i := 0) (oi := _) (v := ?_) (by simp only [List.getElem?_toArray, List.getElem?_cons_zero, List.getElem?_cons_succ]; rfl) (by kernel_rfl) (by kernel_rfl) (by kernel_rfl) (by intro _ _ _ h; exact h) (Or.inl ⟨by rfl, ?_⟩) ?_
            rotate_left
            · (intro w hSw; (try dsimp only at hSw); go_simp; (try (with_reducible rfl)))
            try simp only [Act.put, List.setIfInBounds_toArray, List.set_cons_zero, List.set_cons_succ]
            refine AnyB.take (i := 1) (oi := _) (v := ?_) (by simp only [List.getElem?_toArray, List.getElem?_cons_zero, List.getElem?_cons_succ]; rfl) (by kernel_rfl) (by kernel_rfl) (by kernel_rfl) (by kernel_rfl) (by kernel_rfl) (by intro _ _ _ h; exact h) (Or.inl ⟨by rfl, ?_⟩) (by assumption) ?_
            rotate_left
            · (intro w hSw; (try dsimp only at hSw); go_simp; (try (with_reducible rfl)))
            try simp only [Act.put, List.setIfInBounds_toArray, List.set_cons_zero, List.set_cons_succ]
            refine AnyB.takeQ (i := 2) (oi := _) (v := ?_) (by simp only [List.getElem?_toArray, List.getElem?_cons_zero, List.getElem?_cons_succ]; rfl) (by kernel_rfl) (by kernel_rfl) (by kernel_rfl) (by intro _ _ _ h; exact h) (Or.inl ⟨by rfl, ?_⟩) ?_
            rotate_left
            · (intro w hSw; (try dsimp only at hSw); go_simp; (try (with_reducible rfl)))
            try simp only [Act.put, List.setIfInBounds_toArray, List.set_cons_zero, List.set_cons_succ]
            refine AnyB.take (i := 3) (oi := _) (v := ?_) (by simp only [List.getElem?_toArray, List.getElem?_cons_zero, List.getElem?_cons_succ]; rfl) (by kernel_rfl) (by kernel_rfl) (by kernel_rfl) (by kernel_rfl) (by kernel_rfl) (by intro _ _ _ h; exact h) (Or.inl ⟨by rfl, ?_⟩) (by assumption) ?_
            rotate_left
            · (intro w hSw; (try dsimp only at hSw); go_simp; (try (with_reducible rfl)))
            try simp only [Act.put, List.setIfInBounds_toArray, List.set_cons_zero, List.set_cons_succ]
            refine AnyB.takeQ (i := 4) (oi := _) (v := ?_) (by simp only [List.getElem?_toArray, List.getElem?_cons_zero, List.getElem?_cons_succ]; rfl) (by kernel_rfl) (by kernel_rfl) (by kernel_rfl) (by intro _ _ _ h; exact h) (Or.inl ⟨by rfl, ?_⟩) ?_
            rotate_left
            · (intro w hSw; (try dsimp only at hSw); go_simp; (try (with_reducible rfl)))
            try simp only [Act.put, List.setIfInBounds_toArray, List.set_cons_zero, List.set_cons_succ]
            refine AnyB.each (rs := [5]) (by kernel_rfl) (by simp) ?_
            refine EachB.cons rfl (fun K hK hB => ?_) ?_
            · skip
              (go_simp; go_at_call 39; refine (l1In_p _ _ _ _).mono ?_; rintro e w1 ⟨rfl, rfl⟩; rw [E1.out]; dsimp only)
              refine hK.out _ _ ?_ (fun hHeld1 => ?_)
              · ((try dsimp only); (first | exact ⟨y1, y2, e0, e1, e2, p0, p1, p2⟩))
              clear hB hK K hHeld0
              refine AnyB.takeQ (i := 6) (oi := _) (v := ?_) (by simp only [List.getElem?_toArray, List.getElem?_cons_zero, List.getElem?_cons_succ]; rfl) (by kernel_rfl) (by kernel_rfl) (by kernel_rfl) (by intro _ _ _ h; exact h) (Or.inl ⟨by rfl, ?_⟩) ?_
              rotate_left
              · (intro w hSw; (try dsimp only at hSw); go_simp; (try (with_reducible rfl)))
              try simp only [Act.put, List.setIfInBounds_toArray, List.set_cons_zero, List.set_cons_succ]
              refine AnyB.takeQ (i := 7) (oi := _) (v := ?_) (by simp only [List.getElem?_toArray, List.getElem?_cons_zero, List.getElem?_cons_succ]; rfl) (by kernel_rfl) (by kernel_rfl) (by kernel_rfl) (by intro _ _ _ h; exact h) (Or.inl ⟨by rfl, ?_⟩) ?_
              rotate_left
              · (intro w hSw; (try dsimp only at hSw); go_simp; (try (with_reducible rfl)))
              try simp only [Act.put, List.setIfInBounds_toArray, List.set_cons_zero, List.set_cons_succ]
              refine AnyB.takeQ (i := 8) (oi := _) (v := ?_) (by simp only [List.getElem?_toArray, List.getElem?_cons_zero, List.getElem?_cons_succ]; rfl) (by kernel_rfl) (by kernel_rfl) (by kernel_rfl) (by intro _ _ _ h; exact h) (Or.inl ⟨by rfl, ?_⟩) ?_
              rotate_left
              · (intro w hSw; (try dsimp only at hSw); go_simp; (try (with_reducible rfl)))
              try simp only [Act.put, List.setIfInBounds_toArray, List.set_cons_zero, List.set_cons_succ]
              refine AnyB.take (i := 9) (oi := _) (v := ?_) (by simp only [List.getElem?_toArray, List.getElem?_cons_zero, List.getElem?_cons_succ]; rfl) (by kernel_rfl) (by kernel_rfl) (by kernel_rfl) (by kernel_rfl) (by kernel_rfl) (by intro _ _ _ h; exact h) (Or.inl ⟨by rfl, ?_⟩) (by assumption) ?_
              rotate_left
              · (intro w hSw; (try dsimp only at hSw); go_simp; (try (with_reducible rfl)))
              try simp only [Act.put, List.setIfInBounds_toArray, List.set_cons_zero, List.set_cons_succ]
              refine AnyB.takeQ (i := 10) (oi := _) (v := ?_) (by simp only [List.getElem?_toArray, List.getElem?_cons_zero, List.getElem?_cons_succ]; rfl) (by kernel_rfl) (by kernel_rfl) (by kernel_rfl) (by intro _ _ _ h; exact h) (Or.inl ⟨by rfl, ?_⟩) ?_
              rotate_left
              · (intro w hSw; (try dsimp only at hSw); go_simp; (try (with_reducible rfl)))
              try simp only [Act.put, List.setIfInBounds_toArray, List.set_cons_zero, List.set_cons_succ]
              refine AnyB.take (i := 11) (oi := _) (v := ?_) (by simp only [List.getElem?_toArray, List.getElem?_cons_zero, List.getElem?_cons_succ]; rfl) (by kernel_rfl) (by kernel_rfl) (by kernel_rfl) (by kernel_rfl) (by kernel_rfl) (by intro _ _ _ h; exact h) (Or.inl ⟨by rfl, ?_⟩) (by assumption) ?_
              rotate_left
              · (intro w hSw; (try dsimp only at hSw); go_simp; (try (with_reducible rfl)))
              try simp only [Act.put, List.setIfInBounds_toArray, List.set_cons_zero, List.set_cons_succ]
              refine AnyB.takeQ (i := 12) (oi := _) (v := ?_) (by simp only [List.getElem?_toArray, List.getElem?_cons_zero, List.getElem?_cons_succ]; rfl) (by kernel_rfl) (by kernel_rfl) (by kernel_rfl) (by intro _ _ _ h; exact h) (Or.inl ⟨by rfl, ?_⟩) ?_
              rotate_left
              · (intro w hSw; (try dsimp only at hSw); go_simp; (try (with_reducible rfl)))
              try simp only [Act.put, List.setIfInBounds_toArray, List.set_cons_zero, List.set_cons_succ]
              refine AnyB.takeQ (i := 13) (oi := _) (v := ?_) (by simp only [List.getElem?_toArray, List.getElem?_cons_zero, List.getElem?_cons_succ]; rfl) (by kernel_rfl) (by kernel_rfl) (by kernel_rfl) (by intro _ _ _ h; exact h) (Or.inl ⟨by rfl, ?_⟩) ?_
              rotate_left
              · (intro w hSw; (try dsimp only at hSw); go_simp; (try (with_reducible rfl)))
              try simp only [Act.put, List.setIfInBounds_toArray, List.set_cons_zero, List.set_cons_succ]
              refine AnyB.takeQ (i := 14) (oi := _) (v := ?_) (by simp only [List.getElem?_toArray, List.getElem?_cons_zero, List.getElem?_cons_succ]; rfl) (by kernel_rfl) (by kernel_rfl) (by kernel_rfl) (by intro _ _ _ h; exact h) (Or.inl ⟨by rfl, ?_⟩) ?_
              rotate_left
              · (intro w hSw; (try dsimp only at hSw); go_simp; (try (with_reducible rfl)))
              try simp only [Act.put, List.setIfInBounds_toArray, List.set_cons_zero, List.set_cons_succ]
              refine AnyB.takeQ (i := 15) (oi := _) (v := ?_) (by simp only [List.getElem?_toArray, List.getElem?_cons_zero, List.getElem?_cons_succ]; rfl) (by kernel_rfl) (by kernel_rfl) (by kernel_rfl) (by intro _ _ _ h; exact h) (Or.inl ⟨by rfl, ?_⟩) ?_
              rotate_left
              · (intro w hSw; (try dsimp only at hSw); go_simp; (try (with_reducible rfl)))
              try simp only [Act.put, List.setIfInBounds_toArray, List.set_cons_zero, List.set_cons_succ]
              refine AnyB.takeQ (i := 16) (oi := _) (v := ?_) (by simp only [List.getElem?_toArray, List.getElem?_cons_zero, List.getElem?_cons_succ]; rfl) (by kernel_rfl) (by kernel_rfl) (by kernel_rfl) (by intro _ _ _ h; exact h) (Or.inl ⟨by rfl, ?_⟩) ?_
              rotate_left
              · (intro w hSw; (try dsimp only at hSw); go_simp; (try (with_reducible rfl)))
              try simp only [Act.put, List.setIfInBounds_toArray, List.set_cons_zero, List.set_cons_succ]
              refine AnyB.takeQ (i := 17) (oi := _) (v := ?_) (by simp only [List.getElem?_toArray, List.getElem?_cons_zero, List.getElem?_cons_succ]; rfl) (by kernel_rfl) (by kernel_rfl) (by kernel_rfl) (by intro _ _ _ h; exact h) (Or.inl ⟨by rfl, ?_⟩) ?_
              rotate_left
              · (intro w hSw; (try dsimp only at hSw); go_simp; (try (with_reducible rfl)))
              try simp only [Act.put, List.setIfInBounds_toArray, List.set_cons_zero, List.set_cons_succ]
              refine AnyB.takeQ (i := 18) (oi := _) (v := ?_) (by simp only [List.getElem?_toArray, List.getElem?_cons_zero, List.getElem?_cons_succ]; rfl) (by kernel_rfl) (by kernel_rfl) (by kernel_rfl) (by intro _ _ _ h; exact h) (Or.inl ⟨by rfl, ?_⟩) ?_
              rotate_left
              · (intro w hSw; (try dsimp only at hSw); go_simp; (try (with_reducible rfl)))
              try simp only [Act.put, List.setIfInBounds_toArray, List.set_cons_zero, List.set_cons_succ]
              refine AnyB.takeQ (i := 19) (oi := _) (v := ?_) (by simp only [List.getElem?_toArray, List.getElem?_cons_zero, List.getElem?_cons_succ]; rfl) (by kernel_rfl) (by kernel_rfl) (by kernel_rfl) (by intro _ _ _ h; exact h) (Or.inl ⟨by rfl, ?_⟩) ?_
              rotate_left
              · (intro w hSw; (try dsimp only at hSw); go_simp; (try (with_reducible rfl)))
              try simp only [Act.put, List.setIfInBounds_toArray, List.set_cons_zero, List.set_cons_succ]
              refine AnyB.take (i := 20) (oi := _) (v := ?_) (by simp only [List.getElem?_toArray, List.getElem?_cons_zero, List.getElem?_cons_succ]; rfl) (by kernel_rfl) (by kernel_rfl) (by kernel_rfl) (by kernel_rfl) (by kernel_rfl) (by intro _ _ _ h; exact h) (Or.inl ⟨by rfl, ?_⟩) (by assumption) ?_
              rotate_left
              · (intro w hSw; (try dsimp only at hSw); go_simp; (try (with_reducible rfl)))
              try simp only [Act.put, List.setIfInBounds_toArray, List.set_cons_zero, List.set_cons_succ]
              refine AnyB.takeQ (i := 21) (oi := _) (v := ?_) (by simp only [List.getElem?_toArray, List.getElem?_cons_zero, List.getElem?_cons_succ]; rfl) (by kernel_rfl) (by kernel_rfl) (by kernel_rfl) (by intro _ _ _ h; exact h) (Or.inl ⟨by rfl, ?_⟩) ?_
              rotate_left
              · (intro w hSw; (try dsimp only at hSw); go_simp; (try (with_reducible rfl)))
              try simp only [Act.put, List.setIfInBounds_toArray, List.set_cons_zero, List.set_cons_succ]
              refine AnyB.takeQ (i := 22) (oi := _) (v := ?_) (by simp only [List.getElem?_toArray, List.getElem?_cons_zero, List.getElem?_cons_succ]; rfl) (by kernel_rfl) (by kernel_rfl) (by kernel_rfl) (by intro _ _ _ h; exact h) (Or.inl ⟨by rfl, ?_⟩) ?_
              rotate_left
              · (intro w hSw; (try dsimp only at hSw); go_simp; (try (with_reducible rfl)))
              try simp only [Act.put, List.setIfInBounds_toArray, List.set_cons_zero, List.set_cons_succ]
              refine AnyB.takeQ (i := 23) (oi := _) (v := ?_) (by simp only [List.getElem?_toArray, List.getElem?_cons_zero, List.getElem?_cons_succ]; rfl) (by kernel_rfl) (by kernel_rfl) (by kernel_rfl) (by intro _ _ _ h; exact h) (Or.inl ⟨by rfl, ?_⟩) ?_
              rotate_left
              · (intro w hSw; (try dsimp only at hSw); go_simp; (try (with_reducible rfl)))
              try simp only [Act.put, List.setIfInBounds_toArray, List.set_cons_zero, List.set_cons_succ]
              refine AnyB.take (i := 24) (oi := _) (v := ?_) (by simp only [List.getElem?_toArray, List.getElem?_cons_zero, List.getElem?_cons_succ]; rfl) (by kernel_rfl) (by kernel_rfl) (by kernel_rfl) (by kernel_rfl) (by kernel_rfl) (by intro _ _ _ h; exact h) (Or.inl ⟨by rfl, ?_⟩) (by assumption) ?_
              rotate_left
              · (intro w hSw; (try dsimp only at hSw); go_simp; (try (with_reducible rfl)))
              try simp only [Act.put, List.setIfInBounds_toArray, List.set_cons_zero, List.set_cons_succ]
              refine AnyB.take (i := 25) (oi := _) (v := ?_) (by simp only [List.getElem?_toArray, List.getElem?_cons_zero, List.getElem?_cons_succ]; rfl) (by kernel_rfl) (by kernel_rfl) (by kernel_rfl) (by kernel_rfl) (by kernel_rfl) (by intro _ _ _ h; exact h) (Or.inl ⟨by rfl, ?_⟩) (by assumption) ?_
              rotate_left
              · (intro w hSw; (try dsimp only at hSw); go_simp; (try (with_reducible rfl)))
              try simp only [Act.put, List.setIfInBounds_toArray, List.set_cons_zero, List.set_cons_succ]
              refine AnyB.each (rs := [26]) (by kernel_rfl) (by simp) ?_
              refine EachB.cons rfl (fun K hK hB => ?_) ?_
              · skip
                (go_simp; go_at_call 40; refine (spec_l16Less_any y x _).mono ?_; rintro e w2 ⟨rfl, hbb⟩; replace e0 := bel_zx hbb e0; replace e1 := bel_zx hbb e1; replace e2 := bel_zx hbb e2; replace y0 := bel_zx hbb y0; replace y1 := bel_zx hbb y1; replace y2 := bel_zx hbb y2; replace y3 := bel_zx hbb y3; replace y4 := bel_zx hbb y4; replace p0 := bel_zx hbb p0; replace p1 := bel_zx hbb p1; replace p2 := bel_zx hbb p2; replace BN := Lib.hid (below_step BN.out hbb); replace zN := Nat.le_trans zN hbb.size; clear hbb; dsimp only)
                refine hK.out _ _ ?_ (fun hHeld2 => ?_)
                · ((try dsimp only); (first | exact ⟨y1, y2, e0, e1, e2, p0, p1, p2⟩))
                clear hB hK K hHeld1
                refine AnyB.takeQ (i := 27) (oi := _) (v := ?_) (by simp only [List.getElem?_toArray, List.getElem?_cons_zero, List.getElem?_cons_succ]; rfl) (by kernel_rfl) (by kernel_rfl) (by kernel_rfl) (by intro _ _ _ h; exact h) (Or.inl ⟨by rfl, ?_⟩) ?_
                rotate_left
                · (intro w hSw; (try dsimp only at hSw); go_simp; (try (with_reducible rfl)))
                try simp only [Act.put, List.setIfInBounds_toArray, List.set_cons_zero, List.set_cons_succ]
                refine AnyB.takeQ (i := 28) (oi := _) (v := ?_) (by simp only [List.getElem?_toArray, List.getElem?_cons_zero, List.getElem?_cons_succ]; rfl) (by kernel_rfl) (by kernel_rfl) (by kernel_rfl) (by intro _ _ _ h; exact h) (Or.inl ⟨by rfl, ?_⟩) ?_
                rotate_left
                · (intro w hSw; (try dsimp only at hSw); go_simp; (try (with_reducible rfl)))
                try simp only [Act.put, List.setIfInBounds_toArray, List.set_cons_zero, List.set_cons_succ]
                refine AnyB.takeQ (i := 29) (oi := _) (v := ?_) (by simp only [List.getElem?_toArray, List.getElem?_cons_zero, List.getElem?_cons_succ]; rfl) (by kernel_rfl) (by kernel_rfl) (by kernel_rfl) (by intro _ _ _ h; exact h) (Or.inl ⟨by rfl, ?_⟩) ?_
                rotate_left
                · (intro w hSw; (try dsimp only at hSw); go_simp; (try (with_reducible rfl)))
                try simp only [Act.put, List.setIfInBounds_toArray, List.set_cons_zero, List.set_cons_succ]
                refine AnyB.none (by kernel_rfl) ?_ _
                cases hl9 : lessB y x with
                | true =>
                  have HK := Lib.hid (HG.out hl9)
                  clear hl9
                  go_wp2_with fail
                  go_roundw
                  case rel => exact ⟨i + 1, by omega, by go_num, HK, BN, zN, y0, y1, y2, y3, y4⟩
                  case measure => simp [intOf]; omega
                | false =>
                  have HR := Lib.hid (HF.out hl9)
                  clear hl9
                  go_wp2_with fail
                  go_ret
                  exact ⟨ret_bool HR.out, BN.out⟩
              exact EachB.nil
            exact EachB.nil
    · have i1 : ¬ (i : Int) < (d.ws.length : Int) := by omega
      have HPW := Lib.hid hP.out
      have HB := Lib.hid hB.out
      clear hP hB
      go_wp2_with fail
      go_loopw [70] (fun si wr => ∃ k : Nat, k ≤ d.ns.length ∧ si = .int .i64 k ∧ Hid (∀ j, j < k → zxNode d j) ∧ Hid (Below w.heap.size w wr) ∧ w.heap.size + 1 ≤ wr.heap.size ∧ wr.cell? ⟨w.heap.size, 0, none⟩ = some (.int .i64 d.n) ∧ wr.cell? ⟨w.heap.size, 1, none⟩ = some (.slice A d.ns.length c) ∧ wr.cell? ⟨w.heap.size, 2, none⟩ = some (.slice A1 d.ws.length c1) ∧ wr.cell? ⟨w.heap.size, 3, none⟩ = some (.int .i64 d.turn) ∧ wr.cell? ⟨w.heap.size, 4, none⟩ = some (.int .i64 d.root)) (fun si _ => d.ns.length - (intOf si).toNat)
      case atStart => exact ⟨0, Nat.zero_le _, rfl, (show ∀ j, j < 0 → _ from fun j hj => by omega), HB, hsz, x0, x1, x2, x3, x4⟩
      case round =>
        clear HB hsz x0 x1 x2 x3 x4
        obtain ⟨k, hk, rfl, hP, hB, hsz, x0, x1, x2, x3, x4⟩ := hrel
        by_cases hlk : k < d.ns.length
        · have j1 : (k : Int) < (d.ns.length : Int) := by omega
          go_wp2_with fail
          refine (spec_l16Node_any d _ _ k _ (Rd.below H0.out hB.out rfl) (Rd.below H1.out hB.out rfl) n0 n1 HHN.out hlk).mono ?_; rintro e w2 ⟨rfl, hb2⟩
          replace x0 := bel_zx hb2 x0; replace x1 := bel_zx hb2 x1; replace x2 := bel_zx hb2 x2; replace x3 := bel_zx hb2 x3; replace x4 := bel_zx hb2 x4
          have z2 := hb2.size
          replace hB := Lib.hid (below_step hB.out hb2)
          clear hb2
          cases hz : decide (zxNode d k) with
          | true =>
            have HK := Lib.hid (all_next hP.out (of_decide_eq_true hz))
            clear hz hP
            go_wp2_with fail
            go_roundw
            case rel => exact ⟨k + 1, by omega, by go_num, HK, hB, by omega, x0, x1, x2, x3, x4⟩
            case measure => simp [intOf]; omega
          | false =>
            have HR := Lib.hid (zg_k hlk hz)
            have B := hB.out
            clear hz hP
            go_wp2_with fail
            go_ret
            exact ⟨ret_bool HR.out, B⟩
        · have j1 : ¬ (k : Int) < (d.ns.length : Int) := by omega
          have HE := Lib.hid (zg_e HZ.out HPW.out (show d.ws.length ≤ i by omega) hP.out (show d.ns.length ≤ k by omega))
          clear hP
          go_wp2_with fail
          refine (spec_l16Ends_any d _ _ _ (Rd.below H0.out hB.out rfl) (Rd.below H1.out hB.out rfl) n0 HHN.out.2).mono ?_; rintro e w2 ⟨rfl, hb2⟩
          have B := below_step hB.out hb2
          clear hb2
          go_wp2_with fail
          go_ret
          exact ⟨ret_bool HE.out, B⟩
end Go.Proofs.YtliophgfgmjhiaaGreatDoor
