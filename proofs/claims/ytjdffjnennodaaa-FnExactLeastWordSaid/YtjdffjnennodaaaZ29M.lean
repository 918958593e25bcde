/- Gate: the laws' helpers: equal, marked, held. -/
import Derived.Test.YtjdffjnennodaaaZ03Slice1
import Derived.Test.YtjdffjnennodaaaZ05M
import Derived.Test.YtjdffjnennodaaaZ06Dat
import Derived.Test.YtjdffjnennodaaaZ20M
import Derived.Deep.LoopGhost
import Derived.Shelf.Abstract
import Derived.Deep.RegionHeld3
namespace Go.Proofs.Ytjdffjnennodaaa
set_option linter.unusedSimpArgs false
set_option linter.unusedVariables false
set_option linter.unnecessarySimpa false
set_option maxRecDepth 200000
open Go.ChangeShapes Go.WideShapes Go.ChangeAt Go.RowKit

theorem laws_eqGate_any (x y : E3) (w : World) :
    Calls Try.prog 49 #[.agg #[.int .i64 x.a, .int .i64 x.b, .int .i64 x.c], .agg #[.int .i64 y.a, .int .i64 y.b, .int .i64 y.c]] w fun e w' => e = .returned (.bool (decide (x = y))) ∧ Below w.heap.size w w' := by
  obtain ⟨xa, xb, xc⟩ := x
  obtain ⟨ya, yb, yc⟩ := y
  dsimp only
  go_enter Try.func49, Try.ntmps49
  go_wp2_with fail
  all_goals (go_ret; exact ⟨ret_bool (by go_light; rw [Bool.eq_iff_iff]; simp only [decide_eq_true_eq, beq_iff_eq, Bool.false_eq_true, true_iff, false_iff, iff_true, iff_false]; (try simp_all [E3.mk.injEq]) <;> (try omega)), (by repeat (first | exact Below.refl _ _ | assumption | refine Below.drew ?_ | refine below_drewN ?_ _ | refine Below.alloc ?_ (by first | omega | (simp <;> omega)) _ | refine Below.setCell ?_ (by first | omega | (simp <;> omega)) _ | refine Below.trans ?_ (Below.mono (by assumption) (by first | omega | (simp <;> omega)))))⟩)

theorem laws_eqGateS_any (va vb : Value) (xs ys : List E3) (w : World) (ha : RdE w va E3.cs 3 xs) (hb : RdE w vb E3.cs 3 ys) :
    Calls Try.prog 23 #[va, vb] w fun e w' => e = .returned (.bool (decide (xs = ys))) ∧ Below w.heap.size w w' := by
  by_cases hlen : xs.length = ys.length
  · have hf : ((xs.length : Int) != (ys.length : Int)) = false := by rw [hlen]; simp
    rcases ha.cases0 E3.len with ⟨rfl, a1, cap1, rfl⟩ | ⟨hx, b1, off1, cap1, rfl, hb1, hl1, hm1, hc1⟩
    · have hy : ys = [] := List.eq_nil_of_length_eq_zero (by simpa using hlen.symm)
      subst hy
      obtain ⟨a2, cap2, rfl, _⟩ := hb.form
      clear hlen hf ha hb
      go_enter Try.func23, Try.ntmps23
      go_wp2_with fail
      refine wp_loop_rounds 1 ?_
      rw [rounds_succ]
      go_wp2_with fail
      go_ret
      exact ⟨rfl, (by repeat (first | exact Below.refl _ _ | assumption | refine Below.drew ?_ | refine below_drewN ?_ _ | refine Below.alloc ?_ (by first | omega | (simp <;> omega)) _ | refine Below.setCell ?_ (by first | omega | (simp <;> omega)) _ | refine Below.trans ?_ (Below.mono (by assumption) (by first | omega | (simp <;> omega)))))⟩
    · rcases hb.cases0 E3.len with ⟨rfl, a2, cap2, rfl⟩ | ⟨hy, b2, off2, cap2, rfl, hb2, hl2, hm2, hc2⟩
      · simp at hlen; subst hlen; simp at hx
      have hlen1 : xs.length ≤ ys.length := by omega
      have hlen2 : ys.length ≤ xs.length := by omega
      clear hlen ha hb
      go_enter Try.func23, Try.ntmps23
      go_wp2_with fail
      go_loopw [5] (fun i wr => ∃ k : Nat, k ≤ xs.length ∧ i = .int .i64 k ∧ Hid (xs.take k = ys.take k) ∧ Below w.heap.size w wr) (fun i _ => xs.length - (intOf i).toNat)
      case atStart => exact ⟨0, Nat.zero_le _, rfl, rfl, Below.refl _ _⟩
      case round =>
        obtain ⟨k, hk, rfl, hpre, hbel⟩ := hrel
        by_cases hlt : k < xs.length
        · have hlt2 : k < ys.length := by omega
          have p0 : wr.cell? ⟨b1, off1 + k * 3, none⟩ = some (.int .i64 xs[k].a) := (hbel.cell hb1).trans (hc1 k hlt 0 _ (by omega) rfl)
          have p1 : wr.cell? ⟨b1, off1 + k * 3 + 1, none⟩ = some (.int .i64 xs[k].b) := (hbel.cell hb1).trans (hc1 k hlt 1 _ (by omega) rfl)
          have p2 : wr.cell? ⟨b1, off1 + k * 3 + 2, none⟩ = some (.int .i64 xs[k].c) := (hbel.cell hb1).trans (hc1 k hlt 2 _ (by omega) rfl)
          have q0 : wr.cell? ⟨b2, off2 + k * 3, none⟩ = some (.int .i64 ys[k].a) := (hbel.cell hb2).trans (hc2 k hlt2 0 _ (by omega) rfl)
          have q1 : wr.cell? ⟨b2, off2 + k * 3 + 1, none⟩ = some (.int .i64 ys[k].b) := (hbel.cell hb2).trans (hc2 k hlt2 1 _ (by omega) rfl)
          have q2 : wr.cell? ⟨b2, off2 + k * 3 + 2, none⟩ = some (.int .i64 ys[k].c) := (hbel.cell hb2).trans (hc2 k hlt2 2 _ (by omega) rfl)
          have i0 : (0 : Int) ≤ (k : Int) := by omega
          have i1 : (k : Int) < (xs.length : Int) := by omega
          have i2 : (k : Int) < (ys.length : Int) := by omega
          have hlw := hbel.size
          clear hc1 hc2
          by_cases he : xs[k] = ys[k]
          all_goals
            have hd : decide (xs[k] = ys[k]) = _ := (by first | exact decide_eq_true he | exact decide_eq_false he)
            have Hd := Lib.hid hd; have He := Lib.hid he; clear hd he
            go_wp2_with fail
            go_region_held3 (fun w' => w'.cell? ⟨b1, off1 + k * 3, none⟩ = some (.int .i64 xs[k].a) ∧ w'.cell? ⟨b1, off1 + k * 3 + 1, none⟩ = some (.int .i64 xs[k].b) ∧ w'.cell? ⟨b1, off1 + k * 3 + 2, none⟩ = some (.int .i64 xs[k].c) ∧ w'.cell? ⟨b2, off2 + k * 3, none⟩ = some (.int .i64 ys[k].a) ∧ w'.cell? ⟨b2, off2 + k * 3 + 1, none⟩ = some (.int .i64 ys[k].b) ∧ w'.cell? ⟨b2, off2 + k * 3 + 2, none⟩ = some (.int .i64 ys[k].c)) (first | go_keep | (go_split_ands; refine ⟨?_, ?_, ?_, ?_, ?_, ?_⟩ <;> (refine below_cell hbb rfl ?_; assumption))) (first | (go_at_call 49; refine (laws_eqGate_any xs[k] ys[k] _).mono ?_; rintro e w2 ⟨rfl, hbb⟩; rw [Hd.out]))
            go_wp2_with fail
            have hz2 := hbb.size
            have hz3 : wr.heap.size ≤ w2.heap.size := hz2
            have hbel2 : Below w.heap.size w w2 := Below.trans hbel.drew (Below.mono hbb hlw)
            first
              | (go_roundw
                 case rel => exact ⟨k + 1, by omega, by go_num, eqE_step hpre hlt hlt2 He.out, hbel2⟩
                 case measure => simp [intOf]; omega)
              | (go_ret; exact ⟨ret_bool (eqE_fail hlt hlt2 He.out), hbel2⟩)
        · clear hc1 hc2
          go_wp2_with fail
          go_ret
          exact ⟨ret_bool (eqE_end hpre (by omega) (by omega)), (by repeat (first | exact Below.refl _ _ | assumption | refine Below.drew ?_ | refine below_drewN ?_ _ | refine Below.alloc ?_ (by first | omega | (simp <;> omega)) _ | refine Below.setCell ?_ (by first | omega | (simp <;> omega)) _ | refine Below.trans ?_ (Below.mono (by assumption) (by first | omega | (simp <;> omega)))))⟩
  · have hd : decide (xs = ys) = false := by rw [decide_eq_false_iff_not]; rintro rfl; exact hlen rfl
    have hne : ((xs.length : Int) != (ys.length : Int)) = true := by rw [bne_iff_ne]; omega
    rw [hd]
    obtain ⟨a1, cap1, rfl, _⟩ := ha.form
    obtain ⟨a2, cap2, rfl, _⟩ := hb.form
    clear hlen hd ha hb
    go_enter Try.func23, Try.ntmps23
    go_wp2_with fail
    go_ret
    exact ⟨rfl, (by repeat (first | exact Below.refl _ _ | assumption | refine Below.drew ?_ | refine below_drewN ?_ _ | refine Below.alloc ?_ (by first | omega | (simp <;> omega)) _ | refine Below.setCell ?_ (by first | omega | (simp <;> omega)) _ | refine Below.trans ?_ (Below.mono (by assumption) (by first | omega | (simp <;> omega)))))⟩

theorem laws_markGateS_any (v : Value) (base n : Nat) (xs : List Value) (k : Int) (w : World) (h : w.ownsRow base 57 3 v n xs) (hk0 : 0 ≤ k) (hk1 : k + n * 3 ≤ 4611686018427387904) (hn : n ≤ 1000000000000) :
    Calls Try.prog 25 #[v, .int .i64 k] w fun e w' => e = .returned (.int .i64 (k + ((n * 3 : Nat) : Int))) ∧ w'.ownsRow base 57 3 v n (marks k (n * 3)) ∧ w.grownBy w' v.ownBlock := by
  rcases Go.Joins.ownsRow_forms h with ⟨rfl, rfl⟩ | ⟨g, cap, rfl⟩
  · have hx : xs = [] := List.eq_nil_of_length_eq_zero (by simpa using h.1)
    subst hx
    go_enter Try.func25, Try.ntmps25
    go_wp2_with fail
    refine wp_loop_rounds 1 ?_
    rw [rounds_succ]
    go_wp2_with fail
    go_ret
    exact ⟨ret_int (by simp), h, World.grownBy.refl _ _⟩
  · have hxl : xs.length = n * 3 := h.1
    have Hx := Lib.hid hxl; clear hxl
    have H0 : Hid (w.ownsRow base 57 3 (.slice (some ⟨g, 0, none⟩) n cap) n (marks k 0 ++ xs.drop 0)) := h
    clear h
    go_enter Try.func25, Try.ntmps25
    go_wp2_with fail
    go_loopw [1, 5] (fun q i wr => ∃ j : Nat, j ≤ n ∧ i = .int .i64 j ∧ q = .int .i64 (k + ((j * 3 : Nat) : Int)) ∧ Hid (wr.ownsRow base 57 3 (.slice (some ⟨g, 0, none⟩) n cap) n (marks k (j * 3) ++ xs.drop (j * 3))) ∧ Hid (w.grownBy wr (some g))) (fun _ i _ => n - (intOf i).toNat)
    case atStart => exact ⟨0, Nat.zero_le _, rfl, by simp, by simpa using H0, World.grownBy.refl _ _⟩
    case round =>
      obtain ⟨j, hj, rfl, rfl, hown, hgr⟩ := hrel
      clear H0
      by_cases hlt : j < n
      · have i1 : (j : Int) < (n : Int) := by omega
        obtain ⟨u0, hu0⟩ := marks_cell hown.out (j := j * 3) (by omega)
        have hf0 := hown.out.frozenAt (j * 3)
        obtain ⟨u1, hu1⟩ := marks_cell hown.out (j := j * 3 + 1) (by omega)
        have hf1 := hown.out.frozenAt (j * 3 + 1)
        obtain ⟨u2, hu2⟩ := marks_cell hown.out (j := j * 3 + 2) (by omega)
        have hf2 := hown.out.frozenAt (j * 3 + 2)
        go_wp2_with fail
        go_roundw
        case rel =>
          have s0 := hown.out
          have g0 := hgr.out
          have t0 := s0.stored (j * 3) (.int .i64 (k + ((j * 3 : Nat) : Int)))
          have s1 := t0.1
          rw [marks_step k (j * 3) xs (by rw [Hx.out]; omega)] at s1
          have g1 := grown_trans0 g0 t0.2
          have t1 := s1.stored (j * 3 + 1) (.int .i64 (k + ((j * 3 + 1 : Nat) : Int)))
          have s2 := t1.1
          rw [marks_step k (j * 3 + 1) xs (by rw [Hx.out]; omega)] at s2
          have g2 := grown_trans0 g1 t1.2
          have t2 := s2.stored (j * 3 + 2) (.int .i64 (k + ((j * 3 + 2 : Nat) : Int)))
          have s3 := t2.1
          rw [marks_step k (j * 3 + 2) xs (by rw [Hx.out]; omega)] at s3
          have g3 := grown_trans0 g2 t2.2
          have v0 : k + ((j * 3 : Nat) : Int) = k + (j : Int) * 3 := by omega
          have v1 : k + ((j * 3 + 1 : Nat) : Int) = k + (j : Int) * 3 + 1 := by omega
          have v2 : k + ((j * 3 + 2 : Nat) : Int) = k + (j : Int) * 3 + 1 + 1 := by omega
          rw [v0, v1, v2] at s3 g3
          refine ⟨j + 1, by omega, by go_num, ret_num (by omega), ?_, ?_⟩
          · have e : j * 3 + 2 + 1 = (j + 1) * 3 := by omega
            rw [e] at s3
            exact s3
          · exact g3
        case measure => simp [intOf]; omega
      · have e : j = n := by omega
        subst e
        go_wp2_with fail
        go_ret
        refine ⟨rfl, ?_, hgr⟩
        have h1 := hown.out
        rw [List.drop_eq_nil_of_le (by rw [Hx.out]; omega), List.append_nil] at h1
        exact h1

theorem laws_heldGateS_any (v : Value) (n : Nat) (k : Int) (w : World) (h : Rd w v n 3 (marks k (n * 3))) (hk0 : 0 ≤ k) (hk1 : k + n * 3 ≤ 4611686018427387904) (hn : n ≤ 1000000000000) :
    Calls Try.prog 26 #[v, .int .i64 k] w fun e w' => e = .returned (.int .i64 (k + ((n * 3 : Nat) : Int))) ∧ Below w.heap.size w w' := by
  rcases h.2 with ⟨⟨a0, c0, rfl⟩, rfl⟩ | ⟨b, off, cap, rfl, hb, hl, hm, hc⟩
  · go_enter Try.func26, Try.ntmps26
    go_wp2_with fail
    refine wp_loop_rounds 1 ?_
    rw [rounds_succ]
    go_wp2_with fail
    go_ret
    exact ⟨ret_int (by simp), Below.refl _ _⟩
  · go_enter Try.func26, Try.ntmps26
    go_wp2_with fail
    go_loop [1, 5] (fun q i => ∃ j : Nat, j ≤ n ∧ i = .int .i64 j ∧ q = .int .i64 (k + (j : Int) * 3)) (fun _ i => n - (intOf i).toNat)
    case atStart => exact ⟨0, Nat.zero_le _, rfl, by simp⟩
    case round =>
      obtain ⟨j, hj, rfl, rfl⟩ := hrel
      by_cases hlt : j < n
      · have i1 : (j : Int) < (n : Int) := by omega
        have c0 : w.cell? ⟨b, off + j * 3, none⟩ = some (.int .i64 (k + (j : Int) * 3)) := by
          have := hc _ _ (marks_get k (n * 3) (j * 3) (by omega))
          rw [show k + ((j * 3 : Nat) : Int) = k + (j : Int) * 3 from by omega] at this
          exact this
        have c1 : w.cell? ⟨b, off + j * 3 + 1, none⟩ = some (.int .i64 (k + (j : Int) * 3 + 1)) := by
          have := hc _ _ (marks_get k (n * 3) (j * 3 + 1) (by omega))
          rw [show k + ((j * 3 + 1 : Nat) : Int) = k + (j : Int) * 3 + 1 from by omega] at this
          exact this
        have c2 : w.cell? ⟨b, off + j * 3 + 2, none⟩ = some (.int .i64 (k + (j : Int) * 3 + 1 + 1)) := by
          have := hc _ _ (marks_get k (n * 3) (j * 3 + 2) (by omega))
          rw [show k + ((j * 3 + 2 : Nat) : Int) = k + (j : Int) * 3 + 1 + 1 from by omega] at this
          exact this
        clear hc h
        go_wp2_with fail
        go_round
        case rel => exact ⟨j + 1, by omega, by go_num, ret_num (by omega)⟩
        case measure => simp [intOf]; omega
      · clear hc h
        have e : j = n := by omega
        subst e
        go_wp2_with fail
        go_ret
        exact ⟨ret_int (by omega), Below.refl _ _⟩
end Go.Proofs.Ytjdffjnennodaaa
namespace Go.Proofs.Ytjdffjnennodaaa
set_option linter.unusedSimpArgs false
set_option linter.unusedVariables false
set_option linter.unnecessarySimpa false
set_option maxRecDepth 200000
open Go.ChangeShapes Go.WideShapes Go.ChangeAt Go.RowKit Go.Joins

theorem info_Gate : (Try.prog.info? 57).map (fun i => (i.zero, i.size, i.bytes)) = some (some (.agg #[.int .i64 0, .int .i64 0, .int .i64 0]), 3, 24) := by kernel_rfl
theorem setGate_chain {xs : List E3} {ys : List Value} {k : Nat} (h : k < xs.length) (hl : ys.length = xs.length * 3) :
    (((((xs.take k).flatMap E3.cs ++ ys.drop (k * 3)).set (k * 3) (.int .i64 xs[k].a)).set (k * 3 + 1) (.int .i64 xs[k].b)).set (k * 3 + 2) (.int .i64 xs[k].c)) = (xs.take (k + 1)).flatMap E3.cs ++ ys.drop ((k + 1) * 3) := by
  have e : ((xs.take k).flatMap E3.cs).length = k * 3 := by rw [flat_len E3.len]; simp; omega
  obtain ⟨y0, y1, y2, zs, hz⟩ : ∃ y0 y1 y2 zs, ys.drop (k * 3) = y0 :: y1 :: y2 :: zs := by
    have hd : (ys.drop (k * 3)).length = ys.length - k * 3 := List.length_drop
    match hh : ys.drop (k * 3) with
    | y0 :: y1 :: y2 :: zs => exact ⟨y0, y1, y2, zs, rfl⟩
    | [] => rw [hh] at hd; simp at hd; omega
    | [y0] => rw [hh] at hd; simp at hd; omega
    | [y0, y1] => rw [hh] at hd; simp at hd; omega

  have hz2 : ys.drop ((k + 1) * 3) = zs := by
    rw [show (k + 1) * 3 = k * 3 + 3 from by omega, ← List.drop_drop, hz]; rfl
  rw [hz2, hz, List.take_succ_eq_append_getElem h, List.flatMap_append]
  rw [List.set_append_right _ _ (by rw [e]; omega), e, show k * 3 - k * 3 = 0 from by omega]
  rw [List.set_append_right _ _ (by rw [e]; omega), e, show k * 3 + 1 - k * 3 = 1 from by omega]
  rw [List.set_append_right _ _ (by rw [e]; omega), e, show k * 3 + 2 - k * 3 = 2 from by omega]
  simp [E3.cs]
end Go.Proofs.Ytjdffjnennodaaa
namespace Go.Proofs.Ytjdffjnennodaaa
set_option linter.unusedSimpArgs false
set_option linter.unusedVariables false
set_option linter.unnecessarySimpa false
set_option maxRecDepth 200000
open Go.ChangeShapes Go.WideShapes Go.ChangeAt Go.RowKit

def GateOk (n : Int) (g : E3) : Prop := (1 ≤ n ∧ n ≤ 5) ∧ (1 ≤ g.a ∧ g.a ≤ 12) ∧ ((g.a = 12 ∧ g.b = 0 ∧ g.c = 0) ∨ (9 ≤ g.a ∧ g.a ≤ 11 ∧ 0 ≤ g.b ∧ g.b ≤ n - 1 ∧ 0 ≤ g.c ∧ g.c ≤ n - 1 ∧ g.b ≠ g.c) ∨ (g.a < 9 ∧ 0 ≤ g.b ∧ g.b ≤ n - 1 ∧ g.c = 0))
instance (n : Int) (g : E3) : Decidable (GateOk n g) := by unfold GateOk; infer_instance
theorem impl_isTwo_any (k : Int) (w : World) :
    Calls Try.prog 72 #[.int .i64 k] w fun e w' => e = .returned (.bool (decide (9 ≤ k ∧ k ≤ 11))) ∧ w = w' := by
  go_enter Try.func72, Try.ntmps72
  go_wp2_with fail
  refine (within_p _ _ _ _).mono ?_; rintro e w' ⟨rfl, rfl⟩
  go_wp2_with fail
  go_ret
  exact ⟨ret_bool (by by_cases h1 : 9 ≤ k <;> by_cases h2 : k ≤ 11 <;> simp [h1, h2]), rfl⟩
theorem gate_n {n : Int} {g : E3} (h : ¬ (1 ≤ n ∧ n ≤ 5)) : false = decide (GateOk n g) := by symm; rw [decide_eq_false_iff_not]; exact fun k => h k.1
set_option maxHeartbeats 2000000 in
theorem impl_IsValidGate_any (n : Int) (g : E3) (w : World) :
    Calls Try.prog 65 #[.int .i64 n, .agg #[.int .i64 g.a, .int .i64 g.b, .int .i64 g.c]] w fun e w' => e = .returned (.bool (decide (GateOk n g))) ∧ Below w.heap.size w w' := by
  obtain ⟨k, a, b⟩ := g
  by_cases hn : 1 ≤ n ∧ n ≤ 5
  · obtain ⟨hn1, hn2⟩ := hn
    dsimp only
    go_enter Try.func65, Try.ntmps65
    go_wp2_with (first | (go_at_call 36; refine (within_p _ _ _ _).mono ?_; rintro e w' ⟨rfl, rfl⟩) | (go_at_call 72; refine (impl_isTwo_any _ _).mono ?_; rintro e w' ⟨rfl, rfl⟩))
    all_goals (go_ret; exact ⟨ret_bool (by go_light; rw [Bool.eq_iff_iff]; simp only [decide_eq_true_eq, beq_iff_eq, Bool.false_eq_true, true_iff, false_iff, iff_true, iff_false]; (try simp_all [GateOk]) <;> (try omega)), (by repeat (first | exact Below.refl _ _ | assumption | refine Below.drew ?_ | refine below_drewN ?_ _ | refine Below.alloc ?_ (by first | omega | (simp <;> omega)) _ | refine Below.setCell ?_ (by first | omega | (simp <;> omega)) _ | refine Below.trans ?_ (Below.mono (by assumption) (by first | omega | (simp <;> omega)))))⟩)
  · dsimp only
    have d1 : decide (1 ≤ n ∧ n ≤ 5) = false := decide_eq_false hn
    have D1 := Lib.hid d1; have Hn := Lib.hid hn; clear d1 hn
    go_enter Try.func65, Try.ntmps65
    go_wp2_with fail
    refine (within_p _ _ _ _).mono ?_; rintro e w' ⟨rfl, rfl⟩
    rw [D1.out]
    go_wp2_with fail
    go_ret
    exact ⟨ret_bool (gate_n Hn.out), (by repeat (first | exact Below.refl _ _ | assumption | refine Below.drew ?_ | refine below_drewN ?_ _ | refine Below.alloc ?_ (by first | omega | (simp <;> omega)) _ | refine Below.setCell ?_ (by first | omega | (simp <;> omega)) _ | refine Below.trans ?_ (Below.mono (by assumption) (by first | omega | (simp <;> omega)))))⟩
end Go.Proofs.Ytjdffjnennodaaa
namespace Go.Proofs.Ytjdffjnennodaaa
set_option linter.unusedSimpArgs false
set_option linter.unusedVariables false
set_option linter.unnecessarySimpa false
set_option maxRecDepth 200000
open Go.ChangeShapes Go.WideShapes Go.ChangeAt Go.RowKit

def encGate (x : E3) : Value := .agg #[.int .i64 x.a, .int .i64 x.b, .int .i64 x.c]
set_option maxHeartbeats 2000000 in
theorem slices_IndexFunc_Gate (g : Nat) (lb : Array Value) (p : E3 → Bool) (eg : ∀ args w, (callFunc g args).run Try.prog w = .ok (.enter g args) w) (v : Value) (zs : List E3) (w : World) (h : RdE w v E3.cs 3 zs) (hp : PredB g lb encGate p zs w) :
    Calls Try.prog 71 #[v, .func (.func g) #[] lb] w fun e w' => e = .returned (.int .i64 (idxI p zs)) ∧ Below w.heap.size w w' := by
  rcases h.cases0 E3.len with ⟨rfl, a0, c0, rfl⟩ | ⟨h0, b, off, cap, rfl, hb, hl, hm, hc⟩
  · go_enter Try.func71, Try.ntmps71
    go_wp2_with fail
    refine wp_loop_rounds 1 ?_
    rw [rounds_succ]
    go_wp2_with fail
    go_ret
    exact ⟨rfl, (by repeat (first | exact Below.refl _ _ | assumption | refine Below.drew ?_ | refine below_drewN ?_ _ | refine Below.alloc ?_ (by first | omega | (simp <;> omega)) _ | refine Below.setCell ?_ (by first | omega | (simp <;> omega)) _ | refine Below.trans ?_ (Below.mono (by assumption) (by first | omega | (simp <;> omega)))))⟩
  · clear h
    have Hp := Lib.hid hp; clear hp
    go_enter Try.func71, Try.ntmps71
    go_wp2_with fail
    go_loopg [5, 8] zs.length (fun gg _ i wr => ∃ k : Nat, k ≤ zs.length ∧ zs.length - k ≤ gg ∧ i = .int .i64 k ∧ Hid (∀ j (h : j < zs.length), j < k → p zs[j] = false) ∧ Below w.heap.size w wr)
    case atStart => exact ⟨0, Nat.zero_le _, by omega, rfl, (show ∀ j (h : j < zs.length), j < 0 → p zs[j] = false from fun j h hj => absurd hj (Nat.not_lt_zero _)), Below.refl _ _⟩
    case round =>
      obtain ⟨k, hk, hg, rfl, hpre, hbel⟩ := hrel
      by_cases hlt : k < zs.length
      · obtain ⟨y, hy⟩ : ∃ y, zs[k] = y := ⟨_, rfl⟩
        have q0 : wr.cell? ⟨b, off + k * 3, none⟩ = some (.int .i64 y.a) := (hbel.cell hb).trans (by rw [← hy]; exact hc k hlt 0 _ (by omega) rfl)
        have q1 : wr.cell? ⟨b, off + k * 3 + 1, none⟩ = some (.int .i64 y.b) := (hbel.cell hb).trans (by rw [← hy]; exact hc k hlt 1 _ (by omega) rfl)
        have q2 : wr.cell? ⟨b, off + k * 3 + 2, none⟩ = some (.int .i64 y.c) := (hbel.cell hb).trans (by rw [← hy]; exact hc k hlt 2 _ (by omega) rfl)
        have hcall := Hp.out wr y (by rw [← hy]; exact List.getElem_mem hlt) hbel
        unfold encGate at hcall
        have i1 : (k : Int) < (zs.length : Int) := by omega
        have Hy := Lib.hid hy; clear hy hc
        cases hq : p y with
        | true =>
          rw [hq] at hcall
          have Hq := Lib.hid hq; clear hq
          go_wp2_with (go_at_fn g; refine hcall.mono ?_; rintro e w2 ⟨rfl, hb2⟩)
          go_ret
          exact ⟨ret_int (idx_hit hlt hpre (by rw [Hy.out]; exact Hq.out)), below_step hbel hb2⟩
        | false =>
          rw [hq] at hcall
          have Hq := Lib.hid hq; clear hq
          go_wp2_with (go_at_fn g; refine hcall.mono ?_; rintro e w2 ⟨rfl, hb2⟩)
          go_roundg (zs.length - (k + 1))
          case measure => omega
          case rel => exact ⟨k + 1, by omega, by omega, by go_num, idx_next hlt hpre (by rw [Hy.out]; exact Hq.out), below_step hbel hb2⟩
      · clear hc
        go_wp2_with fail
        go_ret
        exact ⟨ret_int (idx_miss (by omega) hpre), hbel⟩
theorem slices_ContainsFunc_Gate (g : Nat) (lb : Array Value) (p : E3 → Bool) (eg : ∀ args w, (callFunc g args).run Try.prog w = .ok (.enter g args) w) (v : Value) (zs : List E3) (w : World) (h : RdE w v E3.cs 3 zs) (hp : PredB g lb encGate p zs w) :
    Calls Try.prog 63 #[v, .func (.func g) #[] lb] w fun e w' => e = .returned (.bool (zs.any p)) ∧ Below w.heap.size w w' := by
  have Hh := Lib.hid h; have Hp := Lib.hid hp
  obtain ⟨A, c, rfl, _⟩ := h.form
  clear h hp
  go_enter Try.func63, Try.ntmps63
  go_wp2_with fail
  refine (slices_IndexFunc_Gate g lb p eg _ zs _ Hh.out Hp.out).mono ?_; rintro e w1 ⟨rfl, hb1⟩
  go_wp2_with fail
  go_ret
  exact ⟨ret_bool (by rw [Bool.eq_iff_iff, ← idxI_ge]; simp), hb1⟩
end Go.Proofs.Ytjdffjnennodaaa
namespace Go.Proofs.Ytjdffjnennodaaa
set_option linter.unusedSimpArgs false
set_option linter.unusedVariables false
set_option linter.unnecessarySimpa false
set_option maxRecDepth 200000
open Go.ChangeShapes Go.WideShapes Go.ChangeAt Go.RowKit

theorem laws_eqCircuit_same (d : Circ) (w : World) (v0 u0 : Value) (h0 : RdE w v0 E3.cs 3 d.gs) (k0 : RdE w u0 E3.cs 3 d.gs) :
    Calls Try.prog 12 #[.agg #[.int .i64 d.n, v0], .agg #[.int .i64 d.n, u0]] w fun e w' => e = .returned (.bool true) ∧ Below w.heap.size w w' := by
  obtain ⟨a0, cap0, rfl, hl0⟩ := h0.form
  have H0 := Lib.hid h0; clear h0
  obtain ⟨a0k, cap0k, rfl, kl0⟩ := k0.form
  have K0 := Lib.hid k0; clear k0
  have z0 : ((d.n : Int) != d.n) = false := by simp
  go_enter Try.func12, Try.ntmps12
  go_wp2_with fail
  all_goals (try go_quiet (fail))
  go_wp2_with fail
  refine (laws_eqGateS_any _ _ d.gs d.gs _ (Rd.below H0.out (show Below w.heap.size w _ from (by repeat (first | exact Below.refl _ _ | assumption | refine Below.drew ?_ | refine below_drewN ?_ _ | refine Below.alloc ?_ (by first | omega | (simp <;> omega)) _ | refine Below.setCell ?_ (by first | omega | (simp <;> omega)) _ | refine Below.trans ?_ (Below.mono (by assumption) (by first | omega | (simp <;> omega)))))) rfl) (Rd.below K0.out (show Below w.heap.size w _ from (by repeat (first | exact Below.refl _ _ | assumption | refine Below.drew ?_ | refine below_drewN ?_ _ | refine Below.alloc ?_ (by first | omega | (simp <;> omega)) _ | refine Below.setCell ?_ (by first | omega | (simp <;> omega)) _ | refine Below.trans ?_ (Below.mono (by assumption) (by first | omega | (simp <;> omega)))))) rfl)).mono ?_; rintro e w1 ⟨rfl, hb1⟩
  rw [show decide (d.gs = d.gs) = true from decide_eq_true rfl]
  obtain ⟨hc_hb1, hf_hb1⟩ := bcell hb1; have hz_hb1 := hb1.size; (try simp at hz_hb1); have hs0_hb1 : w.heap.size < w1.heap.size := (by omega); have hs1_hb1 : w.heap.size + 1 < w1.heap.size := (by omega)
  go_wp2_with fail
  go_ret
  exact ⟨rfl, (by repeat (first | exact Below.refl _ _ | assumption | refine Below.drew ?_ | refine below_drewN ?_ _ | refine Below.alloc ?_ (by first | omega | (simp <;> omega)) _ | refine Below.setCell ?_ (by first | omega | (simp <;> omega)) _ | refine Below.trans ?_ (Below.mono (by assumption) (by first | omega | (simp <;> omega)))))⟩
theorem laws_markCircuit_any (z0 : Int) (v0 : Value) (base n0 : Nat) (x0 : List Value) (k : Int) (w : World) (h0 : w.ownsRow base 57 3 v0 n0 (x0)) (hk0 : 0 ≤ k) (hk1 : k + n0 * 3 ≤ 4611686018427387904) (hn : n0 ≤ 1000000000000) :
    Calls Try.prog 14 #[.agg #[.int .i64 z0, v0], .int .i64 k] w fun e w' => e = .returned (.int .i64 (k + ((n0 * 3 : Nat) : Int))) ∧ w'.ownsRow base 57 3 v0 n0 (marks (k) (n0 * 3)) ∧ w.grownBy w' v0.ownBlock := by
  have h2 := Lib.hid (fun X => h0.alloc X)
  have hg := Lib.hid (fun X => World.grownBy_alloc w X v0.ownBlock)
  go_enter Try.func14, Try.ntmps14
  go_wp2_with fail
  refine (laws_markGateS_any v0 base n0 x0 k _ (h2.out _) hk0 hk1 hn).mono ?_; rintro e w1 ⟨rfl, ho, hgr⟩
  have Ho := Lib.hid ho; have Hg := Lib.hid hgr; clear ho hgr
  go_wp2_with fail
  go_ret
  exact ⟨rfl, Ho.out, grown_trans (hg.out _) Hg.out⟩
theorem laws_heldCircuit_any (z0 : Int) (v0 : Value) (n0 : Nat) (k : Int) (w : World) (h : Rd w v0 n0 3 (marks (k) (n0 * 3))) (hk0 : 0 ≤ k) (hk1 : k + n0 * 3 ≤ 4611686018427387904) (hn : n0 ≤ 1000000000000) :
    Calls Try.prog 15 #[.agg #[.int .i64 z0, v0], .int .i64 k] w fun e w' => e = .returned (.int .i64 (k + ((n0 * 3 : Nat) : Int))) ∧ Below w.heap.size w w' := by
  have h2 := Lib.hid (fun X => Rd.below h (show Below w.heap.size w (w.alloc X) from (by repeat (first | exact Below.refl _ _ | assumption | refine Below.drew ?_ | refine below_drewN ?_ _ | refine Below.alloc ?_ (by first | omega | (simp <;> omega)) _ | refine Below.setCell ?_ (by first | omega | (simp <;> omega)) _ | refine Below.trans ?_ (Below.mono (by assumption) (by first | omega | (simp <;> omega)))))) rfl)
  have hne : ¬ k + ((n0 * 3 : Nat) : Int) < 0 := by omega
  go_enter Try.func15, Try.ntmps15
  go_wp2_with fail
  refine (laws_heldGateS_any v0 n0 k _ (h2.out _) hk0 hk1 hn).mono ?_; rintro e w1 ⟨rfl, hb1⟩
  go_wp2_with fail
  go_ret
  exact ⟨rfl, (by repeat (first | exact Below.refl _ _ | assumption | refine Below.drew ?_ | refine below_drewN ?_ _ | refine Below.alloc ?_ (by first | omega | (simp <;> omega)) _ | refine Below.setCell ?_ (by first | omega | (simp <;> omega)) _ | refine Below.trans ?_ (Below.mono (by assumption) (by first | omega | (simp <;> omega)))))⟩
end Go.Proofs.Ytjdffjnennodaaa
namespace Go.Proofs.Ytjdffjnennodaaa
set_option linter.unusedSimpArgs false
set_option linter.unusedVariables false
set_option linter.unnecessarySimpa false
set_option maxRecDepth 200000
open Go.ChangeShapes Go.WideShapes Go.ChangeAt Go.RowKit

def CircOk (d : Circ) : Prop := (1 ≤ d.n ∧ d.n ≤ 5) ∧ d.gs.length ≤ 400 ∧ ∀ g ∈ d.gs, GateOk d.n g
instance (d : Circ) : Decidable (CircOk d) := by unfold CircOk; infer_instance
def circB (d : Circ) : Bool := decide (CircOk d)
theorem circB_n {d : Circ} (h : ¬ (1 ≤ d.n ∧ d.n ≤ 5)) : circB d = false := decide_eq_false fun k => h k.1
theorem circB_l {d : Circ} (h : ¬ d.gs.length ≤ 400) : circB d = false := decide_eq_false fun k => h k.2.1
theorem circB_g {d : Circ} (h1 : 1 ≤ d.n ∧ d.n ≤ 5) (h2 : d.gs.length ≤ 400) : circB d = !d.gs.any fun g => !decide (GateOk d.n g) := by
  cases ha : d.gs.any (fun g => !decide (GateOk d.n g)) with
  | false =>
    rw [List.any_eq_false] at ha
    exact decide_eq_true ⟨h1, h2, fun g hg => by simpa using ha g hg⟩
  | true =>
    rw [List.any_eq_true] at ha
    obtain ⟨g, hg, h⟩ := ha
    exact decide_eq_false fun hh => by simp [hh.2.2 g hg] at h
theorem IsValidCircuit1_any (B : Nat) (n : Int) (gs : List E3) (w : World) (hB : B < w.heap.size) (hc : w.cell? ⟨B, 0, none⟩ = some (.int .i64 n)) :
    PredB 64 #[.pointer (some ⟨B, 0, none⟩)] encGate (fun g => !decide (GateOk n g)) gs w := by
  intro W x _ hb
  have hc' := (hb.cell (p := ⟨B, 0, none⟩) hB).trans hc
  have hBW : B < W.heap.size := Nat.lt_of_lt_of_le hB hb.size
  clear hc hb
  show Calls Try.prog 64 #[.agg #[.int .i64 x.a, .int .i64 x.b, .int .i64 x.c], .pointer (some ⟨B, 0, none⟩)] W _
  go_enter Try.func64, Try.ntmps64
  go_wp2_with fail
  refine (impl_IsValidGate_any n x _).mono ?_; rintro e w1 ⟨rfl, hb1⟩
  obtain ⟨hc_hb1, hf_hb1⟩ := bcell hb1; have hz_hb1 := hb1.size; (try simp at hz_hb1)
  go_wp2_with fail
  go_ret
  exact ⟨rfl, Below.trans (show Below W.heap.size W (W.alloc (.cells #[.int .i64 x.a, .int .i64 x.b, .int .i64 x.c] 57)) from (by repeat (first | exact Below.refl _ _ | assumption | refine Below.drew ?_ | refine below_drewN ?_ _ | refine Below.alloc ?_ (by first | omega | (simp <;> omega)) _ | refine Below.setCell ?_ (by first | omega | (simp <;> omega)) _ | refine Below.trans ?_ (Below.mono (by assumption) (by first | omega | (simp <;> omega)))))) (hb1.mono (by simp))⟩
set_option maxHeartbeats 1000000 in
theorem impl_IsValidCircuit_any (v : Value) (d : Circ) (w : World) (h : RdE w v E3.cs 3 d.gs) (hn : d.gs.length ≤ 1048576) :
    Calls Try.prog 48 #[.agg #[.int .i64 d.n, v]] w fun e w' => e = .returned (.bool (circB d)) ∧ Below w.heap.size w w' := by
  have H := Lib.hid h
  have eg := enters_of Try.func64 (by kernel_rfl) rfl
  have Eg := Lib.hid eg; clear eg
  obtain ⟨A, c, rfl, _⟩ := h.form
  clear h
  by_cases h1 : 1 ≤ d.n ∧ d.n ≤ 5
  · have D1 := Lib.hid (decide_eq_true h1)
    by_cases h2 : d.gs.length ≤ 400
    · have HR := Lib.hid (circB_g h1 h2)
      have g1 : decide ((d.gs.length : Int) ≤ 400) = true := by simp; omega
      obtain ⟨h1a, h1b⟩ := h1
      go_enter Try.func48, Try.ntmps48
      go_wp2_with fail
      refine (within_p _ _ _ _).mono ?_; rintro e w' ⟨rfl, rfl⟩
      rw [D1.out]
      go_wp2_with fail
      refine (slices_ContainsFunc_Gate _ _ (fun g => !decide (GateOk d.n g)) Eg.out _ d.gs _ (Rd.below H.out (show Below w.heap.size w _ from (by repeat (first | exact Below.refl _ _ | assumption | refine Below.drew ?_ | refine below_drewN ?_ _ | refine Below.alloc ?_ (by first | omega | (simp <;> omega)) _ | refine Below.setCell ?_ (by first | omega | (simp <;> omega)) _ | refine Below.trans ?_ (Below.mono (by assumption) (by first | omega | (simp <;> omega)))))) rfl) (IsValidCircuit1_any w.heap.size d.n d.gs _ (by simp) (by simp))).mono ?_; rintro e w1 ⟨rfl, hb1⟩
      go_wp2_with fail
      go_ret
      exact ⟨ret_bool (by rw [HR.out]), (by repeat (first | exact Below.refl _ _ | assumption | refine Below.drew ?_ | refine below_drewN ?_ _ | refine Below.alloc ?_ (by first | omega | (simp <;> omega)) _ | refine Below.setCell ?_ (by first | omega | (simp <;> omega)) _ | refine Below.trans ?_ (Below.mono (by assumption) (by first | omega | (simp <;> omega)))))⟩
    · have HR := Lib.hid (circB_l h2)
      have g1 : decide ((d.gs.length : Int) ≤ 400) = false := by simp; omega
      clear h2
      go_enter Try.func48, Try.ntmps48
      go_wp2_with fail
      refine (within_p _ _ _ _).mono ?_; rintro e w' ⟨rfl, rfl⟩
      rw [D1.out]
      go_wp2_with fail
      go_ret
      exact ⟨ret_bool (by rw [HR.out]), (by repeat (first | exact Below.refl _ _ | assumption | refine Below.drew ?_ | refine below_drewN ?_ _ | refine Below.alloc ?_ (by first | omega | (simp <;> omega)) _ | refine Below.setCell ?_ (by first | omega | (simp <;> omega)) _ | refine Below.trans ?_ (Below.mono (by assumption) (by first | omega | (simp <;> omega)))))⟩
  · have HR := Lib.hid (circB_n h1)
    have D1 := Lib.hid (decide_eq_false h1); clear h1
    go_enter Try.func48, Try.ntmps48
    go_wp2_with fail
    refine (within_p _ _ _ _).mono ?_; rintro e w' ⟨rfl, rfl⟩
    rw [D1.out]
    go_wp2_with fail
    go_ret
    exact ⟨ret_bool (by rw [HR.out]), (by repeat (first | exact Below.refl _ _ | assumption | refine Below.drew ?_ | refine below_drewN ?_ _ | refine Below.alloc ?_ (by first | omega | (simp <;> omega)) _ | refine Below.setCell ?_ (by first | omega | (simp <;> omega)) _ | refine Below.trans ?_ (Below.mono (by assumption) (by first | omega | (simp <;> omega)))))⟩
theorem circ_yes {d : Circ} {k : Nat} (h1 : 1 ≤ d.n ∧ d.n ≤ 5) (h2 : d.gs.length ≤ 400) (hk : d.gs.length ≤ k) (h : Hid (∀ j (hj : j < d.gs.length), j < k → GateOk d.n d.gs[j])) : true = circB d := by
  symm
  refine decide_eq_true ⟨h1, h2, fun g hg => ?_⟩
  obtain ⟨j, hj, rfl⟩ := List.mem_iff_getElem.1 hg
  exact h.out j hj (by omega)
theorem circ_no {d : Circ} {k : Nat} (hk : k < d.gs.length) (h : ¬ GateOk d.n d.gs[k]) : false = circB d := by
  symm
  exact decide_eq_false fun hh => h (hh.2.2 _ (List.getElem_mem hk))
end Go.Proofs.Ytjdffjnennodaaa
namespace Go.Proofs.Ytjdffjnennodaaa
set_option linter.unusedSimpArgs false
set_option linter.unusedVariables false
set_option linter.unnecessarySimpa false
set_option maxRecDepth 200000
open Go.ChangeShapes Go.WideShapes Go.ChangeAt Go.RowKit

theorem gate_at {w : World} {v : Value} {gs : List E3} (h : RdE w v E3.cs 3 gs) : ∃ A c, v = .slice A gs.length c ∧ Hid (∀ k, k < gs.length → ∃ b off, A = some ⟨b, off, none⟩ ∧ b < w.heap.size ∧ w.cell? ⟨b, off + k * 3, none⟩ = some (.int .i64 (gs.getD k ⟨0, 0, 0⟩).a) ∧ w.cell? ⟨b, off + k * 3 + 1, none⟩ = some (.int .i64 (gs.getD k ⟨0, 0, 0⟩).b) ∧ w.cell? ⟨b, off + k * 3 + 2, none⟩ = some (.int .i64 (gs.getD k ⟨0, 0, 0⟩).c)) := by
  rcases h.cases0 E3.len with ⟨he, A, c, rfl⟩ | ⟨_, b, off, cap, rfl, hb, hl, hm, hc⟩
  · subst he
    exact ⟨A, c, rfl, show ∀ _, _ from fun k hk => by simp at hk⟩
  · refine ⟨_, cap, rfl, show ∀ _, _ from fun k hk => ⟨b, off, rfl, hb, ?_⟩⟩
    have e : gs.getD k ⟨0, 0, 0⟩ = gs[k] := by simp [List.getD, hk]
    rw [e]
    exact ⟨hc k hk 0 _ (by omega) rfl, hc k hk 1 _ (by omega) rfl, hc k hk 2 _ (by omega) rfl⟩
def cntTo (gs : List E3) (k : Nat) : Nat := ((gs.take k).filter fun g => decide (g.a = 9)).length
theorem cnt_succ {gs : List E3} {k : Nat} (h : k < gs.length) : cntTo gs (k + 1) = cntTo gs k + if (gs.getD k ⟨0, 0, 0⟩).a = 9 then 1 else 0 := by
  unfold cntTo
  rw [List.take_succ_eq_append_getElem h, List.filter_append, List.length_append]
  have e : gs.getD k ⟨0, 0, 0⟩ = gs[k] := by simp [List.getD, h]
  rw [e]
  by_cases hg : gs[k].a = 9 <;> simp [hg]
theorem cnt_le (gs : List E3) (k : Nat) : cntTo gs k ≤ k := by
  unfold cntTo
  exact Nat.le_trans (List.length_filter_le _ _) (List.length_take_le _ _)
def allCX (gs : List E3) : Bool := gs.all fun g => decide (g.a = 9)
theorem cnt_all (gs : List E3) : decide (cntTo gs gs.length = gs.length) = allCX gs := by
  unfold cntTo allCX
  rw [List.take_length, Bool.eq_iff_iff, decide_eq_true_eq, List.length_filter_eq_length_iff, List.all_eq_true]
def netB (d : Circ) : Bool := circB d && allCX d.gs
theorem any_all (gs : List E3) : (!(gs.any fun g => !decide (g.a = 9))) = allCX gs := by
  unfold allCX
  rw [List.not_any_eq_all_not]
  congr 1
  funext g
  by_cases h : g.a = 9 <;> simp [h]
theorem netB_0 {d : Circ} (h : circB d = false) : false = netB d := by unfold netB; rw [h]; rfl
theorem netB_1 {d : Circ} (h : circB d = true) : allCX d.gs = netB d := by unfold netB; rw [h]; rfl
end Go.Proofs.Ytjdffjnennodaaa
namespace Go.Proofs.Ytjdffjnennodaaa
set_option linter.unusedSimpArgs false
set_option linter.unusedVariables false
set_option linter.unnecessarySimpa false
set_option maxRecDepth 200000
open Go.ChangeShapes Go.WideShapes Go.ChangeAt Go.RowKit

def isTg (g : E3) : Bool := decide (7 ≤ g.a ∧ g.a ≤ 8)
def tTo (gs : List E3) (k : Nat) : Nat := ((gs.take k).filter isTg).length
theorem tTo_succ {gs : List E3} {k : Nat} (h : k < gs.length) : tTo gs (k + 1) = tTo gs k + if isTg (gs.getD k ⟨0, 0, 0⟩) = true then 1 else 0 := by
  unfold tTo
  rw [List.take_succ_eq_append_getElem h, List.filter_append, List.length_append]
  have e : gs.getD k ⟨0, 0, 0⟩ = gs[k] := by simp [List.getD, h]
  rw [e]
  by_cases hg : isTg gs[k] = true <;> simp [hg]
theorem tTo_le (gs : List E3) (k : Nat) : tTo gs k ≤ k := by
  unfold tTo
  exact Nat.le_trans (List.length_filter_le _ _) (List.length_take_le _ _)
def tCount (d : Circ) : Int := if circB d = true then (tTo d.gs d.gs.length : Int) else 0
/-- A valid circuit without T gates. -/
def clifB (d : Circ) : Bool := circB d && decide (tTo d.gs d.gs.length = 0)
theorem clif_parts {d : Circ} (h : clifB d = true) : CircOk d ∧ ∀ g ∈ d.gs, isTg g = false := by
  unfold clifB at h
  rw [Bool.and_eq_true] at h
  refine ⟨of_decide_eq_true h.1, fun g hg => ?_⟩
  have h2 := of_decide_eq_true h.2
  unfold tTo at h2
  rw [List.take_length] at h2
  have h3 := List.eq_nil_of_length_eq_zero h2
  rw [List.filter_eq_nil_iff] at h3
  have := h3 g hg
  cases e : isTg g
  · rfl
  · exact absurd e this
theorem ret_cnt {d : Circ} {n : Int} {b : Bool} (h : circB d = b) (hn : n = tCount d) : Ending.returned (.tuple #[.int .i64 n, .bool b]) = .returned (.tuple #[.int .i64 (tCount d), .bool (circB d)]) := by rw [h, hn]
theorem clif_def (d : Circ) : clifB d = (circB d && (tCount d == 0)) := by
  unfold clifB tCount
  cases circB d
  · rfl
  · rw [if_pos rfl, Bool.true_and, Bool.true_and, Bool.eq_iff_iff, decide_eq_true_eq, beq_iff_eq]; omega
end Go.Proofs.Ytjdffjnennodaaa
