/- Node: the laws' helpers: equal, marked, held. -/
import Derived.Test.YtliophgfgmjhiaaGreatDoorZ00M
import Derived.BigQuiet
import Derived.Deep.QuietTactic
namespace Go.Proofs.YtliophgfgmjhiaaGreatDoor
set_option linter.unusedSimpArgs false
set_option linter.unusedVariables false
set_option linter.unnecessarySimpa false
set_option maxRecDepth 200000
open Go.ChangeShapes Go.WideShapes Go.ChangeAt Go.RowKit

theorem laws_eqNode_any (x y : E2) (w : World) :
    Calls Tryz.prog 37 #[.agg #[.int .i64 x.a, .int .i64 x.b], .agg #[.int .i64 y.a, .int .i64 y.b]] w fun e w' => e = .returned (.bool (decide (x = y))) ∧ Below w.heap.size w w' := by
  obtain ⟨xa, xb⟩ := x
  obtain ⟨ya, yb⟩ := y
  dsimp only
  go_enter Tryz.func37, Tryz.ntmps37
  go_wp2_with fail
  all_goals (go_ret; exact ⟨ret_bool (by go_light; rw [Bool.eq_iff_iff]; simp only [decide_eq_true_eq, beq_iff_eq, Bool.false_eq_true, true_iff, false_iff, iff_true, iff_false]; (try simp_all [E2.mk.injEq]) <;> (try omega)), (by repeat (first | exact Below.refl _ _ | assumption | refine Below.drew ?_ | refine below_drewN ?_ _ | refine Below.alloc ?_ (by first | omega | (simp <;> omega)) _ | refine Below.setCell ?_ (by first | omega | (simp <;> omega)) _ | refine Below.trans ?_ (Below.mono (by assumption) (by first | omega | (simp <;> omega)))))⟩)

theorem laws_eqNodeS_any (va vb : Value) (xs ys : List E2) (w : World) (ha : RdE w va E2.cs 2 xs) (hb : RdE w vb E2.cs 2 ys) :
    Calls Tryz.prog 15 #[va, vb] w fun e w' => e = .returned (.bool (decide (xs = ys))) ∧ Below w.heap.size w w' := by
  by_cases hlen : xs.length = ys.length
  · have hf : ((xs.length : Int) != (ys.length : Int)) = false := by rw [hlen]; simp
    rcases ha.cases0 E2.len with ⟨rfl, a1, cap1, rfl⟩ | ⟨hx, b1, off1, cap1, rfl, hb1, hl1, hm1, hc1⟩
    · have hy : ys = [] := List.eq_nil_of_length_eq_zero (by simpa using hlen.symm)
      subst hy
      obtain ⟨a2, cap2, rfl, _⟩ := hb.form
      clear hlen hf ha hb
      go_enter Tryz.func15, Tryz.ntmps15
      go_wp2_with fail
      refine wp_loop_rounds 1 ?_
      rw [rounds_succ]
      go_wp2_with fail
      go_ret
      exact ⟨rfl, (by repeat (first | exact Below.refl _ _ | assumption | refine Below.drew ?_ | refine below_drewN ?_ _ | refine Below.alloc ?_ (by first | omega | (simp <;> omega)) _ | refine Below.setCell ?_ (by first | omega | (simp <;> omega)) _ | refine Below.trans ?_ (Below.mono (by assumption) (by first | omega | (simp <;> omega)))))⟩
    · rcases hb.cases0 E2.len with ⟨rfl, a2, cap2, rfl⟩ | ⟨hy, b2, off2, cap2, rfl, hb2, hl2, hm2, hc2⟩
      · simp at hlen; subst hlen; simp at hx
      have hlen1 : xs.length ≤ ys.length := by omega
      have hlen2 : ys.length ≤ xs.length := by omega
      clear hlen ha hb
      go_enter Tryz.func15, Tryz.ntmps15
      go_wp2_with fail
      go_loopw [5] (fun i wr => ∃ k : Nat, k ≤ xs.length ∧ i = .int .i64 k ∧ Hid (xs.take k = ys.take k) ∧ Below w.heap.size w wr) (fun i _ => xs.length - (intOf i).toNat)
      case atStart => exact ⟨0, Nat.zero_le _, rfl, rfl, Below.refl _ _⟩
      case round =>
        obtain ⟨k, hk, rfl, hpre, hbel⟩ := hrel
        by_cases hlt : k < xs.length
        · have hlt2 : k < ys.length := by omega
          have p0 : wr.cell? ⟨b1, off1 + k * 2, none⟩ = some (.int .i64 xs[k].a) := (hbel.cell hb1).trans (hc1 k hlt 0 _ (by omega) rfl)
          have p1 : wr.cell? ⟨b1, off1 + k * 2 + 1, none⟩ = some (.int .i64 xs[k].b) := (hbel.cell hb1).trans (hc1 k hlt 1 _ (by omega) rfl)
          have q0 : wr.cell? ⟨b2, off2 + k * 2, none⟩ = some (.int .i64 ys[k].a) := (hbel.cell hb2).trans (hc2 k hlt2 0 _ (by omega) rfl)
          have q1 : wr.cell? ⟨b2, off2 + k * 2 + 1, none⟩ = some (.int .i64 ys[k].b) := (hbel.cell hb2).trans (hc2 k hlt2 1 _ (by omega) rfl)
          have i0 : (0 : Int) ≤ (k : Int) := by omega
          have i1 : (k : Int) < (xs.length : Int) := by omega
          have i2 : (k : Int) < (ys.length : Int) := by omega
          have hlw := hbel.size
          clear hc1 hc2
          by_cases he : xs[k] = ys[k]
          all_goals
            have hd : decide (xs[k] = ys[k]) = _ := (by first | exact decide_eq_true he | exact decide_eq_false he)
            have Hd := Lib.hid hd; have He := Lib.hid he; clear hd he
            go_wp2_with fail
            go_region_held3 (fun w' => w'.cell? ⟨b1, off1 + k * 2, none⟩ = some (.int .i64 xs[k].a) ∧ w'.cell? ⟨b1, off1 + k * 2 + 1, none⟩ = some (.int .i64 xs[k].b) ∧ w'.cell? ⟨b2, off2 + k * 2, none⟩ = some (.int .i64 ys[k].a) ∧ w'.cell? ⟨b2, off2 + k * 2 + 1, none⟩ = some (.int .i64 ys[k].b)) (first | go_keep | (go_split_ands; refine ⟨?_, ?_, ?_, ?_⟩ <;> (refine below_cell hbb rfl ?_; assumption))) (first | (go_at_call 37; refine (laws_eqNode_any xs[k] ys[k] _).mono ?_; rintro e w2 ⟨rfl, hbb⟩; rw [Hd.out]))
            go_wp2_with fail
            have hz2 := hbb.size
            have hz3 : wr.heap.size ≤ w2.heap.size := hz2
            have hbel2 : Below w.heap.size w w2 := Below.trans hbel.drew (Below.mono hbb hlw)
            first
              | (go_roundw
                 case rel => exact ⟨k + 1, by omega, by go_num, eqE_step hpre hlt hlt2 He.out, hbel2⟩
                 case measure => simp [intOf]; omega)
              | (go_ret; exact ⟨ret_bool (eqE_fail hlt hlt2 He.out), hbel2⟩)
        · clear hc1 hc2
          go_wp2_with fail
          go_ret
          exact ⟨ret_bool (eqE_end hpre (by omega) (by omega)), (by repeat (first | exact Below.refl _ _ | assumption | refine Below.drew ?_ | refine below_drewN ?_ _ | refine Below.alloc ?_ (by first | omega | (simp <;> omega)) _ | refine Below.setCell ?_ (by first | omega | (simp <;> omega)) _ | refine Below.trans ?_ (Below.mono (by assumption) (by first | omega | (simp <;> omega)))))⟩
  · have hd : decide (xs = ys) = false := by rw [decide_eq_false_iff_not]; rintro rfl; exact hlen rfl
    have hne : ((xs.length : Int) != (ys.length : Int)) = true := by rw [bne_iff_ne]; omega
    rw [hd]
    obtain ⟨a1, cap1, rfl, _⟩ := ha.form
    obtain ⟨a2, cap2, rfl, _⟩ := hb.form
    clear hlen hd ha hb
    go_enter Tryz.func15, Tryz.ntmps15
    go_wp2_with fail
    go_ret
    exact ⟨rfl, (by repeat (first | exact Below.refl _ _ | assumption | refine Below.drew ?_ | refine below_drewN ?_ _ | refine Below.alloc ?_ (by first | omega | (simp <;> omega)) _ | refine Below.setCell ?_ (by first | omega | (simp <;> omega)) _ | refine Below.trans ?_ (Below.mono (by assumption) (by first | omega | (simp <;> omega)))))⟩

theorem laws_markNodeS_any (v : Value) (base n : Nat) (xs : List Value) (k : Int) (w : World) (h : w.ownsRow base 36 2 v n xs) (hk0 : 0 ≤ k) (hk1 : k + n * 2 ≤ 4611686018427387904) (hn : n ≤ 1000000000000) :
    Calls Tryz.prog 17 #[v, .int .i64 k] w fun e w' => e = .returned (.int .i64 (k + ((n * 2 : Nat) : Int))) ∧ w'.ownsRow base 36 2 v n (marks k (n * 2)) ∧ w.grownBy w' v.ownBlock := by
  rcases Go.Joins.ownsRow_forms h with ⟨rfl, rfl⟩ | ⟨g, cap, rfl⟩
  · have hx : xs = [] := List.eq_nil_of_length_eq_zero (by simpa using h.1)
    subst hx
    go_enter Tryz.func17, Tryz.ntmps17
    go_wp2_with fail
    refine wp_loop_rounds 1 ?_
    rw [rounds_succ]
    go_wp2_with fail
    go_ret
    exact ⟨ret_int (by simp), h, World.grownBy.refl _ _⟩
  · have hxl : xs.length = n * 2 := h.1
    have Hx := Lib.hid hxl; clear hxl
    have H0 : Hid (w.ownsRow base 36 2 (.slice (some ⟨g, 0, none⟩) n cap) n (marks k 0 ++ xs.drop 0)) := h
    clear h
    go_enter Tryz.func17, Tryz.ntmps17
    go_wp2_with fail
    go_loopw [1, 5] (fun q i wr => ∃ j : Nat, j ≤ n ∧ i = .int .i64 j ∧ q = .int .i64 (k + ((j * 2 : Nat) : Int)) ∧ Hid (wr.ownsRow base 36 2 (.slice (some ⟨g, 0, none⟩) n cap) n (marks k (j * 2) ++ xs.drop (j * 2))) ∧ Hid (w.grownBy wr (some g))) (fun _ i _ => n - (intOf i).toNat)
    case atStart => exact ⟨0, Nat.zero_le _, rfl, by simp, by simpa using H0, World.grownBy.refl _ _⟩
    case round =>
      obtain ⟨j, hj, rfl, rfl, hown, hgr⟩ := hrel
      clear H0
      by_cases hlt : j < n
      · have i1 : (j : Int) < (n : Int) := by omega
        obtain ⟨u0, hu0⟩ := marks_cell hown.out (j := j * 2) (by omega)
        have hf0 := hown.out.frozenAt (j * 2)
        obtain ⟨u1, hu1⟩ := marks_cell hown.out (j := j * 2 + 1) (by omega)
        have hf1 := hown.out.frozenAt (j * 2 + 1)
        go_wp2_with fail
        go_roundw
        case rel =>
          have s0 := hown.out
          have g0 := hgr.out
          have t0 := s0.stored (j * 2) (.int .i64 (k + ((j * 2 : Nat) : Int)))
          have s1 := t0.1
          rw [marks_step k (j * 2) xs (by rw [Hx.out]; omega)] at s1
          have g1 := grown_trans0 g0 t0.2
          have t1 := s1.stored (j * 2 + 1) (.int .i64 (k + ((j * 2 + 1 : Nat) : Int)))
          have s2 := t1.1
          rw [marks_step k (j * 2 + 1) xs (by rw [Hx.out]; omega)] at s2
          have g2 := grown_trans0 g1 t1.2
          have v0 : k + ((j * 2 : Nat) : Int) = k + (j : Int) * 2 := by omega
          have v1 : k + ((j * 2 + 1 : Nat) : Int) = k + (j : Int) * 2 + 1 := by omega
          rw [v0, v1] at s2 g2
          refine ⟨j + 1, by omega, by go_num, ret_num (by omega), ?_, ?_⟩
          · have e : j * 2 + 1 + 1 = (j + 1) * 2 := by omega
            rw [e] at s2
            exact s2
          · exact g2
        case measure => simp [intOf]; omega
      · have e : j = n := by omega
        subst e
        go_wp2_with fail
        go_ret
        refine ⟨rfl, ?_, hgr⟩
        have h1 := hown.out
        rw [List.drop_eq_nil_of_le (by rw [Hx.out]; omega), List.append_nil] at h1
        exact h1

theorem laws_heldNodeS_any (v : Value) (n : Nat) (k : Int) (w : World) (h : Rd w v n 2 (marks k (n * 2))) (hk0 : 0 ≤ k) (hk1 : k + n * 2 ≤ 4611686018427387904) (hn : n ≤ 1000000000000) :
    Calls Tryz.prog 19 #[v, .int .i64 k] w fun e w' => e = .returned (.int .i64 (k + ((n * 2 : Nat) : Int))) ∧ Below w.heap.size w w' := by
  rcases h.2 with ⟨⟨a0, c0, rfl⟩, rfl⟩ | ⟨b, off, cap, rfl, hb, hl, hm, hc⟩
  · go_enter Tryz.func19, Tryz.ntmps19
    go_wp2_with fail
    refine wp_loop_rounds 1 ?_
    rw [rounds_succ]
    go_wp2_with fail
    go_ret
    exact ⟨ret_int (by simp), Below.refl _ _⟩
  · go_enter Tryz.func19, Tryz.ntmps19
    go_wp2_with fail
    go_loop [1, 5] (fun q i => ∃ j : Nat, j ≤ n ∧ i = .int .i64 j ∧ q = .int .i64 (k + (j : Int) * 2)) (fun _ i => n - (intOf i).toNat)
    case atStart => exact ⟨0, Nat.zero_le _, rfl, by simp⟩
    case round =>
      obtain ⟨j, hj, rfl, rfl⟩ := hrel
      by_cases hlt : j < n
      · have i1 : (j : Int) < (n : Int) := by omega
        have c0 : w.cell? ⟨b, off + j * 2, none⟩ = some (.int .i64 (k + (j : Int) * 2)) := by
          have := hc _ _ (marks_get k (n * 2) (j * 2) (by omega))
          rw [show k + ((j * 2 : Nat) : Int) = k + (j : Int) * 2 from by omega] at this
          exact this
        have c1 : w.cell? ⟨b, off + j * 2 + 1, none⟩ = some (.int .i64 (k + (j : Int) * 2 + 1)) := by
          have := hc _ _ (marks_get k (n * 2) (j * 2 + 1) (by omega))
          rw [show k + ((j * 2 + 1 : Nat) : Int) = k + (j : Int) * 2 + 1 from by omega] at this
          exact this
        clear hc h
        go_wp2_with fail
        go_round
        case rel => exact ⟨j + 1, by omega, by go_num, ret_num (by omega)⟩
        case measure => simp [intOf]; omega
      · clear hc h
        have e : j = n := by omega
        subst e
        go_wp2_with fail
        go_ret
        exact ⟨ret_int (by omega), Below.refl _ _⟩
end Go.Proofs.YtliophgfgmjhiaaGreatDoor
namespace Go.Proofs.YtliophgfgmjhiaaGreatDoor
set_option linter.unusedSimpArgs false
set_option linter.unusedVariables false
set_option linter.unnecessarySimpa false
set_option maxRecDepth 200000
open Go.ChangeShapes Go.WideShapes Go.ChangeAt Go.RowKit Go.Joins

theorem info_Node : (Tryz.prog.info? 36).map (fun i => (i.zero, i.size, i.bytes)) = some (some (.agg #[.int .i64 0, .int .i64 0]), 2, 16) := by kernel_rfl
theorem setNode_chain {xs : List E2} {ys : List Value} {k : Nat} (h : k < xs.length) (hl : ys.length = xs.length * 2) :
    ((((xs.take k).flatMap E2.cs ++ ys.drop (k * 2)).set (k * 2) (.int .i64 xs[k].a)).set (k * 2 + 1) (.int .i64 xs[k].b)) = (xs.take (k + 1)).flatMap E2.cs ++ ys.drop ((k + 1) * 2) := by
  have e : ((xs.take k).flatMap E2.cs).length = k * 2 := by rw [flat_len E2.len]; simp; omega
  obtain ⟨y0, y1, zs, hz⟩ : ∃ y0 y1 zs, ys.drop (k * 2) = y0 :: y1 :: zs := by
    have hd : (ys.drop (k * 2)).length = ys.length - k * 2 := List.length_drop
    match hh : ys.drop (k * 2) with
    | y0 :: y1 :: zs => exact ⟨y0, y1, zs, rfl⟩
    | [] => rw [hh] at hd; simp at hd; omega
    | [y0] => rw [hh] at hd; simp at hd; omega

  have hz2 : ys.drop ((k + 1) * 2) = zs := by
    rw [show (k + 1) * 2 = k * 2 + 2 from by omega, ← List.drop_drop, hz]; rfl
  rw [hz2, hz, List.take_succ_eq_append_getElem h, List.flatMap_append]
  rw [List.set_append_right _ _ (by rw [e]; omega), e, show k * 2 - k * 2 = 0 from by omega]
  rw [List.set_append_right _ _ (by rw [e]; omega), e, show k * 2 + 1 - k * 2 = 1 from by omega]
  simp [E2.cs]
end Go.Proofs.YtliophgfgmjhiaaGreatDoor
namespace Go.Proofs.YtliophgfgmjhiaaGreatDoor
set_option linter.unusedSimpArgs false
set_option linter.unusedVariables false
set_option linter.unnecessarySimpa false
set_option maxRecDepth 200000
open Go.ChangeShapes Go.WideShapes Go.ChangeAt Go.RowKit
theorem cell_drew {w : World} {a : Addr} {u : Value} (h : w.cell? a = some u) : w.drew.cell? a = some u := h
theorem frz_drew {w : World} {a : Addr} (h : w.frozen? a = false) : w.drew.frozen? a = false := h
theorem cell_set_far {w : World} {b nb o o2 : Nat} {u v : Value} (hne : b ≠ nb) (h : w.cell? ⟨b, o, none⟩ = some u) : (w.setCell ⟨nb, o2, none⟩ v).cell? ⟨b, o, none⟩ = some u :=
  (World.cell?_setCell_other _ _ _ _ (fun e => hne (by injection e with e1; exact e1.symm))).trans h
theorem calls_below {f : FuncId} {args : Array Value} {w : World} {Q : Ending → Prop} (h : Calls Tryz.prog f args w fun e w' => Q e ∧ w = w') : Calls Tryz.prog f args w fun e w' => Q e ∧ Below w.heap.size w w' :=
  h.mono fun _ _ ⟨h1, h2⟩ => ⟨h1, h2 ▸ Below.refl _ _⟩
theorem new_cell (W : World) (cs : Array Value) (t : TypeId) (j : Nat) (v : Value) (h : cs[j]? = some v) : (W.alloc (.cells cs t)).cell? ⟨W.heap.size, j, none⟩ = some v := by
  rw [World.cell?_alloc_at _ _ _ _ rfl]; exact h
theorem new_frz (W : World) (cs : Array Value) (t : TypeId) (j : Nat) : (W.alloc (.cells cs t)).frozen? ⟨W.heap.size, j, none⟩ = false := World.frozen?_alloc_at _ _ _ _ rfl
end Go.Proofs.YtliophgfgmjhiaaGreatDoor
namespace Go.Proofs.YtliophgfgmjhiaaGreatDoor
set_option linter.unusedSimpArgs false
set_option linter.unusedVariables false
set_option linter.unnecessarySimpa false
set_option maxRecDepth 200000
open Go.ChangeShapes Go.WideShapes Go.ChangeAt Go.RowKit

theorem eqcase_Node (x y : E2) : ((x.a == y.a) = false) ∨ ((x.a == y.a) = true ∧ (x.b == y.b) = false) ∨ ((x.a == y.a) = true ∧ (x.b == y.b) = true) := by
  cases h0 : (x.a == y.a) <;>
  cases h1 : (x.b == y.b) <;> simp
end Go.Proofs.YtliophgfgmjhiaaGreatDoor
namespace Go.Proofs.YtliophgfgmjhiaaGreatDoor
set_option linter.unusedSimpArgs false
set_option linter.unusedVariables false
set_option linter.unnecessarySimpa false
set_option maxRecDepth 200000
open Go.ChangeShapes Go.WideShapes Go.ChangeAt Go.RowKit

theorem laws_eqWire_any (x y : EW) (w : World) :
    Calls Tryz.prog 38 #[.agg #[.int .i64 x.a, .int .i64 x.b, .bool x.h], .agg #[.int .i64 y.a, .int .i64 y.b, .bool y.h]] w fun e w' => e = .returned (.bool (decide (x = y))) ∧ Below w.heap.size w w' := by
  obtain ⟨xa, xb, xh⟩ := x
  obtain ⟨ya, yb, yh⟩ := y
  dsimp only
  go_enter Tryz.func38, Tryz.ntmps38
  go_wp2_with fail
  all_goals (go_ret; exact ⟨ret_bool (by go_light; rw [Bool.eq_iff_iff]; simp only [decide_eq_true_eq, beq_iff_eq, Bool.false_eq_true, true_iff, false_iff, iff_true, iff_false]; (try simp_all [EW.mk.injEq]) <;> (try omega)), (by repeat (first | exact Below.refl _ _ | assumption | refine Below.drew ?_ | refine below_drewN ?_ _ | refine Below.alloc ?_ (by first | omega | (simp <;> omega)) _ | refine Below.setCell ?_ (by first | omega | (simp <;> omega)) _ | refine Below.trans ?_ (Below.mono (by assumption) (by first | omega | (simp <;> omega)))))⟩)

theorem laws_eqWireS_any (va vb : Value) (xs ys : List EW) (w : World) (ha : RdE w va EW.cs 3 xs) (hb : RdE w vb EW.cs 3 ys) :
    Calls Tryz.prog 16 #[va, vb] w fun e w' => e = .returned (.bool (decide (xs = ys))) ∧ Below w.heap.size w w' := by
  by_cases hlen : xs.length = ys.length
  · have hf : ((xs.length : Int) != (ys.length : Int)) = false := by rw [hlen]; simp
    rcases ha.cases0 EW.len with ⟨rfl, a1, cap1, rfl⟩ | ⟨hx, b1, off1, cap1, rfl, hb1, hl1, hm1, hc1⟩
    · have hy : ys = [] := List.eq_nil_of_length_eq_zero (by simpa using hlen.symm)
      subst hy
      obtain ⟨a2, cap2, rfl, _⟩ := hb.form
      clear hlen hf ha hb
      go_enter Tryz.func16, Tryz.ntmps16
      go_wp2_with fail
      refine wp_loop_rounds 1 ?_
      rw [rounds_succ]
      go_wp2_with fail
      go_ret
      exact ⟨rfl, (by repeat (first | exact Below.refl _ _ | assumption | refine Below.drew ?_ | refine below_drewN ?_ _ | refine Below.alloc ?_ (by first | omega | (simp <;> omega)) _ | refine Below.setCell ?_ (by first | omega | (simp <;> omega)) _ | refine Below.trans ?_ (Below.mono (by assumption) (by first | omega | (simp <;> omega)))))⟩
    · rcases hb.cases0 EW.len with ⟨rfl, a2, cap2, rfl⟩ | ⟨hy, b2, off2, cap2, rfl, hb2, hl2, hm2, hc2⟩
      · simp at hlen; subst hlen; simp at hx
      have hlen1 : xs.length ≤ ys.length := by omega
      have hlen2 : ys.length ≤ xs.length := by omega
      clear hlen ha hb
      go_enter Tryz.func16, Tryz.ntmps16
      go_wp2_with fail
      go_loopw [5] (fun i wr => ∃ k : Nat, k ≤ xs.length ∧ i = .int .i64 k ∧ Hid (xs.take k = ys.take k) ∧ Below w.heap.size w wr) (fun i _ => xs.length - (intOf i).toNat)
      case atStart => exact ⟨0, Nat.zero_le _, rfl, rfl, Below.refl _ _⟩
      case round =>
        obtain ⟨k, hk, rfl, hpre, hbel⟩ := hrel
        by_cases hlt : k < xs.length
        · have hlt2 : k < ys.length := by omega
          have p0 : wr.cell? ⟨b1, off1 + k * 3, none⟩ = some (.int .i64 xs[k].a) := (hbel.cell hb1).trans (hc1 k hlt 0 _ (by omega) rfl)
          have p1 : wr.cell? ⟨b1, off1 + k * 3 + 1, none⟩ = some (.int .i64 xs[k].b) := (hbel.cell hb1).trans (hc1 k hlt 1 _ (by omega) rfl)
          have p2 : wr.cell? ⟨b1, off1 + k * 3 + 2, none⟩ = some (.bool xs[k].h) := (hbel.cell hb1).trans (hc1 k hlt 2 _ (by omega) rfl)
          have q0 : wr.cell? ⟨b2, off2 + k * 3, none⟩ = some (.int .i64 ys[k].a) := (hbel.cell hb2).trans (hc2 k hlt2 0 _ (by omega) rfl)
          have q1 : wr.cell? ⟨b2, off2 + k * 3 + 1, none⟩ = some (.int .i64 ys[k].b) := (hbel.cell hb2).trans (hc2 k hlt2 1 _ (by omega) rfl)
          have q2 : wr.cell? ⟨b2, off2 + k * 3 + 2, none⟩ = some (.bool ys[k].h) := (hbel.cell hb2).trans (hc2 k hlt2 2 _ (by omega) rfl)
          have i0 : (0 : Int) ≤ (k : Int) := by omega
          have i1 : (k : Int) < (xs.length : Int) := by omega
          have i2 : (k : Int) < (ys.length : Int) := by omega
          have hlw := hbel.size
          clear hc1 hc2
          by_cases he : xs[k] = ys[k]
          all_goals
            have hd : decide (xs[k] = ys[k]) = _ := (by first | exact decide_eq_true he | exact decide_eq_false he)
            have Hd := Lib.hid hd; have He := Lib.hid he; clear hd he
            go_wp2_with fail
            go_region_held3 (fun w' => w'.cell? ⟨b1, off1 + k * 3, none⟩ = some (.int .i64 xs[k].a) ∧ w'.cell? ⟨b1, off1 + k * 3 + 1, none⟩ = some (.int .i64 xs[k].b) ∧ w'.cell? ⟨b1, off1 + k * 3 + 2, none⟩ = some (.bool xs[k].h) ∧ w'.cell? ⟨b2, off2 + k * 3, none⟩ = some (.int .i64 ys[k].a) ∧ w'.cell? ⟨b2, off2 + k * 3 + 1, none⟩ = some (.int .i64 ys[k].b) ∧ w'.cell? ⟨b2, off2 + k * 3 + 2, none⟩ = some (.bool ys[k].h)) (first | go_keep | (go_split_ands; refine ⟨?_, ?_, ?_, ?_, ?_, ?_⟩ <;> (refine below_cell hbb rfl ?_; assumption))) (first | (go_at_call 38; refine (laws_eqWire_any xs[k] ys[k] _).mono ?_; rintro e w2 ⟨rfl, hbb⟩; rw [Hd.out]))
            go_wp2_with fail
            have hz2 := hbb.size
            have hz3 : wr.heap.size ≤ w2.heap.size := hz2
            have hbel2 : Below w.heap.size w w2 := Below.trans hbel.drew (Below.mono hbb hlw)
            first
              | (go_roundw
                 case rel => exact ⟨k + 1, by omega, by go_num, eqE_step hpre hlt hlt2 He.out, hbel2⟩
                 case measure => simp [intOf]; omega)
              | (go_ret; exact ⟨ret_bool (eqE_fail hlt hlt2 He.out), hbel2⟩)
        · clear hc1 hc2
          go_wp2_with fail
          go_ret
          exact ⟨ret_bool (eqE_end hpre (by omega) (by omega)), (by repeat (first | exact Below.refl _ _ | assumption | refine Below.drew ?_ | refine below_drewN ?_ _ | refine Below.alloc ?_ (by first | omega | (simp <;> omega)) _ | refine Below.setCell ?_ (by first | omega | (simp <;> omega)) _ | refine Below.trans ?_ (Below.mono (by assumption) (by first | omega | (simp <;> omega)))))⟩
  · have hd : decide (xs = ys) = false := by rw [decide_eq_false_iff_not]; rintro rfl; exact hlen rfl
    have hne : ((xs.length : Int) != (ys.length : Int)) = true := by rw [bne_iff_ne]; omega
    rw [hd]
    obtain ⟨a1, cap1, rfl, _⟩ := ha.form
    obtain ⟨a2, cap2, rfl, _⟩ := hb.form
    clear hlen hd ha hb
    go_enter Tryz.func16, Tryz.ntmps16
    go_wp2_with fail
    go_ret
    exact ⟨rfl, (by repeat (first | exact Below.refl _ _ | assumption | refine Below.drew ?_ | refine below_drewN ?_ _ | refine Below.alloc ?_ (by first | omega | (simp <;> omega)) _ | refine Below.setCell ?_ (by first | omega | (simp <;> omega)) _ | refine Below.trans ?_ (Below.mono (by assumption) (by first | omega | (simp <;> omega)))))⟩
end Go.Proofs.YtliophgfgmjhiaaGreatDoor
namespace Go.Proofs.YtliophgfgmjhiaaGreatDoor
set_option linter.unusedSimpArgs false
set_option linter.unusedVariables false
set_option linter.unnecessarySimpa false
set_option maxRecDepth 200000
open Go.ChangeShapes Go.WideShapes Go.ChangeAt Go.RowKit Go.Joins

theorem info_Wire : (Tryz.prog.info? 40).map (fun i => (i.zero, i.size, i.bytes)) = some (some (.agg #[.int .i64 0, .int .i64 0, .bool false]), 3, 24) := by kernel_rfl
theorem setWire_chain {xs : List EW} {ys : List Value} {k : Nat} (h : k < xs.length) (hl : ys.length = xs.length * 3) :
    (((((xs.take k).flatMap EW.cs ++ ys.drop (k * 3)).set (k * 3) (.int .i64 xs[k].a)).set (k * 3 + 1) (.int .i64 xs[k].b)).set (k * 3 + 2) (.bool xs[k].h)) = (xs.take (k + 1)).flatMap EW.cs ++ ys.drop ((k + 1) * 3) := by
  have e : ((xs.take k).flatMap EW.cs).length = k * 3 := by rw [flat_len EW.len]; simp; omega
  obtain ⟨y0, y1, y2, zs, hz⟩ : ∃ y0 y1 y2 zs, ys.drop (k * 3) = y0 :: y1 :: y2 :: zs := by
    have hd : (ys.drop (k * 3)).length = ys.length - k * 3 := List.length_drop
    match hh : ys.drop (k * 3) with
    | y0 :: y1 :: y2 :: zs => exact ⟨y0, y1, y2, zs, rfl⟩
    | [] => rw [hh] at hd; simp at hd; omega
    | [y0] => rw [hh] at hd; simp at hd; omega
    | [y0, y1] => rw [hh] at hd; simp at hd; omega

  have hz2 : ys.drop ((k + 1) * 3) = zs := by
    rw [show (k + 1) * 3 = k * 3 + 3 from by omega, ← List.drop_drop, hz]; rfl
  rw [hz2, hz, List.take_succ_eq_append_getElem h, List.flatMap_append]
  rw [List.set_append_right _ _ (by rw [e]; omega), e, show k * 3 - k * 3 = 0 from by omega]
  rw [List.set_append_right _ _ (by rw [e]; omega), e, show k * 3 + 1 - k * 3 = 1 from by omega]
  rw [List.set_append_right _ _ (by rw [e]; omega), e, show k * 3 + 2 - k * 3 = 2 from by omega]
  simp [EW.cs]
end Go.Proofs.YtliophgfgmjhiaaGreatDoor
namespace Go.Proofs.YtliophgfgmjhiaaGreatDoor
set_option linter.unusedSimpArgs false
set_option linter.unusedVariables false
set_option linter.unnecessarySimpa false
set_option maxRecDepth 200000
open Go.ChangeShapes Go.WideShapes Go.ChangeAt Go.RowKit

theorem eqcase_Wire (x y : EW) : ((x.a == y.a) = false) ∨ ((x.a == y.a) = true ∧ (x.b == y.b) = false) ∨ ((x.a == y.a) = true ∧ (x.b == y.b) = true ∧ (x.h == y.h) = false) ∨ ((x.a == y.a) = true ∧ (x.b == y.b) = true ∧ (x.h == y.h) = true) := by
  cases h0 : (x.a == y.a) <;>
  cases h1 : (x.b == y.b) <;>
  cases h2 : (x.h == y.h) <;> simp
end Go.Proofs.YtliophgfgmjhiaaGreatDoor
namespace Go.Proofs.YtliophgfgmjhiaaGreatDoor
set_option linter.unusedSimpArgs false
set_option linter.unusedVariables false
set_option linter.unnecessarySimpa false
set_option maxRecDepth 200000
open Go.ChangeShapes Go.WideShapes Go.ChangeAt Go.RowKit

/-- Two diagrams are the same. -/
def diaB (a b : Dia) : Bool := decide (a.n = b.n ∧ a.ns = b.ns ∧ a.ws = b.ws ∧ a.turn = b.turn ∧ a.root = b.root)
theorem dia_no {a b : Dia} (h : ¬ (a.n = b.n ∧ a.ns = b.ns ∧ a.ws = b.ws ∧ a.turn = b.turn ∧ a.root = b.root)) : false = diaB a b := (decide_eq_false h).symm
theorem dia_yes {a b : Dia} (h : a.n = b.n ∧ a.ns = b.ns ∧ a.ws = b.ws ∧ a.turn = b.turn ∧ a.root = b.root) : true = diaB a b := (decide_eq_true h).symm
theorem e2_at {w : World} {v : Value} {L : List E2} (h : RdE w v E2.cs 2 L) : ∃ A c, v = .slice A L.length c ∧ Hid (∀ k (_ : k < L.length), ∃ b off, A = some ⟨b, off, none⟩ ∧ b < w.heap.size ∧ w.cell? ⟨b, off + k * 2, none⟩ = some (.int .i64 (L.getD k ⟨0, 0⟩).a) ∧ w.cell? ⟨b, off + k * 2 + 1, none⟩ = some (.int .i64 (L.getD k ⟨0, 0⟩).b)) := by
  rcases h.cases0 E2.len with ⟨he, A, c, rfl⟩ | ⟨hpos, b, off, cap, rfl, hb1, hcap, hcm, hcs⟩
  · exact ⟨A, c, by rw [he]; rfl, fun k hk => absurd hk (by rw [he]; simp)⟩
  · refine ⟨_, _, rfl, fun k hk => ⟨b, off, rfl, hb1, ?_⟩⟩
    have e : L.getD k ⟨0, 0⟩ = L[k] := by simp [List.getD, hk]
    rw [e]
    exact ⟨hcs k hk 0 _ (by omega) rfl, hcs k hk 1 _ (by omega) rfl⟩
theorem eW_at {w : World} {v : Value} {L : List EW} (h : RdE w v EW.cs 3 L) : ∃ A c, v = .slice A L.length c ∧ Hid (∀ k (_ : k < L.length), ∃ b off, A = some ⟨b, off, none⟩ ∧ b < w.heap.size ∧ w.cell? ⟨b, off + k * 3, none⟩ = some (.int .i64 (L.getD k ⟨0, 0, false⟩).a) ∧ w.cell? ⟨b, off + k * 3 + 1, none⟩ = some (.int .i64 (L.getD k ⟨0, 0, false⟩).b) ∧ w.cell? ⟨b, off + k * 3 + 2, none⟩ = some (.bool (L.getD k ⟨0, 0, false⟩).h)) := by
  rcases h.cases0 EW.len with ⟨he, A, c, rfl⟩ | ⟨hpos, b, off, cap, rfl, hb1, hcap, hcm, hcs⟩
  · exact ⟨A, c, by rw [he]; rfl, fun k hk => absurd hk (by rw [he]; simp)⟩
  · refine ⟨_, _, rfl, fun k hk => ⟨b, off, rfl, hb1, ?_⟩⟩
    have e : L.getD k ⟨0, 0, false⟩ = L[k] := by simp [List.getD, hk]
    rw [e]
    exact ⟨hcs k hk 0 _ (by omega) rfl, hcs k hk 1 _ (by omega) rfl, hcs k hk 2 _ (by omega) rfl⟩
theorem E2.eq_of {x y : E2} (h : (x.a == y.a) = true) (h1 : (x.b == y.b) = true) : x = y := by
  cases x; cases y; simp only [E2.mk.injEq]; exact ⟨LawfulBEq.eq_of_beq h, LawfulBEq.eq_of_beq h1⟩
theorem EW.eq_of {x y : EW} (h : (x.a == y.a) = true) (h1 : (x.b == y.b) = true) (h2 : (x.h == y.h) = true) : x = y := by
  cases x; cases y; simp only [EW.mk.injEq]; exact ⟨LawfulBEq.eq_of_beq h, LawfulBEq.eq_of_beq h1, LawfulBEq.eq_of_beq h2⟩
def SameN {α : Type} (d : α) (xs ys : List α) (k : Nat) : Prop := ∀ j, j < k → xs.getD j d = ys.getD j d
theorem SameN.next {α : Type} {d : α} {xs ys : List α} {k : Nat} (h : SameN d xs ys k) (h2 : xs.getD k d = ys.getD k d) : SameN d xs ys (k + 1) := by
  intro j hj
  by_cases e : j = k
  · subst e; exact h2
  · exact h j (by omega)
theorem SameN.all {α : Type} {d : α} {xs ys : List α} {m : Nat} (h : SameN d xs ys m) (hx : xs.length = m) (hy : ys.length = m) : xs = ys := by
  apply List.ext_getElem (by omega)
  intro i h1 h2
  have := h i (by omega)
  simpa [List.getD, h1, h2] using this
theorem ne_bne {x y : Int} (h : ¬ x = y) : (x != y) = true := by simpa using h
theorem eq_bne {x y : Int} (h : x = y) : (x != y) = false := by simpa using h
end Go.Proofs.YtliophgfgmjhiaaGreatDoor
