/- Gate: the laws' helpers: equal, marked, held. -/
import Derived.Test.YtbcjligkjoimmaaZ00M
import Derived.Test.YtbcjligkjoimmaaZ01M
namespace Go.Proofs.Ytbcjligkjoimmaa
set_option linter.unusedSimpArgs false
set_option linter.unusedVariables false
set_option linter.unnecessarySimpa false
set_option maxRecDepth 200000
open Go.ChangeShapes Go.WideShapes Go.ChangeAt Go.RowKit

theorem laws_eqGate_any (x y : E3) (w : World) :
    Calls Try.prog 80 #[.agg #[.int .i64 x.a, .int .i64 x.b, .int .i64 x.c], .agg #[.int .i64 y.a, .int .i64 y.b, .int .i64 y.c]] w fun e w' => e = .returned (.bool (decide (x = y))) ∧ Below w.heap.size w w' := by
  obtain ⟨xa, xb, xc⟩ := x
  obtain ⟨ya, yb, yc⟩ := y
  dsimp only
  go_enter Try.func80, Try.ntmps80
  go_wp2_with fail
  all_goals (go_ret; exact ⟨ret_bool (by go_light; rw [Bool.eq_iff_iff]; simp only [decide_eq_true_eq, beq_iff_eq, Bool.false_eq_true, true_iff, false_iff, iff_true, iff_false]; (try simp_all [E3.mk.injEq]) <;> (try omega)), (by repeat (first | exact Below.refl _ _ | assumption | refine Below.drew ?_ | refine below_drewN ?_ _ | refine Below.alloc ?_ (by first | omega | (simp <;> omega)) _ | refine Below.setCell ?_ (by first | omega | (simp <;> omega)) _ | refine Below.trans ?_ (Below.mono (by assumption) (by first | omega | (simp <;> omega)))))⟩)

theorem laws_eqGateS_any (va vb : Value) (xs ys : List E3) (w : World) (ha : RdE w va E3.cs 3 xs) (hb : RdE w vb E3.cs 3 ys) :
    Calls Try.prog 35 #[va, vb] w fun e w' => e = .returned (.bool (decide (xs = ys))) ∧ Below w.heap.size w w' := by
  by_cases hlen : xs.length = ys.length
  · have hf : ((xs.length : Int) != (ys.length : Int)) = false := by rw [hlen]; simp
    rcases ha.cases0 E3.len with ⟨rfl, a1, cap1, rfl⟩ | ⟨hx, b1, off1, cap1, rfl, hb1, hl1, hm1, hc1⟩
    · have hy : ys = [] := List.eq_nil_of_length_eq_zero (by simpa using hlen.symm)
      subst hy
      obtain ⟨a2, cap2, rfl, _⟩ := hb.form
      clear hlen hf ha hb
      go_enter Try.func35, Try.ntmps35
      go_wp2_with fail
      refine wp_loop_rounds 1 ?_
      rw [rounds_succ]
      go_wp2_with fail
      go_ret
      exact ⟨rfl, (by repeat (first | exact Below.refl _ _ | assumption | refine Below.drew ?_ | refine below_drewN ?_ _ | refine Below.alloc ?_ (by first | omega | (simp <;> omega)) _ | refine Below.setCell ?_ (by first | omega | (simp <;> omega)) _ | refine Below.trans ?_ (Below.mono (by assumption) (by first | omega | (simp <;> omega)))))⟩
    · rcases hb.cases0 E3.len with ⟨rfl, a2, cap2, rfl⟩ | ⟨hy, b2, off2, cap2, rfl, hb2, hl2, hm2, hc2⟩
      · simp at hlen; subst hlen; simp at hx
      have hlen1 : xs.length ≤ ys.length := by omega
      have hlen2 : ys.length ≤ xs.length := by omega
      clear hlen ha hb
      go_enter Try.func35, Try.ntmps35
      go_wp2_with fail
      go_loopw [5] (fun i wr => ∃ k : Nat, k ≤ xs.length ∧ i = .int .i64 k ∧ Hid (xs.take k = ys.take k) ∧ Below w.heap.size w wr) (fun i _ => xs.length - (intOf i).toNat)
      case atStart => exact ⟨0, Nat.zero_le _, rfl, rfl, Below.refl _ _⟩
      case round =>
        obtain ⟨k, hk, rfl, hpre, hbel⟩ := hrel
        by_cases hlt : k < xs.length
        · have hlt2 : k < ys.length := by omega
          have p0 : wr.cell? ⟨b1, off1 + k * 3, none⟩ = some (.int .i64 xs[k].a) := (hbel.cell hb1).trans (hc1 k hlt 0 _ (by omega) rfl)
          have p1 : wr.cell? ⟨b1, off1 + k * 3 + 1, none⟩ = some (.int .i64 xs[k].b) := (hbel.cell hb1).trans (hc1 k hlt 1 _ (by omega) rfl)
          have p2 : wr.cell? ⟨b1, off1 + k * 3 + 2, none⟩ = some (.int .i64 xs[k].c) := (hbel.cell hb1).trans (hc1 k hlt 2 _ (by omega) rfl)
          have q0 : wr.cell? ⟨b2, off2 + k * 3, none⟩ = some (.int .i64 ys[k].a) := (hbel.cell hb2).trans (hc2 k hlt2 0 _ (by omega) rfl)
          have q1 : wr.cell? ⟨b2, off2 + k * 3 + 1, none⟩ = some (.int .i64 ys[k].b) := (hbel.cell hb2).trans (hc2 k hlt2 1 _ (by omega) rfl)
          have q2 : wr.cell? ⟨b2, off2 + k * 3 + 2, none⟩ = some (.int .i64 ys[k].c) := (hbel.cell hb2).trans (hc2 k hlt2 2 _ (by omega) rfl)
          have i0 : (0 : Int) ≤ (k : Int) := by omega
          have i1 : (k : Int) < (xs.length : Int) := by omega
          have i2 : (k : Int) < (ys.length : Int) := by omega
          have hlw := hbel.size
          clear hc1 hc2
          by_cases he : xs[k] = ys[k]
          all_goals
            have hd : decide (xs[k] = ys[k]) = _ := (by first | exact decide_eq_true he | exact decide_eq_false he)
            have Hd := Lib.hid hd; have He := Lib.hid he; clear hd he
            go_wp2_with fail
            go_region_held3 (fun w' => w'.cell? ⟨b1, off1 + k * 3, none⟩ = some (.int .i64 xs[k].a) ∧ w'.cell? ⟨b1, off1 + k * 3 + 1, none⟩ = some (.int .i64 xs[k].b) ∧ w'.cell? ⟨b1, off1 + k * 3 + 2, none⟩ = some (.int .i64 xs[k].c) ∧ w'.cell? ⟨b2, off2 + k * 3, none⟩ = some (.int .i64 ys[k].a) ∧ w'.cell? ⟨b2, off2 + k * 3 + 1, none⟩ = some (.int .i64 ys[k].b) ∧ w'.cell? ⟨b2, off2 + k * 3 + 2, none⟩ = some (.int .i64 ys[k].c)) (first | go_keep | (go_split_ands; refine ⟨?_, ?_, ?_, ?_, ?_, ?_⟩ <;> (refine below_cell hbb rfl ?_; assumption))) (first | (go_at_call 80; refine (laws_eqGate_any xs[k] ys[k] _).mono ?_; rintro e w2 ⟨rfl, hbb⟩; rw [Hd.out]))
            go_wp2_with fail
            have hz2 := hbb.size
            have hz3 : wr.heap.size ≤ w2.heap.size := hz2
            have hbel2 : Below w.heap.size w w2 := Below.trans hbel.drew (Below.mono hbb hlw)
            first
              | (go_roundw
                 case rel => exact ⟨k + 1, by omega, by go_num, eqE_step hpre hlt hlt2 He.out, hbel2⟩
                 case measure => simp [intOf]; omega)
              | (go_ret; exact ⟨ret_bool (eqE_fail hlt hlt2 He.out), hbel2⟩)
        · clear hc1 hc2
          go_wp2_with fail
          go_ret
          exact ⟨ret_bool (eqE_end hpre (by omega) (by omega)), (by repeat (first | exact Below.refl _ _ | assumption | refine Below.drew ?_ | refine below_drewN ?_ _ | refine Below.alloc ?_ (by first | omega | (simp <;> omega)) _ | refine Below.setCell ?_ (by first | omega | (simp <;> omega)) _ | refine Below.trans ?_ (Below.mono (by assumption) (by first | omega | (simp <;> omega)))))⟩
  · have hd : decide (xs = ys) = false := by rw [decide_eq_false_iff_not]; rintro rfl; exact hlen rfl
    have hne : ((xs.length : Int) != (ys.length : Int)) = true := by rw [bne_iff_ne]; omega
    rw [hd]
    obtain ⟨a1, cap1, rfl, _⟩ := ha.form
    obtain ⟨a2, cap2, rfl, _⟩ := hb.form
    clear hlen hd ha hb
    go_enter Try.func35, Try.ntmps35
    go_wp2_with fail
    go_ret
    exact ⟨rfl, (by repeat (first | exact Below.refl _ _ | assumption | refine Below.drew ?_ | refine below_drewN ?_ _ | refine Below.alloc ?_ (by first | omega | (simp <;> omega)) _ | refine Below.setCell ?_ (by first | omega | (simp <;> omega)) _ | refine Below.trans ?_ (Below.mono (by assumption) (by first | omega | (simp <;> omega)))))⟩

theorem laws_markGateS_any (v : Value) (base n : Nat) (xs : List Value) (k : Int) (w : World) (h : w.ownsRow base 58 3 v n xs) (hk0 : 0 ≤ k) (hk1 : k + n * 3 ≤ 4611686018427387904) (hn : n ≤ 1000000000000) :
    Calls Try.prog 40 #[v, .int .i64 k] w fun e w' => e = .returned (.int .i64 (k + ((n * 3 : Nat) : Int))) ∧ w'.ownsRow base 58 3 v n (marks k (n * 3)) ∧ w.grownBy w' v.ownBlock := by
  rcases Go.Joins.ownsRow_forms h with ⟨rfl, rfl⟩ | ⟨g, cap, rfl⟩
  · have hx : xs = [] := List.eq_nil_of_length_eq_zero (by simpa using h.1)
    subst hx
    go_enter Try.func40, Try.ntmps40
    go_wp2_with fail
    refine wp_loop_rounds 1 ?_
    rw [rounds_succ]
    go_wp2_with fail
    go_ret
    exact ⟨ret_int (by simp), h, World.grownBy.refl _ _⟩
  · have hxl : xs.length = n * 3 := h.1
    have Hx := Lib.hid hxl; clear hxl
    have H0 : Hid (w.ownsRow base 58 3 (.slice (some ⟨g, 0, none⟩) n cap) n (marks k 0 ++ xs.drop 0)) := h
    clear h
    go_enter Try.func40, Try.ntmps40
    go_wp2_with fail
    go_loopw [1, 5] (fun q i wr => ∃ j : Nat, j ≤ n ∧ i = .int .i64 j ∧ q = .int .i64 (k + ((j * 3 : Nat) : Int)) ∧ Hid (wr.ownsRow base 58 3 (.slice (some ⟨g, 0, none⟩) n cap) n (marks k (j * 3) ++ xs.drop (j * 3))) ∧ Hid (w.grownBy wr (some g))) (fun _ i _ => n - (intOf i).toNat)
    case atStart => exact ⟨0, Nat.zero_le _, rfl, by simp, by simpa using H0, World.grownBy.refl _ _⟩
    case round =>
      obtain ⟨j, hj, rfl, rfl, hown, hgr⟩ := hrel
      clear H0
      by_cases hlt : j < n
      · have i1 : (j : Int) < (n : Int) := by omega
        obtain ⟨u0, hu0⟩ := marks_cell hown.out (j := j * 3) (by omega)
        have hf0 := hown.out.frozenAt (j * 3)
        obtain ⟨u1, hu1⟩ := marks_cell hown.out (j := j * 3 + 1) (by omega)
        have hf1 := hown.out.frozenAt (j * 3 + 1)
        obtain ⟨u2, hu2⟩ := marks_cell hown.out (j := j * 3 + 2) (by omega)
        have hf2 := hown.out.frozenAt (j * 3 + 2)
        go_wp2_with fail
        go_roundw
        case rel =>
          have s0 := hown.out
          have g0 := hgr.out
          have t0 := s0.stored (j * 3) (.int .i64 (k + ((j * 3 : Nat) : Int)))
          have s1 := t0.1
          rw [marks_step k (j * 3) xs (by rw [Hx.out]; omega)] at s1
          have g1 := grown_trans0 g0 t0.2
          have t1 := s1.stored (j * 3 + 1) (.int .i64 (k + ((j * 3 + 1 : Nat) : Int)))
          have s2 := t1.1
          rw [marks_step k (j * 3 + 1) xs (by rw [Hx.out]; omega)] at s2
          have g2 := grown_trans0 g1 t1.2
          have t2 := s2.stored (j * 3 + 2) (.int .i64 (k + ((j * 3 + 2 : Nat) : Int)))
          have s3 := t2.1
          rw [marks_step k (j * 3 + 2) xs (by rw [Hx.out]; omega)] at s3
          have g3 := grown_trans0 g2 t2.2
          have v0 : k + ((j * 3 : Nat) : Int) = k + (j : Int) * 3 := by omega
          have v1 : k + ((j * 3 + 1 : Nat) : Int) = k + (j : Int) * 3 + 1 := by omega
          have v2 : k + ((j * 3 + 2 : Nat) : Int) = k + (j : Int) * 3 + 1 + 1 := by omega
          rw [v0, v1, v2] at s3 g3
          refine ⟨j + 1, by omega, by go_num, ret_num (by omega), ?_, ?_⟩
          · have e : j * 3 + 2 + 1 = (j + 1) * 3 := by omega
            rw [e] at s3
            exact s3
          · exact g3
        case measure => simp [intOf]; omega
      · have e : j = n := by omega
        subst e
        go_wp2_with fail
        go_ret
        refine ⟨rfl, ?_, hgr⟩
        have h1 := hown.out
        rw [List.drop_eq_nil_of_le (by rw [Hx.out]; omega), List.append_nil] at h1
        exact h1

theorem laws_heldGateS_any (v : Value) (n : Nat) (k : Int) (w : World) (h : Rd w v n 3 (marks k (n * 3))) (hk0 : 0 ≤ k) (hk1 : k + n * 3 ≤ 4611686018427387904) (hn : n ≤ 1000000000000) :
    Calls Try.prog 41 #[v, .int .i64 k] w fun e w' => e = .returned (.int .i64 (k + ((n * 3 : Nat) : Int))) ∧ Below w.heap.size w w' := by
  rcases h.2 with ⟨⟨a0, c0, rfl⟩, rfl⟩ | ⟨b, off, cap, rfl, hb, hl, hm, hc⟩
  · go_enter Try.func41, Try.ntmps41
    go_wp2_with fail
    refine wp_loop_rounds 1 ?_
    rw [rounds_succ]
    go_wp2_with fail
    go_ret
    exact ⟨ret_int (by simp), Below.refl _ _⟩
  · go_enter Try.func41, Try.ntmps41
    go_wp2_with fail
    go_loop [1, 5] (fun q i => ∃ j : Nat, j ≤ n ∧ i = .int .i64 j ∧ q = .int .i64 (k + (j : Int) * 3)) (fun _ i => n - (intOf i).toNat)
    case atStart => exact ⟨0, Nat.zero_le _, rfl, by simp⟩
    case round =>
      obtain ⟨j, hj, rfl, rfl⟩ := hrel
      by_cases hlt : j < n
      · have i1 : (j : Int) < (n : Int) := by omega
        have c0 : w.cell? ⟨b, off + j * 3, none⟩ = some (.int .i64 (k + (j : Int) * 3)) := by
          have := hc _ _ (marks_get k (n * 3) (j * 3) (by omega))
          rw [show k + ((j * 3 : Nat) : Int) = k + (j : Int) * 3 from by omega] at this
          exact this
        have c1 : w.cell? ⟨b, off + j * 3 + 1, none⟩ = some (.int .i64 (k + (j : Int) * 3 + 1)) := by
          have := hc _ _ (marks_get k (n * 3) (j * 3 + 1) (by omega))
          rw [show k + ((j * 3 + 1 : Nat) : Int) = k + (j : Int) * 3 + 1 from by omega] at this
          exact this
        have c2 : w.cell? ⟨b, off + j * 3 + 2, none⟩ = some (.int .i64 (k + (j : Int) * 3 + 1 + 1)) := by
          have := hc _ _ (marks_get k (n * 3) (j * 3 + 2) (by omega))
          rw [show k + ((j * 3 + 2 : Nat) : Int) = k + (j : Int) * 3 + 1 + 1 from by omega] at this
          exact this
        clear hc h
        go_wp2_with fail
        go_round
        case rel => exact ⟨j + 1, by omega, by go_num, ret_num (by omega)⟩
        case measure => simp [intOf]; omega
      · clear hc h
        have e : j = n := by omega
        subst e
        go_wp2_with fail
        go_ret
        exact ⟨ret_int (by omega), Below.refl _ _⟩
end Go.Proofs.Ytbcjligkjoimmaa
