/- Rewrite: the laws' helpers: equal, marked, held. -/
import Derived.Test.YtgonldkgghikiaaDoorSlice1
import Derived.Test.YtgonldkgghikiaaDoorInt1
namespace Go.Proofs.YtgonldkgghikiaaDoor
set_option linter.unusedSimpArgs false
set_option linter.unusedVariables false
set_option linter.unnecessarySimpa false
set_option maxRecDepth 200000
open Go.ChangeShapes Go.WideShapes Go.ChangeAt Go.RowKit

theorem laws_eqRewrite_any (x y : E3) (w : World) :
    Calls Tryd.prog 24 #[.agg #[.int .i64 x.a, .int .i64 x.b, .int .i64 x.c], .agg #[.int .i64 y.a, .int .i64 y.b, .int .i64 y.c]] w fun e w' => e = .returned (.bool (decide (x = y))) ∧ Below w.heap.size w w' := by
  obtain ⟨xa, xb, xc⟩ := x
  obtain ⟨ya, yb, yc⟩ := y
  dsimp only
  go_enter Tryd.func24, Tryd.ntmps24
  go_wp2_with fail
  all_goals (go_ret; exact ⟨ret_bool (by go_light; rw [Bool.eq_iff_iff]; simp only [decide_eq_true_eq, beq_iff_eq, Bool.false_eq_true, true_iff, false_iff, iff_true, iff_false]; (try simp_all [E3.mk.injEq]) <;> (try omega)), (by repeat (first | exact Below.refl _ _ | assumption | refine Below.drew ?_ | refine below_drewN ?_ _ | refine Below.alloc ?_ (by first | omega | (simp <;> omega)) _ | refine Below.setCell ?_ (by first | omega | (simp <;> omega)) _ | refine Below.trans ?_ (Below.mono (by assumption) (by first | omega | (simp <;> omega)))))⟩)

theorem laws_eqRewriteS_any (va vb : Value) (xs ys : List E3) (w : World) (ha : RdE w va E3.cs 3 xs) (hb : RdE w vb E3.cs 3 ys) :
    Calls Tryd.prog 13 #[va, vb] w fun e w' => e = .returned (.bool (decide (xs = ys))) ∧ Below w.heap.size w w' := by
  by_cases hlen : xs.length = ys.length
  · have hf : ((xs.length : Int) != (ys.length : Int)) = false := by rw [hlen]; simp
    rcases ha.cases0 E3.len with ⟨rfl, a1, cap1, rfl⟩ | ⟨hx, b1, off1, cap1, rfl, hb1, hl1, hm1, hc1⟩
    · have hy : ys = [] := List.eq_nil_of_length_eq_zero (by simpa using hlen.symm)
      subst hy
      obtain ⟨a2, cap2, rfl, _⟩ := hb.form
      clear hlen hf ha hb
      go_enter Tryd.func13, Tryd.ntmps13
      go_wp2_with fail
      refine wp_loop_rounds 1 ?_
      rw [rounds_succ]
      go_wp2_with fail
      go_ret
      exact ⟨rfl, (by repeat (first | exact Below.refl _ _ | assumption | refine Below.drew ?_ | refine below_drewN ?_ _ | refine Below.alloc ?_ (by first | omega | (simp <;> omega)) _ | refine Below.setCell ?_ (by first | omega | (simp <;> omega)) _ | refine Below.trans ?_ (Below.mono (by assumption) (by first | omega | (simp <;> omega)))))⟩
    · rcases hb.cases0 E3.len with ⟨rfl, a2, cap2, rfl⟩ | ⟨hy, b2, off2, cap2, rfl, hb2, hl2, hm2, hc2⟩
      · simp at hlen; subst hlen; simp at hx
      have hlen1 : xs.length ≤ ys.length := by omega
      have hlen2 : ys.length ≤ xs.length := by omega
      clear hlen ha hb
      go_enter Tryd.func13, Tryd.ntmps13
      go_wp2_with fail
      go_loopw [5] (fun i wr => ∃ k : Nat, k ≤ xs.length ∧ i = .int .i64 k ∧ Hid (xs.take k = ys.take k) ∧ Below w.heap.size w wr) (fun i _ => xs.length - (intOf i).toNat)
      case atStart => exact ⟨0, Nat.zero_le _, rfl, rfl, Below.refl _ _⟩
      case round =>
        obtain ⟨k, hk, rfl, hpre, hbel⟩ := hrel
        by_cases hlt : k < xs.length
        · have hlt2 : k < ys.length := by omega
          have p0 : wr.cell? ⟨b1, off1 + k * 3, none⟩ = some (.int .i64 xs[k].a) := (hbel.cell hb1).trans (hc1 k hlt 0 _ (by omega) rfl)
          have p1 : wr.cell? ⟨b1, off1 + k * 3 + 1, none⟩ = some (.int .i64 xs[k].b) := (hbel.cell hb1).trans (hc1 k hlt 1 _ (by omega) rfl)
          have p2 : wr.cell? ⟨b1, off1 + k * 3 + 2, none⟩ = some (.int .i64 xs[k].c) := (hbel.cell hb1).trans (hc1 k hlt 2 _ (by omega) rfl)
          have q0 : wr.cell? ⟨b2, off2 + k * 3, none⟩ = some (.int .i64 ys[k].a) := (hbel.cell hb2).trans (hc2 k hlt2 0 _ (by omega) rfl)
          have q1 : wr.cell? ⟨b2, off2 + k * 3 + 1, none⟩ = some (.int .i64 ys[k].b) := (hbel.cell hb2).trans (hc2 k hlt2 1 _ (by omega) rfl)
          have q2 : wr.cell? ⟨b2, off2 + k * 3 + 2, none⟩ = some (.int .i64 ys[k].c) := (hbel.cell hb2).trans (hc2 k hlt2 2 _ (by omega) rfl)
          have i0 : (0 : Int) ≤ (k : Int) := by omega
          have i1 : (k : Int) < (xs.length : Int) := by omega
          have i2 : (k : Int) < (ys.length : Int) := by omega
          have hlw := hbel.size
          clear hc1 hc2
          by_cases he : xs[k] = ys[k]
          all_goals
            have hd : decide (xs[k] = ys[k]) = _ := (by first | exact decide_eq_true he | exact decide_eq_false he)
            have Hd := Lib.hid hd; have He := Lib.hid he; clear hd he
            go_wp2_with fail
            go_region_held3 (fun w' => w'.cell? ⟨b1, off1 + k * 3, none⟩ = some (.int .i64 xs[k].a) ∧ w'.cell? ⟨b1, off1 + k * 3 + 1, none⟩ = some (.int .i64 xs[k].b) ∧ w'.cell? ⟨b1, off1 + k * 3 + 2, none⟩ = some (.int .i64 xs[k].c) ∧ w'.cell? ⟨b2, off2 + k * 3, none⟩ = some (.int .i64 ys[k].a) ∧ w'.cell? ⟨b2, off2 + k * 3 + 1, none⟩ = some (.int .i64 ys[k].b) ∧ w'.cell? ⟨b2, off2 + k * 3 + 2, none⟩ = some (.int .i64 ys[k].c)) (first | go_keep | (go_split_ands; refine ⟨?_, ?_, ?_, ?_, ?_, ?_⟩ <;> (refine below_cell hbb rfl ?_; assumption))) (first | (go_at_call 24; refine (laws_eqRewrite_any xs[k] ys[k] _).mono ?_; rintro e w2 ⟨rfl, hbb⟩; rw [Hd.out]))
            go_wp2_with fail
            have hz2 := hbb.size
            have hz3 : wr.heap.size ≤ w2.heap.size := hz2
            have hbel2 : Below w.heap.size w w2 := Below.trans hbel.drew (Below.mono hbb hlw)
            first
              | (go_roundw
                 case rel => exact ⟨k + 1, by omega, by go_num, eqE_step hpre hlt hlt2 He.out, hbel2⟩
                 case measure => simp [intOf]; omega)
              | (go_ret; exact ⟨ret_bool (eqE_fail hlt hlt2 He.out), hbel2⟩)
        · clear hc1 hc2
          go_wp2_with fail
          go_ret
          exact ⟨ret_bool (eqE_end hpre (by omega) (by omega)), (by repeat (first | exact Below.refl _ _ | assumption | refine Below.drew ?_ | refine below_drewN ?_ _ | refine Below.alloc ?_ (by first | omega | (simp <;> omega)) _ | refine Below.setCell ?_ (by first | omega | (simp <;> omega)) _ | refine Below.trans ?_ (Below.mono (by assumption) (by first | omega | (simp <;> omega)))))⟩
  · have hd : decide (xs = ys) = false := by rw [decide_eq_false_iff_not]; rintro rfl; exact hlen rfl
    have hne : ((xs.length : Int) != (ys.length : Int)) = true := by rw [bne_iff_ne]; omega
    rw [hd]
    obtain ⟨a1, cap1, rfl, _⟩ := ha.form
    obtain ⟨a2, cap2, rfl, _⟩ := hb.form
    clear hlen hd ha hb
    go_enter Tryd.func13, Tryd.ntmps13
    go_wp2_with fail
    go_ret
    exact ⟨rfl, (by repeat (first | exact Below.refl _ _ | assumption | refine Below.drew ?_ | refine below_drewN ?_ _ | refine Below.alloc ?_ (by first | omega | (simp <;> omega)) _ | refine Below.setCell ?_ (by first | omega | (simp <;> omega)) _ | refine Below.trans ?_ (Below.mono (by assumption) (by first | omega | (simp <;> omega)))))⟩

end Go.Proofs.YtgonldkgghikiaaDoor
