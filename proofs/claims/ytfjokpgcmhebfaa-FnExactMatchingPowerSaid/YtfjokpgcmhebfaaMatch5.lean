/- The matching power: the program's function. -/
import Derived.Test.YtfjokpgcmhebfaaMatch4
namespace Go.Proofs.Ytfjokpgcmhebfaa
set_option linter.unusedSimpArgs false
set_option linter.unusedVariables false
open Go.ChangeShapes Go.WideShapes Go.ChangeAt Go.RowKit

theorem impl_ResidueType_good (x : R4) (t : Int) (w : World) (hx : GoodS x) (h : resS x = t) :
    Calls Try.prog 17 #[.agg #[.int .i64 x.a, .int .i64 x.b, .int .i64 x.c, .int .i64 x.d]] w fun e w' => e = .returned (.tuple #[.int .i64 t, .bool true]) ∧ Below w.heap.size w w' :=
  (impl_ResidueType_any _ _ _ _ _).mono fun _ _ hh => ⟨by rw [hh.1, if_pos (show GoodR x.a x.b x.c x.d from hx), ← h]; rfl, hh.2⟩
theorem impl_ResidueType_bad (x : R4) (w : World) (hx : ¬ GoodS x) :
    Calls Try.prog 17 #[.agg #[.int .i64 x.a, .int .i64 x.b, .int .i64 x.c, .int .i64 x.d]] w fun e w' => e = .returned (.tuple #[.int .i64 0, .bool false]) ∧ Below w.heap.size w w' :=
  (impl_ResidueType_any _ _ _ _ _).mono fun _ _ hh => ⟨by rw [hh.1, if_neg (show ¬ GoodR x.a x.b x.c x.d from hx)], hh.2⟩
theorem oddc_b (s : R4) : 0 ≤ oddc s ∧ oddc s ≤ 4 := by unfold oddc; omega
def half (b : Bool) (t : Int) : Bool := b && (t == 1)
theorem ok_out {x y : R4} {m : Nat} {t : Int} (ht : resS x = t) : okM x y m = ((oddc (addR x (turnN m y)) == 0) || ((oddc (addR x (turnN m y)) == 4) && (t == 1))) := by
  rw [Bool.eq_iff_iff]
  unfold resS at ht
  simp [okM, ht]

set_option maxHeartbeats 4000000 in
theorem impl_MatchingPower_any (x y : R4) (w : World) :
    Calls Try.prog 7 #[.agg #[.int .i64 x.a, .int .i64 x.b, .int .i64 x.c, .int .i64 x.d], .agg #[.int .i64 y.a, .int .i64 y.b, .int .i64 y.c, .int .i64 y.d]] w fun e w' => e = .returned (mval (mpow x y)) ∧ Below w.heap.size w w' := by
  by_cases hx : GoodS x
  · by_cases hy : GoodS y
    · obtain ⟨t, tx⟩ : ∃ t, resS x = t := ⟨_, rfl⟩
      obtain ⟨u, ty⟩ : ∃ u, resS y = u := ⟨_, rfl⟩
      by_cases hne : t = u
      · subst hne
        by_cases h0 : t = 0
        · subst h0
          have Hr := Lib.hid (mpow_0 (y := y) tx)
          go_enter Try.func7, Try.ntmps7
          go_wp2_with fail
          refine (impl_ResidueType_good x _ _ hx tx).mono ?_; rintro e w1 ⟨rfl, hb1⟩
          obtain ⟨hc_hb1, hf_hb1⟩ := bcell hb1; have hz_hb1 := hb1.size; try simp at hz_hb1; have hs0_hb1 : w.heap.size < w1.heap.size := by omega; have hs1_hb1 : w.heap.size + 1 < w1.heap.size := by omega
          go_wp2_with fail
          refine (impl_ResidueType_good y _ _ hy ty).mono ?_; rintro e w2 ⟨rfl, hb2⟩
          replace hb2 := Below.trans hb1 (Below.mono hb2 hb1.size); clear hb1 hc_hb1 hf_hb1; obtain ⟨hc_hb2, hf_hb2⟩ := bcell hb2; have hz_hb2 := hb2.size; try simp at hz_hb2
          go_wp2_with fail
          go_ret2
          exact ⟨by rw [Hr.out]; rfl, (by repeat (first | exact Below.refl _ _ | assumption | refine Below.drew ?_ | refine below_drewN ?_ _ | refine Below.alloc ?_ (by first | omega | (simp <;> omega)) _ | refine Below.setCell ?_ (by first | omega | (simp <;> omega)) _ | refine Below.trans ?_ (Below.mono (by assumption) (by first | omega | (simp <;> omega)))))⟩
        · obtain ⟨r, hr⟩ : ∃ r, r = mpow x y := ⟨_, rfl⟩
          rw [← hr]
          have H0 : Hid (r = firstM (okM x y) (8 - 0) 0) := hr.trans (mpow_eq hx hy (by rw [tx]; exact h0) (tx.trans ty.symm))
          clear hr
          have T0 : (t == 0) = false := by simpa using h0
          obtain ⟨⟨x1, x2⟩, ⟨x3, x4⟩, ⟨x5, x6⟩, x7, x8⟩ := good_bd hx
          go_enter Try.func7, Try.ntmps7
          go_wp2_with fail
          refine (impl_ResidueType_good x _ _ hx tx).mono ?_; rintro e w1 ⟨rfl, hb1⟩
          obtain ⟨hc_hb1, hf_hb1⟩ := bcell hb1; have hz_hb1 := hb1.size; try simp at hz_hb1; have hs0_hb1 : w.heap.size < w1.heap.size := by omega; have hs1_hb1 : w.heap.size + 1 < w1.heap.size := by omega
          go_wp2_with fail
          refine (impl_ResidueType_good y _ _ hy ty).mono ?_; rintro e w2 ⟨rfl, hb2⟩
          have a0 := below_cell (b := w.heap.size) (o := 0) (u := .int .i64 x.a) hb2 rfl (by rw [hc_hb1 _ _ (by simp; omega)]; exact (by repeat (first | (refine Eq.trans (World.cell?_alloc_at _ _ _ _ ?hh) ?_; (case hh => (simp; done)); rfl) | refine cell_alloc_keep _ ?_)))
          have a1 := below_cell (b := w.heap.size) (o := 1) (u := .int .i64 x.b) hb2 rfl (by rw [hc_hb1 _ _ (by simp; omega)]; exact (by repeat (first | (refine Eq.trans (World.cell?_alloc_at _ _ _ _ ?hh) ?_; (case hh => (simp; done)); rfl) | refine cell_alloc_keep _ ?_)))
          have a2 := below_cell (b := w.heap.size) (o := 2) (u := .int .i64 x.c) hb2 rfl (by rw [hc_hb1 _ _ (by simp; omega)]; exact (by repeat (first | (refine Eq.trans (World.cell?_alloc_at _ _ _ _ ?hh) ?_; (case hh => (simp; done)); rfl) | refine cell_alloc_keep _ ?_)))
          have a3 := below_cell (b := w.heap.size) (o := 3) (u := .int .i64 x.d) hb2 rfl (by rw [hc_hb1 _ _ (by simp; omega)]; exact (by repeat (first | (refine Eq.trans (World.cell?_alloc_at _ _ _ _ ?hh) ?_; (case hh => (simp; done)); rfl) | refine cell_alloc_keep _ ?_)))
          have b0 := below_cell (b := w.heap.size + 1) (o := 0) (u := .int .i64 y.a) hb2 rfl (by rw [hc_hb1 _ _ (by simp)]; exact (by repeat (first | (refine Eq.trans (World.cell?_alloc_at _ _ _ _ ?hh) ?_; (case hh => (simp; done)); rfl) | refine cell_alloc_keep _ ?_)))
          have b1 := below_cell (b := w.heap.size + 1) (o := 1) (u := .int .i64 y.b) hb2 rfl (by rw [hc_hb1 _ _ (by simp)]; exact (by repeat (first | (refine Eq.trans (World.cell?_alloc_at _ _ _ _ ?hh) ?_; (case hh => (simp; done)); rfl) | refine cell_alloc_keep _ ?_)))
          have b2 := below_cell (b := w.heap.size + 1) (o := 2) (u := .int .i64 y.c) hb2 rfl (by rw [hc_hb1 _ _ (by simp)]; exact (by repeat (first | (refine Eq.trans (World.cell?_alloc_at _ _ _ _ ?hh) ?_; (case hh => (simp; done)); rfl) | refine cell_alloc_keep _ ?_)))
          have b3 := below_cell (b := w.heap.size + 1) (o := 3) (u := .int .i64 y.d) hb2 rfl (by rw [hc_hb1 _ _ (by simp)]; exact (by repeat (first | (refine Eq.trans (World.cell?_alloc_at _ _ _ _ ?hh) ?_; (case hh => (simp; done)); rfl) | refine cell_alloc_keep _ ?_)))
          replace hb2 := Below.trans hb1 (Below.mono hb2 hb1.size); clear hb1 hc_hb1 hf_hb1; obtain ⟨hc_hb2, hf_hb2⟩ := bcell hb2; have hz_hb2 := hb2.size; try simp at hz_hb2
          have hB2 : Below w.heap.size w w2 := (by repeat (first | exact Below.refl _ _ | assumption | refine Below.drew ?_ | refine below_drewN ?_ _ | refine Below.alloc ?_ (by first | omega | (simp <;> omega)) _ | refine Below.setCell ?_ (by first | omega | (simp <;> omega)) _ | refine Below.trans ?_ (Below.mono (by assumption) (by first | omega | (simp <;> omega)))))
          clear hb2 hc_hb2 hf_hb2
          go_wp2_with fail
          go_loopw [41] (fun i wr => ∃ m : Nat, m ≤ 8 ∧ i = .int .i64 m ∧ Hid (r = firstM (okM x y) (8 - m) m) ∧ wr.cell? ⟨w.heap.size, 0, none⟩ = some (.int .i64 x.a) ∧ wr.cell? ⟨w.heap.size, 1, none⟩ = some (.int .i64 x.b) ∧ wr.cell? ⟨w.heap.size, 2, none⟩ = some (.int .i64 x.c) ∧ wr.cell? ⟨w.heap.size, 3, none⟩ = some (.int .i64 x.d) ∧ wr.cell? ⟨w.heap.size + 1, 0, none⟩ = some (.int .i64 y.a) ∧ wr.cell? ⟨w.heap.size + 1, 1, none⟩ = some (.int .i64 y.b) ∧ wr.cell? ⟨w.heap.size + 1, 2, none⟩ = some (.int .i64 y.c) ∧ wr.cell? ⟨w.heap.size + 1, 3, none⟩ = some (.int .i64 y.d) ∧ Below w.heap.size w wr) (fun i _ => 8 - (intOf i).toNat)
          case atStart => exact ⟨0, by omega, rfl, H0, a0, a1, a2, a3, b0, b1, b2, b3, hB2⟩
          case round =>
            clear a0 a1 a2 a3 b0 b1 b2 b3
            obtain ⟨m, hm, rfl, hf, a0, a1, a2, a3, b0, b1, b2, b3, hbel⟩ := hrel
            clear H0
            by_cases hlt : m < 8
            · have ht := good_turn hy m
              obtain ⟨⟨t1, t2⟩, ⟨t3, t4⟩, ⟨t5, t6⟩, t7, t8⟩ := good_bd ht
              have hsz := hbel.size
              have hok := Lib.hid (ok_out (x := x) (y := y) (m := m) tx)
              obtain ⟨k, hk⟩ : ∃ k, k = oddc (addR x (turnN m y)) := ⟨_, rfl⟩
              have Hk := Lib.hid hk; clear hk
              go_wp2_with fail
              refine (impl_MulOmega_any y m _ hlt hy).mono ?_; rintro e w3 ⟨rfl, hb3⟩
              replace a0 := below_cell hb3 rfl a0; replace a1 := below_cell hb3 rfl a1; replace a2 := below_cell hb3 rfl a2; replace a3 := below_cell hb3 rfl a3
              replace b0 := below_cell hb3 rfl b0; replace b1 := below_cell hb3 rfl b1; replace b2 := below_cell hb3 rfl b2; replace b3 := below_cell hb3 rfl b3
              have hsz3 := hb3.size
              have l3 := World.block_lt_of_cell? w3 _ b0
              have l3a : w.heap.size < w3.heap.size := World.block_lt_of_cell? w3 _ a0
              go_wp2_with fail
              refine (impl_parities_any (addR x (turnN m y)) _ (by simp only [addR]; omega) (by simp only [addR]; omega) (by simp only [addR]; omega) (by simp only [addR]; omega)).mono ?_; rintro e w4 ⟨rfl, hb4⟩
              rw [← Hk.out]
              have hsz4 := hb4.size
              by_cases c0 : k = 0
              · have hp : okM x y m = true := by rw [hok.out, ← Hk.out, c0]; rfl
                have hr := Lib.hid (first_hit hf hlt hp); clear hp
                subst c0
                go_wp2_with fail
                go_ret2
                exact ⟨by rw [hr.out]; rfl, (by repeat (first | exact Below.refl _ _ | assumption | refine Below.drew ?_ | refine below_drewN ?_ _ | refine Below.alloc ?_ (by first | omega | (simp <;> omega)) _ | refine Below.setCell ?_ (by first | omega | (simp <;> omega)) _ | refine Below.trans ?_ (Below.mono (by assumption) (by first | omega | (simp <;> omega)))))⟩
              · by_cases c4 : k = 4
                · subst c4
                  by_cases c1 : t = 1
                  · subst c1
                    have hp : okM x y m = true := by rw [hok.out, ← Hk.out]; rfl
                    have hr := Lib.hid (first_hit hf hlt hp); clear hp
                    go_wp2_with fail
                    go_ret2
                    exact ⟨by rw [hr.out]; rfl, (by repeat (first | exact Below.refl _ _ | assumption | refine Below.drew ?_ | refine below_drewN ?_ _ | refine Below.alloc ?_ (by first | omega | (simp <;> omega)) _ | refine Below.setCell ?_ (by first | omega | (simp <;> omega)) _ | refine Below.trans ?_ (Below.mono (by assumption) (by first | omega | (simp <;> omega)))))⟩
                  · have hp : ¬ okM x y m = true := by rw [hok.out, ← Hk.out]; simpa using c1
                    have T1 : (t == 1) = false := by simpa using c1
                    have hr := Lib.hid (first_miss hf hlt hp); clear hp
                    go_wp2_with fail
                    go_roundw
                    case rel =>
                      refine ⟨m + 1, by omega, ret_num (by omega), hr.out, ?_, ?_, ?_, ?_, ?_, ?_, ?_, ?_, (by repeat (first | exact Below.refl _ _ | assumption | refine Below.drew ?_ | refine below_drewN ?_ _ | refine Below.alloc ?_ (by first | omega | (simp <;> omega)) _ | refine Below.setCell ?_ (by first | omega | (simp <;> omega)) _ | refine Below.trans ?_ (Below.mono (by assumption) (by first | omega | (simp <;> omega)))))⟩
                      all_goals (refine below_cell hb4 rfl ?_; refine cell_alloc_keep _ ?_; refine cell_alloc_keep _ ?_; assumption)
                    case measure => simp [intOf]; omega
                · have hp : ¬ okM x y m = true := by rw [hok.out, ← Hk.out]; simp [c0, c4]
                  have K0 : (k == 0) = false := by simpa using c0
                  have K4 : (k == 4) = false := by simpa using c4
                  have hr := Lib.hid (first_miss hf hlt hp); clear hp
                  go_wp2_with fail
                  go_roundw
                  case rel =>
                    refine ⟨m + 1, by omega, ret_num (by omega), hr.out, ?_, ?_, ?_, ?_, ?_, ?_, ?_, ?_, (by repeat (first | exact Below.refl _ _ | assumption | refine Below.drew ?_ | refine below_drewN ?_ _ | refine Below.alloc ?_ (by first | omega | (simp <;> omega)) _ | refine Below.setCell ?_ (by first | omega | (simp <;> omega)) _ | refine Below.trans ?_ (Below.mono (by assumption) (by first | omega | (simp <;> omega)))))⟩
                    all_goals (refine below_cell hb4 rfl ?_; refine cell_alloc_keep _ ?_; refine cell_alloc_keep _ ?_; assumption)
                  case measure => simp [intOf]; omega
            · have e : m = 8 := by omega
              subst e
              have hr := Lib.hid (first_end hf (by omega))
              go_wp2_with fail
              go_ret2
              exact ⟨by rw [hr.out]; rfl, (by repeat (first | exact Below.refl _ _ | assumption | refine Below.drew ?_ | refine below_drewN ?_ _ | refine Below.alloc ?_ (by first | omega | (simp <;> omega)) _ | refine Below.setCell ?_ (by first | omega | (simp <;> omega)) _ | refine Below.trans ?_ (Below.mono (by assumption) (by first | omega | (simp <;> omega)))))⟩
      · have Hr := Lib.hid (mpow_ne (x := x) (y := y) (by rw [tx, ty]; exact hne))
        go_enter Try.func7, Try.ntmps7
        go_wp2_with fail
        refine (impl_ResidueType_good x _ _ hx tx).mono ?_; rintro e w1 ⟨rfl, hb1⟩
        obtain ⟨hc_hb1, hf_hb1⟩ := bcell hb1; have hz_hb1 := hb1.size; try simp at hz_hb1; have hs0_hb1 : w.heap.size < w1.heap.size := by omega; have hs1_hb1 : w.heap.size + 1 < w1.heap.size := by omega
        go_wp2_with fail
        refine (impl_ResidueType_good y _ _ hy ty).mono ?_; rintro e w2 ⟨rfl, hb2⟩
        replace hb2 := Below.trans hb1 (Below.mono hb2 hb1.size); clear hb1 hc_hb1 hf_hb1; obtain ⟨hc_hb2, hf_hb2⟩ := bcell hb2; have hz_hb2 := hb2.size; try simp at hz_hb2
        go_wp2_with fail
        go_ret2
        exact ⟨by rw [Hr.out]; rfl, (by repeat (first | exact Below.refl _ _ | assumption | refine Below.drew ?_ | refine below_drewN ?_ _ | refine Below.alloc ?_ (by first | omega | (simp <;> omega)) _ | refine Below.setCell ?_ (by first | omega | (simp <;> omega)) _ | refine Below.trans ?_ (Below.mono (by assumption) (by first | omega | (simp <;> omega)))))⟩
    · have Hr := Lib.hid (mpow_y (x := x) hy)
      go_enter Try.func7, Try.ntmps7
      go_wp2_with fail
      refine (impl_ResidueType_good x _ _ hx rfl).mono ?_; rintro e w1 ⟨rfl, hb1⟩
      obtain ⟨hc_hb1, hf_hb1⟩ := bcell hb1; have hz_hb1 := hb1.size; try simp at hz_hb1; have hs0_hb1 : w.heap.size < w1.heap.size := by omega; have hs1_hb1 : w.heap.size + 1 < w1.heap.size := by omega
      go_wp2_with fail
      refine (impl_ResidueType_bad y _ hy).mono ?_; rintro e w2 ⟨rfl, hb2⟩
      replace hb2 := Below.trans hb1 (Below.mono hb2 hb1.size); clear hb1 hc_hb1 hf_hb1; obtain ⟨hc_hb2, hf_hb2⟩ := bcell hb2; have hz_hb2 := hb2.size; try simp at hz_hb2
      go_wp2_with fail
      go_ret2
      exact ⟨by rw [Hr.out]; rfl, (by repeat (first | exact Below.refl _ _ | assumption | refine Below.drew ?_ | refine below_drewN ?_ _ | refine Below.alloc ?_ (by first | omega | (simp <;> omega)) _ | refine Below.setCell ?_ (by first | omega | (simp <;> omega)) _ | refine Below.trans ?_ (Below.mono (by assumption) (by first | omega | (simp <;> omega)))))⟩
  · have Hr := Lib.hid (mpow_x (y := y) hx)
    obtain ⟨r2, ok2, h2⟩ : ∃ r2 ok2, ∀ w, Calls Try.prog 17 #[.agg #[.int .i64 y.a, .int .i64 y.b, .int .i64 y.c, .int .i64 y.d]] w fun e w' => e = .returned (.tuple #[.int .i64 r2, .bool ok2]) ∧ Below w.heap.size w w' := by
      by_cases hy : GoodS y
      · exact ⟨_, _, fun w => impl_ResidueType_good y _ w hy rfl⟩
      · exact ⟨_, _, fun w => impl_ResidueType_bad y w hy⟩
    go_enter Try.func7, Try.ntmps7
    go_wp2_with fail
    refine (impl_ResidueType_bad x _ hx).mono ?_; rintro e w1 ⟨rfl, hb1⟩
    obtain ⟨hc_hb1, hf_hb1⟩ := bcell hb1; have hz_hb1 := hb1.size; try simp at hz_hb1; have hs0_hb1 : w.heap.size < w1.heap.size := by omega; have hs1_hb1 : w.heap.size + 1 < w1.heap.size := by omega
    go_wp2_with fail
    refine (h2 _).mono ?_; rintro e w2 ⟨rfl, hb2⟩
    replace hb2 := Below.trans hb1 (Below.mono hb2 hb1.size); clear hb1 hc_hb1 hf_hb1; obtain ⟨hc_hb2, hf_hb2⟩ := bcell hb2; have hz_hb2 := hb2.size; try simp at hz_hb2
    go_wp2_with fail
    go_ret2
    exact ⟨by rw [Hr.out]; rfl, (by repeat (first | exact Below.refl _ _ | assumption | refine Below.drew ?_ | refine below_drewN ?_ _ | refine Below.alloc ?_ (by first | omega | (simp <;> omega)) _ | refine Below.setCell ?_ (by first | omega | (simp <;> omega)) _ | refine Below.trans ?_ (Below.mono (by assumption) (by first | omega | (simp <;> omega)))))⟩
end Go.Proofs.Ytfjokpgcmhebfaa
