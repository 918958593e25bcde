/- The matching power: the reference's search. -/
import Derived.Test.YtfjokpgcmhebfaaMatch2
import Derived.Test.YtfjokpgcmhebfaaSlice0
namespace Go.Proofs.Ytfjokpgcmhebfaa
set_option linter.unusedSimpArgs false
set_option linter.unusedVariables false
open Go.ChangeShapes Go.WideShapes Go.ChangeAt Go.RowKit
attribute [local go_sem ↓] Go.wp_at_zero Go.wp_at_succ

def powI (r : Option Nat) : Int := match r with | some m => m | none => -1
theorem resF_range (a b c d : Int) : 0 ≤ resF a b c d ∧ resF a b c d ≤ 2 := by
  unfold resF
  split
  · omega
  · split <;> omega
set_option maxHeartbeats 2000000 in
theorem spec_l11Power_any (x y : R4) (w : World) (hx : GoodS x) (hy : GoodS y) :
    Calls Try.prog 16 #[.agg #[.int .i64 x.a, .int .i64 x.b, .int .i64 x.c, .int .i64 x.d], .agg #[.int .i64 y.a, .int .i64 y.b, .int .i64 y.c, .int .i64 y.d]] w fun e w' => e = .returned (.int .i64 (powI (powM x y))) ∧ Below w.heap.size w w' := by
  obtain ⟨⟨x1, x2⟩, ⟨x3, x4⟩, ⟨x5, x6⟩, x7, x8⟩ := good_bd hx
  obtain ⟨r, hr⟩ : ∃ r, r = powM x y := ⟨_, rfl⟩
  rw [← hr]
  have H0 : Hid (r = firstM (okM x y) (8 - 0) 0) := hr
  clear hr
  go_enter Try.func16, Try.ntmps16
  go_wp2_with fail
  go_loopw [5] (fun i wr => ∃ m : Nat, m ≤ 8 ∧ i = .int .i64 m ∧ Hid (r = firstM (okM x y) (8 - m) m) ∧ wr.cell? ⟨w.heap.size, 0, none⟩ = some (.int .i64 x.a) ∧ wr.cell? ⟨w.heap.size, 1, none⟩ = some (.int .i64 x.b) ∧ wr.cell? ⟨w.heap.size, 2, none⟩ = some (.int .i64 x.c) ∧ wr.cell? ⟨w.heap.size, 3, none⟩ = some (.int .i64 x.d) ∧ wr.cell? ⟨w.heap.size + 1, 0, none⟩ = some (.int .i64 y.a) ∧ wr.cell? ⟨w.heap.size + 1, 1, none⟩ = some (.int .i64 y.b) ∧ wr.cell? ⟨w.heap.size + 1, 2, none⟩ = some (.int .i64 y.c) ∧ wr.cell? ⟨w.heap.size + 1, 3, none⟩ = some (.int .i64 y.d) ∧ Below w.heap.size w wr) (fun i _ => 8 - (intOf i).toNat)
  case atStart => exact ⟨0, by omega, rfl, H0, (by repeat (first | (refine Eq.trans (World.cell?_alloc_at _ _ _ _ ?hh) ?_; (case hh => (simp; done)); rfl) | refine cell_alloc_keep _ ?_)), (by repeat (first | (refine Eq.trans (World.cell?_alloc_at _ _ _ _ ?hh) ?_; (case hh => (simp; done)); rfl) | refine cell_alloc_keep _ ?_)), (by repeat (first | (refine Eq.trans (World.cell?_alloc_at _ _ _ _ ?hh) ?_; (case hh => (simp; done)); rfl) | refine cell_alloc_keep _ ?_)), (by repeat (first | (refine Eq.trans (World.cell?_alloc_at _ _ _ _ ?hh) ?_; (case hh => (simp; done)); rfl) | refine cell_alloc_keep _ ?_)), (by repeat (first | (refine Eq.trans (World.cell?_alloc_at _ _ _ _ ?hh) ?_; (case hh => (simp; done)); rfl) | refine cell_alloc_keep _ ?_)), (by repeat (first | (refine Eq.trans (World.cell?_alloc_at _ _ _ _ ?hh) ?_; (case hh => (simp; done)); rfl) | refine cell_alloc_keep _ ?_)), (by repeat (first | (refine Eq.trans (World.cell?_alloc_at _ _ _ _ ?hh) ?_; (case hh => (simp; done)); rfl) | refine cell_alloc_keep _ ?_)), (by repeat (first | (refine Eq.trans (World.cell?_alloc_at _ _ _ _ ?hh) ?_; (case hh => (simp; done)); rfl) | refine cell_alloc_keep _ ?_)), (by repeat (first | exact Below.refl _ _ | assumption | refine Below.drew ?_ | refine below_drewN ?_ _ | refine Below.alloc ?_ (by first | omega | (simp <;> omega)) _ | refine Below.setCell ?_ (by first | omega | (simp <;> omega)) _ | refine Below.trans ?_ (Below.mono (by assumption) (by first | omega | (simp <;> omega)))))⟩
  case round =>
    obtain ⟨m, hm, rfl, hf, a0, a1, a2, a3, b0, b1, b2, b3, hbel⟩ := hrel
    clear H0
    by_cases hlt : m < 8
    · have ht := good_turn hy m
      have l1 := World.block_lt_of_cell? wr ⟨w.heap.size + 1, 0, none⟩ b0
      obtain ⟨⟨t1, t2⟩, ⟨t3, t4⟩, ⟨t5, t6⟩, t7, t8⟩ := good_bd ht
      go_wp2_with fail
      go_region_held3 (fun w' => w'.cell? ⟨w.heap.size, 0, none⟩ = some (.int .i64 x.a) ∧ w'.cell? ⟨w.heap.size, 1, none⟩ = some (.int .i64 x.b) ∧ w'.cell? ⟨w.heap.size, 2, none⟩ = some (.int .i64 x.c) ∧ w'.cell? ⟨w.heap.size, 3, none⟩ = some (.int .i64 x.d) ∧ w'.cell? ⟨w.heap.size + 1, 0, none⟩ = some (.int .i64 y.a) ∧ w'.cell? ⟨w.heap.size + 1, 1, none⟩ = some (.int .i64 y.b) ∧ w'.cell? ⟨w.heap.size + 1, 2, none⟩ = some (.int .i64 y.c) ∧ w'.cell? ⟨w.heap.size + 1, 3, none⟩ = some (.int .i64 y.d))
        (first | (go_split_ands; (try dsimp only); (repeat' apply And.intro) <;> (repeat (apply cell_set_keep; omega)) <;> first | assumption | (apply cell_alloc_keep; assumption) | (apply cell_alloc_swap; (any_goals assumption); omega) | (refine below_cell hbb rfl ?_; assumption) | (refine below_cell hbc rfl ?_; assumption)) | go_keep)
        (first | (go_at_call 29; refine (spec_l1Turn_any y m _ hlt hy).mono ?_; rintro e w2 ⟨rfl, hbb⟩; have l2 := hbb.size; (try simp at l2); (try (have nb := new_box4d hbb; obtain ⟨⟨p0, p1, p2, p3⟩, ⟨g0, g1, g2, g3⟩, pl⟩ := nb))) | (go_at_call 28; refine (spec_l1Add_any x (turnN m y) _ hx ht).mono ?_; rintro e w3 ⟨rfl, hbc⟩; have l3 := hbc.size; (try simp at l3); (try (have nb := new_box4 hbc; obtain ⟨⟨n0, n1, n2, n3⟩, ⟨f0, f1, f2, f3⟩, nl⟩ := nb)); (try (have nb := old_box4 (b := wr.heap.size) hbc ⟨p0, p1, p2, p3⟩ ⟨g0, g1, g2, g3⟩ pl; obtain ⟨⟨n0, n1, n2, n3⟩, ⟨f0, f1, f2, f3⟩, nl⟩ := nb))))
      all_goals (rename_i hH; obtain ⟨s0, s1, s2, s3, s4, s5, s6, s7⟩ := hH)
      case' refine_2.refine_3.refine_3.refine_3.refine_1.refine_2.refine_1.refine_2.refine_1.refine_2.refine_1.refine_2 =>
        have QQ := box_made (w3 := w3) (z0 := .int .i64 (addR x (turnN m y)).a) (z1 := .int .i64 (addR x (turnN m y)).b) (z2 := .int .i64 (addR x (turnN m y)).c) (z3 := .int .i64 (addR x (turnN m y)).d) (t := 26)
        have HB : Below w.heap.size w (w3.alloc (.cells #[.int .i64 (addR x (turnN m y)).a, .int .i64 (addR x (turnN m y)).b, .int .i64 (addR x (turnN m y)).c, .int .i64 (addR x (turnN m y)).d] 26)) := (by repeat (first | exact Below.refl _ _ | assumption | refine Below.drew ?_ | refine below_drewN ?_ _ | refine Below.alloc ?_ (by first | omega | (simp <;> omega)) _ | refine Below.setCell ?_ (by first | omega | (simp <;> omega)) _ | refine Below.trans ?_ (Below.mono (by assumption) (by first | omega | (simp <;> omega)))))
        revert QQ HB s0 s1 s2 s3 s4 s5 s6 s7
        generalize (w3.alloc _) = W
        generalize w3.heap.size = nb
      case' refine_2.refine_3.refine_3.refine_3.refine_1.refine_2.refine_2.refine_1.refine_2.refine_1.refine_2.refine_1.refine_2 =>
        have QQ := box_set (.int .i64 (addR x (turnN m y)).a) (.int .i64 (addR x (turnN m y)).b) (.int .i64 (addR x (turnN m y)).c) (.int .i64 (addR x (turnN m y)).d) n0 n1 n2 n3 nl
        have HB : Below w.heap.size w ((((w3.setCell ⟨w2.heap.size, 0, none⟩ (.int .i64 (addR x (turnN m y)).a)).setCell ⟨w2.heap.size, 1, none⟩ (.int .i64 (addR x (turnN m y)).b)).setCell ⟨w2.heap.size, 2, none⟩ (.int .i64 (addR x (turnN m y)).c)).setCell ⟨w2.heap.size, 3, none⟩ (.int .i64 (addR x (turnN m y)).d)) := (by repeat (first | exact Below.refl _ _ | assumption | refine Below.drew ?_ | refine below_drewN ?_ _ | refine Below.alloc ?_ (by first | omega | (simp <;> omega)) _ | refine Below.setCell ?_ (by first | omega | (simp <;> omega)) _ | refine Below.trans ?_ (Below.mono (by assumption) (by first | omega | (simp <;> omega)))))
        revert QQ HB s0 s1 s2 s3 s4 s5 s6 s7
        generalize ((((w3.setCell _ _).setCell _ _).setCell _ _).setCell _ _) = W
        generalize w2.heap.size = nb
      case' refine_2.refine_3.refine_3.refine_3.refine_2.refine_1.refine_2.refine_1.refine_2.refine_1.refine_2.refine_1.refine_2 =>
        have QQ := box_set (.int .i64 (addR x (turnN m y)).a) (.int .i64 (addR x (turnN m y)).b) (.int .i64 (addR x (turnN m y)).c) (.int .i64 (addR x (turnN m y)).d) n0 n1 n2 n3 nl
        have HB : Below w.heap.size w ((((w3.setCell ⟨wr.heap.size, 0, none⟩ (.int .i64 (addR x (turnN m y)).a)).setCell ⟨wr.heap.size, 1, none⟩ (.int .i64 (addR x (turnN m y)).b)).setCell ⟨wr.heap.size, 2, none⟩ (.int .i64 (addR x (turnN m y)).c)).setCell ⟨wr.heap.size, 3, none⟩ (.int .i64 (addR x (turnN m y)).d)) := (by repeat (first | exact Below.refl _ _ | assumption | refine Below.drew ?_ | refine below_drewN ?_ _ | refine Below.alloc ?_ (by first | omega | (simp <;> omega)) _ | refine Below.setCell ?_ (by first | omega | (simp <;> omega)) _ | refine Below.trans ?_ (Below.mono (by assumption) (by first | omega | (simp <;> omega)))))
        revert QQ HB s0 s1 s2 s3 s4 s5 s6 s7
        generalize ((((w3.setCell _ _).setCell _ _).setCell _ _).setCell _ _) = W
        generalize wr.heap.size = nb
      all_goals (intro s0 s1 s2 s3 s4 s5 s6 s7 ⟨⟨q0, q1, q2, q3⟩, q4⟩ HB; clear hbel hbb hbc a0 a1 a2 a3 b0 b1 b2 b3)
      all_goals
        have hsz := HB.size
        try clear n0 n1 n2 n3 nl f0 f1 f2 f3
        try clear p0 p1 p2 p3 pl g0 g1 g2 g3
        clear l1 l2 l3 t1 t2 t3 t4 t5 t6 t7 t8 ht
        obtain ⟨s, hs⟩ : ∃ s, s = addR x (turnN m y) := ⟨_, rfl⟩
        rw [← hs] at q0 q1 q2 q3
        have hs' := Lib.hid hs
        try rw [← hs]
        clear hs
        go_wp2_with fail
        go_quiet ((go_at_call 27; exact quiet_left (spec_l11Odd_m _ _)))
        by_cases c0 : s.a % 2 + s.b % 2 + s.c % 2 + s.d % 2 = 0
        · have hp : okM x y m = true := decide_eq_true (Or.inl (by rw [← hs'.out]; exact c0))
          have hr := Lib.hid (first_hit hf hlt hp); clear hp
          go_wp2_with fail
          go_ret
          exact ⟨ret_int (by rw [hr.out]; rfl), (by repeat (first | exact Below.refl _ _ | assumption | refine Below.drew ?_ | refine below_drewN ?_ _ | refine Below.alloc ?_ (by first | omega | (simp <;> omega)) _ | refine Below.setCell ?_ (by first | omega | (simp <;> omega)) _ | refine Below.trans ?_ (Below.mono (by assumption) (by first | omega | (simp <;> omega)))))⟩
        · by_cases c4 : s.a % 2 + s.b % 2 + s.c % 2 + s.d % 2 = 4
          · go_wp2_with fail
            refine (spec_l11Type_any _ _ _ _ _ hx).mono ?_; rintro e w5 ⟨rfl, hb5⟩
            by_cases c1 : resF x.a x.b x.c x.d = 1
            · have hp : okM x y m = true := decide_eq_true (Or.inr (by rw [← hs'.out]; exact ⟨c4, c1⟩))
              have hr := Lib.hid (first_hit hf hlt hp); clear hp
              go_wp2_with fail
              go_ret
              exact ⟨ret_int (by rw [hr.out]; rfl), (by repeat (first | exact Below.refl _ _ | assumption | refine Below.drew ?_ | refine below_drewN ?_ _ | refine Below.alloc ?_ (by first | omega | (simp <;> omega)) _ | refine Below.setCell ?_ (by first | omega | (simp <;> omega)) _ | refine Below.trans ?_ (Below.mono (by assumption) (by first | omega | (simp <;> omega)))))⟩
            · have hp : ¬ okM x y m = true := fun h => (of_decide_eq_true h).elim (by rw [← hs'.out]; exact c0) (fun h => c1 h.2)
              have hr := Lib.hid (first_miss hf hlt hp); clear hp
              go_wp2_with fail
              go_roundw
              case rel =>
                refine ⟨m + 1, by omega, ret_num (by omega), hr.out, ?_, ?_, ?_, ?_, ?_, ?_, ?_, ?_, (by repeat (first | exact Below.refl _ _ | assumption | refine Below.drew ?_ | refine below_drewN ?_ _ | refine Below.alloc ?_ (by first | omega | (simp <;> omega)) _ | refine Below.setCell ?_ (by first | omega | (simp <;> omega)) _ | refine Below.trans ?_ (Below.mono (by assumption) (by first | omega | (simp <;> omega)))))⟩
                all_goals (refine below_cell hb5 rfl ?_; assumption)
              case measure => simp [intOf]; omega
          · have hp : ¬ okM x y m = true := fun h => (of_decide_eq_true h).elim (by rw [← hs'.out]; exact c0) (fun h => c4 (by have := h.1; rw [← hs'.out] at this; exact this))
            have hr := Lib.hid (first_miss hf hlt hp); clear hp
            go_wp2_with fail
            go_roundw
            case rel => exact ⟨m + 1, by omega, ret_num (by omega), hr.out, s0, s1, s2, s3, s4, s5, s6, s7, (by repeat (first | exact Below.refl _ _ | assumption | refine Below.drew ?_ | refine below_drewN ?_ _ | refine Below.alloc ?_ (by first | omega | (simp <;> omega)) _ | refine Below.setCell ?_ (by first | omega | (simp <;> omega)) _ | refine Below.trans ?_ (Below.mono (by assumption) (by first | omega | (simp <;> omega)))))⟩
            case measure => simp [intOf]; omega
    · have e : m = 8 := by omega
      subst e
      have hr := Lib.hid (first_end hf (by omega))
      go_wp2_with fail
      go_ret
      exact ⟨ret_int (by rw [hr.out]; rfl), (by repeat (first | exact Below.refl _ _ | assumption | refine Below.drew ?_ | refine below_drewN ?_ _ | refine Below.alloc ?_ (by first | omega | (simp <;> omega)) _ | refine Below.setCell ?_ (by first | omega | (simp <;> omega)) _ | refine Below.trans ?_ (Below.mono (by assumption) (by first | omega | (simp <;> omega)))))⟩
end Go.Proofs.Ytfjokpgcmhebfaa
