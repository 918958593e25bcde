/- The text of a log: the reference. -/
import Derived.Test.YtindldkileidmaaDoorLg0
import Derived.BigRegion
import Derived.BigQuiet
namespace Go.Proofs.YtindldkileidmaaDoor
set_option linter.unusedSimpArgs false
set_option linter.unusedVariables false
set_option linter.unnecessarySimpa false
set_option maxRecDepth 200000
open Go.ChangeShapes Go.WideShapes Go.ChangeAt Go.RowKit

theorem rw_at {w : World} {v : Value} {gs : List E3} (h : RdE w v E3.cs 3 gs) : ∃ A c, v = .slice A gs.length c ∧ Hid (∀ k, k < gs.length → ∃ b off, A = some ⟨b, off, none⟩ ∧ b < w.heap.size ∧ w.cell? ⟨b, off + k * 3, none⟩ = some (.int .i64 (gs.getD k ⟨0, 0, 0⟩).a) ∧ w.cell? ⟨b, off + k * 3 + 1, none⟩ = some (.int .i64 (gs.getD k ⟨0, 0, 0⟩).b) ∧ w.cell? ⟨b, off + k * 3 + 2, none⟩ = some (.int .i64 (gs.getD k ⟨0, 0, 0⟩).c)) := by
  rcases h.cases0 E3.len with ⟨he, A, c, rfl⟩ | ⟨_, b, off, cap, rfl, hb, hl, hm, hc⟩
  · subst he
    exact ⟨A, c, rfl, show ∀ _, _ from fun k hk => by simp at hk⟩
  · refine ⟨_, cap, rfl, show ∀ _, _ from fun k hk => ⟨b, off, rfl, hb, ?_⟩⟩
    have e : gs.getD k ⟨0, 0, 0⟩ = gs[k] := by simp [List.getD, hk]
    rw [e]
    exact ⟨hc k hk 0 _ (by decide) rfl, hc k hk 1 _ (by decide) rfl, hc k hk 2 _ (by decide) rfl⟩
set_option maxHeartbeats 2000000 in
theorem spec_l17Word_any (k : Nat) (w : World) (h1 : 1 ≤ k) (h5 : k ≤ 5) : Calls Tryd.prog 14 #[.int .i64 (k : Int)] w fun e w' => e = .returned (.string (wordOf k)) ∧ Below w.heap.size w w' := by
  have : k = 1 ∨ k = 2 ∨ k = 3 ∨ k = 4 ∨ k = 5 := by omega
  rcases this with rfl | rfl | rfl | rfl | rfl
  all_goals
    go_enter Tryd.func14, Tryd.ntmps14
    go_wp2_with fail
    go_ret
    exact ⟨rfl, (by repeat (first | exact Below.refl _ _ | assumption | refine Below.drew ?_ | refine below_drewN ?_ _ | refine Below.alloc ?_ (by first | omega | (simp <;> omega)) _ | refine Below.setCell ?_ (by first | omega | (simp <;> omega)) _ | refine Below.trans ?_ (Below.mono (by assumption) (by first | omega | (simp <;> omega)))))⟩
theorem lit_two (w : World) (b c : Int) (B : Nat) (hB : w.heap.size = B) : RdI (w.alloc (.cells #[.int .i64 b, .int .i64 c] 3)) (.slice (some ⟨B, 0, none⟩) 2 2) [b, c] := by
  subst hB
  refine ⟨by simp, .inr ⟨w.heap.size, 0, 2, rfl, by simp, by simp, by decide, fun j u hj => ?_⟩⟩
  have := news_cells w [.int .i64 b, .int .i64 c] 3 j u hj
  rwa [Addr.add_lit] at this
theorem allIn_two (b c : Int) : allIn [b, c] 0 39 = (decide (0 ≤ b ∧ b ≤ 39) && decide (0 ≤ c ∧ c ≤ 39)) := by simp [allIn]
theorem ok_two {a b c : Int} (ha : a = 1 ∨ a = 4) : okStep ⟨a, b, c⟩ = allIn [b, c] 0 39 := by
  rw [allIn_two]; unfold okStep twoR
  rcases ha with rfl | rfl <;> simp
theorem ok_one {a b c : Int} (h1 : ¬ a = 1) (h4 : ¬ a = 4) (ha : 1 ≤ a ∧ a ≤ 5) : okStep ⟨a, b, c⟩ = (allIn [b, c] 0 39 && decide (c = 0)) := by
  rw [allIn_two]; unfold okStep twoR
  simp [h1, h4, ha]
theorem ok_none {a b c : Int} (ha : ¬ (1 ≤ a ∧ a ≤ 5)) : okStep ⟨a, b, c⟩ = false := by
  unfold okStep
  rw [decide_eq_false ha]; rfl
set_option maxHeartbeats 4000000 in
theorem spec_l17Step_any (x : E3) (w : World) : Calls Tryd.prog 27 #[.agg #[.int .i64 x.a, .int .i64 x.b, .int .i64 x.c]] w fun e w' => e = .returned (.bool (okStep x)) ∧ Below w.heap.size w w' := by
  obtain ⟨a, b, c⟩ := x
  dsimp only
  by_cases h1 : a = 1
  · subst h1
    have HO := Lib.hid (ok_two (a := 1) (b := b) (c := c) (by decide))
    go_enter Tryd.func27, Tryd.ntmps27
    go_wp2_with fail
    refine (l1In_p _ _ _ _).mono ?_; rintro e w1 ⟨rfl, rfl⟩
    rw [show decide ((1 : Int) ≤ 1 ∧ (1 : Int) ≤ 5) = true from by decide]
    go_wp2_with fail
    refine (spec_l1All_any _ [b, c] 0 39 _ (lit_two (w.alloc (.cells #[.int .i64 1, .int .i64 b, .int .i64 c] 36)) b c (w.heap.size + 1) (by simp))).mono ?_; rintro e w2 ⟨rfl, rfl⟩
    cases hb : allIn [b, c] 0 39 with
    | true =>
      rw [hb] at HO; clear hb
      go_wp2_with fail
      go_ret
      exact ⟨by (rw [HO.out]; try rfl), (by repeat (first | exact Below.refl _ _ | assumption | refine Below.drew ?_ | refine below_drewN ?_ _ | refine Below.alloc ?_ (by first | omega | (simp <;> omega)) _ | refine Below.setCell ?_ (by first | omega | (simp <;> omega)) _ | refine Below.trans ?_ (Below.mono (by assumption) (by first | omega | (simp <;> omega)))))⟩
    | false =>
      rw [hb] at HO; clear hb
      go_wp2_with fail
      go_ret
      exact ⟨by (rw [HO.out]; try rfl), (by repeat (first | exact Below.refl _ _ | assumption | refine Below.drew ?_ | refine below_drewN ?_ _ | refine Below.alloc ?_ (by first | omega | (simp <;> omega)) _ | refine Below.setCell ?_ (by first | omega | (simp <;> omega)) _ | refine Below.trans ?_ (Below.mono (by assumption) (by first | omega | (simp <;> omega)))))⟩
  by_cases h4 : a = 4
  · subst h4
    have HO := Lib.hid (ok_two (a := 4) (b := b) (c := c) (by decide))
    go_enter Tryd.func27, Tryd.ntmps27
    go_wp2_with fail
    refine (l1In_p _ _ _ _).mono ?_; rintro e w1 ⟨rfl, rfl⟩
    rw [show decide ((1 : Int) ≤ 4 ∧ (4 : Int) ≤ 5) = true from by decide]
    go_wp2_with fail
    refine (spec_l1All_any _ [b, c] 0 39 _ (lit_two (w.alloc (.cells #[.int .i64 4, .int .i64 b, .int .i64 c] 36)) b c (w.heap.size + 1) (by simp))).mono ?_; rintro e w2 ⟨rfl, rfl⟩
    cases hb : allIn [b, c] 0 39 with
    | true =>
      rw [hb] at HO; clear hb
      go_wp2_with fail
      go_ret
      exact ⟨by (rw [HO.out]; try rfl), (by repeat (first | exact Below.refl _ _ | assumption | refine Below.drew ?_ | refine below_drewN ?_ _ | refine Below.alloc ?_ (by first | omega | (simp <;> omega)) _ | refine Below.setCell ?_ (by first | omega | (simp <;> omega)) _ | refine Below.trans ?_ (Below.mono (by assumption) (by first | omega | (simp <;> omega)))))⟩
    | false =>
      rw [hb] at HO; clear hb
      go_wp2_with fail
      go_ret
      exact ⟨by (rw [HO.out]; try rfl), (by repeat (first | exact Below.refl _ _ | assumption | refine Below.drew ?_ | refine below_drewN ?_ _ | refine Below.alloc ?_ (by first | omega | (simp <;> omega)) _ | refine Below.setCell ?_ (by first | omega | (simp <;> omega)) _ | refine Below.trans ?_ (Below.mono (by assumption) (by first | omega | (simp <;> omega)))))⟩
  have i1 : (a == 1) = false := by simp [h1]
  have i4 : (a == 4) = false := by simp [h4]
  by_cases ha : 1 ≤ a ∧ a ≤ 5
  · have HO := Lib.hid (ok_one (b := b) (c := c) h1 h4 ha)
    have HD := Lib.hid (decide_eq_true ha)
    clear h1 h4 ha
    go_enter Tryd.func27, Tryd.ntmps27
    go_wp2_with fail
    refine (l1In_p _ _ _ _).mono ?_; rintro e w1 ⟨rfl, rfl⟩
    rw [HD.out]
    go_wp2_with fail
    refine (spec_l1All_any _ [b, c] 0 39 _ (lit_two (w.alloc (.cells #[.int .i64 a, .int .i64 b, .int .i64 c] 36)) b c (w.heap.size + 1) (by simp))).mono ?_; rintro e w2 ⟨rfl, rfl⟩
    cases hb : allIn [b, c] 0 39 with
    | true =>
      rw [hb] at HO; clear hb
      by_cases hc : c = 0
      · have HC := Lib.hid (decide_eq_true hc)
        have i5 : (c == 0) = true := by simp [hc]
        clear hc
        go_wp2_with fail
        go_ret
        exact ⟨by rw [HO.out, HC.out]; simp, (by repeat (first | exact Below.refl _ _ | assumption | refine Below.drew ?_ | refine below_drewN ?_ _ | refine Below.alloc ?_ (by first | omega | (simp <;> omega)) _ | refine Below.setCell ?_ (by first | omega | (simp <;> omega)) _ | refine Below.trans ?_ (Below.mono (by assumption) (by first | omega | (simp <;> omega)))))⟩
      · have HC := Lib.hid (decide_eq_false hc)
        have i5 : (c == 0) = false := by simp [hc]
        clear hc
        go_wp2_with fail
        go_ret
        exact ⟨by rw [HO.out, HC.out]; simp, (by repeat (first | exact Below.refl _ _ | assumption | refine Below.drew ?_ | refine below_drewN ?_ _ | refine Below.alloc ?_ (by first | omega | (simp <;> omega)) _ | refine Below.setCell ?_ (by first | omega | (simp <;> omega)) _ | refine Below.trans ?_ (Below.mono (by assumption) (by first | omega | (simp <;> omega)))))⟩
    | false =>
      rw [hb] at HO; clear hb
      go_wp2_with fail
      go_ret
      exact ⟨by rw [HO.out]; simp, (by repeat (first | exact Below.refl _ _ | assumption | refine Below.drew ?_ | refine below_drewN ?_ _ | refine Below.alloc ?_ (by first | omega | (simp <;> omega)) _ | refine Below.setCell ?_ (by first | omega | (simp <;> omega)) _ | refine Below.trans ?_ (Below.mono (by assumption) (by first | omega | (simp <;> omega)))))⟩
  · have HO := Lib.hid (ok_none (b := b) (c := c) ha)
    have HD := Lib.hid (decide_eq_false ha)
    clear h1 h4 ha
    go_enter Tryd.func27, Tryd.ntmps27
    go_wp2_with fail
    refine (l1In_p _ _ _ _).mono ?_; rintro e w1 ⟨rfl, rfl⟩
    rw [HD.out]
    go_wp2_with fail
    go_ret
    exact ⟨by (rw [HO.out]; try rfl), (by repeat (first | exact Below.refl _ _ | assumption | refine Below.drew ?_ | refine below_drewN ?_ _ | refine Below.alloc ?_ (by first | omega | (simp <;> omega)) _ | refine Below.setCell ?_ (by first | omega | (simp <;> omega)) _ | refine Below.trans ?_ (Below.mono (by assumption) (by first | omega | (simp <;> omega)))))⟩
end Go.Proofs.YtindldkileidmaaDoor
