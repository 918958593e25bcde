/- The walk through the law FnExactMatchingPower. -/
import Derived.Test.YtfjokpgcmhebfaaMatch5
import Derived.Test.YtfjokpgcmhebfaaOpen1
namespace Go.Proofs.Ytfjokpgcmhebfaa
set_option linter.unusedSimpArgs false
set_option linter.unusedVariables false
open Go.ChangeShapes Go.WideShapes Go.ChangeAt Go.RowKit
attribute [local go_sem ↓] Go.wp_at_zero Go.wp_at_succ

theorem spec_MatchingPower_is (x y : R4) (p : Int) (q : Bool) (w : World) (h : mval (mpow x y) = .tuple #[.int .i64 p, .bool q]) :
    Calls Try.prog 5 #[.agg #[.int .i64 x.a, .int .i64 x.b, .int .i64 x.c, .int .i64 x.d], .agg #[.int .i64 y.a, .int .i64 y.b, .int .i64 y.c, .int .i64 y.d]] w fun e w' => e = .returned (.tuple #[.int .i64 p, .bool q]) ∧ Below w.heap.size w w' := by
  rw [← h]; exact spec_MatchingPower_any x y w
theorem impl_MatchingPower_is (x y : R4) (p : Int) (q : Bool) (w : World) (h : mval (mpow x y) = .tuple #[.int .i64 p, .bool q]) :
    Calls Try.prog 7 #[.agg #[.int .i64 x.a, .int .i64 x.b, .int .i64 x.c, .int .i64 x.d], .agg #[.int .i64 y.a, .int .i64 y.b, .int .i64 y.c, .int .i64 y.d]] w fun e w' => e = .returned (.tuple #[.int .i64 p, .bool q]) ∧ Below w.heap.size w w' := by
  rw [← h]; exact impl_MatchingPower_any x y w

set_option maxHeartbeats 4000000 in
theorem walk_FnExactMatchingPower (v0 v1 : Value) (w : World) (h0 : IsRing v0) (h1 : IsRing v1) :
    Calls Try.prog 3 #[v0, v1] w fun e w' => e = .returned (.bool true) ∧ Below w.heap.size w w' := by
  obtain ⟨_, _, _, _, rfl, ⟨a, rfl, ha0, ha1⟩, ⟨b, rfl, hb0, hb1⟩, ⟨c, rfl, hc0, hc1⟩, ⟨d, rfl, hd0, hd1⟩⟩ := h0
  obtain ⟨_, _, _, _, rfl, ⟨a', rfl, ha0', ha1'⟩, ⟨b', rfl, hb0', hb1'⟩, ⟨c', rfl, hc0', hc1'⟩, ⟨d', rfl, hd0', hd1'⟩⟩ := h1
  obtain ⟨x, hx⟩ : ∃ x : R4, x = ⟨a, b, c, d⟩ := ⟨_, rfl⟩
  obtain ⟨y, hy⟩ : ∃ y : R4, y = ⟨a', b', c', d'⟩ := ⟨_, rfl⟩
  obtain ⟨rfl, rfl, rfl, rfl⟩ : a = x.a ∧ b = x.b ∧ c = x.c ∧ d = x.d := by rw [hx]; exact ⟨rfl, rfl, rfl, rfl⟩
  obtain ⟨rfl, rfl, rfl, rfl⟩ : a' = y.a ∧ b' = y.b ∧ c' = y.c ∧ d' = y.d := by rw [hy]; exact ⟨rfl, rfl, rfl, rfl⟩
  clear hx hy
  obtain ⟨p, q, hpq⟩ : ∃ p q, mval (mpow x y) = .tuple #[.int .i64 p, .bool q] := ⟨_, _, rfl⟩
  go_enter Try.func3, Try.ntmps3
  go_wp2_with fail
  have a0 : ((w.alloc (.cells #[.int .i64 x.a, .int .i64 x.b, .int .i64 x.c, .int .i64 x.d] 23)).alloc (.cells #[.int .i64 y.a, .int .i64 y.b, .int .i64 y.c, .int .i64 y.d] 23)).cell? ⟨w.heap.size, 0, none⟩ = some (.int .i64 x.a) := (by repeat (first | (refine Eq.trans (World.cell?_alloc_at _ _ _ _ ?hh) ?_; (case hh => (simp; done)); rfl) | refine cell_alloc_keep _ ?_))
  have a1 : ((w.alloc (.cells #[.int .i64 x.a, .int .i64 x.b, .int .i64 x.c, .int .i64 x.d] 23)).alloc (.cells #[.int .i64 y.a, .int .i64 y.b, .int .i64 y.c, .int .i64 y.d] 23)).cell? ⟨w.heap.size, 1, none⟩ = some (.int .i64 x.b) := (by repeat (first | (refine Eq.trans (World.cell?_alloc_at _ _ _ _ ?hh) ?_; (case hh => (simp; done)); rfl) | refine cell_alloc_keep _ ?_))
  have a2 : ((w.alloc (.cells #[.int .i64 x.a, .int .i64 x.b, .int .i64 x.c, .int .i64 x.d] 23)).alloc (.cells #[.int .i64 y.a, .int .i64 y.b, .int .i64 y.c, .int .i64 y.d] 23)).cell? ⟨w.heap.size, 2, none⟩ = some (.int .i64 x.c) := (by repeat (first | (refine Eq.trans (World.cell?_alloc_at _ _ _ _ ?hh) ?_; (case hh => (simp; done)); rfl) | refine cell_alloc_keep _ ?_))
  have a3 : ((w.alloc (.cells #[.int .i64 x.a, .int .i64 x.b, .int .i64 x.c, .int .i64 x.d] 23)).alloc (.cells #[.int .i64 y.a, .int .i64 y.b, .int .i64 y.c, .int .i64 y.d] 23)).cell? ⟨w.heap.size, 3, none⟩ = some (.int .i64 x.d) := (by repeat (first | (refine Eq.trans (World.cell?_alloc_at _ _ _ _ ?hh) ?_; (case hh => (simp; done)); rfl) | refine cell_alloc_keep _ ?_))
  have b0 : ((w.alloc (.cells #[.int .i64 x.a, .int .i64 x.b, .int .i64 x.c, .int .i64 x.d] 23)).alloc (.cells #[.int .i64 y.a, .int .i64 y.b, .int .i64 y.c, .int .i64 y.d] 23)).cell? ⟨w.heap.size + 1, 0, none⟩ = some (.int .i64 y.a) := (by repeat (first | (refine Eq.trans (World.cell?_alloc_at _ _ _ _ ?hh) ?_; (case hh => (simp; done)); rfl) | refine cell_alloc_keep _ ?_))
  have b1 : ((w.alloc (.cells #[.int .i64 x.a, .int .i64 x.b, .int .i64 x.c, .int .i64 x.d] 23)).alloc (.cells #[.int .i64 y.a, .int .i64 y.b, .int .i64 y.c, .int .i64 y.d] 23)).cell? ⟨w.heap.size + 1, 1, none⟩ = some (.int .i64 y.b) := (by repeat (first | (refine Eq.trans (World.cell?_alloc_at _ _ _ _ ?hh) ?_; (case hh => (simp; done)); rfl) | refine cell_alloc_keep _ ?_))
  have b2 : ((w.alloc (.cells #[.int .i64 x.a, .int .i64 x.b, .int .i64 x.c, .int .i64 x.d] 23)).alloc (.cells #[.int .i64 y.a, .int .i64 y.b, .int .i64 y.c, .int .i64 y.d] 23)).cell? ⟨w.heap.size + 1, 2, none⟩ = some (.int .i64 y.c) := (by repeat (first | (refine Eq.trans (World.cell?_alloc_at _ _ _ _ ?hh) ?_; (case hh => (simp; done)); rfl) | refine cell_alloc_keep _ ?_))
  have b3 : ((w.alloc (.cells #[.int .i64 x.a, .int .i64 x.b, .int .i64 x.c, .int .i64 x.d] 23)).alloc (.cells #[.int .i64 y.a, .int .i64 y.b, .int .i64 y.c, .int .i64 y.d] 23)).cell? ⟨w.heap.size + 1, 3, none⟩ = some (.int .i64 y.d) := (by repeat (first | (refine Eq.trans (World.cell?_alloc_at _ _ _ _ ?hh) ?_; (case hh => (simp; done)); rfl) | refine cell_alloc_keep _ ?_))
  go_region_held3 (fun w' => w'.cell? ⟨w.heap.size, 0, none⟩ = some (.int .i64 x.a) ∧ w'.cell? ⟨w.heap.size, 1, none⟩ = some (.int .i64 x.b) ∧ w'.cell? ⟨w.heap.size, 2, none⟩ = some (.int .i64 x.c) ∧ w'.cell? ⟨w.heap.size, 3, none⟩ = some (.int .i64 x.d) ∧ w'.cell? ⟨w.heap.size + 1, 0, none⟩ = some (.int .i64 y.a) ∧ w'.cell? ⟨w.heap.size + 1, 1, none⟩ = some (.int .i64 y.b) ∧ w'.cell? ⟨w.heap.size + 1, 2, none⟩ = some (.int .i64 y.c) ∧ w'.cell? ⟨w.heap.size + 1, 3, none⟩ = some (.int .i64 y.d))
    (first | (go_split_ands; (try dsimp only); (repeat' apply And.intro) <;> first | assumption | (refine below_cell hbb rfl ?_; assumption)) | go_keep)
    (first | (go_at_call_of 6 (R4.a x); refine (laws_toRing_any _ _ _ _ _).mono ?_; rintro e w2 ⟨rfl, hbb⟩; have lz := hbb.size; (try simp at lz)) | (go_at_call_of 6 (R4.a y); refine (laws_toRing_any _ _ _ _ _).mono ?_; rintro e w2 ⟨rfl, hbb⟩; have lz := hbb.size; (try simp at lz)) | (go_at_call_of 5 (R4.a x); refine (spec_MatchingPower_is x y p q _ hpq).mono ?_; rintro e w2 ⟨rfl, hbb⟩; have lz := hbb.size; (try simp at lz)))
  rename_i hH; obtain ⟨s0, s1, s2, s3, s4, s5, s6, s7⟩ := hH
  go_wp2_with fail
  go_region_held3 (fun w' => w'.cell? ⟨w.heap.size, 0, none⟩ = some (.int .i64 x.a) ∧ w'.cell? ⟨w.heap.size, 1, none⟩ = some (.int .i64 x.b) ∧ w'.cell? ⟨w.heap.size, 2, none⟩ = some (.int .i64 x.c) ∧ w'.cell? ⟨w.heap.size, 3, none⟩ = some (.int .i64 x.d) ∧ w'.cell? ⟨w.heap.size + 1, 0, none⟩ = some (.int .i64 y.a) ∧ w'.cell? ⟨w.heap.size + 1, 1, none⟩ = some (.int .i64 y.b) ∧ w'.cell? ⟨w.heap.size + 1, 2, none⟩ = some (.int .i64 y.c) ∧ w'.cell? ⟨w.heap.size + 1, 3, none⟩ = some (.int .i64 y.d))
    (first | (go_split_ands; (try dsimp only); (repeat' apply And.intro) <;> first | assumption | (refine below_cell hbb rfl ?_; assumption)) | go_keep)
    (first | (go_at_call_of 6 (R4.a x); refine (laws_toRing_any _ _ _ _ _).mono ?_; rintro e w2 ⟨rfl, hbb⟩; have lz := hbb.size; (try simp at lz)) | (go_at_call_of 6 (R4.a y); refine (laws_toRing_any _ _ _ _ _).mono ?_; rintro e w2 ⟨rfl, hbb⟩; have lz := hbb.size; (try simp at lz)) | (go_at_call_of 7 (R4.a x); refine (impl_MatchingPower_is x y p q _ hpq).mono ?_; rintro e w2 ⟨rfl, hbb⟩; have lz := hbb.size; (try simp at lz)))
  rename_i hH; obtain ⟨s0, s1, s2, s3, s4, s5, s6, s7⟩ := hH
  go_wp2_with fail
  go_ret
  exact ⟨rfl, (by repeat (first | exact Below.refl _ _ | assumption | refine Below.drew ?_ | refine below_drewN ?_ _ | refine Below.alloc ?_ (by first | omega | (simp <;> omega)) _ | refine Below.setCell ?_ (by first | omega | (simp <;> omega)) _ | refine Below.trans ?_ (Below.mono (by assumption) (by first | omega | (simp <;> omega)))))⟩
end Go.Proofs.Ytfjokpgcmhebfaa
