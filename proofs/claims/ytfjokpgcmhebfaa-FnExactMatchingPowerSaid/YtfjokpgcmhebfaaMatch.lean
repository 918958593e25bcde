/- The matching power of two ring numbers, in the program and in the reference. -/
import Derived.Test.YtfjokpgcmhebfaaRing1
import Derived.Test.YtfjokpgcmhebfaaBits
import Derived.Deep.RegionHeld3
import Derived.Deep.DrawnRows
namespace Go.Proofs.Ytfjokpgcmhebfaa
set_option linter.unusedSimpArgs false
set_option linter.unusedVariables false
open Go.ChangeShapes Go.WideShapes Go.ChangeAt Go.RowKit
attribute [local go_sem ↓] Go.wp_at_zero Go.wp_at_succ

structure R4 where (a b c d : Int)
def rot (x : R4) : R4 := ⟨-x.d, x.a, x.b, x.c⟩
def turnN : Nat → R4 → R4
  | 0, x => x
  | j + 1, x => rot (turnN j x)
def GoodS (x : R4) : Prop := GoodR x.a x.b x.c x.d
theorem good_rot {x : R4} (h : GoodS x) : GoodS (rot x) := by
  obtain ⟨⟨h1, h2⟩, ⟨h3, h4⟩, ⟨h5, h6⟩, h7, h8⟩ := h
  refine ⟨⟨?_, ?_⟩, ⟨h1, h2⟩, ⟨h3, h4⟩, h5, h6⟩ <;> (simp only [rot]; omega)
theorem good_turn {x : R4} (h : GoodS x) : ∀ j, GoodS (turnN j x)
  | 0 => h
  | j + 1 => good_rot (good_turn h j)
theorem good_bd {x : R4} (h : GoodS x) : (-1000000000 ≤ x.a ∧ x.a ≤ 1000000000) ∧ (-1000000000 ≤ x.b ∧ x.b ≤ 1000000000) ∧ (-1000000000 ≤ x.c ∧ x.c ≤ 1000000000) ∧ -1000000000 ≤ x.d ∧ x.d ≤ 1000000000 := h
def R4.val (x : R4) : Value := .agg #[.int .i64 x.a, .int .i64 x.b, .int .i64 x.c, .int .i64 x.d]

set_option maxHeartbeats 2000000 in
theorem spec_l1Turn_any (x : R4) (k : Nat) (w : World) (hk : k < 8) (hg : GoodS x) :
    Calls Try.prog 29 #[.agg #[.int .i64 x.a, .int .i64 x.b, .int .i64 x.c, .int .i64 x.d], .int .i64 k] w fun e w' => e = .returned (.agg #[.int .i64 (turnN k x).a, .int .i64 (turnN k x).b, .int .i64 (turnN k x).c, .int .i64 (turnN k x).d]) ∧ Below w.heap.size w w' := by
  have hm3 : ((k : Int) + 8) % 8 = k := by omega
  go_enter Try.func29, Try.ntmps29
  go_wp2_with fail
  go_loopw [1] (fun i wr => ∃ (j : Nat) (y : R4), j ≤ k ∧ i = .int .i64 ((k : Int) - j) ∧ Hid (y = turnN j x) ∧ wr.cell? ⟨w.heap.size, 0, none⟩ = some (.int .i64 y.a) ∧ wr.cell? ⟨w.heap.size, 1, none⟩ = some (.int .i64 y.b) ∧ wr.cell? ⟨w.heap.size, 2, none⟩ = some (.int .i64 y.c) ∧ wr.cell? ⟨w.heap.size, 3, none⟩ = some (.int .i64 y.d) ∧ wr.frozen? ⟨w.heap.size, 0, none⟩ = false ∧ wr.frozen? ⟨w.heap.size, 1, none⟩ = false ∧ wr.frozen? ⟨w.heap.size, 2, none⟩ = false ∧ wr.frozen? ⟨w.heap.size, 3, none⟩ = false ∧ wr.cell? ⟨w.heap.size + 1, 0, none⟩ = some (.int .i64 0) ∧ wr.cell? ⟨w.heap.size + 1, 1, none⟩ = some (.int .i64 0) ∧ wr.cell? ⟨w.heap.size + 1, 2, none⟩ = some (.int .i64 0) ∧ wr.cell? ⟨w.heap.size + 1, 3, none⟩ = some (.int .i64 0) ∧ wr.frozen? ⟨w.heap.size + 1, 0, none⟩ = false ∧ wr.frozen? ⟨w.heap.size + 1, 1, none⟩ = false ∧ wr.frozen? ⟨w.heap.size + 1, 2, none⟩ = false ∧ wr.frozen? ⟨w.heap.size + 1, 3, none⟩ = false ∧ Below w.heap.size w wr ∧ w.heap.size + 2 ≤ wr.heap.size) (fun i _ => (intOf i).toNat)
  case atStart => exact ⟨0, x, Nat.zero_le _, ret_num (by omega), rfl, (by repeat (first | (refine Eq.trans (World.cell?_alloc_at _ _ _ _ ?hh) ?_; (case hh => (simp; done)); rfl) | refine cell_alloc_keep _ ?_)), (by repeat (first | (refine Eq.trans (World.cell?_alloc_at _ _ _ _ ?hh) ?_; (case hh => (simp; done)); rfl) | refine cell_alloc_keep _ ?_)), (by repeat (first | (refine Eq.trans (World.cell?_alloc_at _ _ _ _ ?hh) ?_; (case hh => (simp; done)); rfl) | refine cell_alloc_keep _ ?_)), (by repeat (first | (refine Eq.trans (World.cell?_alloc_at _ _ _ _ ?hh) ?_; (case hh => (simp; done)); rfl) | refine cell_alloc_keep _ ?_)), (by repeat (first | (refine World.frozen?_alloc_at _ _ _ _ ?hh; case hh => (simp; done)) | (refine frozen_alloc_lt _ ?hh ?_; case hh => first | omega | (simp <;> omega)))), (by repeat (first | (refine World.frozen?_alloc_at _ _ _ _ ?hh; case hh => (simp; done)) | (refine frozen_alloc_lt _ ?hh ?_; case hh => first | omega | (simp <;> omega)))), (by repeat (first | (refine World.frozen?_alloc_at _ _ _ _ ?hh; case hh => (simp; done)) | (refine frozen_alloc_lt _ ?hh ?_; case hh => first | omega | (simp <;> omega)))), (by repeat (first | (refine World.frozen?_alloc_at _ _ _ _ ?hh; case hh => (simp; done)) | (refine frozen_alloc_lt _ ?hh ?_; case hh => first | omega | (simp <;> omega)))), (by repeat (first | (refine Eq.trans (World.cell?_alloc_at _ _ _ _ ?hh) ?_; (case hh => (simp; done)); rfl) | refine cell_alloc_keep _ ?_)), (by repeat (first | (refine Eq.trans (World.cell?_alloc_at _ _ _ _ ?hh) ?_; (case hh => (simp; done)); rfl) | refine cell_alloc_keep _ ?_)), (by repeat (first | (refine Eq.trans (World.cell?_alloc_at _ _ _ _ ?hh) ?_; (case hh => (simp; done)); rfl) | refine cell_alloc_keep _ ?_)), (by repeat (first | (refine Eq.trans (World.cell?_alloc_at _ _ _ _ ?hh) ?_; (case hh => (simp; done)); rfl) | refine cell_alloc_keep _ ?_)), (by repeat (first | (refine World.frozen?_alloc_at _ _ _ _ ?hh; case hh => (simp; done)) | (refine frozen_alloc_lt _ ?hh ?_; case hh => first | omega | (simp <;> omega)))), (by repeat (first | (refine World.frozen?_alloc_at _ _ _ _ ?hh; case hh => (simp; done)) | (refine frozen_alloc_lt _ ?hh ?_; case hh => first | omega | (simp <;> omega)))), (by repeat (first | (refine World.frozen?_alloc_at _ _ _ _ ?hh; case hh => (simp; done)) | (refine frozen_alloc_lt _ ?hh ?_; case hh => first | omega | (simp <;> omega)))), (by repeat (first | (refine World.frozen?_alloc_at _ _ _ _ ?hh; case hh => (simp; done)) | (refine frozen_alloc_lt _ ?hh ?_; case hh => first | omega | (simp <;> omega)))), (by repeat (first | exact Below.refl _ _ | assumption | refine Below.drew ?_ | refine below_drewN ?_ _ | refine Below.alloc ?_ (by first | omega | (simp <;> omega)) _ | refine Below.setCell ?_ (by first | omega | (simp <;> omega)) _ | refine Below.trans ?_ (Below.mono (by assumption) (by first | omega | (simp <;> omega))))), by simp⟩
  case round =>
    obtain ⟨j, y, hj, rfl, hy, c0, c1, c2, c3, f0, f1, f2, f3, e0, e1, e2, e3, g0, g1, g2, g3, hbel, hsz⟩ := hrel
    have hgy : GoodS y := by rw [hy.out]; exact good_turn hg j
    obtain ⟨⟨y1, y2⟩, ⟨y3, y4⟩, ⟨y5, y6⟩, y7, y8⟩ := good_bd hgy
    have Hgy := Lib.hid hgy; clear hgy
    by_cases hlt : j < k
    · go_wp2_with fail
      go_roundw
      case rel =>
        refine ⟨j + 1, rot y, by omega, ret_num (by omega), (by show _ = _; rw [hy.out]; rfl), ?_, ?_, ?_, ?_, ?_, ?_, ?_, ?_, ?_, ?_, ?_, ?_, ?_, ?_, ?_, ?_, (by repeat (first | exact Below.refl _ _ | assumption | refine Below.drew ?_ | refine below_drewN ?_ _ | refine Below.alloc ?_ (by first | omega | (simp <;> omega)) _ | refine Below.setCell ?_ (by first | omega | (simp <;> omega)) _ | refine Below.trans ?_ (Below.mono (by assumption) (by first | omega | (simp <;> omega))))), by simpa using hsz⟩
        all_goals first
          | (simp [go_sem, c0, c1, c2, c3, e0, e1, e2, e3, rot]; done)
          | (simp; assumption)
      case measure => simp [intOf]; omega
    · have e : j = k := by omega
      subst e
      go_wp2_with fail
      refine bodyPost_ret (v := .agg #[.int .i64 y.a, .int .i64 y.b, .int .i64 y.c, .int .i64 y.d]) (by simp [results, Try.results29, go_sem, e0, e1, e2, e3]) rfl ⟨?_, (by repeat (first | exact Below.refl _ _ | assumption | refine Below.drew ?_ | refine below_drewN ?_ _ | refine Below.alloc ?_ (by first | omega | (simp <;> omega)) _ | refine Below.setCell ?_ (by first | omega | (simp <;> omega)) _ | refine Below.trans ?_ (Below.mono (by assumption) (by first | omega | (simp <;> omega)))))⟩
      rw [← hy.out]
set_option maxHeartbeats 2000000 in
theorem impl_MulOmega_any (x : R4) (k : Nat) (w : World) (hk : k < 8) (hg : GoodS x) :
    Calls Try.prog 18 #[.agg #[.int .i64 x.a, .int .i64 x.b, .int .i64 x.c, .int .i64 x.d], .int .i64 k] w fun e w' => e = .returned (.tuple #[.agg #[.int .i64 (turnN k x).a, .int .i64 (turnN k x).b, .int .i64 (turnN k x).c, .int .i64 (turnN k x).d], .bool true]) ∧ Below w.heap.size w w' := by
  have hm3 : ((k : Int) + 8) % 8 = k := by omega
  have d1 : decide (-1000 ≤ (k : Int) ∧ (k : Int) ≤ 1000) = true := by simp; omega
  have d2 : decide (GoodR x.a x.b x.c x.d) = true := decide_eq_true hg
  have D1 := Lib.hid d1; have D2 := Lib.hid d2; clear d1 d2
  go_enter Try.func18, Try.ntmps18
  go_wp2_with fail
  refine (within_p _ _ _ _).mono ?_; rintro e w' ⟨rfl, rfl⟩
  rw [D1.out]
  go_wp2_with fail
  refine (impl_IsValidRing_any _ _ _ _ _).mono ?_; rintro e w1 ⟨rfl, hb1⟩
  rw [D2.out]
  have HB1 := Lib.hid hb1
  obtain ⟨hc_hb1, hf_hb1⟩ := bcell hb1; have hz_hb1 := hb1.size; try simp at hz_hb1; have hs0_hb1 : w.heap.size < w1.heap.size := by omega; have hs1_hb1 : w.heap.size + 1 < w1.heap.size := by omega
  have hy0 : ∀ i v, ((w.alloc (.cells #[.int .i64 x.a, .int .i64 x.b, .int .i64 x.c, .int .i64 x.d] 26)).alloc (.cells #[.int .i64 0, .int .i64 0, .int .i64 0, .int .i64 0] 26)).cell? i = some v → w1.cell? i = some v := fun i v h => by
    obtain ⟨b, o, sp⟩ := i
    have hl := World.block_lt_of_cell? _ _ h
    exact (HB1.out.cell hl).trans h
  clear hy0
  go_wp2_with fail
  go_loopw [19] (fun i wr => ∃ (j : Nat) (y : R4), j ≤ k ∧ i = .int .i64 (j : Int) ∧ Hid (y = turnN j x) ∧ wr.cell? ⟨w.heap.size, 0, none⟩ = some (.int .i64 y.a) ∧ wr.cell? ⟨w.heap.size, 1, none⟩ = some (.int .i64 y.b) ∧ wr.cell? ⟨w.heap.size, 2, none⟩ = some (.int .i64 y.c) ∧ wr.cell? ⟨w.heap.size, 3, none⟩ = some (.int .i64 y.d) ∧ wr.frozen? ⟨w.heap.size, 0, none⟩ = false ∧ wr.frozen? ⟨w.heap.size, 1, none⟩ = false ∧ wr.frozen? ⟨w.heap.size, 2, none⟩ = false ∧ wr.frozen? ⟨w.heap.size, 3, none⟩ = false ∧ wr.cell? ⟨w.heap.size + 1, 0, none⟩ = some (.int .i64 0) ∧ wr.cell? ⟨w.heap.size + 1, 1, none⟩ = some (.int .i64 0) ∧ wr.cell? ⟨w.heap.size + 1, 2, none⟩ = some (.int .i64 0) ∧ wr.cell? ⟨w.heap.size + 1, 3, none⟩ = some (.int .i64 0) ∧ wr.frozen? ⟨w.heap.size + 1, 0, none⟩ = false ∧ wr.frozen? ⟨w.heap.size + 1, 1, none⟩ = false ∧ wr.frozen? ⟨w.heap.size + 1, 2, none⟩ = false ∧ wr.frozen? ⟨w.heap.size + 1, 3, none⟩ = false ∧ Below w.heap.size w wr ∧ w.heap.size + 2 ≤ wr.heap.size) (fun i _ => k - (intOf i).toNat)
  case atStart =>
    refine ⟨0, x, Nat.zero_le _, ret_num (by omega), rfl, ?_, ?_, ?_, ?_, ?_, ?_, ?_, ?_, ?_, ?_, ?_, ?_, ?_, ?_, ?_, ?_, (by repeat (first | exact Below.refl _ _ | assumption | refine Below.drew ?_ | refine below_drewN ?_ _ | refine Below.alloc ?_ (by first | omega | (simp <;> omega)) _ | refine Below.setCell ?_ (by first | omega | (simp <;> omega)) _ | refine Below.trans ?_ (Below.mono (by assumption) (by first | omega | (simp <;> omega))))), ?_⟩
    all_goals first
      | (refine below_cell HB1.out rfl ?_; exact (by repeat (first | (refine Eq.trans (World.cell?_alloc_at _ _ _ _ ?hh) ?_; (case hh => (simp; done)); rfl) | refine cell_alloc_keep _ ?_)))
      | (refine (HB1.out.frozen (by first | (simp; done) | (simp; omega))).trans ?_; exact (by repeat (first | (refine World.frozen?_alloc_at _ _ _ _ ?hh; case hh => (simp; done)) | (refine frozen_alloc_lt _ ?hh ?_; case hh => first | omega | (simp <;> omega)))))
      | (simp at hz_hb1 ⊢; omega)
  case round =>
    obtain ⟨j, y, hj, rfl, hy, c0, c1, c2, c3, f0, f1, f2, f3, e0, e1, e2, e3, g0, g1, g2, g3, hbel, hsz⟩ := hrel
    have hgy : GoodS y := by rw [hy.out]; exact good_turn hg j
    obtain ⟨⟨y1, y2⟩, ⟨y3, y4⟩, ⟨y5, y6⟩, y7, y8⟩ := good_bd hgy
    have Hgy := Lib.hid hgy; clear hgy
    by_cases hlt : j < k
    · go_wp2_with fail
      go_roundw
      case rel =>
        refine ⟨j + 1, rot y, by omega, ret_num (by omega), (by show _ = _; rw [hy.out]; rfl), ?_, ?_, ?_, ?_, ?_, ?_, ?_, ?_, ?_, ?_, ?_, ?_, ?_, ?_, ?_, ?_, (by repeat (first | exact Below.refl _ _ | assumption | refine Below.drew ?_ | refine below_drewN ?_ _ | refine Below.alloc ?_ (by first | omega | (simp <;> omega)) _ | refine Below.setCell ?_ (by first | omega | (simp <;> omega)) _ | refine Below.trans ?_ (Below.mono (by assumption) (by first | omega | (simp <;> omega))))), by simpa using hsz⟩
        all_goals first
          | (simp [go_sem, c0, c1, c2, c3, e0, e1, e2, e3, rot]; done)
          | (simp; assumption)
      case measure => simp [intOf]; omega
    · have e : j = k := by omega
      subst e
      go_wp2_with fail
      refine bodyPost_ret (v := .tuple #[.agg #[.int .i64 y.a, .int .i64 y.b, .int .i64 y.c, .int .i64 y.d], .bool true]) (by simp [results, Try.results18, go_sem, e0, e1, e2, e3]) rfl ⟨?_, (by repeat (first | exact Below.refl _ _ | assumption | refine Below.drew ?_ | refine below_drewN ?_ _ | refine Below.alloc ?_ (by first | omega | (simp <;> omega)) _ | refine Below.setCell ?_ (by first | omega | (simp <;> omega)) _ | refine Below.trans ?_ (Below.mono (by assumption) (by first | omega | (simp <;> omega)))))⟩
      rw [← hy.out]
end Go.Proofs.Ytfjokpgcmhebfaa
