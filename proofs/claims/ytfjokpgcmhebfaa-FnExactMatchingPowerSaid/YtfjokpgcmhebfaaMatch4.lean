/- The matching power: the two functions. -/
import Derived.Test.YtfjokpgcmhebfaaMatch3
import Derived.Deep.RegionWith
namespace Go.Proofs.Ytfjokpgcmhebfaa
set_option linter.unusedSimpArgs false
set_option linter.unusedVariables false
open Go.ChangeShapes Go.WideShapes Go.ChangeAt Go.RowKit
attribute [local go_sem ↓] Go.wp_at_zero Go.wp_at_succ

def resS (x : R4) : Int := resF x.a x.b x.c x.d
instance (x : R4) : Decidable (GoodS x) := by unfold GoodS; infer_instance
def mpow (x y : R4) : Option Nat := if GoodS x ∧ GoodS y ∧ resS x ≠ 0 ∧ resS x = resS y then powM x y else none
def mval (r : Option Nat) : Value := .tuple #[.int .i64 ((r.getD 0 : Nat) : Int), .bool r.isSome]
theorem mpow_x {x y : R4} (h : ¬ GoodS x) : mpow x y = none := if_neg fun k => h k.1
theorem mpow_y {x y : R4} (h : ¬ GoodS y) : mpow x y = none := if_neg fun k => h k.2.1
theorem mpow_0 {x y : R4} (h : resS x = 0) : mpow x y = none := if_neg fun k => k.2.2.1 h
theorem mpow_ne {x y : R4} (h : resS x ≠ resS y) : mpow x y = none := if_neg fun k => h k.2.2.2
theorem mpow_eq {x y : R4} (h1 : GoodS x) (h2 : GoodS y) (h3 : resS x ≠ 0) (h4 : resS x = resS y) : mpow x y = powM x y := if_pos ⟨h1, h2, h3, h4⟩
theorem first_lt {p : Nat → Bool} : ∀ (f m k : Nat), firstM p f m = some k → k < m + f
  | 0, m, k, h => by simp [firstM] at h
  | f + 1, m, k, h => by
    unfold firstM at h
    split at h
    · injection h with h; omega
    · have := first_lt f (m + 1) k h; omega
theorem powM_lt {x y : R4} {k : Nat} (h : powM x y = some k) : k < 8 := by have := first_lt 8 0 k h; omega
theorem mpow_lt {x y : R4} {k : Nat} (h : mpow x y = some k) : k < 8 := by
  unfold mpow at h
  split at h
  · exact powM_lt h
  · cases h

theorem spec_l1Good_is (x : R4) (b : Bool) (w : World) (h : decide (GoodS x) = b) :
    Calls Try.prog 14 #[.agg #[.int .i64 x.a, .int .i64 x.b, .int .i64 x.c, .int .i64 x.d]] w fun e w' => e = .returned (.bool b) ∧ Below w.heap.size w w' :=
  (spec_l1Good_any _ _ _ _ _).mono fun _ _ hh => ⟨by rw [hh.1, ← h]; rfl, hh.2⟩
theorem spec_l11Type_is (x : R4) (t : Int) (w : World) (hx : GoodS x) (h : resS x = t) :
    Calls Try.prog 15 #[.agg #[.int .i64 x.a, .int .i64 x.b, .int .i64 x.c, .int .i64 x.d]] w fun e w' => e = .returned (.int .i64 t) ∧ Below w.heap.size w w' :=
  (spec_l11Type_any _ _ _ _ _ hx).mono fun _ _ hh => ⟨by rw [hh.1, ← h]; rfl, hh.2⟩
theorem spec_l11Power_is (x y : R4) (t : Int) (w : World) (hx : GoodS x) (hy : GoodS y) (h : powI (powM x y) = t) :
    Calls Try.prog 16 #[.agg #[.int .i64 x.a, .int .i64 x.b, .int .i64 x.c, .int .i64 x.d], .agg #[.int .i64 y.a, .int .i64 y.b, .int .i64 y.c, .int .i64 y.d]] w fun e w' => e = .returned (.int .i64 t) ∧ Below w.heap.size w w' :=
  (spec_l11Power_any _ _ _ hx hy).mono fun _ _ hh => ⟨by rw [hh.1, ← h], hh.2⟩

set_option maxHeartbeats 4000000 in
theorem spec_MatchingPower_any (x y : R4) (w : World) :
    Calls Try.prog 5 #[.agg #[.int .i64 x.a, .int .i64 x.b, .int .i64 x.c, .int .i64 x.d], .agg #[.int .i64 y.a, .int .i64 y.b, .int .i64 y.c, .int .i64 y.d]] w fun e w' => e = .returned (mval (mpow x y)) ∧ Below w.heap.size w w' := by
  by_cases hx : GoodS x
  · have dx : decide (GoodS x) = true := decide_eq_true hx
    by_cases hy : GoodS y
    · have dy : decide (GoodS y) = true := decide_eq_true hy
      obtain ⟨t, tx⟩ : ∃ t, resS x = t := ⟨_, rfl⟩
      obtain ⟨u, ty⟩ : ∃ u, resS y = u := ⟨_, rfl⟩
      by_cases h0 : t = 0
      · subst h0
        have Hr := Lib.hid (mpow_0 (y := y) tx)
        go_enter Try.func5, Try.ntmps5
        go_wp2_with fail
        have a0 : ((w.alloc (.cells #[.int .i64 x.a, .int .i64 x.b, .int .i64 x.c, .int .i64 x.d] 26)).alloc (.cells #[.int .i64 y.a, .int .i64 y.b, .int .i64 y.c, .int .i64 y.d] 26)).cell? ⟨w.heap.size, 0, none⟩ = some (.int .i64 x.a) := (by repeat (first | (refine Eq.trans (World.cell?_alloc_at _ _ _ _ ?hh) ?_; (case hh => (simp; done)); rfl) | refine cell_alloc_keep _ ?_))
        have a1 : ((w.alloc (.cells #[.int .i64 x.a, .int .i64 x.b, .int .i64 x.c, .int .i64 x.d] 26)).alloc (.cells #[.int .i64 y.a, .int .i64 y.b, .int .i64 y.c, .int .i64 y.d] 26)).cell? ⟨w.heap.size, 1, none⟩ = some (.int .i64 x.b) := (by repeat (first | (refine Eq.trans (World.cell?_alloc_at _ _ _ _ ?hh) ?_; (case hh => (simp; done)); rfl) | refine cell_alloc_keep _ ?_))
        have a2 : ((w.alloc (.cells #[.int .i64 x.a, .int .i64 x.b, .int .i64 x.c, .int .i64 x.d] 26)).alloc (.cells #[.int .i64 y.a, .int .i64 y.b, .int .i64 y.c, .int .i64 y.d] 26)).cell? ⟨w.heap.size, 2, none⟩ = some (.int .i64 x.c) := (by repeat (first | (refine Eq.trans (World.cell?_alloc_at _ _ _ _ ?hh) ?_; (case hh => (simp; done)); rfl) | refine cell_alloc_keep _ ?_))
        have a3 : ((w.alloc (.cells #[.int .i64 x.a, .int .i64 x.b, .int .i64 x.c, .int .i64 x.d] 26)).alloc (.cells #[.int .i64 y.a, .int .i64 y.b, .int .i64 y.c, .int .i64 y.d] 26)).cell? ⟨w.heap.size, 3, none⟩ = some (.int .i64 x.d) := (by repeat (first | (refine Eq.trans (World.cell?_alloc_at _ _ _ _ ?hh) ?_; (case hh => (simp; done)); rfl) | refine cell_alloc_keep _ ?_))
        have b0 : ((w.alloc (.cells #[.int .i64 x.a, .int .i64 x.b, .int .i64 x.c, .int .i64 x.d] 26)).alloc (.cells #[.int .i64 y.a, .int .i64 y.b, .int .i64 y.c, .int .i64 y.d] 26)).cell? ⟨w.heap.size + 1, 0, none⟩ = some (.int .i64 y.a) := (by repeat (first | (refine Eq.trans (World.cell?_alloc_at _ _ _ _ ?hh) ?_; (case hh => (simp; done)); rfl) | refine cell_alloc_keep _ ?_))
        have b1 : ((w.alloc (.cells #[.int .i64 x.a, .int .i64 x.b, .int .i64 x.c, .int .i64 x.d] 26)).alloc (.cells #[.int .i64 y.a, .int .i64 y.b, .int .i64 y.c, .int .i64 y.d] 26)).cell? ⟨w.heap.size + 1, 1, none⟩ = some (.int .i64 y.b) := (by repeat (first | (refine Eq.trans (World.cell?_alloc_at _ _ _ _ ?hh) ?_; (case hh => (simp; done)); rfl) | refine cell_alloc_keep _ ?_))
        have b2 : ((w.alloc (.cells #[.int .i64 x.a, .int .i64 x.b, .int .i64 x.c, .int .i64 x.d] 26)).alloc (.cells #[.int .i64 y.a, .int .i64 y.b, .int .i64 y.c, .int .i64 y.d] 26)).cell? ⟨w.heap.size + 1, 2, none⟩ = some (.int .i64 y.c) := (by repeat (first | (refine Eq.trans (World.cell?_alloc_at _ _ _ _ ?hh) ?_; (case hh => (simp; done)); rfl) | refine cell_alloc_keep _ ?_))
        have b3 : ((w.alloc (.cells #[.int .i64 x.a, .int .i64 x.b, .int .i64 x.c, .int .i64 x.d] 26)).alloc (.cells #[.int .i64 y.a, .int .i64 y.b, .int .i64 y.c, .int .i64 y.d] 26)).cell? ⟨w.heap.size + 1, 3, none⟩ = some (.int .i64 y.d) := (by repeat (first | (refine Eq.trans (World.cell?_alloc_at _ _ _ _ ?hh) ?_; (case hh => (simp; done)); rfl) | refine cell_alloc_keep _ ?_))
        go_region_with (first | (go_at_call_of 14 (R4.a x); refine (spec_l1Good_is x _ _ dx).mono ?_; rintro e w2 ⟨rfl, hbb⟩; have lz := hbb.size; (try simp at lz); replace a0 := below_cell hbb rfl a0; replace a1 := below_cell hbb rfl a1; replace a2 := below_cell hbb rfl a2; replace a3 := below_cell hbb rfl a3; replace b0 := below_cell hbb rfl b0; replace b1 := below_cell hbb rfl b1; replace b2 := below_cell hbb rfl b2; replace b3 := below_cell hbb rfl b3) | (go_at_call_of 14 (R4.a y); refine (spec_l1Good_is y _ _ dy).mono ?_; rintro e w2 ⟨rfl, hbb⟩; have lz := hbb.size; (try simp at lz); replace a0 := below_cell hbb rfl a0; replace a1 := below_cell hbb rfl a1; replace a2 := below_cell hbb rfl a2; replace a3 := below_cell hbb rfl a3; replace b0 := below_cell hbb rfl b0; replace b1 := below_cell hbb rfl b1; replace b2 := below_cell hbb rfl b2; replace b3 := below_cell hbb rfl b3) | (go_at_call_of 15 (R4.a x); refine (spec_l11Type_is x _ _ hx tx).mono ?_; rintro e w2 ⟨rfl, hbb⟩; have lz := hbb.size; (try simp at lz); replace a0 := below_cell hbb rfl a0; replace a1 := below_cell hbb rfl a1; replace a2 := below_cell hbb rfl a2; replace a3 := below_cell hbb rfl a3; replace b0 := below_cell hbb rfl b0; replace b1 := below_cell hbb rfl b1; replace b2 := below_cell hbb rfl b2; replace b3 := below_cell hbb rfl b3))
        all_goals
          go_wp2_with fail
          go_ret2
          exact ⟨by rw [Hr.out]; rfl, (by repeat (first | exact Below.refl _ _ | assumption | refine Below.drew ?_ | refine below_drewN ?_ _ | refine Below.alloc ?_ (by first | omega | (simp <;> omega)) _ | refine Below.setCell ?_ (by first | omega | (simp <;> omega)) _ | refine Below.trans ?_ (Below.mono (by assumption) (by first | omega | (simp <;> omega)))))⟩
      · have D0 : (t == 0) = false := by simpa using h0
        by_cases hne : t = u
        · subst hne
          have he := mpow_eq hx hy (by rw [tx]; exact h0) (tx.trans ty.symm)
          cases hp : powM x y with
          | none =>
            have tp : powI (powM x y) = -1 := by rw [hp]; rfl
            have Hr := Lib.hid (he.trans hp); clear he hp
            go_enter Try.func5, Try.ntmps5
            go_wp2_with fail
            have a0 : ((w.alloc (.cells #[.int .i64 x.a, .int .i64 x.b, .int .i64 x.c, .int .i64 x.d] 26)).alloc (.cells #[.int .i64 y.a, .int .i64 y.b, .int .i64 y.c, .int .i64 y.d] 26)).cell? ⟨w.heap.size, 0, none⟩ = some (.int .i64 x.a) := (by repeat (first | (refine Eq.trans (World.cell?_alloc_at _ _ _ _ ?hh) ?_; (case hh => (simp; done)); rfl) | refine cell_alloc_keep _ ?_))
            have a1 : ((w.alloc (.cells #[.int .i64 x.a, .int .i64 x.b, .int .i64 x.c, .int .i64 x.d] 26)).alloc (.cells #[.int .i64 y.a, .int .i64 y.b, .int .i64 y.c, .int .i64 y.d] 26)).cell? ⟨w.heap.size, 1, none⟩ = some (.int .i64 x.b) := (by repeat (first | (refine Eq.trans (World.cell?_alloc_at _ _ _ _ ?hh) ?_; (case hh => (simp; done)); rfl) | refine cell_alloc_keep _ ?_))
            have a2 : ((w.alloc (.cells #[.int .i64 x.a, .int .i64 x.b, .int .i64 x.c, .int .i64 x.d] 26)).alloc (.cells #[.int .i64 y.a, .int .i64 y.b, .int .i64 y.c, .int .i64 y.d] 26)).cell? ⟨w.heap.size, 2, none⟩ = some (.int .i64 x.c) := (by repeat (first | (refine Eq.trans (World.cell?_alloc_at _ _ _ _ ?hh) ?_; (case hh => (simp; done)); rfl) | refine cell_alloc_keep _ ?_))
            have a3 : ((w.alloc (.cells #[.int .i64 x.a, .int .i64 x.b, .int .i64 x.c, .int .i64 x.d] 26)).alloc (.cells #[.int .i64 y.a, .int .i64 y.b, .int .i64 y.c, .int .i64 y.d] 26)).cell? ⟨w.heap.size, 3, none⟩ = some (.int .i64 x.d) := (by repeat (first | (refine Eq.trans (World.cell?_alloc_at _ _ _ _ ?hh) ?_; (case hh => (simp; done)); rfl) | refine cell_alloc_keep _ ?_))
            have b0 : ((w.alloc (.cells #[.int .i64 x.a, .int .i64 x.b, .int .i64 x.c, .int .i64 x.d] 26)).alloc (.cells #[.int .i64 y.a, .int .i64 y.b, .int .i64 y.c, .int .i64 y.d] 26)).cell? ⟨w.heap.size + 1, 0, none⟩ = some (.int .i64 y.a) := (by repeat (first | (refine Eq.trans (World.cell?_alloc_at _ _ _ _ ?hh) ?_; (case hh => (simp; done)); rfl) | refine cell_alloc_keep _ ?_))
            have b1 : ((w.alloc (.cells #[.int .i64 x.a, .int .i64 x.b, .int .i64 x.c, .int .i64 x.d] 26)).alloc (.cells #[.int .i64 y.a, .int .i64 y.b, .int .i64 y.c, .int .i64 y.d] 26)).cell? ⟨w.heap.size + 1, 1, none⟩ = some (.int .i64 y.b) := (by repeat (first | (refine Eq.trans (World.cell?_alloc_at _ _ _ _ ?hh) ?_; (case hh => (simp; done)); rfl) | refine cell_alloc_keep _ ?_))
            have b2 : ((w.alloc (.cells #[.int .i64 x.a, .int .i64 x.b, .int .i64 x.c, .int .i64 x.d] 26)).alloc (.cells #[.int .i64 y.a, .int .i64 y.b, .int .i64 y.c, .int .i64 y.d] 26)).cell? ⟨w.heap.size + 1, 2, none⟩ = some (.int .i64 y.c) := (by repeat (first | (refine Eq.trans (World.cell?_alloc_at _ _ _ _ ?hh) ?_; (case hh => (simp; done)); rfl) | refine cell_alloc_keep _ ?_))
            have b3 : ((w.alloc (.cells #[.int .i64 x.a, .int .i64 x.b, .int .i64 x.c, .int .i64 x.d] 26)).alloc (.cells #[.int .i64 y.a, .int .i64 y.b, .int .i64 y.c, .int .i64 y.d] 26)).cell? ⟨w.heap.size + 1, 3, none⟩ = some (.int .i64 y.d) := (by repeat (first | (refine Eq.trans (World.cell?_alloc_at _ _ _ _ ?hh) ?_; (case hh => (simp; done)); rfl) | refine cell_alloc_keep _ ?_))
            first | (go_region_held3 (fun w' => w'.cell? ⟨w.heap.size, 0, none⟩ = some (.int .i64 x.a) ∧ w'.cell? ⟨w.heap.size, 1, none⟩ = some (.int .i64 x.b) ∧ w'.cell? ⟨w.heap.size, 2, none⟩ = some (.int .i64 x.c) ∧ w'.cell? ⟨w.heap.size, 3, none⟩ = some (.int .i64 x.d) ∧ w'.cell? ⟨w.heap.size + 1, 0, none⟩ = some (.int .i64 y.a) ∧ w'.cell? ⟨w.heap.size + 1, 1, none⟩ = some (.int .i64 y.b) ∧ w'.cell? ⟨w.heap.size + 1, 2, none⟩ = some (.int .i64 y.c) ∧ w'.cell? ⟨w.heap.size + 1, 3, none⟩ = some (.int .i64 y.d))
              (first | (go_split_ands; (try dsimp only); (repeat' apply And.intro) <;> first | assumption | (refine below_cell hbb rfl ?_; assumption)) | go_keep)
              (first | (go_at_call_of 14 (R4.a x); refine (spec_l1Good_is x _ _ dx).mono ?_; rintro e w2 ⟨rfl, hbb⟩; have lz := hbb.size; (try simp at lz)) | (go_at_call_of 14 (R4.a y); refine (spec_l1Good_is y _ _ dy).mono ?_; rintro e w2 ⟨rfl, hbb⟩; have lz := hbb.size; (try simp at lz)) | (go_at_call_of 15 (R4.a x); refine (spec_l11Type_is x _ _ hx tx).mono ?_; rintro e w2 ⟨rfl, hbb⟩; have lz := hbb.size; (try simp at lz)) | (go_at_call_of 15 (R4.a y); refine (spec_l11Type_is y _ _ hy ty).mono ?_; rintro e w2 ⟨rfl, hbb⟩; have lz := hbb.size; (try simp at lz)) | (go_at_call_of 16 (R4.a x); refine (spec_l11Power_is x y _ _ hx hy tp).mono ?_; rintro e w2 ⟨rfl, hbb⟩; have lz := hbb.size; (try simp at lz)))) | fail "region"
            all_goals
              rename_i hH; have hH' := Lib.hid hH; clear hH
              go_wp2_with fail
              go_ret2
              exact ⟨by rw [Hr.out]; rfl, (by repeat (first | exact Below.refl _ _ | assumption | refine Below.drew ?_ | refine below_drewN ?_ _ | refine Below.alloc ?_ (by first | omega | (simp <;> omega)) _ | refine Below.setCell ?_ (by first | omega | (simp <;> omega)) _ | refine Below.trans ?_ (Below.mono (by assumption) (by first | omega | (simp <;> omega)))))⟩
          | some m =>
            have tp : powI (powM x y) = (m : Int) := by rw [hp]; rfl
            have hm := powM_lt hp
            have D2 : decide ((m : Int) < 0) = false := decide_eq_false (by omega)
            have Hr := Lib.hid (he.trans hp); clear he hp
            go_enter Try.func5, Try.ntmps5
            go_wp2_with fail
            have a0 : ((w.alloc (.cells #[.int .i64 x.a, .int .i64 x.b, .int .i64 x.c, .int .i64 x.d] 26)).alloc (.cells #[.int .i64 y.a, .int .i64 y.b, .int .i64 y.c, .int .i64 y.d] 26)).cell? ⟨w.heap.size, 0, none⟩ = some (.int .i64 x.a) := (by repeat (first | (refine Eq.trans (World.cell?_alloc_at _ _ _ _ ?hh) ?_; (case hh => (simp; done)); rfl) | refine cell_alloc_keep _ ?_))
            have a1 : ((w.alloc (.cells #[.int .i64 x.a, .int .i64 x.b, .int .i64 x.c, .int .i64 x.d] 26)).alloc (.cells #[.int .i64 y.a, .int .i64 y.b, .int .i64 y.c, .int .i64 y.d] 26)).cell? ⟨w.heap.size, 1, none⟩ = some (.int .i64 x.b) := (by repeat (first | (refine Eq.trans (World.cell?_alloc_at _ _ _ _ ?hh) ?_; (case hh => (simp; done)); rfl) | refine cell_alloc_keep _ ?_))
            have a2 : ((w.alloc (.cells #[.int .i64 x.a, .int .i64 x.b, .int .i64 x.c, .int .i64 x.d] 26)).alloc (.cells #[.int .i64 y.a, .int .i64 y.b, .int .i64 y.c, .int .i64 y.d] 26)).cell? ⟨w.heap.size, 2, none⟩ = some (.int .i64 x.c) := (by repeat (first | (refine Eq.trans (World.cell?_alloc_at _ _ _ _ ?hh) ?_; (case hh => (simp; done)); rfl) | refine cell_alloc_keep _ ?_))
            have a3 : ((w.alloc (.cells #[.int .i64 x.a, .int .i64 x.b, .int .i64 x.c, .int .i64 x.d] 26)).alloc (.cells #[.int .i64 y.a, .int .i64 y.b, .int .i64 y.c, .int .i64 y.d] 26)).cell? ⟨w.heap.size, 3, none⟩ = some (.int .i64 x.d) := (by repeat (first | (refine Eq.trans (World.cell?_alloc_at _ _ _ _ ?hh) ?_; (case hh => (simp; done)); rfl) | refine cell_alloc_keep _ ?_))
            have b0 : ((w.alloc (.cells #[.int .i64 x.a, .int .i64 x.b, .int .i64 x.c, .int .i64 x.d] 26)).alloc (.cells #[.int .i64 y.a, .int .i64 y.b, .int .i64 y.c, .int .i64 y.d] 26)).cell? ⟨w.heap.size + 1, 0, none⟩ = some (.int .i64 y.a) := (by repeat (first | (refine Eq.trans (World.cell?_alloc_at _ _ _ _ ?hh) ?_; (case hh => (simp; done)); rfl) | refine cell_alloc_keep _ ?_))
            have b1 : ((w.alloc (.cells #[.int .i64 x.a, .int .i64 x.b, .int .i64 x.c, .int .i64 x.d] 26)).alloc (.cells #[.int .i64 y.a, .int .i64 y.b, .int .i64 y.c, .int .i64 y.d] 26)).cell? ⟨w.heap.size + 1, 1, none⟩ = some (.int .i64 y.b) := (by repeat (first | (refine Eq.trans (World.cell?_alloc_at _ _ _ _ ?hh) ?_; (case hh => (simp; done)); rfl) | refine cell_alloc_keep _ ?_))
            have b2 : ((w.alloc (.cells #[.int .i64 x.a, .int .i64 x.b, .int .i64 x.c, .int .i64 x.d] 26)).alloc (.cells #[.int .i64 y.a, .int .i64 y.b, .int .i64 y.c, .int .i64 y.d] 26)).cell? ⟨w.heap.size + 1, 2, none⟩ = some (.int .i64 y.c) := (by repeat (first | (refine Eq.trans (World.cell?_alloc_at _ _ _ _ ?hh) ?_; (case hh => (simp; done)); rfl) | refine cell_alloc_keep _ ?_))
            have b3 : ((w.alloc (.cells #[.int .i64 x.a, .int .i64 x.b, .int .i64 x.c, .int .i64 x.d] 26)).alloc (.cells #[.int .i64 y.a, .int .i64 y.b, .int .i64 y.c, .int .i64 y.d] 26)).cell? ⟨w.heap.size + 1, 3, none⟩ = some (.int .i64 y.d) := (by repeat (first | (refine Eq.trans (World.cell?_alloc_at _ _ _ _ ?hh) ?_; (case hh => (simp; done)); rfl) | refine cell_alloc_keep _ ?_))
            first | (go_region_held3 (fun w' => w'.cell? ⟨w.heap.size, 0, none⟩ = some (.int .i64 x.a) ∧ w'.cell? ⟨w.heap.size, 1, none⟩ = some (.int .i64 x.b) ∧ w'.cell? ⟨w.heap.size, 2, none⟩ = some (.int .i64 x.c) ∧ w'.cell? ⟨w.heap.size, 3, none⟩ = some (.int .i64 x.d) ∧ w'.cell? ⟨w.heap.size + 1, 0, none⟩ = some (.int .i64 y.a) ∧ w'.cell? ⟨w.heap.size + 1, 1, none⟩ = some (.int .i64 y.b) ∧ w'.cell? ⟨w.heap.size + 1, 2, none⟩ = some (.int .i64 y.c) ∧ w'.cell? ⟨w.heap.size + 1, 3, none⟩ = some (.int .i64 y.d))
              (first | (go_split_ands; (try dsimp only); (repeat' apply And.intro) <;> first | assumption | (refine below_cell hbb rfl ?_; assumption)) | go_keep)
              (first | (go_at_call_of 14 (R4.a x); refine (spec_l1Good_is x _ _ dx).mono ?_; rintro e w2 ⟨rfl, hbb⟩; have lz := hbb.size; (try simp at lz)) | (go_at_call_of 14 (R4.a y); refine (spec_l1Good_is y _ _ dy).mono ?_; rintro e w2 ⟨rfl, hbb⟩; have lz := hbb.size; (try simp at lz)) | (go_at_call_of 15 (R4.a x); refine (spec_l11Type_is x _ _ hx tx).mono ?_; rintro e w2 ⟨rfl, hbb⟩; have lz := hbb.size; (try simp at lz)) | (go_at_call_of 15 (R4.a y); refine (spec_l11Type_is y _ _ hy ty).mono ?_; rintro e w2 ⟨rfl, hbb⟩; have lz := hbb.size; (try simp at lz)) | (go_at_call_of 16 (R4.a x); refine (spec_l11Power_is x y _ _ hx hy tp).mono ?_; rintro e w2 ⟨rfl, hbb⟩; have lz := hbb.size; (try simp at lz)))) | fail "region"
            all_goals
              rename_i hH; obtain ⟨s0, s1, s2, s3, s4, s5, s6, s7⟩ := hH
              go_wp2_with fail
              refine (spec_l11Power_is x y _ _ hx hy tp).mono ?_; rintro e w3 ⟨rfl, hb3⟩
              go_wp2_with fail
              go_ret2
              exact ⟨by rw [Hr.out]; rfl, (by repeat (first | exact Below.refl _ _ | assumption | refine Below.drew ?_ | refine below_drewN ?_ _ | refine Below.alloc ?_ (by first | omega | (simp <;> omega)) _ | refine Below.setCell ?_ (by first | omega | (simp <;> omega)) _ | refine Below.trans ?_ (Below.mono (by assumption) (by first | omega | (simp <;> omega)))))⟩
        · have D1 : (t != u) = true := by simpa using hne
          have Hr := Lib.hid (mpow_ne (x := x) (y := y) (by rw [tx, ty]; exact hne))
          go_enter Try.func5, Try.ntmps5
          go_wp2_with fail
          have a0 : ((w.alloc (.cells #[.int .i64 x.a, .int .i64 x.b, .int .i64 x.c, .int .i64 x.d] 26)).alloc (.cells #[.int .i64 y.a, .int .i64 y.b, .int .i64 y.c, .int .i64 y.d] 26)).cell? ⟨w.heap.size, 0, none⟩ = some (.int .i64 x.a) := (by repeat (first | (refine Eq.trans (World.cell?_alloc_at _ _ _ _ ?hh) ?_; (case hh => (simp; done)); rfl) | refine cell_alloc_keep _ ?_))
          have a1 : ((w.alloc (.cells #[.int .i64 x.a, .int .i64 x.b, .int .i64 x.c, .int .i64 x.d] 26)).alloc (.cells #[.int .i64 y.a, .int .i64 y.b, .int .i64 y.c, .int .i64 y.d] 26)).cell? ⟨w.heap.size, 1, none⟩ = some (.int .i64 x.b) := (by repeat (first | (refine Eq.trans (World.cell?_alloc_at _ _ _ _ ?hh) ?_; (case hh => (simp; done)); rfl) | refine cell_alloc_keep _ ?_))
          have a2 : ((w.alloc (.cells #[.int .i64 x.a, .int .i64 x.b, .int .i64 x.c, .int .i64 x.d] 26)).alloc (.cells #[.int .i64 y.a, .int .i64 y.b, .int .i64 y.c, .int .i64 y.d] 26)).cell? ⟨w.heap.size, 2, none⟩ = some (.int .i64 x.c) := (by repeat (first | (refine Eq.trans (World.cell?_alloc_at _ _ _ _ ?hh) ?_; (case hh => (simp; done)); rfl) | refine cell_alloc_keep _ ?_))
          have a3 : ((w.alloc (.cells #[.int .i64 x.a, .int .i64 x.b, .int .i64 x.c, .int .i64 x.d] 26)).alloc (.cells #[.int .i64 y.a, .int .i64 y.b, .int .i64 y.c, .int .i64 y.d] 26)).cell? ⟨w.heap.size, 3, none⟩ = some (.int .i64 x.d) := (by repeat (first | (refine Eq.trans (World.cell?_alloc_at _ _ _ _ ?hh) ?_; (case hh => (simp; done)); rfl) | refine cell_alloc_keep _ ?_))
          have b0 : ((w.alloc (.cells #[.int .i64 x.a, .int .i64 x.b, .int .i64 x.c, .int .i64 x.d] 26)).alloc (.cells #[.int .i64 y.a, .int .i64 y.b, .int .i64 y.c, .int .i64 y.d] 26)).cell? ⟨w.heap.size + 1, 0, none⟩ = some (.int .i64 y.a) := (by repeat (first | (refine Eq.trans (World.cell?_alloc_at _ _ _ _ ?hh) ?_; (case hh => (simp; done)); rfl) | refine cell_alloc_keep _ ?_))
          have b1 : ((w.alloc (.cells #[.int .i64 x.a, .int .i64 x.b, .int .i64 x.c, .int .i64 x.d] 26)).alloc (.cells #[.int .i64 y.a, .int .i64 y.b, .int .i64 y.c, .int .i64 y.d] 26)).cell? ⟨w.heap.size + 1, 1, none⟩ = some (.int .i64 y.b) := (by repeat (first | (refine Eq.trans (World.cell?_alloc_at _ _ _ _ ?hh) ?_; (case hh => (simp; done)); rfl) | refine cell_alloc_keep _ ?_))
          have b2 : ((w.alloc (.cells #[.int .i64 x.a, .int .i64 x.b, .int .i64 x.c, .int .i64 x.d] 26)).alloc (.cells #[.int .i64 y.a, .int .i64 y.b, .int .i64 y.c, .int .i64 y.d] 26)).cell? ⟨w.heap.size + 1, 2, none⟩ = some (.int .i64 y.c) := (by repeat (first | (refine Eq.trans (World.cell?_alloc_at _ _ _ _ ?hh) ?_; (case hh => (simp; done)); rfl) | refine cell_alloc_keep _ ?_))
          have b3 : ((w.alloc (.cells #[.int .i64 x.a, .int .i64 x.b, .int .i64 x.c, .int .i64 x.d] 26)).alloc (.cells #[.int .i64 y.a, .int .i64 y.b, .int .i64 y.c, .int .i64 y.d] 26)).cell? ⟨w.heap.size + 1, 3, none⟩ = some (.int .i64 y.d) := (by repeat (first | (refine Eq.trans (World.cell?_alloc_at _ _ _ _ ?hh) ?_; (case hh => (simp; done)); rfl) | refine cell_alloc_keep _ ?_))
          go_region_with (first | (go_at_call_of 14 (R4.a x); refine (spec_l1Good_is x _ _ dx).mono ?_; rintro e w2 ⟨rfl, hbb⟩; have lz := hbb.size; (try simp at lz); replace a0 := below_cell hbb rfl a0; replace a1 := below_cell hbb rfl a1; replace a2 := below_cell hbb rfl a2; replace a3 := below_cell hbb rfl a3; replace b0 := below_cell hbb rfl b0; replace b1 := below_cell hbb rfl b1; replace b2 := below_cell hbb rfl b2; replace b3 := below_cell hbb rfl b3) | (go_at_call_of 14 (R4.a y); refine (spec_l1Good_is y _ _ dy).mono ?_; rintro e w2 ⟨rfl, hbb⟩; have lz := hbb.size; (try simp at lz); replace a0 := below_cell hbb rfl a0; replace a1 := below_cell hbb rfl a1; replace a2 := below_cell hbb rfl a2; replace a3 := below_cell hbb rfl a3; replace b0 := below_cell hbb rfl b0; replace b1 := below_cell hbb rfl b1; replace b2 := below_cell hbb rfl b2; replace b3 := below_cell hbb rfl b3) | (go_at_call_of 15 (R4.a x); refine (spec_l11Type_is x _ _ hx tx).mono ?_; rintro e w2 ⟨rfl, hbb⟩; have lz := hbb.size; (try simp at lz); replace a0 := below_cell hbb rfl a0; replace a1 := below_cell hbb rfl a1; replace a2 := below_cell hbb rfl a2; replace a3 := below_cell hbb rfl a3; replace b0 := below_cell hbb rfl b0; replace b1 := below_cell hbb rfl b1; replace b2 := below_cell hbb rfl b2; replace b3 := below_cell hbb rfl b3) | (go_at_call_of 15 (R4.a y); refine (spec_l11Type_is y _ _ hy ty).mono ?_; rintro e w2 ⟨rfl, hbb⟩; have lz := hbb.size; (try simp at lz); replace a0 := below_cell hbb rfl a0; replace a1 := below_cell hbb rfl a1; replace a2 := below_cell hbb rfl a2; replace a3 := below_cell hbb rfl a3; replace b0 := below_cell hbb rfl b0; replace b1 := below_cell hbb rfl b1; replace b2 := below_cell hbb rfl b2; replace b3 := below_cell hbb rfl b3))
          all_goals
            go_wp2_with fail
            go_ret2
            exact ⟨by rw [Hr.out]; rfl, (by repeat (first | exact Below.refl _ _ | assumption | refine Below.drew ?_ | refine below_drewN ?_ _ | refine Below.alloc ?_ (by first | omega | (simp <;> omega)) _ | refine Below.setCell ?_ (by first | omega | (simp <;> omega)) _ | refine Below.trans ?_ (Below.mono (by assumption) (by first | omega | (simp <;> omega)))))⟩
    · have dy : decide (GoodS y) = false := decide_eq_false hy
      have Hr := Lib.hid (mpow_y (x := x) hy)
      go_enter Try.func5, Try.ntmps5
      go_wp2_with fail
      have a0 : ((w.alloc (.cells #[.int .i64 x.a, .int .i64 x.b, .int .i64 x.c, .int .i64 x.d] 26)).alloc (.cells #[.int .i64 y.a, .int .i64 y.b, .int .i64 y.c, .int .i64 y.d] 26)).cell? ⟨w.heap.size, 0, none⟩ = some (.int .i64 x.a) := (by repeat (first | (refine Eq.trans (World.cell?_alloc_at _ _ _ _ ?hh) ?_; (case hh => (simp; done)); rfl) | refine cell_alloc_keep _ ?_))
      have a1 : ((w.alloc (.cells #[.int .i64 x.a, .int .i64 x.b, .int .i64 x.c, .int .i64 x.d] 26)).alloc (.cells #[.int .i64 y.a, .int .i64 y.b, .int .i64 y.c, .int .i64 y.d] 26)).cell? ⟨w.heap.size, 1, none⟩ = some (.int .i64 x.b) := (by repeat (first | (refine Eq.trans (World.cell?_alloc_at _ _ _ _ ?hh) ?_; (case hh => (simp; done)); rfl) | refine cell_alloc_keep _ ?_))
      have a2 : ((w.alloc (.cells #[.int .i64 x.a, .int .i64 x.b, .int .i64 x.c, .int .i64 x.d] 26)).alloc (.cells #[.int .i64 y.a, .int .i64 y.b, .int .i64 y.c, .int .i64 y.d] 26)).cell? ⟨w.heap.size, 2, none⟩ = some (.int .i64 x.c) := (by repeat (first | (refine Eq.trans (World.cell?_alloc_at _ _ _ _ ?hh) ?_; (case hh => (simp; done)); rfl) | refine cell_alloc_keep _ ?_))
      have a3 : ((w.alloc (.cells #[.int .i64 x.a, .int .i64 x.b, .int .i64 x.c, .int .i64 x.d] 26)).alloc (.cells #[.int .i64 y.a, .int .i64 y.b, .int .i64 y.c, .int .i64 y.d] 26)).cell? ⟨w.heap.size, 3, none⟩ = some (.int .i64 x.d) := (by repeat (first | (refine Eq.trans (World.cell?_alloc_at _ _ _ _ ?hh) ?_; (case hh => (simp; done)); rfl) | refine cell_alloc_keep _ ?_))
      have b0 : ((w.alloc (.cells #[.int .i64 x.a, .int .i64 x.b, .int .i64 x.c, .int .i64 x.d] 26)).alloc (.cells #[.int .i64 y.a, .int .i64 y.b, .int .i64 y.c, .int .i64 y.d] 26)).cell? ⟨w.heap.size + 1, 0, none⟩ = some (.int .i64 y.a) := (by repeat (first | (refine Eq.trans (World.cell?_alloc_at _ _ _ _ ?hh) ?_; (case hh => (simp; done)); rfl) | refine cell_alloc_keep _ ?_))
      have b1 : ((w.alloc (.cells #[.int .i64 x.a, .int .i64 x.b, .int .i64 x.c, .int .i64 x.d] 26)).alloc (.cells #[.int .i64 y.a, .int .i64 y.b, .int .i64 y.c, .int .i64 y.d] 26)).cell? ⟨w.heap.size + 1, 1, none⟩ = some (.int .i64 y.b) := (by repeat (first | (refine Eq.trans (World.cell?_alloc_at _ _ _ _ ?hh) ?_; (case hh => (simp; done)); rfl) | refine cell_alloc_keep _ ?_))
      have b2 : ((w.alloc (.cells #[.int .i64 x.a, .int .i64 x.b, .int .i64 x.c, .int .i64 x.d] 26)).alloc (.cells #[.int .i64 y.a, .int .i64 y.b, .int .i64 y.c, .int .i64 y.d] 26)).cell? ⟨w.heap.size + 1, 2, none⟩ = some (.int .i64 y.c) := (by repeat (first | (refine Eq.trans (World.cell?_alloc_at _ _ _ _ ?hh) ?_; (case hh => (simp; done)); rfl) | refine cell_alloc_keep _ ?_))
      have b3 : ((w.alloc (.cells #[.int .i64 x.a, .int .i64 x.b, .int .i64 x.c, .int .i64 x.d] 26)).alloc (.cells #[.int .i64 y.a, .int .i64 y.b, .int .i64 y.c, .int .i64 y.d] 26)).cell? ⟨w.heap.size + 1, 3, none⟩ = some (.int .i64 y.d) := (by repeat (first | (refine Eq.trans (World.cell?_alloc_at _ _ _ _ ?hh) ?_; (case hh => (simp; done)); rfl) | refine cell_alloc_keep _ ?_))
      go_region_with (first | (go_at_call_of 14 (R4.a x); refine (spec_l1Good_is x _ _ dx).mono ?_; rintro e w2 ⟨rfl, hbb⟩; have lz := hbb.size; (try simp at lz); replace a0 := below_cell hbb rfl a0; replace a1 := below_cell hbb rfl a1; replace a2 := below_cell hbb rfl a2; replace a3 := below_cell hbb rfl a3; replace b0 := below_cell hbb rfl b0; replace b1 := below_cell hbb rfl b1; replace b2 := below_cell hbb rfl b2; replace b3 := below_cell hbb rfl b3) | (go_at_call_of 14 (R4.a y); refine (spec_l1Good_is y _ _ dy).mono ?_; rintro e w2 ⟨rfl, hbb⟩; have lz := hbb.size; (try simp at lz); replace a0 := below_cell hbb rfl a0; replace a1 := below_cell hbb rfl a1; replace a2 := below_cell hbb rfl a2; replace a3 := below_cell hbb rfl a3; replace b0 := below_cell hbb rfl b0; replace b1 := below_cell hbb rfl b1; replace b2 := below_cell hbb rfl b2; replace b3 := below_cell hbb rfl b3))
      all_goals
        go_wp2_with fail
        go_ret2
        exact ⟨by rw [Hr.out]; rfl, (by repeat (first | exact Below.refl _ _ | assumption | refine Below.drew ?_ | refine below_drewN ?_ _ | refine Below.alloc ?_ (by first | omega | (simp <;> omega)) _ | refine Below.setCell ?_ (by first | omega | (simp <;> omega)) _ | refine Below.trans ?_ (Below.mono (by assumption) (by first | omega | (simp <;> omega)))))⟩
  · have dx : decide (GoodS x) = false := decide_eq_false hx
    have Hr := Lib.hid (mpow_x (y := y) hx)
    go_enter Try.func5, Try.ntmps5
    go_wp2_with fail
    have a0 : ((w.alloc (.cells #[.int .i64 x.a, .int .i64 x.b, .int .i64 x.c, .int .i64 x.d] 26)).alloc (.cells #[.int .i64 y.a, .int .i64 y.b, .int .i64 y.c, .int .i64 y.d] 26)).cell? ⟨w.heap.size, 0, none⟩ = some (.int .i64 x.a) := (by repeat (first | (refine Eq.trans (World.cell?_alloc_at _ _ _ _ ?hh) ?_; (case hh => (simp; done)); rfl) | refine cell_alloc_keep _ ?_))
    have a1 : ((w.alloc (.cells #[.int .i64 x.a, .int .i64 x.b, .int .i64 x.c, .int .i64 x.d] 26)).alloc (.cells #[.int .i64 y.a, .int .i64 y.b, .int .i64 y.c, .int .i64 y.d] 26)).cell? ⟨w.heap.size, 1, none⟩ = some (.int .i64 x.b) := (by repeat (first | (refine Eq.trans (World.cell?_alloc_at _ _ _ _ ?hh) ?_; (case hh => (simp; done)); rfl) | refine cell_alloc_keep _ ?_))
    have a2 : ((w.alloc (.cells #[.int .i64 x.a, .int .i64 x.b, .int .i64 x.c, .int .i64 x.d] 26)).alloc (.cells #[.int .i64 y.a, .int .i64 y.b, .int .i64 y.c, .int .i64 y.d] 26)).cell? ⟨w.heap.size, 2, none⟩ = some (.int .i64 x.c) := (by repeat (first | (refine Eq.trans (World.cell?_alloc_at _ _ _ _ ?hh) ?_; (case hh => (simp; done)); rfl) | refine cell_alloc_keep _ ?_))
    have a3 : ((w.alloc (.cells #[.int .i64 x.a, .int .i64 x.b, .int .i64 x.c, .int .i64 x.d] 26)).alloc (.cells #[.int .i64 y.a, .int .i64 y.b, .int .i64 y.c, .int .i64 y.d] 26)).cell? ⟨w.heap.size, 3, none⟩ = some (.int .i64 x.d) := (by repeat (first | (refine Eq.trans (World.cell?_alloc_at _ _ _ _ ?hh) ?_; (case hh => (simp; done)); rfl) | refine cell_alloc_keep _ ?_))
    have b0 : ((w.alloc (.cells #[.int .i64 x.a, .int .i64 x.b, .int .i64 x.c, .int .i64 x.d] 26)).alloc (.cells #[.int .i64 y.a, .int .i64 y.b, .int .i64 y.c, .int .i64 y.d] 26)).cell? ⟨w.heap.size + 1, 0, none⟩ = some (.int .i64 y.a) := (by repeat (first | (refine Eq.trans (World.cell?_alloc_at _ _ _ _ ?hh) ?_; (case hh => (simp; done)); rfl) | refine cell_alloc_keep _ ?_))
    have b1 : ((w.alloc (.cells #[.int .i64 x.a, .int .i64 x.b, .int .i64 x.c, .int .i64 x.d] 26)).alloc (.cells #[.int .i64 y.a, .int .i64 y.b, .int .i64 y.c, .int .i64 y.d] 26)).cell? ⟨w.heap.size + 1, 1, none⟩ = some (.int .i64 y.b) := (by repeat (first | (refine Eq.trans (World.cell?_alloc_at _ _ _ _ ?hh) ?_; (case hh => (simp; done)); rfl) | refine cell_alloc_keep _ ?_))
    have b2 : ((w.alloc (.cells #[.int .i64 x.a, .int .i64 x.b, .int .i64 x.c, .int .i64 x.d] 26)).alloc (.cells #[.int .i64 y.a, .int .i64 y.b, .int .i64 y.c, .int .i64 y.d] 26)).cell? ⟨w.heap.size + 1, 2, none⟩ = some (.int .i64 y.c) := (by repeat (first | (refine Eq.trans (World.cell?_alloc_at _ _ _ _ ?hh) ?_; (case hh => (simp; done)); rfl) | refine cell_alloc_keep _ ?_))
    have b3 : ((w.alloc (.cells #[.int .i64 x.a, .int .i64 x.b, .int .i64 x.c, .int .i64 x.d] 26)).alloc (.cells #[.int .i64 y.a, .int .i64 y.b, .int .i64 y.c, .int .i64 y.d] 26)).cell? ⟨w.heap.size + 1, 3, none⟩ = some (.int .i64 y.d) := (by repeat (first | (refine Eq.trans (World.cell?_alloc_at _ _ _ _ ?hh) ?_; (case hh => (simp; done)); rfl) | refine cell_alloc_keep _ ?_))
    go_region_with (first | (go_at_call_of 14 (R4.a x); refine (spec_l1Good_is x _ _ dx).mono ?_; rintro e w2 ⟨rfl, hbb⟩; have lz := hbb.size; (try simp at lz); replace a0 := below_cell hbb rfl a0; replace a1 := below_cell hbb rfl a1; replace a2 := below_cell hbb rfl a2; replace a3 := below_cell hbb rfl a3; replace b0 := below_cell hbb rfl b0; replace b1 := below_cell hbb rfl b1; replace b2 := below_cell hbb rfl b2; replace b3 := below_cell hbb rfl b3))
    all_goals
      go_wp2_with fail
      go_ret2
      exact ⟨by rw [Hr.out]; rfl, (by repeat (first | exact Below.refl _ _ | assumption | refine Below.drew ?_ | refine below_drewN ?_ _ | refine Below.alloc ?_ (by first | omega | (simp <;> omega)) _ | refine Below.setCell ?_ (by first | omega | (simp <;> omega)) _ | refine Below.trans ?_ (Below.mono (by assumption) (by first | omega | (simp <;> omega)))))⟩
end Go.Proofs.Ytfjokpgcmhebfaa
