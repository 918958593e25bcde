/- The program's tests of numbers. -/
import Derived.Test.YteimcfbliigjmaaZ01Dy0
import Derived.Test.YteimcfbliigjmaaZ09Bw
import Derived.Test.YteimcfbliigjmaaZ21Pau6
import Derived.BigRegion
import Derived.BigQuiet
namespace Go.Proofs.Yteimcfbliigjmaa
set_option linter.unusedSimpArgs false
set_option linter.unusedVariables false
set_option linter.unnecessarySimpa false
set_option maxRecDepth 200000
open Go.ChangeShapes Go.WideShapes Go.ChangeAt Go.RowKit

/-- A number's cells. -/
abbrev Rg4.cs (x : Rg4) : List Value := [.int .i64 x.a, .int .i64 x.b, .int .i64 x.c, .int .i64 x.d]
abbrev Rg4.v (x : Rg4) : Value := .agg #[.int .i64 x.a, .int .i64 x.b, .int .i64 x.c, .int .i64 x.d]
theorem Rg4.len (x : Rg4) : x.cs.length = 4 := rfl
theorem Rg4.ones (x : Rg4) : ∀ u ∈ x.cs, u.oneCell' = true := by
  intro u hu
  simp only [Rg4.cs, List.mem_cons, List.not_mem_nil, or_false] at hu
  rcases hu with rfl | rfl | rfl | rfl <;> rfl
theorem tm2 (x : Int) : x.tmod 2 = 0 ↔ x % 2 = 0 :=
  ⟨fun h => Int.emod_eq_zero_of_dvd (Int.dvd_of_tmod_eq_zero h), fun h => Int.tmod_eq_zero_of_dvd (Int.dvd_of_emod_eq_zero h)⟩
theorem impl_isCoef_ok (n : Int) (w : World) (h : -1000000000 ≤ n ∧ n ≤ 1000000000) :
    Calls Try.prog 63 #[.int .i64 n] w fun e w' => e = .returned (.bool true) ∧ w = w' := by
  have H := Lib.hid (show inB n (-1000000000) 1000000000 = true from by simpa [inB] using h)
  clear h
  go_enter Try.func63, Try.ntmps63
  go_wp2_with fail
  refine (within_is H.out _).mono ?_; rintro e w1 ⟨rfl, rfl⟩
  go_wp2_with fail
  go_ret
  exact ⟨rfl, rfl⟩
set_option maxHeartbeats 1000000 in
theorem impl_IsValidRing_ok (x : Rg4) (w : World) (h : x.le 1000000000) :
    Calls Try.prog 57 #[x.v] w fun e w' => e = .returned (.bool true) ∧ Below w.heap.size w w' := by
  obtain ⟨a, b, c, d⟩ := x
  obtain ⟨h1, h2, h3, h4⟩ := h
  dsimp only at h1 h2 h3 h4
  have H1 := Lib.hid h1; have H2 := Lib.hid h2; have H3 := Lib.hid h3; have H4 := Lib.hid h4
  clear h1 h2 h3 h4
  go_enter Try.func57, Try.ntmps57
  go_wp2_with fail
  refine (impl_isCoef_ok _ _ H1.out).mono ?_; rintro e w1 ⟨rfl, rfl⟩
  go_wp2_with fail
  refine (impl_isCoef_ok _ _ H2.out).mono ?_; rintro e w2 ⟨rfl, rfl⟩
  go_wp2_with fail
  refine (impl_isCoef_ok _ _ H3.out).mono ?_; rintro e w3 ⟨rfl, rfl⟩
  go_wp2_with fail
  refine (impl_isCoef_ok _ _ H4.out).mono ?_; rintro e w4 ⟨rfl, rfl⟩
  go_wp2_with fail
  go_ret
  exact ⟨rfl, (by repeat (first | exact Below.refl _ _ | assumption | refine Below.drew ?_ | refine below_drewN ?_ _ | refine Below.alloc ?_ (by first | omega | (simp <;> omega)) _ | refine Below.setCell ?_ (by first | omega | (simp <;> omega)) _ | refine Below.trans ?_ (Below.mono (by assumption) (by first | omega | (simp <;> omega)))))⟩
set_option maxHeartbeats 1000000 in
theorem impl_isEven_any (x : Rg4) (w : World) (h : x.le 1000000000) :
    Calls Try.prog 59 #[x.v] w fun e w' => e = .returned (.bool x.evn) ∧ Below w.heap.size w w' := by
  obtain ⟨a, b, c, d⟩ := x
  obtain ⟨h1, h2, h3, h4⟩ := h
  dsimp only at h1 h2 h3 h4
  have e1 : IntKind.i64.wrap (a + c) = a + c := IntWalk.i64_in _ (by omega)
  have e2 : IntKind.i64.wrap (b + d) = b + d := IntWalk.i64_in _ (by omega)
  have hA : (-2000000000 ≤ a + c) ∧ (a + c ≤ 2000000000) := by omega
  have hB : (-2000000000 ≤ b + d) ∧ (b + d ≤ 2000000000) := by omega
  go_enter Try.func59, Try.ntmps59
  go_wp2_with fail
  · rename_i h
    go_ret
    exact ⟨ret_bool (by rw [Bool.eq_iff_iff]; simp [Rg4.evn, (tm2 _).1 h, tm2]), (by repeat (first | exact Below.refl _ _ | assumption | refine Below.drew ?_ | refine below_drewN ?_ _ | refine Below.alloc ?_ (by first | omega | (simp <;> omega)) _ | refine Below.setCell ?_ (by first | omega | (simp <;> omega)) _ | refine Below.trans ?_ (Below.mono (by assumption) (by first | omega | (simp <;> omega)))))⟩
  · rename_i h
    go_ret
    exact ⟨ret_bool (by rw [Bool.eq_iff_iff]; simp [Rg4.evn, ← tm2, h]), (by repeat (first | exact Below.refl _ _ | assumption | refine Below.drew ?_ | refine below_drewN ?_ _ | refine Below.alloc ?_ (by first | omega | (simp <;> omega)) _ | refine Below.setCell ?_ (by first | omega | (simp <;> omega)) _ | refine Below.trans ?_ (Below.mono (by assumption) (by first | omega | (simp <;> omega)))))⟩
end Go.Proofs.Yteimcfbliigjmaa
