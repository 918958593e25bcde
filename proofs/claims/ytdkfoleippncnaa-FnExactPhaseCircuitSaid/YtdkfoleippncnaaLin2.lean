/- A valid linear map: the test in the program and in the reference. -/
import Derived.Test.YtdkfoleippncnaaRank3
import Derived.Deep.DrawnRows
import Derived.Deep.RegionHeld3
import Derived.Deep.RegionWith
namespace Go.Proofs.Ytdkfoleippncnaa
set_option linter.unusedSimpArgs false
set_option linter.unusedVariables false
set_option linter.unnecessarySimpa false
set_option maxRecDepth 200000
open Go.ChangeShapes Go.WideShapes Go.ChangeAt Go.RowKit

/-- A list of rows is a valid linear map. -/
def LinOk (zs : List Int) : Prop := (1 ≤ zs.length ∧ zs.length ≤ 5) ∧ allIn zs 0 (2 ^ zs.length - 1) = true ∧ rkI zs = zs.length
noncomputable instance (zs : List Int) : Decidable (LinOk zs) := Classical.propDecidable _
noncomputable def linB (zs : List Int) : Bool := decide (LinOk zs)
theorem pow_len {n : Nat} (h : n ≤ 5) : (2 : Int) ^ n ≤ 32 ∧ 1 ≤ (2 : Int) ^ n := by
  have : n = 0 ∨ n = 1 ∨ n = 2 ∨ n = 3 ∨ n = 4 ∨ n = 5 := by omega
  rcases this with rfl | rfl | rfl | rfl | rfl | rfl <;> decide
theorem linB_1 {zs : List Int} (h : ¬ (1 ≤ zs.length ∧ zs.length ≤ 5)) : linB zs = false := decide_eq_false fun hh => h hh.1
theorem linB_2 {zs : List Int} (h : allIn zs 0 (2 ^ zs.length - 1) = false) : linB zs = false := decide_eq_false fun hh => by have := hh.2.1; rw [h] at this; cases this
theorem linB_3 {zs : List Int} (h1 : 1 ≤ zs.length ∧ zs.length ≤ 5) (h2 : allIn zs 0 (2 ^ zs.length - 1) = true) : linB zs = decide ((rkI zs : Int) = (zs.length : Int)) := by
  have e : LinOk zs ↔ (rkI zs : Int) = (zs.length : Int) := ⟨fun h => by rw [h.2.2], fun h => ⟨h1, h2, by omega⟩⟩
  unfold linB
  by_cases hh : LinOk zs
  · rw [decide_eq_true hh, decide_eq_true (e.1 hh)]
  · rw [decide_eq_false hh, decide_eq_false (fun h => hh (e.2 h))]
theorem LinOk.small {zs : List Int} (h : LinOk zs) : (1 ≤ zs.length ∧ zs.length ≤ 5) ∧ ∀ z ∈ zs, 0 ≤ z ∧ z ≤ 31 := by
  refine ⟨h.1, fun z hz => ?_⟩
  have h1 := allIn_iff.1 h.2.1 z hz
  have := (pow_len h.1.2).1
  omega
theorem all_small {zs : List Int} (h1 : zs.length ≤ 5) (h2 : allIn zs 0 (2 ^ zs.length - 1) = true) : ∀ z ∈ zs, 0 ≤ z ∧ z ≤ 1023 := fun z hz => by
  have h3 := allIn_iff.1 h2 z hz
  have := (pow_len h1).1
  omega
set_option maxHeartbeats 1000000 in
theorem spec_l12Valid_any (v : Value) (zs : List Int) (w : World) (h : RdI w v zs) (hn : zs.length ≤ 1048576) :
    Calls Try.prog 98 #[.agg #[v]] w fun e w' => e = .returned (.bool (linB zs)) ∧ Below w.heap.size w w' := by
  have H := Lib.hid h
  obtain ⟨A, c, rfl, _⟩ := h.form
  clear h
  by_cases h1 : 1 ≤ zs.length ∧ zs.length ≤ 5
  · have d1 : decide ((1 : Int) ≤ (zs.length : Int) ∧ (zs.length : Int) ≤ 5) = true := by simp; omega
    have D1 := Lib.hid d1; clear d1
    obtain ⟨h2, h3⟩ := h1
    obtain ⟨p1, p2⟩ := pow_len h3
    have hw : IntKind.i64.wrap ((2 : Int) ^ zs.length) = (2 : Int) ^ zs.length := IntWalk.i64_in _ (by omega)
    have hw2 : IntKind.i64.wrap ((2 : Int) ^ zs.length - 1) = (2 : Int) ^ zs.length - 1 := IntWalk.i64_in _ (by omega)
    cases ha : allIn zs 0 (2 ^ zs.length - 1) with
    | false =>
      have HR := Lib.hid (linB_2 ha)
      have Ha := Lib.hid ha; clear ha
      go_enter Try.func98, Try.ntmps98
      go_wp2_with fail
      refine (l1In_p _ _ _ _).mono ?_; rintro e w' ⟨rfl, rfl⟩
      rw [D1.out]
      go_wp2_with fail
      refine (spec_l1All_any _ zs _ _ _ (Rd.below H.out (show Below w.heap.size w _ from (by repeat (first | exact Below.refl _ _ | assumption | refine Below.drew ?_ | refine below_drewN ?_ _ | refine Below.alloc ?_ (by first | omega | (simp <;> omega)) _ | refine Below.setCell ?_ (by first | omega | (simp <;> omega)) _ | refine Below.trans ?_ (Below.mono (by assumption) (by first | omega | (simp <;> omega)))))) rfl)).mono ?_; rintro e w' ⟨rfl, rfl⟩
      rw [Ha.out]
      go_wp2_with fail
      go_ret
      exact ⟨ret_bool (by rw [HR.out]), (by repeat (first | exact Below.refl _ _ | assumption | refine Below.drew ?_ | refine below_drewN ?_ _ | refine Below.alloc ?_ (by first | omega | (simp <;> omega)) _ | refine Below.setCell ?_ (by first | omega | (simp <;> omega)) _ | refine Below.trans ?_ (Below.mono (by assumption) (by first | omega | (simp <;> omega)))))⟩
    | true =>
      have HR := Lib.hid (linB_3 ⟨h2, h3⟩ ha)
      have Ha := Lib.hid ha; clear ha
      go_enter Try.func98, Try.ntmps98
      go_wp2_with fail
      refine (l1In_p _ _ _ _).mono ?_; rintro e w' ⟨rfl, rfl⟩
      rw [D1.out]
      go_wp2_with fail
      refine (spec_l1All_any _ zs _ _ _ (Rd.below H.out (show Below w.heap.size w _ from (by repeat (first | exact Below.refl _ _ | assumption | refine Below.drew ?_ | refine below_drewN ?_ _ | refine Below.alloc ?_ (by first | omega | (simp <;> omega)) _ | refine Below.setCell ?_ (by first | omega | (simp <;> omega)) _ | refine Below.trans ?_ (Below.mono (by assumption) (by first | omega | (simp <;> omega)))))) rfl)).mono ?_; rintro e w' ⟨rfl, rfl⟩
      rw [Ha.out]
      go_wp2_with fail
      refine (spec_l12Rank_any _ zs _ (Rd.below H.out (show Below w.heap.size w _ from (by repeat (first | exact Below.refl _ _ | assumption | refine Below.drew ?_ | refine below_drewN ?_ _ | refine Below.alloc ?_ (by first | omega | (simp <;> omega)) _ | refine Below.setCell ?_ (by first | omega | (simp <;> omega)) _ | refine Below.trans ?_ (Below.mono (by assumption) (by first | omega | (simp <;> omega)))))) rfl) hn (all_small h3 Ha.out)).mono ?_; rintro e w1 ⟨rfl, hb1⟩
      go_wp2_with fail
      go_ret
      exact ⟨ret_bool (by rw [HR.out]; rfl), (by repeat (first | exact Below.refl _ _ | assumption | refine Below.drew ?_ | refine below_drewN ?_ _ | refine Below.alloc ?_ (by first | omega | (simp <;> omega)) _ | refine Below.setCell ?_ (by first | omega | (simp <;> omega)) _ | refine Below.trans ?_ (Below.mono (by assumption) (by first | omega | (simp <;> omega)))))⟩
  · have HR := Lib.hid (linB_1 h1)
    have d1 : decide ((1 : Int) ≤ (zs.length : Int) ∧ (zs.length : Int) ≤ 5) = false := by simp; omega
    have D1 := Lib.hid d1; clear d1 h1
    go_enter Try.func98, Try.ntmps98
    go_wp2_with fail
    refine (l1In_p _ _ _ _).mono ?_; rintro e w' ⟨rfl, rfl⟩
    rw [D1.out]
    go_wp2_with fail
    go_ret
    exact ⟨ret_bool (by rw [HR.out]), (by repeat (first | exact Below.refl _ _ | assumption | refine Below.drew ?_ | refine below_drewN ?_ _ | refine Below.alloc ?_ (by first | omega | (simp <;> omega)) _ | refine Below.setCell ?_ (by first | omega | (simp <;> omega)) _ | refine Below.trans ?_ (Below.mono (by assumption) (by first | omega | (simp <;> omega)))))⟩
theorem IsValidLinear1_any (B n : Nat) (zs : List Int) (w : World) (hB : B < w.heap.size) (hc : w.cell? ⟨B, 0, none⟩ = some (.int .i64 (n : Int))) (hn : n ≤ 5) :
    PredB 149 #[.pointer (some ⟨B, 0, none⟩)] (Value.int .i64) (fun z => !decide (0 ≤ z ∧ z ≤ 2 ^ n - 1)) zs w := by
  intro W x hx hb
  have hc' := (hb.cell (p := ⟨B, 0, none⟩) hB).trans hc
  obtain ⟨p1, p2⟩ := pow_len hn
  have hw : IntKind.i64.wrap ((2 : Int) ^ n) = (2 : Int) ^ n := IntWalk.i64_in _ (by omega)
  have hw2 : IntKind.i64.wrap ((2 : Int) ^ n - 1) = (2 : Int) ^ n - 1 := IntWalk.i64_in _ (by omega)
  clear hc hb hx
  show Calls Try.prog 149 #[.int .i64 x, .pointer (some ⟨B, 0, none⟩)] W _
  go_enter Try.func149, Try.ntmps149
  go_wp2_with fail
  refine (within_p _ _ _ _).mono ?_; rintro e w' ⟨rfl, rfl⟩
  go_wp2_with fail
  go_ret
  exact ⟨ret_bool (by by_cases h1 : 0 ≤ x <;> by_cases h2 : x ≤ 2 ^ n - 1 <;> simp [h1, h2]), (by repeat (first | exact Below.refl _ _ | assumption | refine Below.drew ?_ | refine below_drewN ?_ _ | refine Below.alloc ?_ (by first | omega | (simp <;> omega)) _ | refine Below.setCell ?_ (by first | omega | (simp <;> omega)) _ | refine Below.trans ?_ (Below.mono (by assumption) (by first | omega | (simp <;> omega)))))⟩
set_option maxHeartbeats 4000000 in
theorem impl_IsValidLinear_any (v : Value) (zs : List Int) (w : World) (h : RdI w v zs) (hn : zs.length ≤ 1048576) :
    Calls Try.prog 113 #[.agg #[v]] w fun e w' => e = .returned (.bool (linB zs)) ∧ Below w.heap.size w w' := by
  have H := Lib.hid h
  have eg := enters_of Try.func149 (by kernel_rfl) rfl
  have Eg := Lib.hid eg; clear eg
  obtain ⟨A, c, rfl, _⟩ := h.form
  clear h
  by_cases h1 : 1 ≤ zs.length ∧ zs.length ≤ 5
  · have d1 : decide ((1 : Int) ≤ (zs.length : Int) ∧ (zs.length : Int) ≤ 5) = true := by simp; omega
    have D1 := Lib.hid d1; clear d1
    obtain ⟨h2, h3⟩ := h1
    cases ha : allIn zs 0 (2 ^ zs.length - 1) with
    | false =>
      have HR := Lib.hid (linB_2 ha)
      have Ha := Lib.hid ha; clear ha
      go_enter Try.func113, Try.ntmps113
      go_wp2_with fail
      have bp := Lib.hid (show Below w.heap.size w ((w.alloc (.cells #[.slice A zs.length c] 51)).alloc (.cells #[.int .i64 (zs.length : Int)] 3)) from (by repeat (first | exact Below.refl _ _ | assumption | refine Below.drew ?_ | refine below_drewN ?_ _ | refine Below.alloc ?_ (by first | omega | (simp <;> omega)) _ | refine Below.setCell ?_ (by first | omega | (simp <;> omega)) _ | refine Below.trans ?_ (Below.mono (by assumption) (by first | omega | (simp <;> omega))))))
      first | (go_region_with ((first | (go_at_call 83; refine (within_p _ _ _ _).mono ?_; rintro e w' ⟨rfl, rfl⟩; rw [D1.out]) | (go_at_call 148; refine (slices_ContainsFunc_ints _ _ _ Eg.out _ zs _ (Rd.below H.out (show Below w.heap.size w _ from (by repeat (first | exact Below.refl _ _ | assumption | refine Below.drew ?_ | refine below_drewN ?_ _ | refine Below.alloc ?_ (by first | omega | (simp <;> omega)) _ | refine Below.setCell ?_ (by first | omega | (simp <;> omega)) _ | refine Below.trans ?_ (Below.mono (by assumption) (by first | omega | (simp <;> omega)))))) rfl) (IsValidLinear1_any (w.heap.size + 1) zs.length zs _ (by simp) (by simp) h3)).mono ?_; rintro e w1 ⟨rfl, hb1⟩; rw [any_not, Ha.out, Bool.not_false])))) | fail
      all_goals
        go_wp2_with fail
        go_ret
        exact ⟨ret_bool (by rw [HR.out]), (by repeat (first | exact Below.refl _ _ | assumption | refine Below.drew ?_ | refine below_drewN ?_ _ | refine Below.alloc ?_ (by first | omega | (simp <;> omega)) _ | refine Below.setCell ?_ (by first | omega | (simp <;> omega)) _ | refine Below.trans ?_ (Below.mono (by assumption) (by first | omega | (simp <;> omega)))))⟩
    | true =>
      have HR := Lib.hid (linB_3 ⟨h2, h3⟩ ha)
      have Ha := Lib.hid ha; clear ha
      have c0 : ((w.alloc (.cells #[.slice A zs.length c] 51)).alloc (.cells #[.int .i64 (zs.length : Int)] 3)).cell? ⟨w.heap.size, 0, none⟩ = some (.slice A zs.length c) := (by repeat (first | (refine Eq.trans (World.cell?_alloc_at _ _ _ _ ?hh) ?_; (case hh => (simp; done)); rfl) | refine cell_alloc_keep _ ?_))
      have c1 : ((w.alloc (.cells #[.slice A zs.length c] 51)).alloc (.cells #[.int .i64 (zs.length : Int)] 3)).cell? ⟨w.heap.size + 1, 0, none⟩ = some (.int .i64 (zs.length : Int)) := (by repeat (first | (refine Eq.trans (World.cell?_alloc_at _ _ _ _ ?hh) ?_; (case hh => (simp; done)); rfl) | refine cell_alloc_keep _ ?_))
      go_enter Try.func113, Try.ntmps113
      go_wp2_with fail
      go_region_held3 (fun w' => w'.cell? ⟨w.heap.size, 0, none⟩ = some (.slice A zs.length c) ∧ w'.cell? ⟨w.heap.size + 1, 0, none⟩ = some (.int .i64 (zs.length : Int))) (first | go_keep | (go_split_ands; refine ⟨?_, ?_⟩ <;> (refine below_cell hb1 rfl ?_; assumption)) | (go_split_ands; refine ⟨?_, ?_⟩ <;> (refine below_cell hb2 rfl ?_; assumption))) (first | (go_at_call 83; refine (within_p _ _ _ _).mono ?_; rintro e w' ⟨rfl, rfl⟩; rw [D1.out]) | (go_at_call 148; refine (slices_ContainsFunc_ints _ _ _ Eg.out _ zs _ (Rd.below H.out (show Below w.heap.size w _ from (by repeat (first | exact Below.refl _ _ | assumption | refine Below.drew ?_ | refine below_drewN ?_ _ | refine Below.alloc ?_ (by first | omega | (simp <;> omega)) _ | refine Below.setCell ?_ (by first | omega | (simp <;> omega)) _ | refine Below.trans ?_ (Below.mono (by assumption) (by first | omega | (simp <;> omega)))))) rfl) (IsValidLinear1_any (w.heap.size + 1) zs.length zs _ (by simp) (by simp) h3)).mono ?_; rintro e w1 ⟨rfl, hb1⟩; rw [any_not, Ha.out, Bool.not_true]) | (go_at_call 150; refine (impl_rankOf_any _ zs _ (Rd.below H.out (show Below w.heap.size w _ from (by repeat (first | exact Below.refl _ _ | assumption | refine Below.drew ?_ | refine below_drewN ?_ _ | refine Below.alloc ?_ (by first | omega | (simp <;> omega)) _ | refine Below.setCell ?_ (by first | omega | (simp <;> omega)) _ | refine Below.trans ?_ (Below.mono (by assumption) (by first | omega | (simp <;> omega)))))) rfl) hn (all_small h3 Ha.out)).mono ?_; rintro e w2 ⟨rfl, hb2⟩))
      all_goals
        go_wp2_with fail
        go_ret
        have hz1 := hb1.size; (try simp at hz1)
        exact ⟨ret_bool (by rw [HR.out]; rfl), (by repeat (first | exact Below.refl _ _ | assumption | refine Below.drew ?_ | refine below_drewN ?_ _ | refine Below.alloc ?_ (by first | omega | (simp <;> omega)) _ | refine Below.setCell ?_ (by first | omega | (simp <;> omega)) _ | refine Below.trans ?_ (Below.mono (by assumption) (by first | omega | (simp <;> omega)))))⟩
  · have HR := Lib.hid (linB_1 h1)
    have d1 : decide ((1 : Int) ≤ (zs.length : Int) ∧ (zs.length : Int) ≤ 5) = false := by simp; omega
    have D1 := Lib.hid d1; clear d1 h1
    go_enter Try.func113, Try.ntmps113
    go_wp2_with fail
    first | (go_region_with ((go_at_call 83; refine (within_p _ _ _ _).mono ?_; rintro e w' ⟨rfl, rfl⟩; rw [D1.out]))) | fail
    all_goals
      go_wp2_with fail
      go_ret
      exact ⟨ret_bool (by rw [HR.out]), (by repeat (first | exact Below.refl _ _ | assumption | refine Below.drew ?_ | refine below_drewN ?_ _ | refine Below.alloc ?_ (by first | omega | (simp <;> omega)) _ | refine Below.setCell ?_ (by first | omega | (simp <;> omega)) _ | refine Below.trans ?_ (Below.mono (by assumption) (by first | omega | (simp <;> omega)))))⟩
end Go.Proofs.Ytdkfoleippncnaa
