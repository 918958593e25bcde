/- A valid linear map: the test in the program and in the reference. -/
import Derived.Test.YtbcjligkjoimmaaZ19M
import Derived.Deep.DrawnRows
import Derived.Deep.RegionHeld3
import Derived.Deep.RegionWith
import Derived.BigRegion
namespace Go.Proofs.Ytbcjligkjoimmaa
set_option linter.unusedSimpArgs false
set_option linter.unusedVariables false
set_option linter.unnecessarySimpa false
set_option maxRecDepth 200000
open Go.ChangeShapes Go.WideShapes Go.ChangeAt Go.RowKit

/-- A list of rows is a valid linear map. -/
def LinOk (zs : List Int) : Prop := (1 ≤ zs.length ∧ zs.length ≤ 5) ∧ allIn zs 0 (2 ^ zs.length - 1) = true ∧ rkI zs = zs.length
noncomputable instance (zs : List Int) : Decidable (LinOk zs) := Classical.propDecidable _
noncomputable def linB (zs : List Int) : Bool := decide (LinOk zs)
theorem pow_len {n : Nat} (h : n ≤ 5) : (2 : Int) ^ n ≤ 32 ∧ 1 ≤ (2 : Int) ^ n := by
  have : n = 0 ∨ n = 1 ∨ n = 2 ∨ n = 3 ∨ n = 4 ∨ n = 5 := by omega
  rcases this with rfl | rfl | rfl | rfl | rfl | rfl <;> decide
theorem linB_1 {zs : List Int} (h : ¬ (1 ≤ zs.length ∧ zs.length ≤ 5)) : linB zs = false := decide_eq_false fun hh => h hh.1
theorem linB_2 {zs : List Int} (h : allIn zs 0 (2 ^ zs.length - 1) = false) : linB zs = false := decide_eq_false fun hh => by have := hh.2.1; rw [h] at this; cases this
theorem linB_3 {zs : List Int} (h1 : 1 ≤ zs.length ∧ zs.length ≤ 5) (h2 : allIn zs 0 (2 ^ zs.length - 1) = true) : linB zs = decide ((rkI zs : Int) = (zs.length : Int)) := by
  have e : LinOk zs ↔ (rkI zs : Int) = (zs.length : Int) := ⟨fun h => by rw [h.2.2], fun h => ⟨h1, h2, by omega⟩⟩
  unfold linB
  by_cases hh : LinOk zs
  · rw [decide_eq_true hh, decide_eq_true (e.1 hh)]
  · rw [decide_eq_false hh, decide_eq_false (fun h => hh (e.2 h))]
theorem LinOk.small {zs : List Int} (h : LinOk zs) : (1 ≤ zs.length ∧ zs.length ≤ 5) ∧ ∀ z ∈ zs, 0 ≤ z ∧ z ≤ 31 := by
  refine ⟨h.1, fun z hz => ?_⟩
  have h1 := allIn_iff.1 h.2.1 z hz
  have := (pow_len h.1.2).1
  omega
theorem all_small {zs : List Int} (h1 : zs.length ≤ 5) (h2 : allIn zs 0 (2 ^ zs.length - 1) = true) : ∀ z ∈ zs, 0 ≤ z ∧ z ≤ 1023 := fun z hz => by
  have h3 := allIn_iff.1 h2 z hz
  have := (pow_len h1).1
  omega
set_option maxHeartbeats 1000000 in
theorem spec_l12Valid_any (v : Value) (zs : List Int) (w : World) (h : RdI w v zs) (hn : zs.length ≤ 1048576) :
    Calls Try.prog 44 #[.agg #[v]] w fun e w' => e = .returned (.bool (linB zs)) ∧ Below w.heap.size w w' := by
  have H := Lib.hid h
  obtain ⟨A, c, rfl, _⟩ := h.form
  clear h
  by_cases h1 : 1 ≤ zs.length ∧ zs.length ≤ 5
  · have d1 : decide ((1 : Int) ≤ (zs.length : Int) ∧ (zs.length : Int) ≤ 5) = true := by simp; omega
    have D1 := Lib.hid d1; clear d1
    obtain ⟨h2, h3⟩ := h1
    obtain ⟨p1, p2⟩ := pow_len h3
    have hw : IntKind.i64.wrap ((2 : Int) ^ zs.length) = (2 : Int) ^ zs.length := IntWalk.i64_in _ (by omega)
    have hw2 : IntKind.i64.wrap ((2 : Int) ^ zs.length - 1) = (2 : Int) ^ zs.length - 1 := IntWalk.i64_in _ (by omega)
    cases ha : allIn zs 0 (2 ^ zs.length - 1) with
    | false =>
      have HR := Lib.hid (linB_2 ha)
      have Ha := Lib.hid ha; clear ha
      go_enter Try.func44, Try.ntmps44
      go_wp2_with fail
      refine (l1In_p _ _ _ _).mono ?_; rintro e w' ⟨rfl, rfl⟩
      rw [D1.out]
      go_wp2_with fail
      refine (spec_l1All_any _ zs _ _ _ (Rd.below H.out (show Below w.heap.size w _ from (by repeat (first | exact Below.refl _ _ | assumption | refine Below.drew ?_ | refine below_drewN ?_ _ | refine Below.alloc ?_ (by first | omega | (simp <;> omega)) _ | refine Below.setCell ?_ (by first | omega | (simp <;> omega)) _ | refine Below.trans ?_ (Below.mono (by assumption) (by first | omega | (simp <;> omega)))))) rfl)).mono ?_; rintro e w' ⟨rfl, rfl⟩
      rw [Ha.out]
      go_wp2_with fail
      go_ret
      exact ⟨ret_bool (by rw [HR.out]), (by repeat (first | exact Below.refl _ _ | assumption | refine Below.drew ?_ | refine below_drewN ?_ _ | refine Below.alloc ?_ (by first | omega | (simp <;> omega)) _ | refine Below.setCell ?_ (by first | omega | (simp <;> omega)) _ | refine Below.trans ?_ (Below.mono (by assumption) (by first | omega | (simp <;> omega)))))⟩
    | true =>
      have HR := Lib.hid (linB_3 ⟨h2, h3⟩ ha)
      have Ha := Lib.hid ha; clear ha
      go_enter Try.func44, Try.ntmps44
      go_wp2_with fail
      refine (l1In_p _ _ _ _).mono ?_; rintro e w' ⟨rfl, rfl⟩
      rw [D1.out]
      go_wp2_with fail
      refine (spec_l1All_any _ zs _ _ _ (Rd.below H.out (show Below w.heap.size w _ from (by repeat (first | exact Below.refl _ _ | assumption | refine Below.drew ?_ | refine below_drewN ?_ _ | refine Below.alloc ?_ (by first | omega | (simp <;> omega)) _ | refine Below.setCell ?_ (by first | omega | (simp <;> omega)) _ | refine Below.trans ?_ (Below.mono (by assumption) (by first | omega | (simp <;> omega)))))) rfl)).mono ?_; rintro e w' ⟨rfl, rfl⟩
      rw [Ha.out]
      go_wp2_with fail
      refine (spec_l12Rank_any _ zs _ (Rd.below H.out (show Below w.heap.size w _ from (by repeat (first | exact Below.refl _ _ | assumption | refine Below.drew ?_ | refine below_drewN ?_ _ | refine Below.alloc ?_ (by first | omega | (simp <;> omega)) _ | refine Below.setCell ?_ (by first | omega | (simp <;> omega)) _ | refine Below.trans ?_ (Below.mono (by assumption) (by first | omega | (simp <;> omega)))))) rfl) hn (all_small h3 Ha.out)).mono ?_; rintro e w1 ⟨rfl, hb1⟩
      go_wp2_with fail
      go_ret
      exact ⟨ret_bool (by rw [HR.out]; rfl), (by repeat (first | exact Below.refl _ _ | assumption | refine Below.drew ?_ | refine below_drewN ?_ _ | refine Below.alloc ?_ (by first | omega | (simp <;> omega)) _ | refine Below.setCell ?_ (by first | omega | (simp <;> omega)) _ | refine Below.trans ?_ (Below.mono (by assumption) (by first | omega | (simp <;> omega)))))⟩
  · have HR := Lib.hid (linB_1 h1)
    have d1 : decide ((1 : Int) ≤ (zs.length : Int) ∧ (zs.length : Int) ≤ 5) = false := by simp; omega
    have D1 := Lib.hid d1; clear d1 h1
    go_enter Try.func44, Try.ntmps44
    go_wp2_with fail
    refine (l1In_p _ _ _ _).mono ?_; rintro e w' ⟨rfl, rfl⟩
    rw [D1.out]
    go_wp2_with fail
    go_ret
    exact ⟨ret_bool (by rw [HR.out]), (by repeat (first | exact Below.refl _ _ | assumption | refine Below.drew ?_ | refine below_drewN ?_ _ | refine Below.alloc ?_ (by first | omega | (simp <;> omega)) _ | refine Below.setCell ?_ (by first | omega | (simp <;> omega)) _ | refine Below.trans ?_ (Below.mono (by assumption) (by first | omega | (simp <;> omega)))))⟩
theorem IsValidLinear1_any (B n : Nat) (zs : List Int) (w : World) (hB : B < w.heap.size) (hc : w.cell? ⟨B, 0, none⟩ = some (.int .i64 (n : Int))) (hn : n ≤ 5) :
    PredB 88 #[.pointer (some ⟨B, 0, none⟩)] (Value.int .i64) (fun z => !decide (0 ≤ z ∧ z ≤ 2 ^ n - 1)) zs w := by
  intro W x hx hb
  have hc' := (hb.cell (p := ⟨B, 0, none⟩) hB).trans hc
  obtain ⟨p1, p2⟩ := pow_len hn
  have hw : IntKind.i64.wrap ((2 : Int) ^ n) = (2 : Int) ^ n := IntWalk.i64_in _ (by omega)
  have hw2 : IntKind.i64.wrap ((2 : Int) ^ n - 1) = (2 : Int) ^ n - 1 := IntWalk.i64_in _ (by omega)
  clear hc hb hx
  show Calls Try.prog 88 #[.int .i64 x, .pointer (some ⟨B, 0, none⟩)] W _
  go_enter Try.func88, Try.ntmps88
  go_wp2_with fail
  refine (within_p _ _ _ _).mono ?_; rintro e w' ⟨rfl, rfl⟩
  go_wp2_with fail
  go_ret
  exact ⟨ret_bool (by by_cases h1 : 0 ≤ x <;> by_cases h2 : x ≤ 2 ^ n - 1 <;> simp [h1, h2]), (by repeat (first | exact Below.refl _ _ | assumption | refine Below.drew ?_ | refine below_drewN ?_ _ | refine Below.alloc ?_ (by first | omega | (simp <;> omega)) _ | refine Below.setCell ?_ (by first | omega | (simp <;> omega)) _ | refine Below.trans ?_ (Below.mono (by assumption) (by first | omega | (simp <;> omega)))))⟩
set_option maxHeartbeats 4000000 in
theorem impl_IsValidLinear_any (v : Value) (zs : List Int) (w : World) (h : RdI w v zs) (hn : zs.length ≤ 1048576) :
    Calls Try.prog 60 #[.agg #[v]] w fun e w' => e = .returned (.bool (linB zs)) ∧ Below w.heap.size w w' := by
  have H := Lib.hid h
  have eg := enters_of Try.func88 (by kernel_rfl) rfl
  have Eg := Lib.hid eg; clear eg
  obtain ⟨A, c, rfl, _⟩ := h.form
  clear h
  by_cases h1 : 1 ≤ zs.length ∧ zs.length ≤ 5
  · have d1 : decide ((1 : Int) ≤ (zs.length : Int) ∧ (zs.length : Int) ≤ 5) = true := by simp; omega
    have D1 := Lib.hid d1; clear d1
    obtain ⟨h2, h3⟩ := h1
    cases ha : allIn zs 0 (2 ^ zs.length - 1) with
    | false =>
      have HR := Lib.hid (linB_2 ha)
      have Ha := Lib.hid ha; clear ha
      go_enter Try.func60, Try.ntmps60
      go_wp2_with fail
      have bp := Lib.hid (show Below w.heap.size w ((w.alloc (.cells #[.slice A zs.length c] 35)).alloc (.cells #[.int .i64 (zs.length : Int)] 3)) from (by repeat (first | exact Below.refl _ _ | assumption | refine Below.drew ?_ | refine below_drewN ?_ _ | refine Below.alloc ?_ (by first | omega | (simp <;> omega)) _ | refine Below.setCell ?_ (by first | omega | (simp <;> omega)) _ | refine Below.trans ?_ (Below.mono (by assumption) (by first | omega | (simp <;> omega))))))
      first | (go_region_with ((first | (go_at_call 58; refine (within_p _ _ _ _).mono ?_; rintro e w' ⟨rfl, rfl⟩; rw [D1.out]) | (go_at_call 87; refine (slices_ContainsFunc_ints _ _ _ Eg.out _ zs _ (Rd.below H.out (show Below w.heap.size w _ from (by repeat (first | exact Below.refl _ _ | assumption | refine Below.drew ?_ | refine below_drewN ?_ _ | refine Below.alloc ?_ (by first | omega | (simp <;> omega)) _ | refine Below.setCell ?_ (by first | omega | (simp <;> omega)) _ | refine Below.trans ?_ (Below.mono (by assumption) (by first | omega | (simp <;> omega)))))) rfl) (IsValidLinear1_any (w.heap.size + 1) zs.length zs _ (by simp) (by simp) h3)).mono ?_; rintro e w1 ⟨rfl, hb1⟩; rw [any_not, Ha.out, Bool.not_false])))) | fail
      all_goals
        go_wp2_with fail
        go_ret
        exact ⟨ret_bool (by rw [HR.out]), (by repeat (first | exact Below.refl _ _ | assumption | refine Below.drew ?_ | refine below_drewN ?_ _ | refine Below.alloc ?_ (by first | omega | (simp <;> omega)) _ | refine Below.setCell ?_ (by first | omega | (simp <;> omega)) _ | refine Below.trans ?_ (Below.mono (by assumption) (by first | omega | (simp <;> omega)))))⟩
    | true =>
      have HR := Lib.hid (linB_3 ⟨h2, h3⟩ ha)
      have Ha := Lib.hid ha; clear ha
      have c0 : ((w.alloc (.cells #[.slice A zs.length c] 35)).alloc (.cells #[.int .i64 (zs.length : Int)] 3)).cell? ⟨w.heap.size, 0, none⟩ = some (.slice A zs.length c) := (by repeat (first | (refine Eq.trans (World.cell?_alloc_at _ _ _ _ ?hh) ?_; (case hh => (simp; done)); rfl) | refine cell_alloc_keep _ ?_))
      have c1 : ((w.alloc (.cells #[.slice A zs.length c] 35)).alloc (.cells #[.int .i64 (zs.length : Int)] 3)).cell? ⟨w.heap.size + 1, 0, none⟩ = some (.int .i64 (zs.length : Int)) := (by repeat (first | (refine Eq.trans (World.cell?_alloc_at _ _ _ _ ?hh) ?_; (case hh => (simp; done)); rfl) | refine cell_alloc_keep _ ?_))
      go_enter Try.func60, Try.ntmps60
      go_wp2_with fail
      go_region_held3 (fun w' => w'.cell? ⟨w.heap.size, 0, none⟩ = some (.slice A zs.length c) ∧ w'.cell? ⟨w.heap.size + 1, 0, none⟩ = some (.int .i64 (zs.length : Int))) (first | go_keep | (go_split_ands; refine ⟨?_, ?_⟩ <;> (refine below_cell hb1 rfl ?_; assumption)) | (go_split_ands; refine ⟨?_, ?_⟩ <;> (refine below_cell hb2 rfl ?_; assumption))) (first | (go_at_call 58; refine (within_p _ _ _ _).mono ?_; rintro e w' ⟨rfl, rfl⟩; rw [D1.out]) | (go_at_call 87; refine (slices_ContainsFunc_ints _ _ _ Eg.out _ zs _ (Rd.below H.out (show Below w.heap.size w _ from (by repeat (first | exact Below.refl _ _ | assumption | refine Below.drew ?_ | refine below_drewN ?_ _ | refine Below.alloc ?_ (by first | omega | (simp <;> omega)) _ | refine Below.setCell ?_ (by first | omega | (simp <;> omega)) _ | refine Below.trans ?_ (Below.mono (by assumption) (by first | omega | (simp <;> omega)))))) rfl) (IsValidLinear1_any (w.heap.size + 1) zs.length zs _ (by simp) (by simp) h3)).mono ?_; rintro e w1 ⟨rfl, hb1⟩; rw [any_not, Ha.out, Bool.not_true]) | (go_at_call 89; refine (impl_rankOf_any _ zs _ (Rd.below H.out (show Below w.heap.size w _ from (by repeat (first | exact Below.refl _ _ | assumption | refine Below.drew ?_ | refine below_drewN ?_ _ | refine Below.alloc ?_ (by first | omega | (simp <;> omega)) _ | refine Below.setCell ?_ (by first | omega | (simp <;> omega)) _ | refine Below.trans ?_ (Below.mono (by assumption) (by first | omega | (simp <;> omega)))))) rfl) hn (all_small h3 Ha.out)).mono ?_; rintro e w2 ⟨rfl, hb2⟩))
      all_goals
        go_wp2_with fail
        go_ret
        have hz1 := hb1.size; (try simp at hz1)
        exact ⟨ret_bool (by rw [HR.out]; rfl), (by repeat (first | exact Below.refl _ _ | assumption | refine Below.drew ?_ | refine below_drewN ?_ _ | refine Below.alloc ?_ (by first | omega | (simp <;> omega)) _ | refine Below.setCell ?_ (by first | omega | (simp <;> omega)) _ | refine Below.trans ?_ (Below.mono (by assumption) (by first | omega | (simp <;> omega)))))⟩
  · have HR := Lib.hid (linB_1 h1)
    have d1 : decide ((1 : Int) ≤ (zs.length : Int) ∧ (zs.length : Int) ≤ 5) = false := by simp; omega
    have D1 := Lib.hid d1; clear d1 h1
    go_enter Try.func60, Try.ntmps60
    go_wp2_with fail
    first | (go_region_with ((go_at_call 58; refine (within_p _ _ _ _).mono ?_; rintro e w' ⟨rfl, rfl⟩; rw [D1.out]))) | fail
    all_goals
      go_wp2_with fail
      go_ret
      exact ⟨ret_bool (by rw [HR.out]), (by repeat (first | exact Below.refl _ _ | assumption | refine Below.drew ?_ | refine below_drewN ?_ _ | refine Below.alloc ?_ (by first | omega | (simp <;> omega)) _ | refine Below.setCell ?_ (by first | omega | (simp <;> omega)) _ | refine Below.trans ?_ (Below.mono (by assumption) (by first | omega | (simp <;> omega)))))⟩
end Go.Proofs.Ytbcjligkjoimmaa
namespace Go.Proofs.Ytbcjligkjoimmaa
set_option linter.unusedSimpArgs false
set_option linter.unusedVariables false
set_option linter.unnecessarySimpa false
set_option maxRecDepth 200000
open Go.ChangeShapes Go.WideShapes Go.ChangeAt Go.RowKit

def cxN (L : List Nat) (a b : Nat) : List Nat := L.set b (L.getD b 0 ^^^ L.getD a 0)
theorem cxN_len (L : List Nat) (a b : Nat) : (cxN L a b).length = L.length := by simp [cxN]
def Small (L : List Nat) : Prop := ∀ x ∈ L, x ≤ 31
theorem Small.get {L : List Nat} (h : Small L) (i : Nat) : L.getD i 0 ≤ 31 := by
  by_cases hi : i < L.length
  · rw [getD_lt hi]; exact h _ (List.getElem_mem hi)
  · simp [List.getD, hi]
theorem xor_31 {x y : Nat} (hx : x ≤ 31) (hy : y ≤ 31) : x ^^^ y ≤ 31 := by
  have := Nat.xor_lt_two_pow (x := x) (y := y) (n := 5) (by omega) (by omega); omega
theorem Small.cx {L : List Nat} (h : Small L) (a b : Nat) : Small (cxN L a b) := by
  intro z hz
  rcases List.mem_or_eq_of_mem_set hz with h1 | rfl
  · exact h z h1
  · exact xor_31 (h.get _) (h.get _)
theorem OwnN.own {w : World} {base g n cap : Nat} {M : List Nat} (h : OwnN w base g n cap M) : OwnI w base (.slice (some ⟨g, 0, none⟩) n cap) (ints M) := by
  have hl := h.len; subst hl
  unfold OwnI; rw [ints_len]; exact h
set_option maxHeartbeats 1000000 in
theorem spec_l12CX_any (v : Value) (L : List Nat) (a b : Nat) (w : World) (h : RdI w v (ints L)) (hs : Small L) (ha : a < L.length) (hb : b < L.length) (hn : L.length ≤ 1048576) :
    Calls Try.prog 51 #[.agg #[v], .int .i64 (a : Int), .int .i64 (b : Int)] w fun e w' => ∃ v', e = .returned (.agg #[v']) ∧ OwnI w' w.heap.size v' (ints (cxN L a b)) ∧ Below w.heap.size w w' := by
  have H := Lib.hid h
  obtain ⟨A, c, rfl, _⟩ := h.form
  clear h
  have hxa := hs.get a
  have hxb := hs.get b
  have HS := Lib.hid hs; clear hs
  go_enter Try.func51, Try.ntmps51
  go_wp2_with fail
  refine (spec_l1Own_any _ (ints L) _ (Rd.below H.out (show Below w.heap.size w _ from (by repeat (first | exact Below.refl _ _ | assumption | refine Below.drew ?_ | refine below_drewN ?_ _ | refine Below.alloc ?_ (by first | omega | (simp <;> omega)) _ | refine Below.setCell ?_ (by first | omega | (simp <;> omega)) _ | refine Below.trans ?_ (Below.mono (by assumption) (by first | omega | (simp <;> omega)))))) rfl) (by rw [ints_len]; exact hn)).mono ?_; rintro e w1 ⟨v1, rfl, ho, hb1⟩
  obtain ⟨g, cap, rfl, hg0, hg1⟩ := own_ints ho (by omega)
  have own1 := Lib.hid (OwnN.of ho); clear ho
  obtain ⟨hc_hb1, hf_hb1⟩ := bcell hb1; have hz_hb1 := hb1.size; (try simp at hz_hb1); have hs0_hb1 : w.heap.size < w1.heap.size := (by omega); have hs1_hb1 : w.heap.size + 1 < w1.heap.size := (by omega)
  have own2 := Lib.hid (own1.out.below (show Below w1.heap.size w1 (w1.alloc (.cells #[.slice (some ⟨g, 0, none⟩) L.length cap] 35)) from (by repeat (first | exact Below.refl _ _ | assumption | refine Below.drew ?_ | refine below_drewN ?_ _ | refine Below.alloc ?_ (by first | omega | (simp <;> omega)) _ | refine Below.setCell ?_ (by first | omega | (simp <;> omega)) _ | refine Below.trans ?_ (Below.mono (by assumption) (by first | omega | (simp <;> omega)))))) rfl)
  obtain ⟨x, hx⟩ : ∃ x, x = L.getD a 0 := ⟨_, rfl⟩
  obtain ⟨y, hy⟩ : ∃ y, y = L.getD b 0 := ⟨_, rfl⟩
  have ca := own_int_cell own2.out a ha
  have cb := own_int_cell own2.out b hb
  have fb := own2.out.frz b
  rw [← hx] at ca hxa; rw [← hy] at cb hxb
  have hxo := bits_xor y x (by omega) (by omega)
  have hr : Hid (cxN L a b = L.set b (y ^^^ x)) := by show _ = _; rw [hx, hy]; rfl
  have HL := Lib.hid own2.out.len
  have i1 : (a : Int) < (L.length : Int) := by omega
  have i2 : (b : Int) < (L.length : Int) := by omega
  have i3 : (0 : Int) ≤ (a : Int) := by omega
  have i4 : (0 : Int) ≤ (b : Int) := by omega
  have hgs : g < w1.heap.size := hg1
  have hgn : w.heap.size + 2 ≤ g := by simpa using hg0
  clear hx hy own1 ha hb
  go_wp2_with fail
  have c7 : (w1.alloc (.cells #[.slice (some ⟨g, 0, none⟩) L.length cap] 35)).cell? ⟨w1.heap.size, 0, none⟩ = some (.slice (some ⟨g, 0, none⟩) L.length cap) := (by repeat (first | (refine Eq.trans (World.cell?_alloc_at _ _ _ _ ?hh) ?_; (case hh => (simp; done)); rfl) | refine cell_alloc_keep _ ?_))
  have r0 : (w1.alloc (.cells #[.slice (some ⟨g, 0, none⟩) L.length cap] 35)).cell? ⟨w.heap.size + 1, 0, none⟩ = some (.slice none 0 0) := cell_alloc_keep _ (below_cell hb1 rfl (by repeat (first | (refine Eq.trans (World.cell?_alloc_at _ _ _ _ ?hh) ?_; (case hh => (simp; done)); rfl) | refine cell_alloc_keep _ ?_)))
  have rf : (w1.alloc (.cells #[.slice (some ⟨g, 0, none⟩) L.length cap] 35)).frozen? ⟨w.heap.size + 1, 0, none⟩ = false := frozen_alloc_keep _ (below_cell hb1 rfl (by repeat (first | (refine Eq.trans (World.cell?_alloc_at _ _ _ _ ?hh) ?_; (case hh => (simp; done)); rfl) | refine cell_alloc_keep _ ?_))) (below_frz hb1 rfl (by simp) (by repeat (first | (refine World.frozen?_alloc_at _ _ _ _ ?hh; case hh => (simp; done)) | (refine frozen_alloc_lt _ ?hh ?_; case hh => first | omega | (simp <;> omega)))))
  have hne1 : g ≠ w1.heap.size := by omega
  have hne2 : g ≠ w.heap.size + 1 := by omega
  have hne3 : w1.heap.size ≠ w.heap.size + 1 := by omega
  have bW : Below w.heap.size w (w1.alloc (.cells #[.slice (some ⟨g, 0, none⟩) L.length cap] 35)) := (by repeat (first | exact Below.refl _ _ | assumption | refine Below.drew ?_ | refine below_drewN ?_ _ | refine Below.alloc ?_ (by first | omega | (simp <;> omega)) _ | refine Below.setCell ?_ (by first | omega | (simp <;> omega)) _ | refine Below.trans ?_ (Below.mono (by assumption) (by first | omega | (simp <;> omega)))))
  clear hc_hb1 hf_hb1 hb1
  generalize hW : w1.alloc (.cells #[.slice (some ⟨g, 0, none⟩) L.length cap] 35) = W at *
  have HW := Lib.hid hW; clear hW
  go_region
  go_wp2_with fail
  refine bodyPost_ret (v := .agg #[.slice (some ⟨g, 0, none⟩) L.length cap]) (by simp [results, Try.results51, go_sem, r0]) rfl ⟨_, rfl, ?_, ?_⟩
  · have o3 := (own2.out.below (show Below W.heap.size W W.drew from (by repeat (first | exact Below.refl _ _ | assumption | refine Below.drew ?_ | refine below_drewN ?_ _ | refine Below.alloc ?_ (by first | omega | (simp <;> omega)) _ | refine Below.setCell ?_ (by first | omega | (simp <;> omega)) _ | refine Below.trans ?_ (Below.mono (by assumption) (by first | omega | (simp <;> omega)))))) rfl).set b (y ^^^ x)
    rw [← hr.out] at o3
    exact OwnI.le (OwnI.set o3.own (by simp) _) (by simp; omega)
  · have hW2 : w.heap.size ≤ W.heap.size := bW.size
    exact (by repeat (first | exact Below.refl _ _ | assumption | refine Below.drew ?_ | refine below_drewN ?_ _ | refine Below.alloc ?_ (by first | omega | (simp <;> omega)) _ | refine Below.setCell ?_ (by first | omega | (simp <;> omega)) _ | refine Below.trans ?_ (Below.mono (by assumption) (by first | omega | (simp <;> omega)))))
set_option maxHeartbeats 1000000 in
theorem impl_added_any (v : Value) (L : List Nat) (a b : Nat) (w : World) (h : RdI w v (ints L)) (hs : Small L) (ha : a < L.length) (hb : b < L.length) (hn : L.length ≤ 1048576) :
    Calls Try.prog 68 #[.agg #[v], .int .i64 (a : Int), .int .i64 (b : Int)] w fun e w' => ∃ v', e = .returned (.agg #[v']) ∧ OwnI w' w.heap.size v' (ints (cxN L a b)) ∧ Below w.heap.size w w' := by
  have H := Lib.hid h
  obtain ⟨A, c, rfl, _⟩ := h.form
  clear h
  have hxa := hs.get a
  have hxb := hs.get b
  have HS := Lib.hid hs; clear hs
  go_enter Try.func68, Try.ntmps68
  go_wp2_with fail
  refine (slices_Clone_any _ (ints L) _ (Rd.below H.out (show Below w.heap.size w _ from (by repeat (first | exact Below.refl _ _ | assumption | refine Below.drew ?_ | refine below_drewN ?_ _ | refine Below.alloc ?_ (by first | omega | (simp <;> omega)) _ | refine Below.setCell ?_ (by first | omega | (simp <;> omega)) _ | refine Below.trans ?_ (Below.mono (by assumption) (by first | omega | (simp <;> omega)))))) rfl) (by rw [ints_len]; exact hn)).mono ?_; rintro e w1 ⟨v1, rfl, ho, hb1⟩
  obtain ⟨g, cap, rfl, hg0, hg1⟩ := own_ints ho (by omega)
  have own2 := Lib.hid (OwnN.of ho); clear ho
  obtain ⟨x, hx⟩ : ∃ x, x = L.getD a 0 := ⟨_, rfl⟩
  obtain ⟨y, hy⟩ : ∃ y, y = L.getD b 0 := ⟨_, rfl⟩
  have ca := own_int_cell own2.out a ha
  have cb := own_int_cell own2.out b hb
  have fb := own2.out.frz b
  rw [← hx] at ca hxa; rw [← hy] at cb hxb
  have hxo := bits_xor y x (by omega) (by omega)
  have hr : Hid (cxN L a b = L.set b (y ^^^ x)) := by show _ = _; rw [hx, hy]; rfl
  have i1 : (a : Int) < (L.length : Int) := by omega
  have i2 : (b : Int) < (L.length : Int) := by omega
  have i3 : (0 : Int) ≤ (a : Int) := by omega
  have i4 : (0 : Int) ≤ (b : Int) := by omega
  have hgn : w.heap.size + 2 ≤ g := by simpa using hg0
  have r0 : w1.cell? ⟨w.heap.size + 1, 0, none⟩ = some (.slice none 0 0) := below_cell hb1 rfl (by repeat (first | (refine Eq.trans (World.cell?_alloc_at _ _ _ _ ?hh) ?_; (case hh => (simp; done)); rfl) | refine cell_alloc_keep _ ?_))
  have rf : w1.frozen? ⟨w.heap.size + 1, 0, none⟩ = false := below_frz hb1 rfl (by simp) (by repeat (first | (refine World.frozen?_alloc_at _ _ _ _ ?hh; case hh => (simp; done)) | (refine frozen_alloc_lt _ ?hh ?_; case hh => first | omega | (simp <;> omega))))
  have hne2 : g ≠ w.heap.size + 1 := by omega
  have hz1 := hb1.size
  have bW : Below w.heap.size w w1 := Below.trans (show Below w.heap.size w ((w.alloc (.cells #[.slice A (ints L).length c] 35)).alloc (.cells #[.slice none 0 0] 35)) from (by repeat (first | exact Below.refl _ _ | assumption | refine Below.drew ?_ | refine below_drewN ?_ _ | refine Below.alloc ?_ (by first | omega | (simp <;> omega)) _ | refine Below.setCell ?_ (by first | omega | (simp <;> omega)) _ | refine Below.trans ?_ (Below.mono (by assumption) (by first | omega | (simp <;> omega)))))) (hb1.mono (by simp; omega))
  clear hx hy ha hb hb1
  go_wp2_with fail
  go_region
  go_wp2_with fail
  refine bodyPost_ret (v := .agg #[.slice (some ⟨g, 0, none⟩) L.length cap]) (by simp [results, Try.results68, go_sem, r0]) rfl ⟨_, rfl, ?_, ?_⟩
  · have o3 := (own2.out.below (show Below w1.heap.size w1 w1.drew from (by repeat (first | exact Below.refl _ _ | assumption | refine Below.drew ?_ | refine below_drewN ?_ _ | refine Below.alloc ?_ (by first | omega | (simp <;> omega)) _ | refine Below.setCell ?_ (by first | omega | (simp <;> omega)) _ | refine Below.trans ?_ (Below.mono (by assumption) (by first | omega | (simp <;> omega)))))) rfl).set b (y ^^^ x)
    rw [← hr.out] at o3
    exact OwnI.le (OwnI.set o3.own (by simp) _) (by simp; omega)
  · exact (by repeat (first | exact Below.refl _ _ | assumption | refine Below.drew ?_ | refine below_drewN ?_ _ | refine Below.alloc ?_ (by first | omega | (simp <;> omega)) _ | refine Below.setCell ?_ (by first | omega | (simp <;> omega)) _ | refine Below.trans ?_ (Below.mono (by assumption) (by first | omega | (simp <;> omega)))))
end Go.Proofs.Ytbcjligkjoimmaa
