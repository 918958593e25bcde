/- A valid circuit: the tests of the program and of the reference. -/
import Derived.Test.YtgonldkgghikiaaGate1
import Derived.Test.YtgonldkgghikiaaIdxGate
import Derived.Test.YtgonldkgghikiaaStCircuit
namespace Go.Proofs.Ytgonldkgghikiaa
set_option linter.unusedSimpArgs false
set_option linter.unusedVariables false
set_option linter.unnecessarySimpa false
set_option maxRecDepth 200000
open Go.ChangeShapes Go.WideShapes Go.ChangeAt Go.RowKit

def CircOk (d : Circ) : Prop := (1 ≤ d.n ∧ d.n ≤ 5) ∧ d.gs.length ≤ 400 ∧ ∀ g ∈ d.gs, GateOk d.n g
instance (d : Circ) : Decidable (CircOk d) := by unfold CircOk; infer_instance
def circB (d : Circ) : Bool := decide (CircOk d)
theorem circB_n {d : Circ} (h : ¬ (1 ≤ d.n ∧ d.n ≤ 5)) : circB d = false := decide_eq_false fun k => h k.1
theorem circB_l {d : Circ} (h : ¬ d.gs.length ≤ 400) : circB d = false := decide_eq_false fun k => h k.2.1
theorem circB_g {d : Circ} (h1 : 1 ≤ d.n ∧ d.n ≤ 5) (h2 : d.gs.length ≤ 400) : circB d = !d.gs.any fun g => !decide (GateOk d.n g) := by
  cases ha : d.gs.any (fun g => !decide (GateOk d.n g)) with
  | false =>
    rw [List.any_eq_false] at ha
    exact decide_eq_true ⟨h1, h2, fun g hg => by simpa using ha g hg⟩
  | true =>
    rw [List.any_eq_true] at ha
    obtain ⟨g, hg, h⟩ := ha
    exact decide_eq_false fun hh => by simp [hh.2.2 g hg] at h
theorem IsValidCircuit1_any (B : Nat) (n : Int) (gs : List E3) (w : World) (hB : B < w.heap.size) (hc : w.cell? ⟨B, 0, none⟩ = some (.int .i64 n)) :
    PredB 61 #[.pointer (some ⟨B, 0, none⟩)] encGate (fun g => !decide (GateOk n g)) gs w := by
  intro W x _ hb
  have hc' := (hb.cell (p := ⟨B, 0, none⟩) hB).trans hc
  have hBW : B < W.heap.size := Nat.lt_of_lt_of_le hB hb.size
  clear hc hb
  show Calls Try.prog 61 #[.agg #[.int .i64 x.a, .int .i64 x.b, .int .i64 x.c], .pointer (some ⟨B, 0, none⟩)] W _
  go_enter Try.func61, Try.ntmps61
  go_wp2_with fail
  refine (impl_IsValidGate_any n x _).mono ?_; rintro e w1 ⟨rfl, hb1⟩
  obtain ⟨hc_hb1, hf_hb1⟩ := bcell hb1; have hz_hb1 := hb1.size; (try simp at hz_hb1)
  go_wp2_with fail
  go_ret
  exact ⟨rfl, Below.trans (show Below W.heap.size W (W.alloc (.cells #[.int .i64 x.a, .int .i64 x.b, .int .i64 x.c] 62)) from (by repeat (first | exact Below.refl _ _ | assumption | refine Below.drew ?_ | refine below_drewN ?_ _ | refine Below.alloc ?_ (by first | omega | (simp <;> omega)) _ | refine Below.setCell ?_ (by first | omega | (simp <;> omega)) _ | refine Below.trans ?_ (Below.mono (by assumption) (by first | omega | (simp <;> omega)))))) (hb1.mono (by simp))⟩
set_option maxHeartbeats 1000000 in
theorem impl_IsValidCircuit_any (v : Value) (d : Circ) (w : World) (h : RdE w v E3.cs 3 d.gs) (hn : d.gs.length ≤ 1048576) :
    Calls Try.prog 44 #[.agg #[.int .i64 d.n, v]] w fun e w' => e = .returned (.bool (circB d)) ∧ Below w.heap.size w w' := by
  have H := Lib.hid h
  have eg := enters_of Try.func61 (by kernel_rfl) rfl
  have Eg := Lib.hid eg; clear eg
  obtain ⟨A, c, rfl, _⟩ := h.form
  clear h
  by_cases h1 : 1 ≤ d.n ∧ d.n ≤ 5
  · have D1 := Lib.hid (decide_eq_true h1)
    by_cases h2 : d.gs.length ≤ 400
    · have HR := Lib.hid (circB_g h1 h2)
      have g1 : decide ((d.gs.length : Int) ≤ 400) = true := by simp; omega
      obtain ⟨h1a, h1b⟩ := h1
      go_enter Try.func44, Try.ntmps44
      go_wp2_with fail
      refine (within_p _ _ _ _).mono ?_; rintro e w' ⟨rfl, rfl⟩
      rw [D1.out]
      go_wp2_with fail
      refine (slices_ContainsFunc_Gate _ _ (fun g => !decide (GateOk d.n g)) Eg.out _ d.gs _ (Rd.below H.out (show Below w.heap.size w _ from (by repeat (first | exact Below.refl _ _ | assumption | refine Below.drew ?_ | refine below_drewN ?_ _ | refine Below.alloc ?_ (by first | omega | (simp <;> omega)) _ | refine Below.setCell ?_ (by first | omega | (simp <;> omega)) _ | refine Below.trans ?_ (Below.mono (by assumption) (by first | omega | (simp <;> omega)))))) rfl) (IsValidCircuit1_any w.heap.size d.n d.gs _ (by simp) (by simp))).mono ?_; rintro e w1 ⟨rfl, hb1⟩
      go_wp2_with fail
      go_ret
      exact ⟨ret_bool (by rw [HR.out]), (by repeat (first | exact Below.refl _ _ | assumption | refine Below.drew ?_ | refine below_drewN ?_ _ | refine Below.alloc ?_ (by first | omega | (simp <;> omega)) _ | refine Below.setCell ?_ (by first | omega | (simp <;> omega)) _ | refine Below.trans ?_ (Below.mono (by assumption) (by first | omega | (simp <;> omega)))))⟩
    · have HR := Lib.hid (circB_l h2)
      have g1 : decide ((d.gs.length : Int) ≤ 400) = false := by simp; omega
      clear h2
      go_enter Try.func44, Try.ntmps44
      go_wp2_with fail
      refine (within_p _ _ _ _).mono ?_; rintro e w' ⟨rfl, rfl⟩
      rw [D1.out]
      go_wp2_with fail
      go_ret
      exact ⟨ret_bool (by rw [HR.out]), (by repeat (first | exact Below.refl _ _ | assumption | refine Below.drew ?_ | refine below_drewN ?_ _ | refine Below.alloc ?_ (by first | omega | (simp <;> omega)) _ | refine Below.setCell ?_ (by first | omega | (simp <;> omega)) _ | refine Below.trans ?_ (Below.mono (by assumption) (by first | omega | (simp <;> omega)))))⟩
  · have HR := Lib.hid (circB_n h1)
    have D1 := Lib.hid (decide_eq_false h1); clear h1
    go_enter Try.func44, Try.ntmps44
    go_wp2_with fail
    refine (within_p _ _ _ _).mono ?_; rintro e w' ⟨rfl, rfl⟩
    rw [D1.out]
    go_wp2_with fail
    go_ret
    exact ⟨ret_bool (by rw [HR.out]), (by repeat (first | exact Below.refl _ _ | assumption | refine Below.drew ?_ | refine below_drewN ?_ _ | refine Below.alloc ?_ (by first | omega | (simp <;> omega)) _ | refine Below.setCell ?_ (by first | omega | (simp <;> omega)) _ | refine Below.trans ?_ (Below.mono (by assumption) (by first | omega | (simp <;> omega)))))⟩
theorem circ_yes {d : Circ} {k : Nat} (h1 : 1 ≤ d.n ∧ d.n ≤ 5) (h2 : d.gs.length ≤ 400) (hk : d.gs.length ≤ k) (h : Hid (∀ j (hj : j < d.gs.length), j < k → GateOk d.n d.gs[j])) : true = circB d := by
  symm
  refine decide_eq_true ⟨h1, h2, fun g hg => ?_⟩
  obtain ⟨j, hj, rfl⟩ := List.mem_iff_getElem.1 hg
  exact h.out j hj (by omega)
theorem circ_no {d : Circ} {k : Nat} (hk : k < d.gs.length) (h : ¬ GateOk d.n d.gs[k]) : false = circB d := by
  symm
  exact decide_eq_false fun hh => h (hh.2.2 _ (List.getElem_mem hk))
end Go.Proofs.Ytgonldkgghikiaa
