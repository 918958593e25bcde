/- A valid circuit: the tests of the program and of the reference. -/
import Derived.Test.YtbcjligkjoimmaaZ08Gate1
import Derived.Test.YtbcjligkjoimmaaZ11IdxGate
import Derived.Test.YtbcjligkjoimmaaZ12StCircuit
namespace Go.Proofs.Ytbcjligkjoimmaa
set_option linter.unusedSimpArgs false
set_option linter.unusedVariables false
set_option linter.unnecessarySimpa false
set_option maxRecDepth 200000
open Go.ChangeShapes Go.WideShapes Go.ChangeAt Go.RowKit

def CircOk (d : Circ) : Prop := (1 ≤ d.n ∧ d.n ≤ 5) ∧ d.gs.length ≤ 400 ∧ ∀ g ∈ d.gs, GateOk d.n g
instance (d : Circ) : Decidable (CircOk d) := by unfold CircOk; infer_instance
def circB (d : Circ) : Bool := decide (CircOk d)
theorem circB_n {d : Circ} (h : ¬ (1 ≤ d.n ∧ d.n ≤ 5)) : circB d = false := decide_eq_false fun k => h k.1
theorem circB_l {d : Circ} (h : ¬ d.gs.length ≤ 400) : circB d = false := decide_eq_false fun k => h k.2.1
theorem circB_g {d : Circ} (h1 : 1 ≤ d.n ∧ d.n ≤ 5) (h2 : d.gs.length ≤ 400) : circB d = !d.gs.any fun g => !decide (GateOk d.n g) := by
  cases ha : d.gs.any (fun g => !decide (GateOk d.n g)) with
  | false =>
    rw [List.any_eq_false] at ha
    exact decide_eq_true ⟨h1, h2, fun g hg => by simpa using ha g hg⟩
  | true =>
    rw [List.any_eq_true] at ha
    obtain ⟨g, hg, h⟩ := ha
    exact decide_eq_false fun hh => by simp [hh.2.2 g hg] at h
set_option maxHeartbeats 2000000 in
theorem spec_l4Gate_any (n : Int) (g : E3) (w : World) (hn1 : 1 ≤ n) (hn2 : n ≤ 5) :
    Calls Try.prog 96 #[.int .i64 n, .agg #[.int .i64 g.a, .int .i64 g.b, .int .i64 g.c]] w fun e w' => e = .returned (.bool (decide (GateOk n g))) ∧ Below w.heap.size w w' := by
  obtain ⟨k, a, b⟩ := g
  dsimp only
  go_enter Try.func96, Try.ntmps96
  go_wp2_with (go_at_call 43; refine (l1In_p _ _ _ _).mono ?_; rintro e w' ⟨rfl, rfl⟩)
  all_goals (go_ret; exact ⟨ret_bool (by go_light; rw [Bool.eq_iff_iff]; simp only [decide_eq_true_eq, beq_iff_eq, Bool.false_eq_true, true_iff, false_iff, iff_true, iff_false]; (try simp_all [GateOk]) <;> (try omega)), (by repeat (first | exact Below.refl _ _ | assumption | refine Below.drew ?_ | refine below_drewN ?_ _ | refine Below.alloc ?_ (by first | omega | (simp <;> omega)) _ | refine Below.setCell ?_ (by first | omega | (simp <;> omega)) _ | refine Below.trans ?_ (Below.mono (by assumption) (by first | omega | (simp <;> omega)))))⟩)
theorem IsValidCircuit1_any (B : Nat) (n : Int) (gs : List E3) (w : World) (hB : B < w.heap.size) (hc : w.cell? ⟨B, 0, none⟩ = some (.int .i64 n)) :
    PredB 92 #[.pointer (some ⟨B, 0, none⟩)] encGate (fun g => !decide (GateOk n g)) gs w := by
  intro W x _ hb
  have hc' := (hb.cell (p := ⟨B, 0, none⟩) hB).trans hc
  have hBW : B < W.heap.size := Nat.lt_of_lt_of_le hB hb.size
  clear hc hb
  show Calls Try.prog 92 #[.agg #[.int .i64 x.a, .int .i64 x.b, .int .i64 x.c], .pointer (some ⟨B, 0, none⟩)] W _
  go_enter Try.func92, Try.ntmps92
  go_wp2_with fail
  refine (impl_IsValidGate_any n x _).mono ?_; rintro e w1 ⟨rfl, hb1⟩
  obtain ⟨hc_hb1, hf_hb1⟩ := bcell hb1; have hz_hb1 := hb1.size; (try simp at hz_hb1)
  go_wp2_with fail
  go_ret
  exact ⟨rfl, Below.trans (show Below W.heap.size W (W.alloc (.cells #[.int .i64 x.a, .int .i64 x.b, .int .i64 x.c] 58)) from (by repeat (first | exact Below.refl _ _ | assumption | refine Below.drew ?_ | refine below_drewN ?_ _ | refine Below.alloc ?_ (by first | omega | (simp <;> omega)) _ | refine Below.setCell ?_ (by first | omega | (simp <;> omega)) _ | refine Below.trans ?_ (Below.mono (by assumption) (by first | omega | (simp <;> omega)))))) (hb1.mono (by simp))⟩
set_option maxHeartbeats 1000000 in
theorem impl_IsValidCircuit_any (v : Value) (d : Circ) (w : World) (h : RdE w v E3.cs 3 d.gs) (hn : d.gs.length ≤ 1048576) :
    Calls Try.prog 66 #[.agg #[.int .i64 d.n, v]] w fun e w' => e = .returned (.bool (circB d)) ∧ Below w.heap.size w w' := by
  have H := Lib.hid h
  have eg := enters_of Try.func92 (by kernel_rfl) rfl
  have Eg := Lib.hid eg; clear eg
  obtain ⟨A, c, rfl, _⟩ := h.form
  clear h
  by_cases h1 : 1 ≤ d.n ∧ d.n ≤ 5
  · have D1 := Lib.hid (decide_eq_true h1)
    by_cases h2 : d.gs.length ≤ 400
    · have HR := Lib.hid (circB_g h1 h2)
      have g1 : decide ((d.gs.length : Int) ≤ 400) = true := by simp; omega
      obtain ⟨h1a, h1b⟩ := h1
      go_enter Try.func66, Try.ntmps66
      go_wp2_with fail
      refine (within_p _ _ _ _).mono ?_; rintro e w' ⟨rfl, rfl⟩
      rw [D1.out]
      go_wp2_with fail
      refine (slices_ContainsFunc_Gate _ _ (fun g => !decide (GateOk d.n g)) Eg.out _ d.gs _ (Rd.below H.out (show Below w.heap.size w _ from (by repeat (first | exact Below.refl _ _ | assumption | refine Below.drew ?_ | refine below_drewN ?_ _ | refine Below.alloc ?_ (by first | omega | (simp <;> omega)) _ | refine Below.setCell ?_ (by first | omega | (simp <;> omega)) _ | refine Below.trans ?_ (Below.mono (by assumption) (by first | omega | (simp <;> omega)))))) rfl) (IsValidCircuit1_any w.heap.size d.n d.gs _ (by simp) (by simp))).mono ?_; rintro e w1 ⟨rfl, hb1⟩
      go_wp2_with fail
      go_ret
      exact ⟨ret_bool (by rw [HR.out]), (by repeat (first | exact Below.refl _ _ | assumption | refine Below.drew ?_ | refine below_drewN ?_ _ | refine Below.alloc ?_ (by first | omega | (simp <;> omega)) _ | refine Below.setCell ?_ (by first | omega | (simp <;> omega)) _ | refine Below.trans ?_ (Below.mono (by assumption) (by first | omega | (simp <;> omega)))))⟩
    · have HR := Lib.hid (circB_l h2)
      have g1 : decide ((d.gs.length : Int) ≤ 400) = false := by simp; omega
      clear h2
      go_enter Try.func66, Try.ntmps66
      go_wp2_with fail
      refine (within_p _ _ _ _).mono ?_; rintro e w' ⟨rfl, rfl⟩
      rw [D1.out]
      go_wp2_with fail
      go_ret
      exact ⟨ret_bool (by rw [HR.out]), (by repeat (first | exact Below.refl _ _ | assumption | refine Below.drew ?_ | refine below_drewN ?_ _ | refine Below.alloc ?_ (by first | omega | (simp <;> omega)) _ | refine Below.setCell ?_ (by first | omega | (simp <;> omega)) _ | refine Below.trans ?_ (Below.mono (by assumption) (by first | omega | (simp <;> omega)))))⟩
  · have HR := Lib.hid (circB_n h1)
    have D1 := Lib.hid (decide_eq_false h1); clear h1
    go_enter Try.func66, Try.ntmps66
    go_wp2_with fail
    refine (within_p _ _ _ _).mono ?_; rintro e w' ⟨rfl, rfl⟩
    rw [D1.out]
    go_wp2_with fail
    go_ret
    exact ⟨ret_bool (by rw [HR.out]), (by repeat (first | exact Below.refl _ _ | assumption | refine Below.drew ?_ | refine below_drewN ?_ _ | refine Below.alloc ?_ (by first | omega | (simp <;> omega)) _ | refine Below.setCell ?_ (by first | omega | (simp <;> omega)) _ | refine Below.trans ?_ (Below.mono (by assumption) (by first | omega | (simp <;> omega)))))⟩
theorem circ_yes {d : Circ} {k : Nat} (h1 : 1 ≤ d.n ∧ d.n ≤ 5) (h2 : d.gs.length ≤ 400) (hk : d.gs.length ≤ k) (h : Hid (∀ j (hj : j < d.gs.length), j < k → GateOk d.n d.gs[j])) : true = circB d := by
  symm
  refine decide_eq_true ⟨h1, h2, fun g hg => ?_⟩
  obtain ⟨j, hj, rfl⟩ := List.mem_iff_getElem.1 hg
  exact h.out j hj (by omega)
theorem circ_no {d : Circ} {k : Nat} (hk : k < d.gs.length) (h : ¬ GateOk d.n d.gs[k]) : false = circB d := by
  symm
  exact decide_eq_false fun hh => h (hh.2.2 _ (List.getElem_mem hk))
set_option maxHeartbeats 2000000 in
theorem spec_l4Good_any (v : Value) (d : Circ) (w : World) (h : RdE w v E3.cs 3 d.gs) (hn : d.gs.length ≤ 1048576) :
    Calls Try.prog 86 #[.agg #[.int .i64 d.n, v]] w fun e w' => e = .returned (.bool (circB d)) ∧ Below w.heap.size w w' := by
  have H := Lib.hid h
  obtain ⟨A, c, rfl, _⟩ := h.form
  clear h
  by_cases h1 : 1 ≤ d.n ∧ d.n ≤ 5
  · have D1 := Lib.hid (decide_eq_true h1)
    by_cases h2 : d.gs.length ≤ 400
    · have g1 : decide ((400 : Int) < (d.gs.length : Int)) = false := by simp; omega
      obtain ⟨h1a, h1b⟩ := h1
      rcases H.out.cases0 E3.len with ⟨he, _⟩ | ⟨h0, b, off, cap, hv, hb, hl, hm, hc⟩
      · have HR := Lib.hid (circ_yes (k := 0) ⟨h1a, h1b⟩ h2 (by rw [he]; simp) (fun j hj hk => by omega))
        have hlen : d.gs.length = 0 := by rw [he]; rfl
        clear he
        have hlt : ¬ (0 : Int) < (d.gs.length : Int) := by omega
        clear hlen
        go_enter Try.func86, Try.ntmps86
        go_wp2_with fail
        refine (l1In_p _ _ _ _).mono ?_; rintro e w' ⟨rfl, rfl⟩
        rw [D1.out]
        go_wp2_with fail
        refine wp_loop_rounds 1 ?_
        rw [rounds_succ]
        go_wp2_with fail
        go_ret
        exact ⟨ret_bool HR.out, (by repeat (first | exact Below.refl _ _ | assumption | refine Below.drew ?_ | refine below_drewN ?_ _ | refine Below.alloc ?_ (by first | omega | (simp <;> omega)) _ | refine Below.setCell ?_ (by first | omega | (simp <;> omega)) _ | refine Below.trans ?_ (Below.mono (by assumption) (by first | omega | (simp <;> omega)))))⟩
      · injection hv with hv1 _ hv3; subst hv1; subst hv3
        have Hc := Lib.hid hc; clear hc
        go_enter Try.func86, Try.ntmps86
        go_wp2_with fail
        refine (l1In_p _ _ _ _).mono ?_; rintro e w' ⟨rfl, rfl⟩
        rw [D1.out]
        go_wp2_with fail
        have bw : Below w.heap.size w (w.alloc (.cells #[.int .i64 d.n, .slice (some ⟨b, off, none⟩) d.gs.length c] 31)) := (by repeat (first | exact Below.refl _ _ | assumption | refine Below.drew ?_ | refine below_drewN ?_ _ | refine Below.alloc ?_ (by first | omega | (simp <;> omega)) _ | refine Below.setCell ?_ (by first | omega | (simp <;> omega)) _ | refine Below.trans ?_ (Below.mono (by assumption) (by first | omega | (simp <;> omega)))))
        go_loopw [18] (fun i wr => ∃ k : Nat, k ≤ d.gs.length ∧ i = .int .i64 k ∧ Hid (∀ j (hj : j < d.gs.length), j < k → GateOk d.n d.gs[j]) ∧ wr.cell? ⟨w.heap.size, 0, none⟩ = some (.int .i64 d.n) ∧ Below w.heap.size w wr) (fun i _ => d.gs.length - (intOf i).toNat)
        case atStart => exact ⟨0, Nat.zero_le _, rfl, (fun j hj hk => by omega), by simp, bw⟩
        case round =>
          obtain ⟨k, hk, rfl, hpre, c0, hbel⟩ := hrel
          clear bw
          by_cases hlt : k < d.gs.length
          · obtain ⟨y, hy⟩ : ∃ y, y = d.gs[k] := ⟨_, rfl⟩
            have q0 : wr.cell? ⟨b, off + k * 3, none⟩ = some (.int .i64 y.a) := (hbel.cell hb).trans (by rw [hy]; exact Hc.out k hlt 0 _ (by omega) rfl)
            have q1 : wr.cell? ⟨b, off + k * 3 + 1, none⟩ = some (.int .i64 y.b) := (hbel.cell hb).trans (by rw [hy]; exact Hc.out k hlt 1 _ (by omega) rfl)
            have q2 : wr.cell? ⟨b, off + k * 3 + 2, none⟩ = some (.int .i64 y.c) := (hbel.cell hb).trans (by rw [hy]; exact Hc.out k hlt 2 _ (by omega) rfl)
            have Hy := Lib.hid hy; clear hy
            have i1 : (k : Int) < (d.gs.length : Int) := by omega
            have hlw := hbel.size
            have z0 : w.heap.size < wr.heap.size := World.block_lt_of_cell? wr _ c0
            go_wp2_with fail
            refine (spec_l4Gate_any d.n y _ h1a h1b).mono ?_; rintro e w2 ⟨rfl, hb2⟩
            have c2 := below_cell hb2 rfl (cell_alloc_keep (.cells #[.int .i64 y.a, .int .i64 y.b, .int .i64 y.c] 58) c0)
            have bel2 : Below w.heap.size w w2 := (by repeat (first | exact Below.refl _ _ | assumption | refine Below.drew ?_ | refine below_drewN ?_ _ | refine Below.alloc ?_ (by first | omega | (simp <;> omega)) _ | refine Below.setCell ?_ (by first | omega | (simp <;> omega)) _ | refine Below.trans ?_ (Below.mono (by assumption) (by first | omega | (simp <;> omega)))))
            clear hb2 hbel c0 q0 q1 q2
            cases hg : decide (GateOk d.n y) with
            | true =>
              have Hg := Lib.hid (of_decide_eq_true hg); clear hg
              go_wp2_with fail
              go_roundw
              case rel =>
                refine ⟨k + 1, by omega, by go_num, (show ∀ j (hj : j < d.gs.length), j < k + 1 → GateOk d.n d.gs[j] from fun j hj hjk => ?_), c2, bel2⟩
                by_cases e : j = k
                · subst e; rw [← Hy.out]; exact Hg.out
                · exact hpre.out j hj (by omega)
              case measure => simp [intOf]; omega
            | false =>
              have Hg := Lib.hid (of_decide_eq_false hg); clear hg
              go_wp2_with fail
              go_ret
              exact ⟨ret_bool (circ_no hlt (by rw [← Hy.out]; exact Hg.out)), bel2⟩
          · go_wp2_with fail
            go_ret
            exact ⟨ret_bool (circ_yes ⟨h1a, h1b⟩ h2 (by omega) hpre), hbel⟩
    · have HR := Lib.hid (circB_l h2)
      have g1 : decide ((400 : Int) < (d.gs.length : Int)) = true := by simp; omega
      clear h2
      go_enter Try.func86, Try.ntmps86
      go_wp2_with fail
      refine (l1In_p _ _ _ _).mono ?_; rintro e w' ⟨rfl, rfl⟩
      rw [D1.out]
      go_wp2_with fail
      go_ret
      exact ⟨ret_bool (by rw [HR.out]), (by repeat (first | exact Below.refl _ _ | assumption | refine Below.drew ?_ | refine below_drewN ?_ _ | refine Below.alloc ?_ (by first | omega | (simp <;> omega)) _ | refine Below.setCell ?_ (by first | omega | (simp <;> omega)) _ | refine Below.trans ?_ (Below.mono (by assumption) (by first | omega | (simp <;> omega)))))⟩
  · have HR := Lib.hid (circB_n h1)
    have D1 := Lib.hid (decide_eq_false h1); clear h1
    go_enter Try.func86, Try.ntmps86
    go_wp2_with fail
    refine (l1In_p _ _ _ _).mono ?_; rintro e w' ⟨rfl, rfl⟩
    rw [D1.out]
    go_wp2_with fail
    go_ret
    exact ⟨ret_bool (by rw [HR.out]), (by repeat (first | exact Below.refl _ _ | assumption | refine Below.drew ?_ | refine below_drewN ?_ _ | refine Below.alloc ?_ (by first | omega | (simp <;> omega)) _ | refine Below.setCell ?_ (by first | omega | (simp <;> omega)) _ | refine Below.trans ?_ (Below.mono (by assumption) (by first | omega | (simp <;> omega)))))⟩
theorem spec_IsValidCircuit_any (v : Value) (d : Circ) (w : World) (h : RdE w v E3.cs 3 d.gs) (hn : d.gs.length ≤ 1048576) :
    Calls Try.prog 49 #[.agg #[.int .i64 d.n, v]] w fun e w' => e = .returned (.bool (circB d)) ∧ Below w.heap.size w w' := by
  have H := Lib.hid h
  obtain ⟨A, c, rfl, _⟩ := h.form
  clear h
  go_enter Try.func49, Try.ntmps49
  go_wp2_with fail
  refine (spec_l4Good_any _ d _ (Rd.below H.out (show Below w.heap.size w _ from (by repeat (first | exact Below.refl _ _ | assumption | refine Below.drew ?_ | refine below_drewN ?_ _ | refine Below.alloc ?_ (by first | omega | (simp <;> omega)) _ | refine Below.setCell ?_ (by first | omega | (simp <;> omega)) _ | refine Below.trans ?_ (Below.mono (by assumption) (by first | omega | (simp <;> omega)))))) rfl) hn).mono ?_; rintro e w1 ⟨rfl, hb1⟩
  go_wp2_with fail
  go_ret
  exact ⟨rfl, (by repeat (first | exact Below.refl _ _ | assumption | refine Below.drew ?_ | refine below_drewN ?_ _ | refine Below.alloc ?_ (by first | omega | (simp <;> omega)) _ | refine Below.setCell ?_ (by first | omega | (simp <;> omega)) _ | refine Below.trans ?_ (Below.mono (by assumption) (by first | omega | (simp <;> omega)))))⟩
end Go.Proofs.Ytbcjligkjoimmaa
