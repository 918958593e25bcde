/- CountT in the program and in the reference: is a circuit without T gates? -/
import Derived.Test.YtdkfoleippncnaaNet1
import Derived.Test.YtdkfoleippncnaaCirc1
namespace Go.Proofs.Ytdkfoleippncnaa
set_option linter.unusedSimpArgs false
set_option linter.unusedVariables false
set_option linter.unnecessarySimpa false
set_option maxRecDepth 200000
open Go.ChangeShapes Go.WideShapes Go.ChangeAt Go.RowKit

def isTg (g : E3) : Bool := decide (7 ≤ g.a ∧ g.a ≤ 8)
def tTo (gs : List E3) (k : Nat) : Nat := ((gs.take k).filter isTg).length
theorem tTo_succ {gs : List E3} {k : Nat} (h : k < gs.length) : tTo gs (k + 1) = tTo gs k + if isTg (gs.getD k ⟨0, 0, 0⟩) = true then 1 else 0 := by
  unfold tTo
  rw [List.take_succ_eq_append_getElem h, List.filter_append, List.length_append]
  have e : gs.getD k ⟨0, 0, 0⟩ = gs[k] := by simp [List.getD, h]
  rw [e]
  by_cases hg : isTg gs[k] = true <;> simp [hg]
theorem tTo_le (gs : List E3) (k : Nat) : tTo gs k ≤ k := by
  unfold tTo
  exact Nat.le_trans (List.length_filter_le _ _) (List.length_take_le _ _)
def tCount (d : Circ) : Int := if circB d = true then (tTo d.gs d.gs.length : Int) else 0
/-- A valid circuit without T gates. -/
def clifB (d : Circ) : Bool := circB d && decide (tTo d.gs d.gs.length = 0)
theorem clif_parts {d : Circ} (h : clifB d = true) : CircOk d ∧ ∀ g ∈ d.gs, isTg g = false := by
  unfold clifB at h
  rw [Bool.and_eq_true] at h
  refine ⟨of_decide_eq_true h.1, fun g hg => ?_⟩
  have h2 := of_decide_eq_true h.2
  unfold tTo at h2
  rw [List.take_length] at h2
  have h3 := List.eq_nil_of_length_eq_zero h2
  rw [List.filter_eq_nil_iff] at h3
  have := h3 g hg
  cases e : isTg g
  · rfl
  · exact absurd e this
set_option maxHeartbeats 1000000 in
theorem spec_l4CountT_any (v : Value) (d : Circ) (w : World) (h : RdE w v E3.cs 3 d.gs) (hl : d.gs.length ≤ 1048576) :
    Calls Try.prog 96 #[.agg #[.int .i64 d.n, v], .int .i64 7, .int .i64 8] w fun e w' => e = .returned (.int .i64 (tTo d.gs d.gs.length : Int)) ∧ Below w.heap.size w w' := by
  obtain ⟨A, c, rfl, Hc⟩ := gate_at h
  clear h
  go_enter Try.func96, Try.ntmps96
  go_wp2_with fail
  go_loopw [7, 13] (fun n i wr => ∃ k : Nat, k ≤ d.gs.length ∧ i = .int .i64 k ∧ n = .int .i64 (tTo d.gs k : Int) ∧ Below w.heap.size w wr) (fun _ i _ => d.gs.length - (intOf i).toNat)
  case atStart => exact ⟨0, Nat.zero_le _, rfl, rfl, (by repeat (first | exact Below.refl _ _ | assumption | refine Below.drew ?_ | refine below_drewN ?_ _ | refine Below.alloc ?_ (by first | omega | (simp <;> omega)) _ | refine Below.setCell ?_ (by first | omega | (simp <;> omega)) _ | refine Below.trans ?_ (Below.mono (by assumption) (by first | omega | (simp <;> omega)))))⟩
  case round =>
    obtain ⟨k, hk, rfl, rfl, hbel⟩ := hrel
    by_cases hlt : k < d.gs.length
    · obtain ⟨b, off, rfl, hb, q0, q1, q2⟩ := Hc.out k hlt
      obtain ⟨y, hy⟩ : ∃ y, y = d.gs.getD k ⟨0, 0, 0⟩ := ⟨_, rfl⟩
      have hs := tTo_succ hlt
      have hcl := tTo_le d.gs k
      rw [← hy] at q0 q1 q2 hs
      replace q0 := (hbel.cell hb).trans q0; replace q1 := (hbel.cell hb).trans q1; replace q2 := (hbel.cell hb).trans q2
      obtain ⟨x, hx⟩ : ∃ x, x = tTo d.gs k := ⟨_, rfl⟩
      rw [← hx] at hs hcl ⊢
      have i1 : (k : Int) < (d.gs.length : Int) := by omega
      have hsz := hbel.size
      cases h9 : isTg y
      · have D1 := Lib.hid (show decide (7 ≤ y.a ∧ y.a ≤ 8) = false from h9)
        have Hs := Lib.hid (show tTo d.gs (k + 1) = x from by rw [hs, h9]; rfl)
        clear hs hx hy h9
        go_wp2_with fail
        refine (l1In_p _ _ _ _).mono ?_; rintro e w' ⟨rfl, rfl⟩; rw [D1.out]
        go_wp2_with fail
        go_roundw
        case rel => exact ⟨k + 1, by omega, by go_num, by rw [Hs.out], (by repeat (first | exact Below.refl _ _ | assumption | refine Below.drew ?_ | refine below_drewN ?_ _ | refine Below.alloc ?_ (by first | omega | (simp <;> omega)) _ | refine Below.setCell ?_ (by first | omega | (simp <;> omega)) _ | refine Below.trans ?_ (Below.mono (by assumption) (by first | omega | (simp <;> omega)))))⟩
        case measure => simp [intOf]; omega
      · have D1 := Lib.hid (show decide (7 ≤ y.a ∧ y.a ≤ 8) = true from h9)
        have Hs := Lib.hid (show tTo d.gs (k + 1) = x + 1 from by rw [hs, h9]; rfl)
        clear hs hx hy h9
        go_wp2_with fail
        refine (l1In_p _ _ _ _).mono ?_; rintro e w' ⟨rfl, rfl⟩; rw [D1.out]
        go_wp2_with fail
        go_roundw
        case rel => exact ⟨k + 1, by omega, by go_num, by rw [Hs.out]; go_num, (by repeat (first | exact Below.refl _ _ | assumption | refine Below.drew ?_ | refine below_drewN ?_ _ | refine Below.alloc ?_ (by first | omega | (simp <;> omega)) _ | refine Below.setCell ?_ (by first | omega | (simp <;> omega)) _ | refine Below.trans ?_ (Below.mono (by assumption) (by first | omega | (simp <;> omega)))))⟩
        case measure => simp [intOf]; omega
    · have hr : Hid (tTo d.gs k = tTo d.gs d.gs.length) := by show _ = _; rw [show k = d.gs.length by omega]
      go_wp2_with fail
      go_ret
      exact ⟨ret_int (by rw [hr.out]), hbel⟩
theorem ret_cnt {d : Circ} {n : Int} {b : Bool} (h : circB d = b) (hn : n = tCount d) : Ending.returned (.tuple #[.int .i64 n, .bool b]) = .returned (.tuple #[.int .i64 (tCount d), .bool (circB d)]) := by rw [h, hn]
set_option maxHeartbeats 1000000 in
theorem spec_CountT_any (v : Value) (d : Circ) (w : World) (h : RdE w v E3.cs 3 d.gs) (hl : d.gs.length ≤ 1048576) :
    Calls Try.prog 84 #[.agg #[.int .i64 d.n, v]] w fun e w' => e = .returned (.tuple #[.int .i64 (tCount d), .bool (circB d)]) ∧ Below w.heap.size w w' := by
  have H := Lib.hid h
  obtain ⟨A, c, rfl, _⟩ := h.form
  clear h
  cases hb : circB d with
  | false =>
    have HB := Lib.hid hb
    have HN := Lib.hid (show (0 : Int) = tCount d from by unfold tCount; rw [hb]; rfl)
    clear hb
    go_enter Try.func84, Try.ntmps84
    go_wp2_with fail
    refine (spec_l4Good_any _ d _ (Rd.below H.out (show Below w.heap.size w _ from (by repeat (first | exact Below.refl _ _ | assumption | refine Below.drew ?_ | refine below_drewN ?_ _ | refine Below.alloc ?_ (by first | omega | (simp <;> omega)) _ | refine Below.setCell ?_ (by first | omega | (simp <;> omega)) _ | refine Below.trans ?_ (Below.mono (by assumption) (by first | omega | (simp <;> omega)))))) rfl) hl).mono ?_; rintro e w1 ⟨rfl, hb1⟩; rw [HB.out]
    go_wp2_with fail
    go_ret2
    exact ⟨(by rw [← HN.out] <;> rfl), (by repeat (first | exact Below.refl _ _ | assumption | refine Below.drew ?_ | refine below_drewN ?_ _ | refine Below.alloc ?_ (by first | omega | (simp <;> omega)) _ | refine Below.setCell ?_ (by first | omega | (simp <;> omega)) _ | refine Below.trans ?_ (Below.mono (by assumption) (by first | omega | (simp <;> omega)))))⟩
  | true =>
    have HB := Lib.hid hb
    have HN := Lib.hid (show (tTo d.gs d.gs.length : Int) = tCount d from by unfold tCount; rw [hb]; rfl)
    clear hb
    go_enter Try.func84, Try.ntmps84
    go_wp2_with fail
    refine (spec_l4Good_any _ d _ (Rd.below H.out (show Below w.heap.size w _ from (by repeat (first | exact Below.refl _ _ | assumption | refine Below.drew ?_ | refine below_drewN ?_ _ | refine Below.alloc ?_ (by first | omega | (simp <;> omega)) _ | refine Below.setCell ?_ (by first | omega | (simp <;> omega)) _ | refine Below.trans ?_ (Below.mono (by assumption) (by first | omega | (simp <;> omega)))))) rfl) hl).mono ?_; rintro e w1 ⟨rfl, hb1⟩; rw [HB.out]
    obtain ⟨hc_hb1, hf_hb1⟩ := bcell hb1; have hz_hb1 := hb1.size; (try simp at hz_hb1); have hs0_hb1 : w.heap.size < w1.heap.size := (by omega)
    go_wp2_with fail
    refine (spec_l4CountT_any _ d _ (Rd.below H.out (show Below w.heap.size w w1 from (by repeat (first | exact Below.refl _ _ | assumption | refine Below.drew ?_ | refine below_drewN ?_ _ | refine Below.alloc ?_ (by first | omega | (simp <;> omega)) _ | refine Below.setCell ?_ (by first | omega | (simp <;> omega)) _ | refine Below.trans ?_ (Below.mono (by assumption) (by first | omega | (simp <;> omega)))))) rfl) hl).mono ?_; rintro e w2 ⟨rfl, hb2⟩
    rw [HN.out]
    go_wp2_with fail
    go_ret2
    exact ⟨rfl, (by repeat (first | exact Below.refl _ _ | assumption | refine Below.drew ?_ | refine below_drewN ?_ _ | refine Below.alloc ?_ (by first | omega | (simp <;> omega)) _ | refine Below.setCell ?_ (by first | omega | (simp <;> omega)) _ | refine Below.trans ?_ (Below.mono (by assumption) (by first | omega | (simp <;> omega)))))⟩
theorem clif_def (d : Circ) : clifB d = (circB d && (tCount d == 0)) := by
  unfold clifB tCount
  cases circB d
  · rfl
  · rw [if_pos rfl, Bool.true_and, Bool.true_and, Bool.eq_iff_iff, decide_eq_true_eq, beq_iff_eq]; omega
theorem spec_l7Clifford_any (v : Value) (d : Circ) (w : World) (h : RdE w v E3.cs 3 d.gs) (hl : d.gs.length ≤ 1048576) :
    Calls Try.prog 40 #[.agg #[.int .i64 d.n, v]] w fun e w' => e = .returned (.bool (clifB d)) ∧ Below w.heap.size w w' := by
  have H := Lib.hid h
  obtain ⟨A, c, rfl, _⟩ := h.form
  clear h
  have HC := Lib.hid (clif_def d)
  cases hb : circB d with
  | false =>
    have HB := Lib.hid hb
    have HR := Lib.hid (show clifB d = false from by rw [HC.out, hb]; rfl)
    clear hb
    go_enter Try.func40, Try.ntmps40
    go_wp2_with fail
    refine (spec_CountT_any _ d _ (Rd.below H.out (show Below w.heap.size w _ from (by repeat (first | exact Below.refl _ _ | assumption | refine Below.drew ?_ | refine below_drewN ?_ _ | refine Below.alloc ?_ (by first | omega | (simp <;> omega)) _ | refine Below.setCell ?_ (by first | omega | (simp <;> omega)) _ | refine Below.trans ?_ (Below.mono (by assumption) (by first | omega | (simp <;> omega)))))) rfl) hl).mono ?_; rintro e w1 ⟨rfl, hb1⟩; rw [HB.out]
    go_wp2_with fail
    go_ret
    exact ⟨ret_bool HR.out.symm, (by repeat (first | exact Below.refl _ _ | assumption | refine Below.drew ?_ | refine below_drewN ?_ _ | refine Below.alloc ?_ (by first | omega | (simp <;> omega)) _ | refine Below.setCell ?_ (by first | omega | (simp <;> omega)) _ | refine Below.trans ?_ (Below.mono (by assumption) (by first | omega | (simp <;> omega)))))⟩
  | true =>
    have HB := Lib.hid hb
    cases ht : (tCount d == 0)
    all_goals
      have HR := Lib.hid (show clifB d = (tCount d == 0) from by rw [HC.out, hb]; rfl)
      rw [ht] at HR
      have HT := Lib.hid ht
      obtain ⟨N, hN⟩ : ∃ N, N = tCount d := ⟨_, rfl⟩
      rw [← hN] at ht
      have HN := Lib.hid hN
      clear hN
      go_enter Try.func40, Try.ntmps40
      go_wp2_with fail
      refine (spec_CountT_any _ d _ (Rd.below H.out (show Below w.heap.size w _ from (by repeat (first | exact Below.refl _ _ | assumption | refine Below.drew ?_ | refine below_drewN ?_ _ | refine Below.alloc ?_ (by first | omega | (simp <;> omega)) _ | refine Below.setCell ?_ (by first | omega | (simp <;> omega)) _ | refine Below.trans ?_ (Below.mono (by assumption) (by first | omega | (simp <;> omega)))))) rfl) hl).mono ?_; rintro e w1 ⟨rfl, hb1⟩; rw [HB.out, ← HN.out]
      go_wp2_with fail
      go_ret
      exact ⟨ret_bool (by rw [HR.out] <;> rfl), (by repeat (first | exact Below.refl _ _ | assumption | refine Below.drew ?_ | refine below_drewN ?_ _ | refine Below.alloc ?_ (by first | omega | (simp <;> omega)) _ | refine Below.setCell ?_ (by first | omega | (simp <;> omega)) _ | refine Below.trans ?_ (Below.mono (by assumption) (by first | omega | (simp <;> omega)))))⟩
theorem impl_isT_any (k : Int) (w : World) :
    Calls Try.prog 139 #[.int .i64 k] w fun e w' => e = .returned (.bool (decide (7 ≤ k ∧ k ≤ 8))) ∧ w = w' := by
  go_enter Try.func139, Try.ntmps139
  go_wp2_with fail
  all_goals (go_ret; refine ⟨ret_bool ?_, rfl⟩)
  all_goals (first | (rw [Bool.eq_iff_iff]; simp; omega) | (simp_all; omega) | simp_all)
set_option maxHeartbeats 2000000 in
theorem impl_counted_any (v : Value) (d : Circ) (w : World) (h : RdE w v E3.cs 3 d.gs) (hl : d.gs.length ≤ 1048576) :
    Calls Try.prog 138 #[.agg #[.int .i64 d.n, v], .func (.func 139) #[] #[]] w fun e w' => e = .returned (.tuple #[.int .i64 (tCount d), .bool (circB d)]) ∧ Below w.heap.size w w' := by
  have H := Lib.hid h
  obtain ⟨A, c, rfl, Hc⟩ := gate_at h
  clear h
  cases hb : circB d with
  | false =>
    have HB := Lib.hid hb
    have HN := Lib.hid (show (0 : Int) = tCount d from by unfold tCount; rw [hb]; rfl)
    clear hb
    go_enter Try.func138, Try.ntmps138
    go_wp2_with fail
    refine (impl_IsValidCircuit_any _ d _ (Rd.below H.out (show Below w.heap.size w _ from (by repeat (first | exact Below.refl _ _ | assumption | refine Below.drew ?_ | refine below_drewN ?_ _ | refine Below.alloc ?_ (by first | omega | (simp <;> omega)) _ | refine Below.setCell ?_ (by first | omega | (simp <;> omega)) _ | refine Below.trans ?_ (Below.mono (by assumption) (by first | omega | (simp <;> omega)))))) rfl) hl).mono ?_; rintro e w1 ⟨rfl, hb1⟩; rw [HB.out]
    go_wp2_with fail
    go_ret2
    exact ⟨(by rw [← HN.out] <;> rfl), (by repeat (first | exact Below.refl _ _ | assumption | refine Below.drew ?_ | refine below_drewN ?_ _ | refine Below.alloc ?_ (by first | omega | (simp <;> omega)) _ | refine Below.setCell ?_ (by first | omega | (simp <;> omega)) _ | refine Below.trans ?_ (Below.mono (by assumption) (by first | omega | (simp <;> omega)))))⟩
  | true =>
    have HB := Lib.hid hb
    have HN := Lib.hid (show (tTo d.gs d.gs.length : Int) = tCount d from by unfold tCount; rw [hb]; rfl)
    clear hb
    go_enter Try.func138, Try.ntmps138
    go_wp2_with fail
    refine (impl_IsValidCircuit_any _ d _ (Rd.below H.out (show Below w.heap.size w _ from (by repeat (first | exact Below.refl _ _ | assumption | refine Below.drew ?_ | refine below_drewN ?_ _ | refine Below.alloc ?_ (by first | omega | (simp <;> omega)) _ | refine Below.setCell ?_ (by first | omega | (simp <;> omega)) _ | refine Below.trans ?_ (Below.mono (by assumption) (by first | omega | (simp <;> omega)))))) rfl) hl).mono ?_; rintro e w1 ⟨rfl, hb1⟩; rw [HB.out]
    have z1 := hb1.size; (simp at z1)
    have t1 := below_cell hb1 rfl (show (w.alloc (.cells #[.int .i64 d.n, .slice A d.gs.length c] 30)).cell? ⟨w.heap.size, 1, none⟩ = some (.slice A d.gs.length c) from (by repeat (first | (refine Eq.trans (World.cell?_alloc_at _ _ _ _ ?hh) ?_; (case hh => (simp; done)); rfl) | refine cell_alloc_keep _ ?_)))
    have bw1 := Lib.hid (show Below w.heap.size w w1 from (by repeat (first | exact Below.refl _ _ | assumption | refine Below.drew ?_ | refine below_drewN ?_ _ | refine Below.alloc ?_ (by first | omega | (simp <;> omega)) _ | refine Below.setCell ?_ (by first | omega | (simp <;> omega)) _ | refine Below.trans ?_ (Below.mono (by assumption) (by first | omega | (simp <;> omega)))))); clear hb1
    go_wp2_with fail
    clear t1
    go_loopw [6, 15] (fun n i wr => ∃ k : Nat, k ≤ d.gs.length ∧ i = .int .i64 k ∧ n = .int .i64 (tTo d.gs k : Int) ∧ Below w.heap.size w wr) (fun _ i _ => d.gs.length - (intOf i).toNat)
    case atStart => exact ⟨0, Nat.zero_le _, rfl, rfl, bw1.out⟩
    case round =>
      obtain ⟨k, hk, rfl, rfl, hbel⟩ := hrel
      by_cases hlt : k < d.gs.length
      · obtain ⟨b, off, rfl, hb, q0, q1, q2⟩ := Hc.out k hlt
        obtain ⟨y, hy⟩ : ∃ y, y = d.gs.getD k ⟨0, 0, 0⟩ := ⟨_, rfl⟩
        have hs := tTo_succ hlt
        have hcl := tTo_le d.gs k
        rw [← hy] at q0 q1 q2 hs
        replace q0 := (hbel.cell hb).trans q0; replace q1 := (hbel.cell hb).trans q1; replace q2 := (hbel.cell hb).trans q2
        obtain ⟨x, hx⟩ : ∃ x, x = tTo d.gs k := ⟨_, rfl⟩
        rw [← hx] at hs hcl ⊢
        have i1 : (k : Int) < (d.gs.length : Int) := by omega
        have hsz := hbel.size
        cases h9 : isTg y
        · have D1 := Lib.hid (show decide (7 ≤ y.a ∧ y.a ≤ 8) = false from h9)
          have Hs := Lib.hid (show tTo d.gs (k + 1) = x from by rw [hs, h9]; rfl)
          clear hs hx hy h9
          go_wp2_with fail
          refine (impl_isT_any _ _).mono ?_; rintro e w' ⟨rfl, rfl⟩; rw [D1.out]
          go_wp2_with fail
          go_roundw
          case rel => exact ⟨k + 1, by omega, by go_num, by rw [Hs.out], (by repeat (first | exact Below.refl _ _ | assumption | refine Below.drew ?_ | refine below_drewN ?_ _ | refine Below.alloc ?_ (by first | omega | (simp <;> omega)) _ | refine Below.setCell ?_ (by first | omega | (simp <;> omega)) _ | refine Below.trans ?_ (Below.mono (by assumption) (by first | omega | (simp <;> omega)))))⟩
          case measure => simp [intOf]; omega
        · have D1 := Lib.hid (show decide (7 ≤ y.a ∧ y.a ≤ 8) = true from h9)
          have Hs := Lib.hid (show tTo d.gs (k + 1) = x + 1 from by rw [hs, h9]; rfl)
          clear hs hx hy h9
          go_wp2_with fail
          refine (impl_isT_any _ _).mono ?_; rintro e w' ⟨rfl, rfl⟩; rw [D1.out]
          go_wp2_with fail
          go_roundw
          case rel => exact ⟨k + 1, by omega, by go_num, by rw [Hs.out]; go_num, (by repeat (first | exact Below.refl _ _ | assumption | refine Below.drew ?_ | refine below_drewN ?_ _ | refine Below.alloc ?_ (by first | omega | (simp <;> omega)) _ | refine Below.setCell ?_ (by first | omega | (simp <;> omega)) _ | refine Below.trans ?_ (Below.mono (by assumption) (by first | omega | (simp <;> omega)))))⟩
          case measure => simp [intOf]; omega
      · have hr : Hid (tTo d.gs k = tCount d) := by show _ = _; rw [show k = d.gs.length by omega]; exact HN.out
        rw [hr.out]
        go_wp2_with fail
        go_ret2
        exact ⟨rfl, hbel⟩
theorem impl_CountT_any (v : Value) (d : Circ) (w : World) (h : RdE w v E3.cs 3 d.gs) (hl : d.gs.length ≤ 1048576) :
    Calls Try.prog 89 #[.agg #[.int .i64 d.n, v]] w fun e w' => e = .returned (.tuple #[.int .i64 (tCount d), .bool (circB d)]) ∧ Below w.heap.size w w' := by
  have H := Lib.hid h
  obtain ⟨A, c, rfl, _⟩ := h.form
  clear h
  go_enter Try.func89, Try.ntmps89
  go_wp2_with fail
  refine (impl_counted_any _ d _ (Rd.below H.out (show Below w.heap.size w _ from (by repeat (first | exact Below.refl _ _ | assumption | refine Below.drew ?_ | refine below_drewN ?_ _ | refine Below.alloc ?_ (by first | omega | (simp <;> omega)) _ | refine Below.setCell ?_ (by first | omega | (simp <;> omega)) _ | refine Below.trans ?_ (Below.mono (by assumption) (by first | omega | (simp <;> omega)))))) rfl) hl).mono ?_; rintro e w1 ⟨rfl, hb1⟩
  go_wp2_with fail
  go_ret2
  exact ⟨rfl, (by repeat (first | exact Below.refl _ _ | assumption | refine Below.drew ?_ | refine below_drewN ?_ _ | refine Below.alloc ?_ (by first | omega | (simp <;> omega)) _ | refine Below.setCell ?_ (by first | omega | (simp <;> omega)) _ | refine Below.trans ?_ (Below.mono (by assumption) (by first | omega | (simp <;> omega)))))⟩
end Go.Proofs.Ytdkfoleippncnaa
