/- Circuits of controlled NOTs: the tests of the program and of the reference. -/
import Derived.Test.YtdkfoleippncnaaCirc1
import Derived.Deep.RegionHeld3
namespace Go.Proofs.Ytdkfoleippncnaa
set_option linter.unusedSimpArgs false
set_option linter.unusedVariables false
set_option linter.unnecessarySimpa false
set_option maxRecDepth 200000
open Go.ChangeShapes Go.WideShapes Go.ChangeAt Go.RowKit

theorem gate_at {w : World} {v : Value} {gs : List E3} (h : RdE w v E3.cs 3 gs) : ∃ A c, v = .slice A gs.length c ∧ Hid (∀ k, k < gs.length → ∃ b off, A = some ⟨b, off, none⟩ ∧ b < w.heap.size ∧ w.cell? ⟨b, off + k * 3, none⟩ = some (.int .i64 (gs.getD k ⟨0, 0, 0⟩).a) ∧ w.cell? ⟨b, off + k * 3 + 1, none⟩ = some (.int .i64 (gs.getD k ⟨0, 0, 0⟩).b) ∧ w.cell? ⟨b, off + k * 3 + 2, none⟩ = some (.int .i64 (gs.getD k ⟨0, 0, 0⟩).c)) := by
  rcases h.cases0 E3.len with ⟨he, A, c, rfl⟩ | ⟨_, b, off, cap, rfl, hb, hl, hm, hc⟩
  · subst he
    exact ⟨A, c, rfl, show ∀ _, _ from fun k hk => by simp at hk⟩
  · refine ⟨_, cap, rfl, show ∀ _, _ from fun k hk => ⟨b, off, rfl, hb, ?_⟩⟩
    have e : gs.getD k ⟨0, 0, 0⟩ = gs[k] := by simp [List.getD, hk]
    rw [e]
    exact ⟨hc k hk 0 _ (by omega) rfl, hc k hk 1 _ (by omega) rfl, hc k hk 2 _ (by omega) rfl⟩
def cntTo (gs : List E3) (k : Nat) : Nat := ((gs.take k).filter fun g => decide (g.a = 9)).length
theorem cnt_succ {gs : List E3} {k : Nat} (h : k < gs.length) : cntTo gs (k + 1) = cntTo gs k + if (gs.getD k ⟨0, 0, 0⟩).a = 9 then 1 else 0 := by
  unfold cntTo
  rw [List.take_succ_eq_append_getElem h, List.filter_append, List.length_append]
  have e : gs.getD k ⟨0, 0, 0⟩ = gs[k] := by simp [List.getD, h]
  rw [e]
  by_cases hg : gs[k].a = 9 <;> simp [hg]
theorem cnt_le (gs : List E3) (k : Nat) : cntTo gs k ≤ k := by
  unfold cntTo
  exact Nat.le_trans (List.length_filter_le _ _) (List.length_take_le _ _)
def allCX (gs : List E3) : Bool := gs.all fun g => decide (g.a = 9)
theorem cnt_all (gs : List E3) : decide (cntTo gs gs.length = gs.length) = allCX gs := by
  unfold cntTo allCX
  rw [List.take_length, Bool.eq_iff_iff, decide_eq_true_eq, List.length_filter_eq_length_iff, List.all_eq_true]
def netB (d : Circ) : Bool := circB d && allCX d.gs
set_option maxHeartbeats 1000000 in
theorem spec_l4Count_any (v : Value) (d : Circ) (w : World) (h : RdE w v E3.cs 3 d.gs) (hl : d.gs.length ≤ 1048576) :
    Calls Try.prog 96 #[.agg #[.int .i64 d.n, v], .int .i64 9, .int .i64 9] w fun e w' => e = .returned (.int .i64 (cntTo d.gs d.gs.length : Int)) ∧ Below w.heap.size w w' := by
  obtain ⟨A, c, rfl, Hc⟩ := gate_at h
  clear h
  go_enter Try.func96, Try.ntmps96
  go_wp2_with fail
  go_loopw [7, 13] (fun n i wr => ∃ k : Nat, k ≤ d.gs.length ∧ i = .int .i64 k ∧ n = .int .i64 (cntTo d.gs k : Int) ∧ Below w.heap.size w wr) (fun _ i _ => d.gs.length - (intOf i).toNat)
  case atStart => exact ⟨0, Nat.zero_le _, rfl, rfl, (by repeat (first | exact Below.refl _ _ | assumption | refine Below.drew ?_ | refine below_drewN ?_ _ | refine Below.alloc ?_ (by first | omega | (simp <;> omega)) _ | refine Below.setCell ?_ (by first | omega | (simp <;> omega)) _ | refine Below.trans ?_ (Below.mono (by assumption) (by first | omega | (simp <;> omega)))))⟩
  case round =>
    obtain ⟨k, hk, rfl, rfl, hbel⟩ := hrel
    by_cases hlt : k < d.gs.length
    · obtain ⟨b, off, rfl, hb, q0, q1, q2⟩ := Hc.out k hlt
      obtain ⟨y, hy⟩ : ∃ y, y = d.gs.getD k ⟨0, 0, 0⟩ := ⟨_, rfl⟩
      have hs := cnt_succ hlt
      have hcl := cnt_le d.gs k
      rw [← hy] at q0 q1 q2 hs
      replace q0 := (hbel.cell hb).trans q0; replace q1 := (hbel.cell hb).trans q1; replace q2 := (hbel.cell hb).trans q2
      obtain ⟨x, hx⟩ : ∃ x, x = cntTo d.gs k := ⟨_, rfl⟩
      rw [← hx] at hs hcl ⊢
      have i1 : (k : Int) < (d.gs.length : Int) := by omega
      have hsz := hbel.size
      by_cases h9 : y.a = 9
      · have D1 := Lib.hid (decide_eq_true (show 9 ≤ y.a ∧ y.a ≤ 9 by omega))
        have Hs := Lib.hid (hs.trans (by rw [if_pos h9]))
        clear hs hx hy h9
        go_wp2_with fail
        refine (l1In_p _ _ _ _).mono ?_; rintro e w' ⟨rfl, rfl⟩; rw [D1.out]
        go_wp2_with fail
        go_roundw
        case rel => exact ⟨k + 1, by omega, by go_num, by rw [Hs.out]; go_num, (by repeat (first | exact Below.refl _ _ | assumption | refine Below.drew ?_ | refine below_drewN ?_ _ | refine Below.alloc ?_ (by first | omega | (simp <;> omega)) _ | refine Below.setCell ?_ (by first | omega | (simp <;> omega)) _ | refine Below.trans ?_ (Below.mono (by assumption) (by first | omega | (simp <;> omega)))))⟩
        case measure => simp [intOf]; omega
      · have D1 := Lib.hid (decide_eq_false (show ¬ (9 ≤ y.a ∧ y.a ≤ 9) by omega))
        have Hs := Lib.hid (hs.trans (by rw [if_neg h9, Nat.add_zero]))
        clear hs hx hy h9
        go_wp2_with fail
        refine (l1In_p _ _ _ _).mono ?_; rintro e w' ⟨rfl, rfl⟩; rw [D1.out]
        go_wp2_with fail
        go_roundw
        case rel => exact ⟨k + 1, by omega, by go_num, by rw [Hs.out], (by repeat (first | exact Below.refl _ _ | assumption | refine Below.drew ?_ | refine below_drewN ?_ _ | refine Below.alloc ?_ (by first | omega | (simp <;> omega)) _ | refine Below.setCell ?_ (by first | omega | (simp <;> omega)) _ | refine Below.trans ?_ (Below.mono (by assumption) (by first | omega | (simp <;> omega)))))⟩
        case measure => simp [intOf]; omega
    · have hr : Hid (cntTo d.gs k = cntTo d.gs d.gs.length) := by show _ = _; rw [show k = d.gs.length by omega]
      go_wp2_with fail
      go_ret
      exact ⟨ret_int (by rw [hr.out]), hbel⟩
theorem isNetwork1_any (gs : List E3) (w : World) : PredB 103 #[] encGate (fun g => !decide (g.a = 9)) gs w := by
  intro W x _ hb
  show Calls Try.prog 103 #[.agg #[.int .i64 x.a, .int .i64 x.b, .int .i64 x.c]] W _
  clear hb
  go_enter Try.func103, Try.ntmps103
  go_wp2_with fail
  go_ret
  exact ⟨ret_bool (by by_cases h : x.a = 9 <;> simp [h]), (by repeat (first | exact Below.refl _ _ | assumption | refine Below.drew ?_ | refine below_drewN ?_ _ | refine Below.alloc ?_ (by first | omega | (simp <;> omega)) _ | refine Below.setCell ?_ (by first | omega | (simp <;> omega)) _ | refine Below.trans ?_ (Below.mono (by assumption) (by first | omega | (simp <;> omega)))))⟩
theorem any_all (gs : List E3) : (!(gs.any fun g => !decide (g.a = 9))) = allCX gs := by
  unfold allCX
  rw [List.not_any_eq_all_not]
  congr 1
  funext g
  by_cases h : g.a = 9 <;> simp [h]
theorem netB_0 {d : Circ} (h : circB d = false) : false = netB d := by unfold netB; rw [h]; rfl
theorem netB_1 {d : Circ} (h : circB d = true) : allCX d.gs = netB d := by unfold netB; rw [h]; rfl
set_option maxHeartbeats 1000000 in
theorem impl_isNetwork_any (v : Value) (d : Circ) (w : World) (h : RdE w v E3.cs 3 d.gs) (hl : d.gs.length ≤ 1048576) :
    Calls Try.prog 52 #[.agg #[.int .i64 d.n, v]] w fun e w' => e = .returned (.bool (netB d)) ∧ Below w.heap.size w w' := by
  have H := Lib.hid h
  have Eg := Lib.hid (enters_of Try.func103 (by kernel_rfl) rfl)
  obtain ⟨A, c, rfl, _⟩ := h.form
  clear h
  cases hb : circB d with
  | false =>
    have HB := Lib.hid hb; have HR := Lib.hid (netB_0 hb); clear hb
    go_enter Try.func52, Try.ntmps52
    go_wp2_with fail
    refine (impl_IsValidCircuit_any _ d _ (Rd.below H.out (show Below w.heap.size w _ from (by repeat (first | exact Below.refl _ _ | assumption | refine Below.drew ?_ | refine below_drewN ?_ _ | refine Below.alloc ?_ (by first | omega | (simp <;> omega)) _ | refine Below.setCell ?_ (by first | omega | (simp <;> omega)) _ | refine Below.trans ?_ (Below.mono (by assumption) (by first | omega | (simp <;> omega)))))) rfl) hl).mono ?_; rintro e w1 ⟨rfl, hb1⟩; rw [HB.out]
    go_wp2_with fail
    go_ret
    exact ⟨ret_bool HR.out, (by repeat (first | exact Below.refl _ _ | assumption | refine Below.drew ?_ | refine below_drewN ?_ _ | refine Below.alloc ?_ (by first | omega | (simp <;> omega)) _ | refine Below.setCell ?_ (by first | omega | (simp <;> omega)) _ | refine Below.trans ?_ (Below.mono (by assumption) (by first | omega | (simp <;> omega)))))⟩
  | true =>
    have HB := Lib.hid hb; have HR := Lib.hid (netB_1 hb); clear hb
    go_enter Try.func52, Try.ntmps52
    go_wp2_with fail
    refine (impl_IsValidCircuit_any _ d _ (Rd.below H.out (show Below w.heap.size w _ from (by repeat (first | exact Below.refl _ _ | assumption | refine Below.drew ?_ | refine below_drewN ?_ _ | refine Below.alloc ?_ (by first | omega | (simp <;> omega)) _ | refine Below.setCell ?_ (by first | omega | (simp <;> omega)) _ | refine Below.trans ?_ (Below.mono (by assumption) (by first | omega | (simp <;> omega)))))) rfl) hl).mono ?_; rintro e w1 ⟨rfl, hb1⟩; rw [HB.out]
    obtain ⟨hc_hb1, hf_hb1⟩ := bcell hb1; have hz_hb1 := hb1.size; (try simp at hz_hb1); have hs0_hb1 : w.heap.size < w1.heap.size := (by omega)
    go_wp2_with fail
    refine (slices_ContainsFunc_Gate _ _ (fun g => !decide (g.a = 9)) Eg.out _ d.gs _ (Rd.below H.out (show Below w.heap.size w w1 from (by repeat (first | exact Below.refl _ _ | assumption | refine Below.drew ?_ | refine below_drewN ?_ _ | refine Below.alloc ?_ (by first | omega | (simp <;> omega)) _ | refine Below.setCell ?_ (by first | omega | (simp <;> omega)) _ | refine Below.trans ?_ (Below.mono (by assumption) (by first | omega | (simp <;> omega)))))) rfl) (isNetwork1_any d.gs _)).mono ?_; rintro e w2 ⟨rfl, hb2⟩
    go_wp2_with fail
    go_ret
    exact ⟨ret_bool ((any_all d.gs).trans HR.out), (by repeat (first | exact Below.refl _ _ | assumption | refine Below.drew ?_ | refine below_drewN ?_ _ | refine Below.alloc ?_ (by first | omega | (simp <;> omega)) _ | refine Below.setCell ?_ (by first | omega | (simp <;> omega)) _ | refine Below.trans ?_ (Below.mono (by assumption) (by first | omega | (simp <;> omega)))))⟩
set_option maxHeartbeats 2000000 in
theorem spec_l14Network_any (v : Value) (d : Circ) (w : World) (h : RdE w v E3.cs 3 d.gs) (hl : d.gs.length ≤ 1048576) :
    Calls Try.prog 47 #[.agg #[.int .i64 d.n, v]] w fun e w' => e = .returned (.bool (netB d)) ∧ Below w.heap.size w w' := by
  have H := Lib.hid h
  obtain ⟨A, c, rfl, _⟩ := h.form
  clear h
  cases hb : circB d with
  | false =>
    have HB := Lib.hid hb; have HR := Lib.hid (netB_0 hb); clear hb
    go_enter Try.func47, Try.ntmps47
    go_wp2_with fail
    first | (go_region_with ((go_at_call 95; refine (spec_l4Good_any _ d _ (Rd.below H.out (show Below w.heap.size w _ from (by repeat (first | exact Below.refl _ _ | assumption | refine Below.drew ?_ | refine below_drewN ?_ _ | refine Below.alloc ?_ (by first | omega | (simp <;> omega)) _ | refine Below.setCell ?_ (by first | omega | (simp <;> omega)) _ | refine Below.trans ?_ (Below.mono (by assumption) (by first | omega | (simp <;> omega)))))) rfl) hl).mono ?_; rintro e w1 ⟨rfl, hb1⟩; rw [HB.out]))) | fail
    all_goals
      go_wp2_with fail
      go_ret
      exact ⟨ret_bool HR.out, (by repeat (first | exact Below.refl _ _ | assumption | refine Below.drew ?_ | refine below_drewN ?_ _ | refine Below.alloc ?_ (by first | omega | (simp <;> omega)) _ | refine Below.setCell ?_ (by first | omega | (simp <;> omega)) _ | refine Below.trans ?_ (Below.mono (by assumption) (by first | omega | (simp <;> omega)))))⟩
  | true =>
    have HB := Lib.hid hb; have HR := Lib.hid ((cnt_all d.gs).trans (netB_1 hb)); clear hb
    obtain ⟨x, hx⟩ : ∃ x, x = cntTo d.gs d.gs.length := ⟨_, rfl⟩
    have HX := Lib.hid hx; clear hx
    go_enter Try.func47, Try.ntmps47
    go_wp2_with fail
    go_region_held3 (fun w' => w'.cell? ⟨w.heap.size, 0, none⟩ = some (.int .i64 d.n) ∧ w'.cell? ⟨w.heap.size, 1, none⟩ = some (.slice A d.gs.length c)) (first | go_keep | (go_split_ands; refine ⟨?_, ?_⟩ <;> (refine below_cell hbA rfl ?_; assumption)) | (go_split_ands; refine ⟨?_, ?_⟩ <;> (refine below_cell hbB rfl ?_; assumption))) (first
      | (go_at_call 95; go_must (refine (spec_l4Good_any _ d _ (Rd.below H.out (by repeat (first | exact Below.refl _ _ | assumption | refine Below.drew ?_ | refine below_drewN ?_ _ | refine Below.alloc ?_ (by first | omega | (simp <;> omega)) _ | refine Below.setCell ?_ (by first | omega | (simp <;> omega)) _ | refine Below.trans ?_ (Below.mono (by assumption) (by first | omega | (simp <;> omega))))) rfl) hl).mono ?_; rintro e wA ⟨rfl, hbA⟩; rw [HB.out]; have zA := hbA.size; (try simp at zA)))
      | (go_at_call 96; go_must (refine (spec_l4Count_any _ d _ (Rd.below H.out (by repeat (first | exact Below.refl _ _ | assumption | refine Below.drew ?_ | refine below_drewN ?_ _ | refine Below.alloc ?_ (by first | omega | (simp <;> omega)) _ | refine Below.setCell ?_ (by first | omega | (simp <;> omega)) _ | refine Below.trans ?_ (Below.mono (by assumption) (by first | omega | (simp <;> omega))))) rfl) hl).mono ?_; rintro e wB ⟨rfl, hbB⟩; rw [← HX.out]; have zB := hbB.size; (try simp at zB))))
    all_goals
      go_wp2_with fail
      go_ret
      exact ⟨ret_bool (by rw [← HR.out, ← HX.out]; rw [Bool.eq_iff_iff]; simp <;> omega), (by repeat (first | exact Below.refl _ _ | assumption | refine Below.drew ?_ | refine below_drewN ?_ _ | refine Below.alloc ?_ (by first | omega | (simp <;> omega)) _ | refine Below.setCell ?_ (by first | omega | (simp <;> omega)) _ | refine Below.trans ?_ (Below.mono (by assumption) (by first | omega | (simp <;> omega)))))⟩
end Go.Proofs.Ytdkfoleippncnaa
