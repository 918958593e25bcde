/- The text of a Pauli operator, in the reference (written by genfp9.py). -/
import Derived.Test.YteimcfbliigjmaaZ48M
import Derived.BigRegion
namespace Go.Proofs.Yteimcfbliigjmaa
set_option linter.unusedSimpArgs false
set_option linter.unusedVariables false
set_option linter.unnecessarySimpa false
set_option maxRecDepth 200000
open Go.ChangeShapes Go.WideShapes Go.ChangeAt Go.RowKit

set_option maxHeartbeats 8000000 in
theorem spec_l7Text_any (n : Nat) (a : PN) (w : World) (hn : n ≤ 5) (ha : PNok a) :
    Calls Try.prog 22 #[.int .i64 (n : Int), .agg #[.int .i64 ((a).p : Int), .int .i64 ((a).x : Int), .int .i64 ((a).z : Int)]] w fun e w' => e = .returned (.string (txtP a n)) ∧ Below w.heap.size w w' := by
  have OA := Lib.hid ha
  have hp : a.p = 0 ∨ a.p = 1 ∨ a.p = 2 ∨ a.p = 3 := by have := ha.p; omega
  obtain ⟨T, hT⟩ : ∃ T : Nat → ByteArray, T = txtP a := ⟨_, rfl⟩
  have SZ := Lib.hid (show ∀ k, (T k).size ≤ 2 + k from fun k => by rw [hT]; exact txtP_size a k)
  have TS := Lib.hid (show ∀ k, T (k + 1) = T k ++ letS (ltr a k) from fun k => by rw [hT]; rfl)
  rw [← hT]
  have T0 : T 0 = sgnS a.p := by rw [hT]; rfl
  clear ha hT
  rcases hp with h | h | h | h
  · have TZ := Lib.hid ((T0.trans (congrArg sgnS h)).trans (show sgnS 0 = ⟨#[43]⟩ from rfl))
    have ep : (a.p : Int) = 0 := by omega
    have CL := Lib.hid (show ∀ (k : Nat) (W : World), k ≤ 60 → Calls Try.prog 41 #[.agg #[.int .i64 0, .int .i64 (a.x : Int), .int .i64 (a.z : Int)], .int .i64 (k : Int)] W fun e w' => e = .returned (.int .i64 (ltr a k : Int)) ∧ Below W.heap.size W w' from fun k W hk => by
      have h9 := spec_l7Letter_any a k W OA.out hk
      rw [ep] at h9
      exact h9)
    have A0 := Lib.hid (show PB ((w.alloc (.cells #[.int .i64 0, .int .i64 (a.x : Int), .int .i64 (a.z : Int)] 24)).alloc (.cells #[.string ⟨#[43]⟩, .string ⟨#[43, 105]⟩, .string ⟨#[45]⟩, .string ⟨#[45, 105]⟩] 9)) w.heap.size 0 (a.x : Int) (a.z : Int) from ⟨(by repeat (first | (refine Eq.trans (World.cell?_alloc_at _ _ _ _ ?hh) ?_; (case hh => (simp; done)); rfl) | refine cell_alloc_keep _ ?_)), (by repeat (first | (refine Eq.trans (World.cell?_alloc_at _ _ _ _ ?hh) ?_; (case hh => (simp; done)); rfl) | refine cell_alloc_keep _ ?_)), (by repeat (first | (refine Eq.trans (World.cell?_alloc_at _ _ _ _ ?hh) ?_; (case hh => (simp; done)); rfl) | refine cell_alloc_keep _ ?_)), (by repeat (first | (refine World.frozen?_alloc_at _ _ _ _ ?hh; case hh => (simp; done)) | (refine frozen_alloc_lt _ ?hh ?_; case hh => first | omega | (simp <;> omega)))), (by repeat (first | (refine World.frozen?_alloc_at _ _ _ _ ?hh; case hh => (simp; done)) | (refine frozen_alloc_lt _ ?hh ?_; case hh => first | omega | (simp <;> omega)))), (by repeat (first | (refine World.frozen?_alloc_at _ _ _ _ ?hh; case hh => (simp; done)) | (refine frozen_alloc_lt _ ?hh ?_; case hh => first | omega | (simp <;> omega))))⟩)
    have B0 := Lib.hid (show Below w.heap.size w ((w.alloc (.cells #[.int .i64 0, .int .i64 (a.x : Int), .int .i64 (a.z : Int)] 24)).alloc (.cells #[.string ⟨#[43]⟩, .string ⟨#[43, 105]⟩, .string ⟨#[45]⟩, .string ⟨#[45, 105]⟩] 9)) from (by repeat (first | exact Below.refl _ _ | assumption | refine Below.drew ?_ | refine below_drewN ?_ _ | refine Below.alloc ?_ (by first | omega | (simp <;> omega)) _ | refine Below.setCell ?_ (by first | omega | (simp <;> omega)) _ | refine Below.trans ?_ (Below.mono (by assumption) (by first | omega | (simp <;> omega))))))
    clear T0 h
    go_enter Try.func22, Try.ntmps22
    go_wp2_with fail
    clear ep
    go_loopw [5, 6] (fun o i wr => ∃ k : Nat, k ≤ n ∧ o = .string (T k) ∧ i = .int .i64 k ∧ PB wr w.heap.size 0 (a.x : Int) (a.z : Int) ∧ Below w.heap.size w wr) (fun _ i _ => n - (intOf i).toNat)
    case atStart => exact ⟨0, Nat.zero_le _, by rw [TZ.out], rfl, A0.out, B0.out⟩
    case round =>
      obtain ⟨k, hk, rfl, rfl, hpb, hbel⟩ := hrel
      have PK := Lib.hid hpb
      have BK := Lib.hid hbel
      obtain ⟨a0, a1, a2, _, _, _⟩ := hpb
      clear hbel
      by_cases hlt : k < n
      · have i1 : (k : Int) < (n : Int) := by omega
        have hbb : Below wr.heap.size wr (wr.alloc (.cells #[.string ⟨#[73]⟩, .string ⟨#[88]⟩, .string ⟨#[90]⟩, .string ⟨#[89]⟩] 9)) := (by repeat (first | exact Below.refl _ _ | assumption | refine Below.drew ?_ | refine below_drewN ?_ _ | refine Below.alloc ?_ (by first | omega | (simp <;> omega)) _ | refine Below.setCell ?_ (by first | omega | (simp <;> omega)) _ | refine Below.trans ?_ (Below.mono (by assumption) (by first | omega | (simp <;> omega)))))
        have P2 := Lib.hid (PK.out.call hbb)
        have B2 := Lib.hid (Below.trans BK.out (hbb.mono (Nat.le_of_lt (World.block_lt_of_cell? _ _ a0))))
        obtain ⟨d0, d1, d2, _, _, _⟩ := P2.out
        go_wp2_with fail
        have c0 : (wr.alloc (.cells #[.string ⟨#[73]⟩, .string ⟨#[88]⟩, .string ⟨#[90]⟩, .string ⟨#[89]⟩] 9)).cell? ⟨wr.heap.size, 0, none⟩ = some (.string ⟨#[73]⟩) := (by repeat (first | (refine Eq.trans (World.cell?_alloc_at _ _ _ _ ?hh) ?_; (case hh => (simp; done)); rfl) | refine cell_alloc_keep _ ?_))
        have c1 : (wr.alloc (.cells #[.string ⟨#[73]⟩, .string ⟨#[88]⟩, .string ⟨#[90]⟩, .string ⟨#[89]⟩] 9)).cell? ⟨wr.heap.size, 1, none⟩ = some (.string ⟨#[88]⟩) := (by repeat (first | (refine Eq.trans (World.cell?_alloc_at _ _ _ _ ?hh) ?_; (case hh => (simp; done)); rfl) | refine cell_alloc_keep _ ?_))
        have c2 : (wr.alloc (.cells #[.string ⟨#[73]⟩, .string ⟨#[88]⟩, .string ⟨#[90]⟩, .string ⟨#[89]⟩] 9)).cell? ⟨wr.heap.size, 2, none⟩ = some (.string ⟨#[90]⟩) := (by repeat (first | (refine Eq.trans (World.cell?_alloc_at _ _ _ _ ?hh) ?_; (case hh => (simp; done)); rfl) | refine cell_alloc_keep _ ?_))
        have c3 : (wr.alloc (.cells #[.string ⟨#[73]⟩, .string ⟨#[88]⟩, .string ⟨#[90]⟩, .string ⟨#[89]⟩] 9)).cell? ⟨wr.heap.size, 3, none⟩ = some (.string ⟨#[89]⟩) := (by repeat (first | (refine Eq.trans (World.cell?_alloc_at _ _ _ _ ?hh) ?_; (case hh => (simp; done)); rfl) | refine cell_alloc_keep _ ?_))
        clear hbb
        generalize (wr.alloc (.cells #[.string ⟨#[73]⟩, .string ⟨#[88]⟩, .string ⟨#[90]⟩, .string ⟨#[89]⟩] 9)) = w2 at *
        refine (CL.out k _ (by omega)).mono ?_; rintro e w3 ⟨rfl, hb3⟩
        have P3 := Lib.hid (P2.out.call hb3)
        have B3 := Lib.hid (Below.trans B2.out (hb3.mono (Nat.le_of_lt (World.block_lt_of_cell? _ _ P2.out.c0))))
        replace c0 := below_cell hb3 rfl c0
        replace c1 := below_cell hb3 rfl c1
        replace c2 := below_cell hb3 rfl c2
        replace c3 := below_cell hb3 rfl c3
        have hcat := run_string_add_sum (P := Try.prog) (w := w3) (T k) (letS (ltr a k)) (by have := SZ.out k; rw [letS_size]; omega)
        rw [← TS.out k] at hcat
        have h3 := ltr_3 a k
        clear hb3 a0 a1 a2 d0 d1 d2 P2 B2 PK BK
        have hl : ltr a k = 0 ∨ ltr a k = 1 ∨ ltr a k = 2 ∨ ltr a k = 3 := by omega
        clear h3
        generalize ltr a k = l at *
        rcases hl with rfl | rfl | rfl | rfl
        · (rw [show letS 0 = ⟨#[73]⟩ from rfl] at hcat; go_wp2_with fail; go_roundw; (case rel => exact ⟨k + 1, by omega, rfl, by go_num, P3.out, B3.out⟩); (case measure => simp [intOf]; omega))
        · (rw [show letS 1 = ⟨#[88]⟩ from rfl] at hcat; go_wp2_with fail; go_roundw; (case rel => exact ⟨k + 1, by omega, rfl, by go_num, P3.out, B3.out⟩); (case measure => simp [intOf]; omega))
        · (rw [show letS 2 = ⟨#[90]⟩ from rfl] at hcat; go_wp2_with fail; go_roundw; (case rel => exact ⟨k + 1, by omega, rfl, by go_num, P3.out, B3.out⟩); (case measure => simp [intOf]; omega))
        · (rw [show letS 3 = ⟨#[89]⟩ from rfl] at hcat; go_wp2_with fail; go_roundw; (case rel => exact ⟨k + 1, by omega, rfl, by go_num, P3.out, B3.out⟩); (case measure => simp [intOf]; omega))
      · have e : k = n := by omega
        subst e
        go_wp2_with fail
        go_ret
        exact ⟨rfl, BK.out⟩
  · have TZ := Lib.hid ((T0.trans (congrArg sgnS h)).trans (show sgnS 1 = ⟨#[43, 105]⟩ from rfl))
    have ep : (a.p : Int) = 1 := by omega
    have CL := Lib.hid (show ∀ (k : Nat) (W : World), k ≤ 60 → Calls Try.prog 41 #[.agg #[.int .i64 1, .int .i64 (a.x : Int), .int .i64 (a.z : Int)], .int .i64 (k : Int)] W fun e w' => e = .returned (.int .i64 (ltr a k : Int)) ∧ Below W.heap.size W w' from fun k W hk => by
      have h9 := spec_l7Letter_any a k W OA.out hk
      rw [ep] at h9
      exact h9)
    have A0 := Lib.hid (show PB ((w.alloc (.cells #[.int .i64 1, .int .i64 (a.x : Int), .int .i64 (a.z : Int)] 24)).alloc (.cells #[.string ⟨#[43]⟩, .string ⟨#[43, 105]⟩, .string ⟨#[45]⟩, .string ⟨#[45, 105]⟩] 9)) w.heap.size 1 (a.x : Int) (a.z : Int) from ⟨(by repeat (first | (refine Eq.trans (World.cell?_alloc_at _ _ _ _ ?hh) ?_; (case hh => (simp; done)); rfl) | refine cell_alloc_keep _ ?_)), (by repeat (first | (refine Eq.trans (World.cell?_alloc_at _ _ _ _ ?hh) ?_; (case hh => (simp; done)); rfl) | refine cell_alloc_keep _ ?_)), (by repeat (first | (refine Eq.trans (World.cell?_alloc_at _ _ _ _ ?hh) ?_; (case hh => (simp; done)); rfl) | refine cell_alloc_keep _ ?_)), (by repeat (first | (refine World.frozen?_alloc_at _ _ _ _ ?hh; case hh => (simp; done)) | (refine frozen_alloc_lt _ ?hh ?_; case hh => first | omega | (simp <;> omega)))), (by repeat (first | (refine World.frozen?_alloc_at _ _ _ _ ?hh; case hh => (simp; done)) | (refine frozen_alloc_lt _ ?hh ?_; case hh => first | omega | (simp <;> omega)))), (by repeat (first | (refine World.frozen?_alloc_at _ _ _ _ ?hh; case hh => (simp; done)) | (refine frozen_alloc_lt _ ?hh ?_; case hh => first | omega | (simp <;> omega))))⟩)
    have B0 := Lib.hid (show Below w.heap.size w ((w.alloc (.cells #[.int .i64 1, .int .i64 (a.x : Int), .int .i64 (a.z : Int)] 24)).alloc (.cells #[.string ⟨#[43]⟩, .string ⟨#[43, 105]⟩, .string ⟨#[45]⟩, .string ⟨#[45, 105]⟩] 9)) from (by repeat (first | exact Below.refl _ _ | assumption | refine Below.drew ?_ | refine below_drewN ?_ _ | refine Below.alloc ?_ (by first | omega | (simp <;> omega)) _ | refine Below.setCell ?_ (by first | omega | (simp <;> omega)) _ | refine Below.trans ?_ (Below.mono (by assumption) (by first | omega | (simp <;> omega))))))
    clear T0 h
    go_enter Try.func22, Try.ntmps22
    go_wp2_with fail
    clear ep
    go_loopw [5, 6] (fun o i wr => ∃ k : Nat, k ≤ n ∧ o = .string (T k) ∧ i = .int .i64 k ∧ PB wr w.heap.size 1 (a.x : Int) (a.z : Int) ∧ Below w.heap.size w wr) (fun _ i _ => n - (intOf i).toNat)
    case atStart => exact ⟨0, Nat.zero_le _, by rw [TZ.out], rfl, A0.out, B0.out⟩
    case round =>
      obtain ⟨k, hk, rfl, rfl, hpb, hbel⟩ := hrel
      have PK := Lib.hid hpb
      have BK := Lib.hid hbel
      obtain ⟨a0, a1, a2, _, _, _⟩ := hpb
      clear hbel
      by_cases hlt : k < n
      · have i1 : (k : Int) < (n : Int) := by omega
        have hbb : Below wr.heap.size wr (wr.alloc (.cells #[.string ⟨#[73]⟩, .string ⟨#[88]⟩, .string ⟨#[90]⟩, .string ⟨#[89]⟩] 9)) := (by repeat (first | exact Below.refl _ _ | assumption | refine Below.drew ?_ | refine below_drewN ?_ _ | refine Below.alloc ?_ (by first | omega | (simp <;> omega)) _ | refine Below.setCell ?_ (by first | omega | (simp <;> omega)) _ | refine Below.trans ?_ (Below.mono (by assumption) (by first | omega | (simp <;> omega)))))
        have P2 := Lib.hid (PK.out.call hbb)
        have B2 := Lib.hid (Below.trans BK.out (hbb.mono (Nat.le_of_lt (World.block_lt_of_cell? _ _ a0))))
        obtain ⟨d0, d1, d2, _, _, _⟩ := P2.out
        go_wp2_with fail
        have c0 : (wr.alloc (.cells #[.string ⟨#[73]⟩, .string ⟨#[88]⟩, .string ⟨#[90]⟩, .string ⟨#[89]⟩] 9)).cell? ⟨wr.heap.size, 0, none⟩ = some (.string ⟨#[73]⟩) := (by repeat (first | (refine Eq.trans (World.cell?_alloc_at _ _ _ _ ?hh) ?_; (case hh => (simp; done)); rfl) | refine cell_alloc_keep _ ?_))
        have c1 : (wr.alloc (.cells #[.string ⟨#[73]⟩, .string ⟨#[88]⟩, .string ⟨#[90]⟩, .string ⟨#[89]⟩] 9)).cell? ⟨wr.heap.size, 1, none⟩ = some (.string ⟨#[88]⟩) := (by repeat (first | (refine Eq.trans (World.cell?_alloc_at _ _ _ _ ?hh) ?_; (case hh => (simp; done)); rfl) | refine cell_alloc_keep _ ?_))
        have c2 : (wr.alloc (.cells #[.string ⟨#[73]⟩, .string ⟨#[88]⟩, .string ⟨#[90]⟩, .string ⟨#[89]⟩] 9)).cell? ⟨wr.heap.size, 2, none⟩ = some (.string ⟨#[90]⟩) := (by repeat (first | (refine Eq.trans (World.cell?_alloc_at _ _ _ _ ?hh) ?_; (case hh => (simp; done)); rfl) | refine cell_alloc_keep _ ?_))
        have c3 : (wr.alloc (.cells #[.string ⟨#[73]⟩, .string ⟨#[88]⟩, .string ⟨#[90]⟩, .string ⟨#[89]⟩] 9)).cell? ⟨wr.heap.size, 3, none⟩ = some (.string ⟨#[89]⟩) := (by repeat (first | (refine Eq.trans (World.cell?_alloc_at _ _ _ _ ?hh) ?_; (case hh => (simp; done)); rfl) | refine cell_alloc_keep _ ?_))
        clear hbb
        generalize (wr.alloc (.cells #[.string ⟨#[73]⟩, .string ⟨#[88]⟩, .string ⟨#[90]⟩, .string ⟨#[89]⟩] 9)) = w2 at *
        refine (CL.out k _ (by omega)).mono ?_; rintro e w3 ⟨rfl, hb3⟩
        have P3 := Lib.hid (P2.out.call hb3)
        have B3 := Lib.hid (Below.trans B2.out (hb3.mono (Nat.le_of_lt (World.block_lt_of_cell? _ _ P2.out.c0))))
        replace c0 := below_cell hb3 rfl c0
        replace c1 := below_cell hb3 rfl c1
        replace c2 := below_cell hb3 rfl c2
        replace c3 := below_cell hb3 rfl c3
        have hcat := run_string_add_sum (P := Try.prog) (w := w3) (T k) (letS (ltr a k)) (by have := SZ.out k; rw [letS_size]; omega)
        rw [← TS.out k] at hcat
        have h3 := ltr_3 a k
        clear hb3 a0 a1 a2 d0 d1 d2 P2 B2 PK BK
        have hl : ltr a k = 0 ∨ ltr a k = 1 ∨ ltr a k = 2 ∨ ltr a k = 3 := by omega
        clear h3
        generalize ltr a k = l at *
        rcases hl with rfl | rfl | rfl | rfl
        · (rw [show letS 0 = ⟨#[73]⟩ from rfl] at hcat; go_wp2_with fail; go_roundw; (case rel => exact ⟨k + 1, by omega, rfl, by go_num, P3.out, B3.out⟩); (case measure => simp [intOf]; omega))
        · (rw [show letS 1 = ⟨#[88]⟩ from rfl] at hcat; go_wp2_with fail; go_roundw; (case rel => exact ⟨k + 1, by omega, rfl, by go_num, P3.out, B3.out⟩); (case measure => simp [intOf]; omega))
        · (rw [show letS 2 = ⟨#[90]⟩ from rfl] at hcat; go_wp2_with fail; go_roundw; (case rel => exact ⟨k + 1, by omega, rfl, by go_num, P3.out, B3.out⟩); (case measure => simp [intOf]; omega))
        · (rw [show letS 3 = ⟨#[89]⟩ from rfl] at hcat; go_wp2_with fail; go_roundw; (case rel => exact ⟨k + 1, by omega, rfl, by go_num, P3.out, B3.out⟩); (case measure => simp [intOf]; omega))
      · have e : k = n := by omega
        subst e
        go_wp2_with fail
        go_ret
        exact ⟨rfl, BK.out⟩
  · have TZ := Lib.hid ((T0.trans (congrArg sgnS h)).trans (show sgnS 2 = ⟨#[45]⟩ from rfl))
    have ep : (a.p : Int) = 2 := by omega
    have CL := Lib.hid (show ∀ (k : Nat) (W : World), k ≤ 60 → Calls Try.prog 41 #[.agg #[.int .i64 2, .int .i64 (a.x : Int), .int .i64 (a.z : Int)], .int .i64 (k : Int)] W fun e w' => e = .returned (.int .i64 (ltr a k : Int)) ∧ Below W.heap.size W w' from fun k W hk => by
      have h9 := spec_l7Letter_any a k W OA.out hk
      rw [ep] at h9
      exact h9)
    have A0 := Lib.hid (show PB ((w.alloc (.cells #[.int .i64 2, .int .i64 (a.x : Int), .int .i64 (a.z : Int)] 24)).alloc (.cells #[.string ⟨#[43]⟩, .string ⟨#[43, 105]⟩, .string ⟨#[45]⟩, .string ⟨#[45, 105]⟩] 9)) w.heap.size 2 (a.x : Int) (a.z : Int) from ⟨(by repeat (first | (refine Eq.trans (World.cell?_alloc_at _ _ _ _ ?hh) ?_; (case hh => (simp; done)); rfl) | refine cell_alloc_keep _ ?_)), (by repeat (first | (refine Eq.trans (World.cell?_alloc_at _ _ _ _ ?hh) ?_; (case hh => (simp; done)); rfl) | refine cell_alloc_keep _ ?_)), (by repeat (first | (refine Eq.trans (World.cell?_alloc_at _ _ _ _ ?hh) ?_; (case hh => (simp; done)); rfl) | refine cell_alloc_keep _ ?_)), (by repeat (first | (refine World.frozen?_alloc_at _ _ _ _ ?hh; case hh => (simp; done)) | (refine frozen_alloc_lt _ ?hh ?_; case hh => first | omega | (simp <;> omega)))), (by repeat (first | (refine World.frozen?_alloc_at _ _ _ _ ?hh; case hh => (simp; done)) | (refine frozen_alloc_lt _ ?hh ?_; case hh => first | omega | (simp <;> omega)))), (by repeat (first | (refine World.frozen?_alloc_at _ _ _ _ ?hh; case hh => (simp; done)) | (refine frozen_alloc_lt _ ?hh ?_; case hh => first | omega | (simp <;> omega))))⟩)
    have B0 := Lib.hid (show Below w.heap.size w ((w.alloc (.cells #[.int .i64 2, .int .i64 (a.x : Int), .int .i64 (a.z : Int)] 24)).alloc (.cells #[.string ⟨#[43]⟩, .string ⟨#[43, 105]⟩, .string ⟨#[45]⟩, .string ⟨#[45, 105]⟩] 9)) from (by repeat (first | exact Below.refl _ _ | assumption | refine Below.drew ?_ | refine below_drewN ?_ _ | refine Below.alloc ?_ (by first | omega | (simp <;> omega)) _ | refine Below.setCell ?_ (by first | omega | (simp <;> omega)) _ | refine Below.trans ?_ (Below.mono (by assumption) (by first | omega | (simp <;> omega))))))
    clear T0 h
    go_enter Try.func22, Try.ntmps22
    go_wp2_with fail
    clear ep
    go_loopw [5, 6] (fun o i wr => ∃ k : Nat, k ≤ n ∧ o = .string (T k) ∧ i = .int .i64 k ∧ PB wr w.heap.size 2 (a.x : Int) (a.z : Int) ∧ Below w.heap.size w wr) (fun _ i _ => n - (intOf i).toNat)
    case atStart => exact ⟨0, Nat.zero_le _, by rw [TZ.out], rfl, A0.out, B0.out⟩
    case round =>
      obtain ⟨k, hk, rfl, rfl, hpb, hbel⟩ := hrel
      have PK := Lib.hid hpb
      have BK := Lib.hid hbel
      obtain ⟨a0, a1, a2, _, _, _⟩ := hpb
      clear hbel
      by_cases hlt : k < n
      · have i1 : (k : Int) < (n : Int) := by omega
        have hbb : Below wr.heap.size wr (wr.alloc (.cells #[.string ⟨#[73]⟩, .string ⟨#[88]⟩, .string ⟨#[90]⟩, .string ⟨#[89]⟩] 9)) := (by repeat (first | exact Below.refl _ _ | assumption | refine Below.drew ?_ | refine below_drewN ?_ _ | refine Below.alloc ?_ (by first | omega | (simp <;> omega)) _ | refine Below.setCell ?_ (by first | omega | (simp <;> omega)) _ | refine Below.trans ?_ (Below.mono (by assumption) (by first | omega | (simp <;> omega)))))
        have P2 := Lib.hid (PK.out.call hbb)
        have B2 := Lib.hid (Below.trans BK.out (hbb.mono (Nat.le_of_lt (World.block_lt_of_cell? _ _ a0))))
        obtain ⟨d0, d1, d2, _, _, _⟩ := P2.out
        go_wp2_with fail
        have c0 : (wr.alloc (.cells #[.string ⟨#[73]⟩, .string ⟨#[88]⟩, .string ⟨#[90]⟩, .string ⟨#[89]⟩] 9)).cell? ⟨wr.heap.size, 0, none⟩ = some (.string ⟨#[73]⟩) := (by repeat (first | (refine Eq.trans (World.cell?_alloc_at _ _ _ _ ?hh) ?_; (case hh => (simp; done)); rfl) | refine cell_alloc_keep _ ?_))
        have c1 : (wr.alloc (.cells #[.string ⟨#[73]⟩, .string ⟨#[88]⟩, .string ⟨#[90]⟩, .string ⟨#[89]⟩] 9)).cell? ⟨wr.heap.size, 1, none⟩ = some (.string ⟨#[88]⟩) := (by repeat (first | (refine Eq.trans (World.cell?_alloc_at _ _ _ _ ?hh) ?_; (case hh => (simp; done)); rfl) | refine cell_alloc_keep _ ?_))
        have c2 : (wr.alloc (.cells #[.string ⟨#[73]⟩, .string ⟨#[88]⟩, .string ⟨#[90]⟩, .string ⟨#[89]⟩] 9)).cell? ⟨wr.heap.size, 2, none⟩ = some (.string ⟨#[90]⟩) := (by repeat (first | (refine Eq.trans (World.cell?_alloc_at _ _ _ _ ?hh) ?_; (case hh => (simp; done)); rfl) | refine cell_alloc_keep _ ?_))
        have c3 : (wr.alloc (.cells #[.string ⟨#[73]⟩, .string ⟨#[88]⟩, .string ⟨#[90]⟩, .string ⟨#[89]⟩] 9)).cell? ⟨wr.heap.size, 3, none⟩ = some (.string ⟨#[89]⟩) := (by repeat (first | (refine Eq.trans (World.cell?_alloc_at _ _ _ _ ?hh) ?_; (case hh => (simp; done)); rfl) | refine cell_alloc_keep _ ?_))
        clear hbb
        generalize (wr.alloc (.cells #[.string ⟨#[73]⟩, .string ⟨#[88]⟩, .string ⟨#[90]⟩, .string ⟨#[89]⟩] 9)) = w2 at *
        refine (CL.out k _ (by omega)).mono ?_; rintro e w3 ⟨rfl, hb3⟩
        have P3 := Lib.hid (P2.out.call hb3)
        have B3 := Lib.hid (Below.trans B2.out (hb3.mono (Nat.le_of_lt (World.block_lt_of_cell? _ _ P2.out.c0))))
        replace c0 := below_cell hb3 rfl c0
        replace c1 := below_cell hb3 rfl c1
        replace c2 := below_cell hb3 rfl c2
        replace c3 := below_cell hb3 rfl c3
        have hcat := run_string_add_sum (P := Try.prog) (w := w3) (T k) (letS (ltr a k)) (by have := SZ.out k; rw [letS_size]; omega)
        rw [← TS.out k] at hcat
        have h3 := ltr_3 a k
        clear hb3 a0 a1 a2 d0 d1 d2 P2 B2 PK BK
        have hl : ltr a k = 0 ∨ ltr a k = 1 ∨ ltr a k = 2 ∨ ltr a k = 3 := by omega
        clear h3
        generalize ltr a k = l at *
        rcases hl with rfl | rfl | rfl | rfl
        · (rw [show letS 0 = ⟨#[73]⟩ from rfl] at hcat; go_wp2_with fail; go_roundw; (case rel => exact ⟨k + 1, by omega, rfl, by go_num, P3.out, B3.out⟩); (case measure => simp [intOf]; omega))
        · (rw [show letS 1 = ⟨#[88]⟩ from rfl] at hcat; go_wp2_with fail; go_roundw; (case rel => exact ⟨k + 1, by omega, rfl, by go_num, P3.out, B3.out⟩); (case measure => simp [intOf]; omega))
        · (rw [show letS 2 = ⟨#[90]⟩ from rfl] at hcat; go_wp2_with fail; go_roundw; (case rel => exact ⟨k + 1, by omega, rfl, by go_num, P3.out, B3.out⟩); (case measure => simp [intOf]; omega))
        · (rw [show letS 3 = ⟨#[89]⟩ from rfl] at hcat; go_wp2_with fail; go_roundw; (case rel => exact ⟨k + 1, by omega, rfl, by go_num, P3.out, B3.out⟩); (case measure => simp [intOf]; omega))
      · have e : k = n := by omega
        subst e
        go_wp2_with fail
        go_ret
        exact ⟨rfl, BK.out⟩
  · have TZ := Lib.hid ((T0.trans (congrArg sgnS h)).trans (show sgnS 3 = ⟨#[45, 105]⟩ from rfl))
    have ep : (a.p : Int) = 3 := by omega
    have CL := Lib.hid (show ∀ (k : Nat) (W : World), k ≤ 60 → Calls Try.prog 41 #[.agg #[.int .i64 3, .int .i64 (a.x : Int), .int .i64 (a.z : Int)], .int .i64 (k : Int)] W fun e w' => e = .returned (.int .i64 (ltr a k : Int)) ∧ Below W.heap.size W w' from fun k W hk => by
      have h9 := spec_l7Letter_any a k W OA.out hk
      rw [ep] at h9
      exact h9)
    have A0 := Lib.hid (show PB ((w.alloc (.cells #[.int .i64 3, .int .i64 (a.x : Int), .int .i64 (a.z : Int)] 24)).alloc (.cells #[.string ⟨#[43]⟩, .string ⟨#[43, 105]⟩, .string ⟨#[45]⟩, .string ⟨#[45, 105]⟩] 9)) w.heap.size 3 (a.x : Int) (a.z : Int) from ⟨(by repeat (first | (refine Eq.trans (World.cell?_alloc_at _ _ _ _ ?hh) ?_; (case hh => (simp; done)); rfl) | refine cell_alloc_keep _ ?_)), (by repeat (first | (refine Eq.trans (World.cell?_alloc_at _ _ _ _ ?hh) ?_; (case hh => (simp; done)); rfl) | refine cell_alloc_keep _ ?_)), (by repeat (first | (refine Eq.trans (World.cell?_alloc_at _ _ _ _ ?hh) ?_; (case hh => (simp; done)); rfl) | refine cell_alloc_keep _ ?_)), (by repeat (first | (refine World.frozen?_alloc_at _ _ _ _ ?hh; case hh => (simp; done)) | (refine frozen_alloc_lt _ ?hh ?_; case hh => first | omega | (simp <;> omega)))), (by repeat (first | (refine World.frozen?_alloc_at _ _ _ _ ?hh; case hh => (simp; done)) | (refine frozen_alloc_lt _ ?hh ?_; case hh => first | omega | (simp <;> omega)))), (by repeat (first | (refine World.frozen?_alloc_at _ _ _ _ ?hh; case hh => (simp; done)) | (refine frozen_alloc_lt _ ?hh ?_; case hh => first | omega | (simp <;> omega))))⟩)
    have B0 := Lib.hid (show Below w.heap.size w ((w.alloc (.cells #[.int .i64 3, .int .i64 (a.x : Int), .int .i64 (a.z : Int)] 24)).alloc (.cells #[.string ⟨#[43]⟩, .string ⟨#[43, 105]⟩, .string ⟨#[45]⟩, .string ⟨#[45, 105]⟩] 9)) from (by repeat (first | exact Below.refl _ _ | assumption | refine Below.drew ?_ | refine below_drewN ?_ _ | refine Below.alloc ?_ (by first | omega | (simp <;> omega)) _ | refine Below.setCell ?_ (by first | omega | (simp <;> omega)) _ | refine Below.trans ?_ (Below.mono (by assumption) (by first | omega | (simp <;> omega))))))
    clear T0 h
    go_enter Try.func22, Try.ntmps22
    go_wp2_with fail
    clear ep
    go_loopw [5, 6] (fun o i wr => ∃ k : Nat, k ≤ n ∧ o = .string (T k) ∧ i = .int .i64 k ∧ PB wr w.heap.size 3 (a.x : Int) (a.z : Int) ∧ Below w.heap.size w wr) (fun _ i _ => n - (intOf i).toNat)
    case atStart => exact ⟨0, Nat.zero_le _, by rw [TZ.out], rfl, A0.out, B0.out⟩
    case round =>
      obtain ⟨k, hk, rfl, rfl, hpb, hbel⟩ := hrel
      have PK := Lib.hid hpb
      have BK := Lib.hid hbel
      obtain ⟨a0, a1, a2, _, _, _⟩ := hpb
      clear hbel
      by_cases hlt : k < n
      · have i1 : (k : Int) < (n : Int) := by omega
        have hbb : Below wr.heap.size wr (wr.alloc (.cells #[.string ⟨#[73]⟩, .string ⟨#[88]⟩, .string ⟨#[90]⟩, .string ⟨#[89]⟩] 9)) := (by repeat (first | exact Below.refl _ _ | assumption | refine Below.drew ?_ | refine below_drewN ?_ _ | refine Below.alloc ?_ (by first | omega | (simp <;> omega)) _ | refine Below.setCell ?_ (by first | omega | (simp <;> omega)) _ | refine Below.trans ?_ (Below.mono (by assumption) (by first | omega | (simp <;> omega)))))
        have P2 := Lib.hid (PK.out.call hbb)
        have B2 := Lib.hid (Below.trans BK.out (hbb.mono (Nat.le_of_lt (World.block_lt_of_cell? _ _ a0))))
        obtain ⟨d0, d1, d2, _, _, _⟩ := P2.out
        go_wp2_with fail
        have c0 : (wr.alloc (.cells #[.string ⟨#[73]⟩, .string ⟨#[88]⟩, .string ⟨#[90]⟩, .string ⟨#[89]⟩] 9)).cell? ⟨wr.heap.size, 0, none⟩ = some (.string ⟨#[73]⟩) := (by repeat (first | (refine Eq.trans (World.cell?_alloc_at _ _ _ _ ?hh) ?_; (case hh => (simp; done)); rfl) | refine cell_alloc_keep _ ?_))
        have c1 : (wr.alloc (.cells #[.string ⟨#[73]⟩, .string ⟨#[88]⟩, .string ⟨#[90]⟩, .string ⟨#[89]⟩] 9)).cell? ⟨wr.heap.size, 1, none⟩ = some (.string ⟨#[88]⟩) := (by repeat (first | (refine Eq.trans (World.cell?_alloc_at _ _ _ _ ?hh) ?_; (case hh => (simp; done)); rfl) | refine cell_alloc_keep _ ?_))
        have c2 : (wr.alloc (.cells #[.string ⟨#[73]⟩, .string ⟨#[88]⟩, .string ⟨#[90]⟩, .string ⟨#[89]⟩] 9)).cell? ⟨wr.heap.size, 2, none⟩ = some (.string ⟨#[90]⟩) := (by repeat (first | (refine Eq.trans (World.cell?_alloc_at _ _ _ _ ?hh) ?_; (case hh => (simp; done)); rfl) | refine cell_alloc_keep _ ?_))
        have c3 : (wr.alloc (.cells #[.string ⟨#[73]⟩, .string ⟨#[88]⟩, .string ⟨#[90]⟩, .string ⟨#[89]⟩] 9)).cell? ⟨wr.heap.size, 3, none⟩ = some (.string ⟨#[89]⟩) := (by repeat (first | (refine Eq.trans (World.cell?_alloc_at _ _ _ _ ?hh) ?_; (case hh => (simp; done)); rfl) | refine cell_alloc_keep _ ?_))
        clear hbb
        generalize (wr.alloc (.cells #[.string ⟨#[73]⟩, .string ⟨#[88]⟩, .string ⟨#[90]⟩, .string ⟨#[89]⟩] 9)) = w2 at *
        refine (CL.out k _ (by omega)).mono ?_; rintro e w3 ⟨rfl, hb3⟩
        have P3 := Lib.hid (P2.out.call hb3)
        have B3 := Lib.hid (Below.trans B2.out (hb3.mono (Nat.le_of_lt (World.block_lt_of_cell? _ _ P2.out.c0))))
        replace c0 := below_cell hb3 rfl c0
        replace c1 := below_cell hb3 rfl c1
        replace c2 := below_cell hb3 rfl c2
        replace c3 := below_cell hb3 rfl c3
        have hcat := run_string_add_sum (P := Try.prog) (w := w3) (T k) (letS (ltr a k)) (by have := SZ.out k; rw [letS_size]; omega)
        rw [← TS.out k] at hcat
        have h3 := ltr_3 a k
        clear hb3 a0 a1 a2 d0 d1 d2 P2 B2 PK BK
        have hl : ltr a k = 0 ∨ ltr a k = 1 ∨ ltr a k = 2 ∨ ltr a k = 3 := by omega
        clear h3
        generalize ltr a k = l at *
        rcases hl with rfl | rfl | rfl | rfl
        · (rw [show letS 0 = ⟨#[73]⟩ from rfl] at hcat; go_wp2_with fail; go_roundw; (case rel => exact ⟨k + 1, by omega, rfl, by go_num, P3.out, B3.out⟩); (case measure => simp [intOf]; omega))
        · (rw [show letS 1 = ⟨#[88]⟩ from rfl] at hcat; go_wp2_with fail; go_roundw; (case rel => exact ⟨k + 1, by omega, rfl, by go_num, P3.out, B3.out⟩); (case measure => simp [intOf]; omega))
        · (rw [show letS 2 = ⟨#[90]⟩ from rfl] at hcat; go_wp2_with fail; go_roundw; (case rel => exact ⟨k + 1, by omega, rfl, by go_num, P3.out, B3.out⟩); (case measure => simp [intOf]; omega))
        · (rw [show letS 3 = ⟨#[89]⟩ from rfl] at hcat; go_wp2_with fail; go_roundw; (case rel => exact ⟨k + 1, by omega, rfl, by go_num, P3.out, B3.out⟩); (case measure => simp [intOf]; omega))
      · have e : k = n := by omega
        subst e
        go_wp2_with fail
        go_ret
        exact ⟨rfl, BK.out⟩
end Go.Proofs.Yteimcfbliigjmaa
namespace Go.Proofs.Yteimcfbliigjmaa
set_option linter.unusedSimpArgs false
set_option linter.unusedVariables false
set_option linter.unnecessarySimpa false
set_option maxRecDepth 200000
open Go.ChangeShapes Go.WideShapes Go.ChangeAt Go.RowKit

set_option maxHeartbeats 4000000 in
theorem spec_FormatPauli_any (n : Int) (a : E3) (w : World) :
    Calls Try.prog 9 #[.int .i64 n, .agg (EC a)] w fun e w' => e = .returned (.tuple #[.string (fmtP n a), .bool (pauB n a)]) ∧ Below w.heap.size w w' := by
  have B0 := Lib.hid (show Below w.heap.size w (w.alloc (.cells (EC a) 24)) from (by repeat (first | exact Below.refl _ _ | assumption | refine Below.drew ?_ | refine below_drewN ?_ _ | refine Below.alloc ?_ (by first | omega | (simp <;> omega)) _ | refine Below.setCell ?_ (by first | omega | (simp <;> omega)) _ | refine Below.trans ?_ (Below.mono (by assumption) (by first | omega | (simp <;> omega))))))
  have A0 := Lib.hid (PB.new w a.a a.b a.c)
  have hs : w.heap.size < (w.alloc (.cells (EC a) 24)).heap.size := by simp
  cases hA : pauB n a with
  | true =>
    have h5 := (of_decide_eq_true hA).1
    obtain ⟨m, rfl⟩ : ∃ m : Nat, n = (m : Int) := ⟨n.toNat, by omega⟩
    obtain ⟨ea, oa⟩ := pauB_nat hA
    have e1 : fmtP (m : Int) a = txtP (tn a) m := by unfold fmtP; rw [hA]; rfl
    rw [e1]
    have HA := Lib.hid hA
    have CL := Lib.hid (show ∀ W : World, Calls Try.prog 22 #[.int .i64 (m : Int), .agg #[.int .i64 a.a, .int .i64 a.b, .int .i64 a.c]] W fun e w' => e = .returned (.string (txtP (tn a) m)) ∧ Below W.heap.size W w' from fun W => by
      have h9 := spec_l7Text_any m (tn a) W (by omega) oa
      have e2 : .agg #[.int .i64 ((tn a).p : Int), .int .i64 ((tn a).x : Int), .int .i64 ((tn a).z : Int)] = Value.agg (EC a) := by
        have e3 : EC a = EC (tn a).e := by rw [← ea]
        rw [e3]; rfl
      rw [e2] at h9
      exact h9)
    generalize txtP (tn a) m = X at *
    clear hA e1 ea oa
    go_enter Try.func9, Try.ntmps9
    go_wp2_with fail
    generalize (w.alloc (.cells #[.int .i64 a.a, .int .i64 a.b, .int .i64 a.c] 24)) = w1 at *
    refine (spec_l7Valid_any m a _).mono ?_; rintro e w2 ⟨rfl, hb2⟩
    rw [HA.out]
    have B2 := Lib.hid (Below.trans B0.out (hb2.mono (Nat.le_of_lt hs)))
    have A2 := Lib.hid (A0.out.call hb2)
    obtain ⟨a0, a1, a2, _, _, _⟩ := A2.out
    clear hb2 B0 A0
    go_wp2_with fail
    refine (CL.out _).mono ?_; rintro e w3 ⟨rfl, hb3⟩
    have B3 := Lib.hid (Below.trans B2.out (hb3.mono (Nat.le_of_lt (World.block_lt_of_cell? _ _ A2.out.c0))))
    clear hb3 B2 CL
    go_wp2_with fail
    go_ret2
    exact ⟨rfl, B3.out⟩
  | false =>
    have e1 : fmtP n a = ⟨#[]⟩ := by unfold fmtP; rw [hA]; rfl
    rw [e1]
    have HA := Lib.hid hA
    clear hA e1 A0
    go_enter Try.func9, Try.ntmps9
    go_wp2_with fail
    generalize (w.alloc (.cells #[.int .i64 a.a, .int .i64 a.b, .int .i64 a.c] 24)) = w1 at *
    refine (spec_l7Valid_any n a _).mono ?_; rintro e w2 ⟨rfl, hb2⟩
    rw [HA.out]
    have B2 := Lib.hid (Below.trans B0.out (hb2.mono (Nat.le_of_lt hs)))
    clear hb2 B0
    go_wp2_with fail
    go_ret2
    exact ⟨rfl, B2.out⟩
end Go.Proofs.Yteimcfbliigjmaa
