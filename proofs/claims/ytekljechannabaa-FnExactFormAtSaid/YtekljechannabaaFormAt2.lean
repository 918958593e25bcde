/- The normal form at an index, in the reference. -/
import Derived.Test.YtekljechannabaaFormAt
import Derived.Lib.ConvBytes
namespace Go.Proofs.Ytekljechannabaa
set_option linter.unusedSimpArgs false
set_option linter.unusedVariables false
open Go.ChangeShapes Go.WideShapes Go.ChangeAt Go.RowKit
attribute [local go_sem ↓] Go.wp_at_zero Go.wp_at_succ

theorem conv_one (w : World) (c : UInt8) (n : Int) (hn : n = (c.toNat : Int)) : (convert 74 9 (.slice (some ⟨w.heap.size, 0, none⟩) 1 1)).run Try.prog (w.alloc (.cells #[.int .u8 n] 5)).drew = .ok (.string ⟨#[c]⟩) (w.alloc (.cells #[.int .u8 n] 5)).drew := by
  subst hn
  exact run_convert_bytes_back _ 74 9 5 ⟨w.heap.size, 0, none⟩ 1 [c] Try.underlying74 Try.underlying5 Try.underlying9 (fun j hj => by
    have : j = 0 := by simp at hj; omega
    subst this
    exact news_cells w [.int .u8 (c.toNat : Int)] 5 0 _ rfl)
set_option maxHeartbeats 1000000 in
theorem spec_l10At_any (n k : Nat) (w : World) (hn : n ≤ 20) (hk : k < 37748736) (hk3 : k / 24 / 2 ^ (n - 1) < 3) :
    Calls Try.prog 45 #[.int .i64 n, .int .i64 k] w fun e w' => ∃ s : ByteArray, e = .returned (.agg #[.string s, .int .i64 ((k : Int) % 24), .int .i64 0]) ∧ s.data.toList = syF n k ∧ Below w.heap.size w w' := by
  go_enter Try.func45, Try.ntmps45
  go_wp2_with fail
  go_loopw [6, 7] (fun q i wr => ∃ (j Q : Nat) (v : Value), q = .int .i64 Q ∧ Hid (Q = k / 24 / 2 ^ j) ∧ i = .int .i64 ((n : Int) - j) ∧ (j = 0 ∨ j < n) ∧ SyIs v (sy j (k / 24)) ∧ wr.cell? ⟨w.heap.size + 1, 0, none⟩ = some v ∧ wr.cell? ⟨w.heap.size + 1, 1, none⟩ = some (.int .i64 ((k : Int) % 24)) ∧ wr.cell? ⟨w.heap.size + 1, 2, none⟩ = some (.int .i64 0) ∧ wr.frozen? ⟨w.heap.size + 1, 0, none⟩ = false ∧ Below (w.heap.size + 1) (w.alloc (.cells #[.string ⟨#[]⟩, .int .i64 0, .int .i64 0] 29)) wr ∧ w.heap.size + 2 ≤ wr.heap.size) (fun _ i _ => (intOf i).toNat)
  case atStart => exact ⟨0, k / 24, _, rfl, by show _ = _; simp, ret_num (by omega), .inl rfl, ⟨_, rfl, rfl⟩, (by repeat (first | (refine Eq.trans (World.cell?_alloc_at _ _ _ _ ?hh) ?_; (case hh => (simp; done)); rfl) | refine cell_alloc_keep _ ?_)), (by repeat (first | (refine Eq.trans (World.cell?_alloc_at _ _ _ _ ?hh) ?_; (case hh => (simp; done)); rfl) | refine cell_alloc_keep _ ?_)), (by repeat (first | (refine Eq.trans (World.cell?_alloc_at _ _ _ _ ?hh) ?_; (case hh => (simp; done)); rfl) | refine cell_alloc_keep _ ?_)), (by repeat (first | (refine World.frozen?_alloc_at _ _ _ _ ?hh; case hh => (simp; done)) | (refine frozen_alloc_lt _ ?hh ?_; case hh => first | omega | (simp <;> omega)))), (by repeat (first | exact Below.refl _ _ | assumption | refine Below.drew ?_ | refine below_drewN ?_ _ | refine Below.alloc ?_ (by first | omega | (simp <;> omega)) _ | refine Below.setCell ?_ (by first | omega | (simp <;> omega)) _ | refine Below.trans ?_ (Below.mono (by assumption) (by first | omega | (simp <;> omega))))), by simp⟩
  case round =>
    obtain ⟨j, Q, v, rfl, hQ, rfl, hj, ⟨s, rfl, hs⟩, hc0, hc1, hc2, hf0, hbel, hsz⟩ := hrel
    have hsl : s.size ≤ 20 := by
      have h := congrArg List.length hs
      rw [sy_len] at h
      have : s.size = s.data.toList.length := by simp
      omega
    have hQb : Q ≤ k := by rw [hQ.out]; exact Nat.le_trans (Nat.div_le_self _ _) (Nat.div_le_self _ _)
    have Hs := Lib.hid hs; clear hs
    have hlw : w.heap.size + 1 < wr.heap.size := by omega
    have hl0 : w.heap.size < wr.heap.size := by omega
    by_cases hlt : j + 1 < n
    · rcases Nat.mod_two_eq_zero_or_one Q with hm | hm
      · have hm' : (Q : Int).tmod 2 = 0 := by rw [Int.tmod_eq_emod_of_nonneg (by omega)]; omega
        have hm2 : (Q : Int) % 2 = 0 := by omega
        have Hm := Lib.hid hm; clear hm
        have hby : (⟨#[72, 83]⟩ : ByteArray)[0].toNat = 72 := rfl
        have kc := conv_one wr 72 72 rfl
        go_wp2_with fail
        go_region
        go_wp2_with fail
        go_roundw
        case rel =>
          refine ⟨j + 1, Q / 2, _, ret_num (by omega), ?_, ret_num (by omega), .inr hlt, ⟨_, rfl, ?_⟩, cell_alloc_keep _ (World.cell?_setCell_same _ _ _ hc0), ?_, ?_, ?_, (by repeat (first | exact Below.refl _ _ | assumption | refine Below.drew ?_ | refine below_drewN ?_ _ | refine Below.alloc ?_ (by first | omega | (simp <;> omega)) _ | refine Below.setCell ?_ (by first | omega | (simp <;> omega)) _ | refine Below.trans ?_ (Below.mono (by assumption) (by first | omega | (simp <;> omega))))), ?_⟩
          · show _ = _
            rw [hQ.out, half_step]
          · rw [ByteArray.data_append, Array.toList_append, Hs.out]
            simp only [sy]
            rw [← hQ.out, Hm.out]
            rfl
          · refine cell_alloc_keep _ ?_; rw [World.cell?_setCell_other _ _ _ _ (by simp)]; exact hc1
          · refine cell_alloc_keep _ ?_; rw [World.cell?_setCell_other _ _ _ _ (by simp)]; exact hc2
          · refine frozen_alloc_keep _ (World.cell?_setCell_same _ _ _ hc0) ?_; rw [World.frozen?_setCell]; exact hf0
          · simp; omega
        case measure => simp [intOf]; omega
      · have hm' : (Q : Int).tmod 2 = 1 := by rw [Int.tmod_eq_emod_of_nonneg (by omega)]; omega
        have hm2 : (Q : Int) % 2 = 1 := by omega
        have Hm := Lib.hid hm; clear hm
        have hby : (⟨#[72, 83]⟩ : ByteArray)[1].toNat = 83 := rfl
        have kc := conv_one wr 83 83 rfl
        go_wp2_with fail
        go_region
        go_wp2_with fail
        go_roundw
        case rel =>
          refine ⟨j + 1, Q / 2, _, ret_num (by omega), ?_, ret_num (by omega), .inr hlt, ⟨_, rfl, ?_⟩, cell_alloc_keep _ (World.cell?_setCell_same _ _ _ hc0), ?_, ?_, ?_, (by repeat (first | exact Below.refl _ _ | assumption | refine Below.drew ?_ | refine below_drewN ?_ _ | refine Below.alloc ?_ (by first | omega | (simp <;> omega)) _ | refine Below.setCell ?_ (by first | omega | (simp <;> omega)) _ | refine Below.trans ?_ (Below.mono (by assumption) (by first | omega | (simp <;> omega))))), ?_⟩
          · show _ = _
            rw [hQ.out, half_step]
          · rw [ByteArray.data_append, Array.toList_append, Hs.out]
            simp only [sy]
            rw [← hQ.out, Hm.out]
            rfl
          · refine cell_alloc_keep _ ?_; rw [World.cell?_setCell_other _ _ _ _ (by simp)]; exact hc1
          · refine cell_alloc_keep _ ?_; rw [World.cell?_setCell_other _ _ _ _ (by simp)]; exact hc2
          · refine frozen_alloc_keep _ (World.cell?_setCell_same _ _ _ hc0) ?_; rw [World.frozen?_setCell]; exact hf0
          · simp; omega
        case measure => simp [intOf]; omega
    · have hk3 := Lib.hid hk3
      have hr0 : wr.cell? ⟨w.heap.size, 0, none⟩ = some (.string ⟨#[]⟩) := by rw [hbel.cell (p := ⟨w.heap.size, 0, none⟩) (by simp)]; simp
      have hr1 : wr.cell? ⟨w.heap.size, 1, none⟩ = some (.int .i64 0) := by rw [hbel.cell (p := ⟨w.heap.size, 1, none⟩) (by simp)]; simp
      have hr2 : wr.cell? ⟨w.heap.size, 2, none⟩ = some (.int .i64 0) := by rw [hbel.cell (p := ⟨w.heap.size, 2, none⟩) (by simp)]; simp
      have hrf : ∀ o, wr.frozen? ⟨w.heap.size, o, none⟩ = false := fun o => by rw [hbel.frozen (p := ⟨w.heap.size, o, none⟩) (by simp)]; simp
      rcases Nat.eq_zero_or_pos n with hn0 | hn0
      · subst hn0
        have hj0 : j = 0 := by omega
        subst hj0
        go_wp2_with fail
        refine bodyPost_ret (v := .agg #[_, _, _]) (by simp [results, Try.results45, go_sem, hr0, hr1, hr2]) rfl ⟨s, rfl, ?_, (by repeat (first | exact Below.refl _ _ | assumption | refine Below.drew ?_ | refine below_drewN ?_ _ | refine Below.alloc ?_ (by first | omega | (simp <;> omega)) _ | refine Below.setCell ?_ (by first | omega | (simp <;> omega)) _ | refine Below.trans ?_ (Below.mono (by assumption) (by first | omega | (simp <;> omega)))))⟩
        rw [Hs.out]; rfl
      · have hj0 : j + 1 = n ∨ n = 1 := by omega
        have hj1 : n - 1 = j := by omega
        have hQ3 : Q = k / 24 / 2 ^ (n - 1) := by rw [hQ.out, hj1]
        have hQl : Q < 3 := by rw [hQ3]; exact hk3.out
        have HQ3 := Lib.hid hQ3; clear hQ3 hk3
        have Hj := Lib.hid hj1; clear hj1 hj0
        have hjj : ¬ (1 : Int) < (n : Int) - j := by have := Hj.out; omega
        have i0 : (0 : Int) < (n : Int) := by omega
        rcases (show Q = 0 ∨ Q = 1 ∨ Q = 2 by omega) with h | h | h
        · subst h
          have hby : (⟨#[84, 72, 83]⟩ : ByteArray)[0].toNat = 84 := rfl
          have kc := conv_one wr 84 84 rfl
          go_wp2_with fail
          go_region
          go_wp2_with fail
          refine bodyPost_ret (v := .agg #[.string (⟨#[84]⟩ ++ s), .int .i64 ((k : Int) % 24), .int .i64 0]) (by simp [results, Try.results45, go_sem, hr0, hr1, hr2, hl0]) rfl ⟨_, rfl, ?_, (by repeat (first | exact Below.refl _ _ | assumption | refine Below.drew ?_ | refine below_drewN ?_ _ | refine Below.alloc ?_ (by first | omega | (simp <;> omega)) _ | refine Below.setCell ?_ (by first | omega | (simp <;> omega)) _ | refine Below.trans ?_ (Below.mono (by assumption) (by first | omega | (simp <;> omega)))))⟩
          rw [ByteArray.data_append, Array.toList_append, Hs.out, syF, if_neg (by omega), ← HQ3.out, Hj.out]
          rfl
        · subst h
          have hby : (⟨#[84, 72, 83]⟩ : ByteArray)[1].toNat = 72 := rfl
          have kc := conv_one wr 72 72 rfl
          go_wp2_with fail
          go_region
          go_wp2_with fail
          refine bodyPost_ret (v := .agg #[.string (⟨#[72]⟩ ++ s), .int .i64 ((k : Int) % 24), .int .i64 0]) (by simp [results, Try.results45, go_sem, hr0, hr1, hr2, hl0]) rfl ⟨_, rfl, ?_, (by repeat (first | exact Below.refl _ _ | assumption | refine Below.drew ?_ | refine below_drewN ?_ _ | refine Below.alloc ?_ (by first | omega | (simp <;> omega)) _ | refine Below.setCell ?_ (by first | omega | (simp <;> omega)) _ | refine Below.trans ?_ (Below.mono (by assumption) (by first | omega | (simp <;> omega)))))⟩
          rw [ByteArray.data_append, Array.toList_append, Hs.out, syF, if_neg (by omega), ← HQ3.out, Hj.out]
          rfl
        · subst h
          have hby : (⟨#[84, 72, 83]⟩ : ByteArray)[2].toNat = 83 := rfl
          have kc := conv_one wr 83 83 rfl
          go_wp2_with fail
          go_region
          go_wp2_with fail
          refine bodyPost_ret (v := .agg #[.string (⟨#[83]⟩ ++ s), .int .i64 ((k : Int) % 24), .int .i64 0]) (by simp [results, Try.results45, go_sem, hr0, hr1, hr2, hl0]) rfl ⟨_, rfl, ?_, (by repeat (first | exact Below.refl _ _ | assumption | refine Below.drew ?_ | refine below_drewN ?_ _ | refine Below.alloc ?_ (by first | omega | (simp <;> omega)) _ | refine Below.setCell ?_ (by first | omega | (simp <;> omega)) _ | refine Below.trans ?_ (Below.mono (by assumption) (by first | omega | (simp <;> omega)))))⟩
          rw [ByteArray.data_append, Array.toList_append, Hs.out, syF, if_neg (by omega), ← HQ3.out, Hj.out]
          rfl
end Go.Proofs.Ytekljechannabaa
