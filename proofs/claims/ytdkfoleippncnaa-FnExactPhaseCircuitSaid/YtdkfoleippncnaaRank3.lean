/- RankOf in the program and in the reference. -/
import Derived.Test.YtdkfoleippncnaaRank
import Derived.Test.YtdkfoleippncnaaRank2
namespace Go.Proofs.Ytdkfoleippncnaa
set_option linter.unusedSimpArgs false
set_option linter.unusedVariables false
set_option linter.unnecessarySimpa false
set_option maxRecDepth 200000
open Go.ChangeShapes Go.WideShapes Go.ChangeAt Go.RowKit

set_option maxHeartbeats 1000000 in
theorem spec_l12Rank_none (v : Value) (w : World) (h : RdI w v []) :
    Calls Try.prog 143 #[v] w fun e w' => e = .returned (.int .i64 0) ∧ Below w.heap.size w w' := by
  have H := Lib.hid h
  go_enter Try.func143, Try.ntmps143
  go_wp2_with fail
  refine (spec_l1Own_any _ [] _ H.out (by simp)).mono ?_; rintro e w1 ⟨v1, rfl, ho, hb1⟩
  obtain ⟨a, cap, rfl⟩ := ho.forms
  clear ho
  go_wp2_with fail
  go_loop [4, 5] (fun r bt => ∃ k : Nat, k ≤ 10 ∧ r = .int .i64 0 ∧ bt = .int .i64 k) (fun _ i => 10 - (intOf i).toNat)
  case atStart => exact ⟨0, by omega, rfl, rfl⟩
  case round =>
    obtain ⟨k, hk, rfl, rfl⟩ := hrel
    by_cases hlt : k < 10
    · have i1 : (k : Int) < 10 := by omega
      go_wp2_with fail
      refine wp_loop_rounds 1 ?_
      rw [rounds_succ]
      go_wp2_with fail
      go_round
      case rel => exact ⟨k + 1, by omega, rfl, by go_num⟩
      case measure => simp [intOf]; omega
    · have e : k = 10 := by omega
      subst e
      go_wp2_with fail
      go_ret
      exact ⟨rfl, hb1⟩
set_option maxHeartbeats 1000000 in
theorem impl_rankOf_none (v : Value) (w : World) (h : RdI w v []) :
    Calls Try.prog 150 #[v] w fun e w' => e = .returned (.int .i64 0) ∧ Below w.heap.size w w' := by
  have H := Lib.hid h
  have eg := enters_of Try.func163 (by kernel_rfl) rfl
  have Eg := Lib.hid eg; clear eg
  go_enter Try.func150, Try.ntmps150
  go_wp2_with fail
  refine (slices_Clone_any _ [] _ H.out (by simp)).mono ?_; rintro e w1 ⟨v1, rfl, ho, hb1⟩
  obtain ⟨a, cap, rfl⟩ := ho.forms
  clear ho
  go_wp2_with fail
  go_loopw [3, 4, 12] (fun s r bt wr => ∃ k : Nat, k ≤ 10 ∧ s = .slice a 0 cap ∧ r = .int .i64 0 ∧ bt = .int .i64 k ∧ Below w.heap.size w wr) (fun _ _ i _ => 10 - (intOf i).toNat)
  case atStart => exact ⟨0, by omega, rfl, rfl, rfl, hb1⟩
  case round =>
    obtain ⟨k, hk, rfl, rfl, rfl, hbel⟩ := hrel
    clear hb1
    by_cases hlt : k < 10
    · have i1 : (k : Int) < 10 := by omega
      have hlw := hbel.size
      have hrd := Lib.hid (fun W : World => (show RdI W (.slice a 0 cap) [] from ⟨rfl, .inl ⟨⟨_, _, rfl⟩, rfl⟩⟩))
      go_wp2_with fail
      refine (slices_IndexFunc_ints _ _ (fun _ => true) Eg.out _ [] _ (hrd.out _) (fun W x hx => by cases hx)).mono ?_; rintro e w2 ⟨rfl, hb2⟩
      have bel2 : Below w.heap.size w w2 := (by repeat (first | exact Below.refl _ _ | assumption | refine Below.drew ?_ | refine below_drewN ?_ _ | refine Below.alloc ?_ (by first | omega | (simp <;> omega)) _ | refine Below.setCell ?_ (by first | omega | (simp <;> omega)) _ | refine Below.trans ?_ (Below.mono (by assumption) (by first | omega | (simp <;> omega)))))
      clear hb2
      rw [show idxI (fun _ : Int => true) [] = -1 from rfl]
      go_wp2_with fail
      go_roundw
      case rel => exact ⟨k + 1, by omega, rfl, rfl, by go_num, bel2⟩
      case measure => simp [intOf]; omega
    · have e : k = 10 := by omega
      subst e
      go_wp2_with fail
      go_ret
      exact ⟨rfl, hbel⟩
/-- The rank of rows of whole numbers. -/
noncomputable def rkI (zs : List Int) : Nat := rk (zs.map Int.toNat)
theorem spec_l12Rank_any (v : Value) (zs : List Int) (w : World) (h : RdI w v zs) (hn : zs.length ≤ 1048576) (hb : ∀ z ∈ zs, 0 ≤ z ∧ z ≤ 1023) :
    Calls Try.prog 143 #[v] w fun e w' => e = .returned (.int .i64 (rkI zs)) ∧ Below w.heap.size w w' := by
  rcases Nat.eq_zero_or_pos zs.length with h0 | h0
  · have e : zs = [] := List.eq_nil_of_length_eq_zero h0
    subst e
    exact (spec_l12Rank_none v w h).mono fun e w' hh => ⟨by rw [hh.1]; simp [rkI, rk_nil], hh.2⟩
  · have hz := nat_of_ints (fun z hz => (hb z hz).1)
    refine (spec_l12Rank_some v (zs.map Int.toNat) w (by rw [← hz]; exact h) (by simpa using h0) (by simpa using hn) ?_).mono ?_
    · intro r hr
      obtain ⟨z, hz, rfl⟩ := List.mem_map.1 hr
      have := hb z hz; omega
    · rintro e w' ⟨N, rfl, hN, hb⟩
      exact ⟨by rw [rk_eq hN]; rfl, hb⟩
theorem impl_rankOf_any (v : Value) (zs : List Int) (w : World) (h : RdI w v zs) (hn : zs.length ≤ 1048576) (hb : ∀ z ∈ zs, 0 ≤ z ∧ z ≤ 1023) :
    Calls Try.prog 150 #[v] w fun e w' => e = .returned (.int .i64 (rkI zs)) ∧ Below w.heap.size w w' := by
  rcases Nat.eq_zero_or_pos zs.length with h0 | h0
  · have e : zs = [] := List.eq_nil_of_length_eq_zero h0
    subst e
    exact (impl_rankOf_none v w h).mono fun e w' hh => ⟨by rw [hh.1]; simp [rkI, rk_nil], hh.2⟩
  · have hz := nat_of_ints (fun z hz => (hb z hz).1)
    refine (impl_rankOf_some v (zs.map Int.toNat) w (by rw [← hz]; exact h) (by simpa using h0) (by simpa using hn) ?_).mono ?_
    · intro r hr
      obtain ⟨z, hz, rfl⟩ := List.mem_map.1 hr
      have := hb z hz; omega
    · rintro e w' ⟨N, rfl, hN, hb⟩
      exact ⟨by rw [rk_eq hN]; rfl, hb⟩
/-- What RankOf answers. -/
noncomputable def rankA (zs : List Int) : Int × Bool := if zs.length ≤ 64 ∧ allIn zs 0 1023 = true then ((rkI zs : Int), true) else (0, false)
theorem allIn_iff {zs : List Int} {lo hi : Int} : allIn zs lo hi = true ↔ ∀ z ∈ zs, lo ≤ z ∧ z ≤ hi := by simp [allIn]
theorem any_not {zs : List Int} {lo hi : Int} : zs.any (fun z => !decide (lo ≤ z ∧ z ≤ hi)) = !allIn zs lo hi := by
  simp [allIn, List.any_eq_not_all_not]
end Go.Proofs.Ytdkfoleippncnaa
