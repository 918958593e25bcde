/- Lists of masks: the tests of the program and of the reference. -/
import Derived.Test.YtgonldkgghikiaaCirc1
import Derived.Test.YtgonldkgghikiaaLin2
namespace Go.Proofs.Ytgonldkgghikiaa
set_option linter.unusedSimpArgs false
set_option linter.unusedVariables false
set_option linter.unnecessarySimpa false
set_option maxRecDepth 200000
open Go.ChangeShapes Go.WideShapes Go.ChangeAt Go.RowKit

theorem int_at {w : World} {v : Value} {zs : List Int} (h : RdI w v zs) : ∃ A c, v = .slice A zs.length c ∧ Hid (∀ k, k < zs.length → ∃ b off, A = some ⟨b, off, none⟩ ∧ b < w.heap.size ∧ ∀ j, j < zs.length → w.cell? ⟨b, off + j, none⟩ = some (.int .i64 (zs.getD j 0))) := by
  rcases h.cases with ⟨⟨A, c, rfl⟩, rfl⟩ | ⟨b, off, cap, rfl, hb, hl, hm, hc⟩
  · exact ⟨A, c, rfl, show ∀ _, _ from fun k hk => by simp at hk⟩
  · exact ⟨_, cap, rfl, show ∀ _, _ from fun k hk => ⟨b, off, rfl, hb, hc⟩⟩
def riseAt (zs : List Int) (hi : Int) (k : Nat) : Bool := decide (1 ≤ zs.getD k 0 ∧ zs.getD k 0 ≤ hi) && (decide (k = 0) || decide (zs.getD (k - 1) 0 < zs.getD k 0))
def RiseOk (zs : List Int) (hi : Int) : Prop := ∀ k, k < zs.length → riseAt zs hi k = true
noncomputable instance (zs : List Int) (hi : Int) : Decidable (RiseOk zs hi) := Classical.propDecidable _
noncomputable def riseG (zs : List Int) (hi : Int) : Bool := decide (RiseOk zs hi)
theorem rise_yes {zs : List Int} {hi : Int} {k : Nat} (hk : zs.length ≤ k) (h : Hid (∀ j, j < zs.length → j < k → riseAt zs hi j = true)) : true = riseG zs hi := by
  symm; exact decide_eq_true fun j hj => h.out j hj (by omega)
theorem rise_no {zs : List Int} {hi : Int} {k : Nat} (hk : k < zs.length) (h : riseAt zs hi k = false) : false = riseG zs hi := by
  symm; exact decide_eq_false fun hh => by have := hh k hk; rw [h] at this; cases this
theorem rise_next {zs : List Int} {hi : Int} {k : Nat} (h : Hid (∀ j, j < zs.length → j < k → riseAt zs hi j = true)) (hk : riseAt zs hi k = true) : Hid (∀ j, j < zs.length → j < k + 1 → riseAt zs hi j = true) := by
  intro j hj hjk
  by_cases e : j = k
  · subst e; exact hk
  · exact h.out j hj (by omega)
theorem rise_1 {zs : List Int} {hi : Int} {k : Nat} (h : ¬ (1 ≤ zs.getD k 0 ∧ zs.getD k 0 ≤ hi)) : riseAt zs hi k = false := by unfold riseAt; rw [decide_eq_false h]; rfl
theorem rise_2 {zs : List Int} {hi : Int} {k : Nat} (h : ¬ (k = 0 ∨ zs.getD (k - 1) 0 < zs.getD k 0)) : riseAt zs hi k = false := by
  unfold riseAt
  rw [show (decide (k = 0) || decide (zs.getD (k - 1) 0 < zs.getD k 0)) = false from by simpa using h, Bool.and_false]
theorem rise_ok {zs : List Int} {hi : Int} {k : Nat} (h1 : 1 ≤ zs.getD k 0 ∧ zs.getD k 0 ≤ hi) (h3 : k = 0 ∨ zs.getD (k - 1) 0 < zs.getD k 0) : riseAt zs hi k = true := by
  unfold riseAt
  rw [decide_eq_true h1, show (decide (k = 0) || decide (zs.getD (k - 1) 0 < zs.getD k 0)) = true from by simpa using h3]
  rfl
noncomputable def masksB (n : Int) (zs : List Int) : Bool := decide (1 ≤ n ∧ n ≤ 5) && riseG zs (2 ^ n.toNat - 1)
theorem masksB_n {n : Int} {zs : List Int} (h : ¬ (1 ≤ n ∧ n ≤ 5)) : false = masksB n zs := by unfold masksB; rw [decide_eq_false h]; rfl
theorem masksB_y {n : Int} {zs : List Int} (h : 1 ≤ n ∧ n ≤ 5) : riseG zs (2 ^ n.toNat - 1) = masksB n zs := by unfold masksB; rw [decide_eq_true h]; rfl
theorem pow_n5 {m : Nat} (h1 : 1 ≤ m) (h2 : m ≤ 5) : (2 : Int) ^ m ≤ 32 ∧ 2 ≤ (2 : Int) ^ m := by
  have : m = 1 ∨ m = 2 ∨ m = 3 ∨ m = 4 ∨ m = 5 := by omega
  rcases this with rfl | rfl | rfl | rfl | rfl <;> decide
set_option maxHeartbeats 2000000 in
theorem spec_l1Rising_any (v : Value) (zs : List Int) (hi : Int) (w : World) (h : RdI w v zs) (hl : zs.length ≤ 1048576) :
    Calls Try.prog 39 #[v, .int .i64 1, .int .i64 hi] w fun e w' => e = .returned (.bool (riseG zs hi)) ∧ w = w' := by
  obtain ⟨A, c, rfl, Hc⟩ := int_at h
  clear h
  go_enter Try.func39, Try.ntmps39
  go_wp2_with fail
  go_loop [11] (fun i => ∃ k : Nat, k ≤ zs.length ∧ i = .int .i64 k ∧ Hid (∀ j, j < zs.length → j < k → riseAt zs hi j = true)) (fun i => zs.length - (intOf i).toNat)
  case atStart => exact ⟨0, Nat.zero_le _, rfl, (fun j hj hk => by omega)⟩
  case round =>
    obtain ⟨k, hk, rfl, hpre⟩ := hrel
    by_cases hlt : k < zs.length
    · obtain ⟨b, off, rfl, hb, hc⟩ := Hc.out k hlt
      obtain ⟨y, hy⟩ : ∃ y, y = zs.getD k 0 := ⟨_, rfl⟩
      obtain ⟨z, hz⟩ : ∃ z, z = zs.getD (k - 1) 0 := ⟨_, rfl⟩
      have q0 := hc k hlt
      have q2 := hc (k - 1) (by omega)
      rw [← hy] at q0
      rw [← hz] at q2
      have i1 : (k : Int) < (zs.length : Int) := by omega
      clear hc
      by_cases h1 : 1 ≤ y ∧ y ≤ hi
      · have D1 := Lib.hid (decide_eq_true h1)
        by_cases hk0 : k = 0
        · have HT := Lib.hid (rise_ok (zs := zs) (hi := hi) (k := k) (by rw [← hy]; exact h1) (.inl hk0))
          have b1 : decide (0 < k) = false := by simp; omega
          clear h1 hy hz hk0
          go_wp2_with fail
          refine (l1In_p _ _ _ _).mono ?_; rintro e w' ⟨rfl, rfl⟩; rw [D1.out]
          go_wp2_with fail
          go_round
          case rel => exact ⟨k + 1, by omega, by go_num, rise_next hpre HT.out⟩
          case measure => simp [intOf]; omega
        · have b1 : decide (0 < k) = true := by simp; omega
          obtain ⟨p, hp⟩ : ∃ p, p = k - 1 := ⟨_, rfl⟩
          have hkk : IntKind.i64.wrap ((k : Int) - 1) = (p : Int) := by rw [show (k : Int) - 1 = (p : Int) from by omega]; exact IntWalk.i64_in _ (by omega)
          rw [← hp] at q2 hz
          have i2 : (p : Int) < (zs.length : Int) := by omega
          have Hp := Lib.hid hp; clear hp
          by_cases h3 : z < y
          · have HT := Lib.hid (rise_ok (zs := zs) (hi := hi) (k := k) (by rw [← hy]; exact h1) (.inr (by rw [← Hp.out, ← hy, ← hz]; exact h3)))
            have b2 : decide (y ≤ z) = false := by simp; omega
            clear h1 h3 hy hz hk0
            go_wp2_with fail
            refine (l1In_p _ _ _ _).mono ?_; rintro e w' ⟨rfl, rfl⟩; rw [D1.out]
            go_wp2_with fail
            go_round
            case rel => exact ⟨k + 1, by omega, by go_num, rise_next hpre HT.out⟩
            case measure => simp [intOf]; omega
          · have HR := Lib.hid (rise_no (hi := hi) hlt (rise_2 (by rw [← Hp.out, ← hy, ← hz]; exact fun h => h.elim hk0 h3)))
            have b2 : decide (y ≤ z) = true := by simp; omega
            clear h1 h3 hy hz hk0 hpre
            go_wp2_with fail
            refine (l1In_p _ _ _ _).mono ?_; rintro e w' ⟨rfl, rfl⟩; rw [D1.out]
            go_wp2_with fail
            go_ret
            exact ⟨ret_bool (HR.out), rfl⟩
      · have D1 := Lib.hid (decide_eq_false h1)
        have HR := Lib.hid (rise_no (hi := hi) hlt (rise_1 (by rw [← hy]; exact h1)))
        clear h1 hy hz hpre
        go_wp2_with fail
        refine (l1In_p _ _ _ _).mono ?_; rintro e w' ⟨rfl, rfl⟩; rw [D1.out]
        go_wp2_with fail
        go_ret
        exact ⟨ret_bool (HR.out), rfl⟩
    · go_wp2_with fail
      go_ret
      exact ⟨ret_bool (rise_yes (by omega) hpre), rfl⟩
theorem spec_l14Masks_any (n : Int) (v : Value) (zs : List Int) (w : World) (h : RdI w v zs) (hl : zs.length ≤ 1048576) :
    Calls Try.prog 20 #[.int .i64 n, v] w fun e w' => e = .returned (.bool (masksB n zs)) ∧ w = w' := by
  have H := Lib.hid h
  obtain ⟨A, c, rfl, _⟩ := h.form
  clear h
  by_cases hn : 1 ≤ n ∧ n ≤ 5
  · obtain ⟨m, rfl⟩ := Int.eq_ofNat_of_zero_le (show 0 ≤ n by omega)
    have HR := Lib.hid (masksB_y (zs := zs) hn)
    rw [Int.toNat_natCast] at HR
    have D1 := Lib.hid (decide_eq_true hn)
    obtain ⟨p1, p2⟩ := pow_n5 (m := m) (by omega) (by omega)
    have hw : IntKind.i64.wrap ((2 : Int) ^ m) = (2 : Int) ^ m := IntWalk.i64_in _ (by omega)
    have hw2 : IntKind.i64.wrap ((2 : Int) ^ m - 1) = (2 : Int) ^ m - 1 := IntWalk.i64_in _ (by omega)
    obtain ⟨m1, m5⟩ := hn
    go_enter Try.func20, Try.ntmps20
    go_wp2_with fail
    refine (l1In_p _ _ _ _).mono ?_; rintro e w' ⟨rfl, rfl⟩; rw [D1.out]
    go_wp2_with fail
    refine (spec_l1Rising_any _ zs _ _ H.out hl).mono ?_; rintro e w' ⟨rfl, rfl⟩
    go_wp2_with fail
    go_ret
    exact ⟨ret_bool HR.out, rfl⟩
  · have HR := Lib.hid (masksB_n (zs := zs) hn)
    have D1 := Lib.hid (decide_eq_false hn); clear hn
    go_enter Try.func20, Try.ntmps20
    go_wp2_with fail
    refine (l1In_p _ _ _ _).mono ?_; rintro e w' ⟨rfl, rfl⟩; rw [D1.out]
    go_wp2_with fail
    go_ret
    exact ⟨ret_bool HR.out, rfl⟩
set_option maxHeartbeats 2000000 in
theorem impl_areMasks_any (n : Int) (v : Value) (zs : List Int) (w : World) (h : RdI w v zs) (hl : zs.length ≤ 1048576) :
    Calls Try.prog 22 #[.int .i64 n, v] w fun e w' => e = .returned (.bool (masksB n zs)) ∧ w = w' := by
  obtain ⟨A, c, rfl, Hc⟩ := int_at h
  clear h
  by_cases hn : 1 ≤ n ∧ n ≤ 5
  · obtain ⟨m, rfl⟩ := Int.eq_ofNat_of_zero_le (show 0 ≤ n by omega)
    have HM := Lib.hid (masksB_y (zs := zs) hn)
    rw [Int.toNat_natCast] at HM
    have D0 := Lib.hid (decide_eq_true hn)
    obtain ⟨p1, p2⟩ := pow_n5 (m := m) (by omega) (by omega)
    have hw : IntKind.i64.wrap ((2 : Int) ^ m) = (2 : Int) ^ m := IntWalk.i64_in _ (by omega)
    have hw2 : IntKind.i64.wrap ((2 : Int) ^ m - 1) = (2 : Int) ^ m - 1 := IntWalk.i64_in _ (by omega)
    obtain ⟨m1, m5⟩ := hn
    go_enter Try.func22, Try.ntmps22
    go_wp2_with fail
    refine (within_p _ _ _ _).mono ?_; rintro e w' ⟨rfl, rfl⟩; rw [D0.out]
    go_wp2_with fail
    go_loop [12] (fun i => ∃ k : Nat, k ≤ zs.length ∧ i = .int .i64 k ∧ Hid (∀ j, j < zs.length → j < k → riseAt zs (2 ^ m - 1) j = true)) (fun i => zs.length - (intOf i).toNat)
    case atStart => exact ⟨0, Nat.zero_le _, rfl, (fun j hj hk => by omega)⟩
    case round =>
      obtain ⟨k, hk, rfl, hpre⟩ := hrel
      by_cases hlt : k < zs.length
      · obtain ⟨b, off, rfl, hb, hc⟩ := Hc.out k hlt
        obtain ⟨y, hy⟩ : ∃ y, y = zs.getD k 0 := ⟨_, rfl⟩
        obtain ⟨z, hz⟩ : ∃ z, z = zs.getD (k - 1) 0 := ⟨_, rfl⟩
        have q0 := hc k hlt
        have q2 := hc (k - 1) (by omega)
        rw [← hy] at q0
        rw [← hz] at q2
        have i1 : (k : Int) < (zs.length : Int) := by omega
        clear hc
        by_cases h1 : 1 ≤ y ∧ y ≤ (2 ^ m - 1)
        · have D1 := Lib.hid (decide_eq_true h1)
          by_cases hk0 : k = 0
          · have HT := Lib.hid (rise_ok (zs := zs) (hi := (2 ^ m - 1)) (k := k) (by rw [← hy]; exact h1) (.inl hk0))
            have b1 : decide (0 < k) = false := by simp; omega
            clear h1 hy hz hk0
            go_wp2_with fail
            refine (within_p _ _ _ _).mono ?_; rintro e w' ⟨rfl, rfl⟩; rw [D1.out]
            go_wp2_with fail
            go_round
            case rel => exact ⟨k + 1, by omega, by go_num, rise_next hpre HT.out⟩
            case measure => simp [intOf]; omega
          · have b1 : decide (0 < k) = true := by simp; omega
            obtain ⟨p, hp⟩ : ∃ p, p = k - 1 := ⟨_, rfl⟩
            have hkk : IntKind.i64.wrap ((k : Int) - 1) = (p : Int) := by rw [show (k : Int) - 1 = (p : Int) from by omega]; exact IntWalk.i64_in _ (by omega)
            rw [← hp] at q2 hz
            have i2 : (p : Int) < (zs.length : Int) := by omega
            have Hp := Lib.hid hp; clear hp
            by_cases h3 : z < y
            · have HT := Lib.hid (rise_ok (zs := zs) (hi := (2 ^ m - 1)) (k := k) (by rw [← hy]; exact h1) (.inr (by rw [← Hp.out, ← hy, ← hz]; exact h3)))
              have b2 : decide (y ≤ z) = false := by simp; omega
              clear h1 h3 hy hz hk0
              go_wp2_with fail
              refine (within_p _ _ _ _).mono ?_; rintro e w' ⟨rfl, rfl⟩; rw [D1.out]
              go_wp2_with fail
              go_round
              case rel => exact ⟨k + 1, by omega, by go_num, rise_next hpre HT.out⟩
              case measure => simp [intOf]; omega
            · have HR := Lib.hid (rise_no (hi := (2 ^ m - 1)) hlt (rise_2 (by rw [← Hp.out, ← hy, ← hz]; exact fun h => h.elim hk0 h3)))
              have b2 : decide (y ≤ z) = true := by simp; omega
              clear h1 h3 hy hz hk0 hpre
              go_wp2_with fail
              refine (within_p _ _ _ _).mono ?_; rintro e w' ⟨rfl, rfl⟩; rw [D1.out]
              go_wp2_with fail
              go_ret
              exact ⟨ret_bool ((HR.out).trans HM.out), rfl⟩
        · have D1 := Lib.hid (decide_eq_false h1)
          have HR := Lib.hid (rise_no (hi := (2 ^ m - 1)) hlt (rise_1 (by rw [← hy]; exact h1)))
          clear h1 hy hz hpre
          go_wp2_with fail
          refine (within_p _ _ _ _).mono ?_; rintro e w' ⟨rfl, rfl⟩; rw [D1.out]
          go_wp2_with fail
          go_ret
          exact ⟨ret_bool ((HR.out).trans HM.out), rfl⟩
      · go_wp2_with fail
        go_ret
        exact ⟨ret_bool ((rise_yes (by omega) hpre).trans HM.out), rfl⟩
  · have HR := Lib.hid (masksB_n (zs := zs) hn)
    have D1 := Lib.hid (decide_eq_false hn); clear hn
    go_enter Try.func22, Try.ntmps22
    go_wp2_with fail
    refine (within_p _ _ _ _).mono ?_; rintro e w' ⟨rfl, rfl⟩; rw [D1.out]
    go_wp2_with fail
    go_ret
    exact ⟨ret_bool HR.out, rfl⟩
end Go.Proofs.Ytgonldkgghikiaa
