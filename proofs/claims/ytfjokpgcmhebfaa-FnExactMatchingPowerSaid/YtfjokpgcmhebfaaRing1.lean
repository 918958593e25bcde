/- The tests of a ring number and its residue type, in the program and in the reference, answer by the same plain functions. -/
import Derived.Test.YtfjokpgcmhebfaaTwo1
import Derived.Test.YtfjokpgcmhebfaaInt1
namespace Go.Proofs.Ytfjokpgcmhebfaa
set_option linter.unusedSimpArgs false
set_option linter.unusedVariables false
open Go.ChangeShapes Go.WideShapes Go.ChangeAt Go.RowKit

def InC (n : Int) : Prop := -1000000000 ≤ n ∧ n ≤ 1000000000
instance (n : Int) : Decidable (InC n) := by unfold InC; infer_instance
def GoodR (a b c d : Int) : Prop := InC a ∧ InC b ∧ InC c ∧ InC d
instance (a b c d : Int) : Decidable (GoodR a b c d) := by unfold GoodR; infer_instance
theorem goodR_bd {a b c d : Int} (h : GoodR a b c d) : (-1000000000 ≤ a ∧ a ≤ 1000000000) ∧ (-1000000000 ≤ b ∧ b ≤ 1000000000) ∧ (-1000000000 ≤ c ∧ c ≤ 1000000000) ∧ -1000000000 ≤ d ∧ d ≤ 1000000000 := h

theorem impl_isCoef_any (n : Int) (w : World) :
    Calls Try.prog 36 #[.int .i64 n] w fun e w' => e = .returned (.bool (decide (InC n))) ∧ w = w' := by
  go_enter Try.func36, Try.ntmps36
  go_wp2_with fail
  refine (within_p _ _ _ _).mono ?_; rintro e w' ⟨rfl, rfl⟩
  go_wp2_with fail
  go_ret
  exact ⟨ret_bool (by go_light; rw [Bool.eq_iff_iff]; simp only [decide_eq_true_eq, beq_iff_eq, Bool.false_eq_true, true_iff, false_iff, iff_true, iff_false]; (try simp_all [InC]) <;> (try omega)), rfl⟩
theorem impl_IsValidRing_any (a b c d : Int) (w : World) :
    Calls Try.prog 30 #[.agg #[.int .i64 a, .int .i64 b, .int .i64 c, .int .i64 d]] w fun e w' => e = .returned (.bool (decide (GoodR a b c d))) ∧ Below w.heap.size w w' := by
  go_enter Try.func30, Try.ntmps30
  go_wp2_with (go_at_call 36; refine (impl_isCoef_any _ _).mono ?_; rintro e w' ⟨rfl, rfl⟩)
  all_goals (go_ret; exact ⟨ret_bool (by go_light; rw [Bool.eq_iff_iff]; simp only [decide_eq_true_eq, beq_iff_eq, Bool.false_eq_true, true_iff, false_iff, iff_true, iff_false]; (try simp_all [GoodR]) <;> (try omega)), (by repeat (first | exact Below.refl _ _ | assumption | refine Below.drew ?_ | refine below_drewN ?_ _ | refine Below.alloc ?_ (by first | omega | (simp <;> omega)) _ | refine Below.setCell ?_ (by first | omega | (simp <;> omega)) _ | refine Below.trans ?_ (Below.mono (by assumption) (by first | omega | (simp <;> omega)))))⟩)

theorem good_all (a b c d : Int) : allIn [a, b, c, d] (-1000000000) 1000000000 = decide (GoodR a b c d) := by
  rw [Bool.eq_iff_iff, decide_eq_true_eq]
  simp [allIn, GoodR, InC]
theorem rd4 (w : World) (a b c d : Int) (g : Nat) (hg : g = w.heap.size) : RdI (w.alloc (.cells #[.int .i64 a, .int .i64 b, .int .i64 c, .int .i64 d] 3)) (.slice (some ⟨g, 0, none⟩) 4 4) [a, b, c, d] := by
  subst hg
  refine ⟨rfl, .inr ⟨w.heap.size, 0, 4, rfl, by simp, by simp, by simp, ?_⟩⟩
  intro j u hu
  rw [Nat.zero_add, World.cell?_alloc_at _ _ _ _ rfl]
  rw [← hu]; simp
theorem tmod2_zero (x : Int) : (x.tmod 2 = 0) = (x % 2 = 0) := by
  rw [Int.tmod_eq_emod]
  split
  · simp
  · simp; omega
theorem tmod2_beq (x : Int) : (x.tmod 2 == 0) = decide (x % 2 = 0) := by
  rw [Bool.eq_iff_iff, decide_eq_true_eq, beq_iff_eq, tmod2_zero]
theorem spec_l1Good_any (a b c d : Int) (w : World) :
    Calls Try.prog 14 #[.agg #[.int .i64 a, .int .i64 b, .int .i64 c, .int .i64 d]] w fun e w' => e = .returned (.bool (decide (GoodR a b c d))) ∧ Below w.heap.size w w' := by
  go_enter Try.func14, Try.ntmps14
  go_wp2_with fail
  refine (spec_l1All_any _ [a, b, c, d] _ _ _ (rd4 _ a b c d _ (by simp))).mono ?_; rintro e w' ⟨rfl, rfl⟩
  rw [good_all]
  go_wp2_with fail
  go_ret
  exact ⟨rfl, (by repeat (first | exact Below.refl _ _ | assumption | refine Below.drew ?_ | refine below_drewN ?_ _ | refine Below.alloc ?_ (by first | omega | (simp <;> omega)) _ | refine Below.setCell ?_ (by first | omega | (simp <;> omega)) _ | refine Below.trans ?_ (Below.mono (by assumption) (by first | omega | (simp <;> omega)))))⟩
theorem impl_isEven_any (a b c d : Int) (w : World) (h : GoodR a b c d) :
    Calls Try.prog 31 #[.agg #[.int .i64 a, .int .i64 b, .int .i64 c, .int .i64 d]] w fun e w' => e = .returned (.bool (decide ((a + c) % 2 = 0 ∧ (b + d) % 2 = 0))) ∧ Below w.heap.size w w' := by
  obtain ⟨⟨h1, h2⟩, ⟨h3, h4⟩, ⟨h5, h6⟩, h7, h8⟩ := goodR_bd h
  clear h
  go_enter Try.func31, Try.ntmps31
  go_wp2_with fail
  all_goals (go_ret; exact ⟨ret_bool (by go_light; rw [Bool.eq_iff_iff]; simp only [decide_eq_true_eq, beq_iff_eq, Bool.false_eq_true, true_iff, false_iff, iff_true, iff_false]; (try simp_all [tmod2_zero]) <;> (try omega)), (by repeat (first | exact Below.refl _ _ | assumption | refine Below.drew ?_ | refine below_drewN ?_ _ | refine Below.alloc ?_ (by first | omega | (simp <;> omega)) _ | refine Below.setCell ?_ (by first | omega | (simp <;> omega)) _ | refine Below.trans ?_ (Below.mono (by assumption) (by first | omega | (simp <;> omega)))))⟩)
theorem spec_l1Even_any (a b c d : Int) (w : World) (h : GoodR a b c d) :
    Calls Try.prog 26 #[.agg #[.int .i64 a, .int .i64 b, .int .i64 c, .int .i64 d]] w fun e w' => e = .returned (.bool (decide ((a + c) % 2 = 0 ∧ (b + d) % 2 = 0))) ∧ Below w.heap.size w w' := by
  obtain ⟨⟨h1, h2⟩, ⟨h3, h4⟩, ⟨h5, h6⟩, h7, h8⟩ := goodR_bd h
  clear h
  go_enter Try.func26, Try.ntmps26
  go_wp2_with fail
  all_goals (go_ret; exact ⟨ret_bool (by go_light; rw [Bool.eq_iff_iff]; simp only [decide_eq_true_eq, beq_iff_eq, Bool.false_eq_true, true_iff, false_iff, iff_true, iff_false]; (try simp_all [tmod2_zero]) <;> (try omega)), (by repeat (first | exact Below.refl _ _ | assumption | refine Below.drew ?_ | refine below_drewN ?_ _ | refine Below.alloc ?_ (by first | omega | (simp <;> omega)) _ | refine Below.setCell ?_ (by first | omega | (simp <;> omega)) _ | refine Below.trans ?_ (Below.mono (by assumption) (by first | omega | (simp <;> omega)))))⟩)

def resF (a b c d : Int) : Int := if (a + c) % 2 = 0 ∧ (b + d) % 2 = 0 then 0 else if (a + b + c + d) % 2 = 0 then 2 else 1
theorem spec_l11Odd_any (n : Int) (w : World) :
    Calls Try.prog 27 #[.int .i64 n] w fun e w' => e = .returned (.int .i64 (if n % 2 = 0 then 0 else 1)) ∧ w = w' := by
  have hx := tmod2_zero n
  by_cases h : n % 2 = 0
  · have h2 : (n.tmod 2 != 0) = false := by rw [hx.symm] at h; rw [h]; rfl
    clear hx
    go_enter Try.func27, Try.ntmps27
    go_wp2_with fail
    go_ret
    exact ⟨rfl, rfl⟩
  · have h2 : (n.tmod 2 != 0) = true := by rw [bne_iff_ne, ne_eq, hx]; exact h
    clear hx
    go_enter Try.func27, Try.ntmps27
    go_wp2_with fail
    go_ret
    exact ⟨rfl, rfl⟩
theorem spec_l11Type_any (a b c d : Int) (w : World) (h : GoodR a b c d) :
    Calls Try.prog 15 #[.agg #[.int .i64 a, .int .i64 b, .int .i64 c, .int .i64 d]] w fun e w' => e = .returned (.int .i64 (resF a b c d)) ∧ Below w.heap.size w w' := by
  obtain ⟨⟨h1, h2⟩, ⟨h3, h4⟩, ⟨h5, h6⟩, h7, h8⟩ := goodR_bd h
  by_cases he : (a + c) % 2 = 0 ∧ (b + d) % 2 = 0
  · have hd : decide ((a + c) % 2 = 0 ∧ (b + d) % 2 = 0) = true := decide_eq_true he
    have hr : resF a b c d = 0 := if_pos he
    have Hd := Lib.hid hd; have Hr := Lib.hid hr; clear hd hr he
    go_enter Try.func15, Try.ntmps15
    go_wp2_with fail
    refine (spec_l1Even_any _ _ _ _ _ h).mono ?_; rintro e w1 ⟨rfl, hb1⟩
    rw [Hd.out]; obtain ⟨hc_hb1, hf_hb1⟩ := bcell hb1; have hz_hb1 := hb1.size; try simp at hz_hb1; have hs0_hb1 : w.heap.size < w1.heap.size := by omega
    go_wp2_with fail
    go_ret
    exact ⟨ret_int Hr.out.symm, (by repeat (first | exact Below.refl _ _ | assumption | refine Below.drew ?_ | refine below_drewN ?_ _ | refine Below.alloc ?_ (by first | omega | (simp <;> omega)) _ | refine Below.setCell ?_ (by first | omega | (simp <;> omega)) _ | refine Below.trans ?_ (Below.mono (by assumption) (by first | omega | (simp <;> omega)))))⟩
  · have hd : decide ((a + c) % 2 = 0 ∧ (b + d) % 2 = 0) = false := decide_eq_false he
    have hr : resF a b c d = if (a + b + c + d) % 2 = 0 then 2 else 1 := if_neg he
    have Hd := Lib.hid hd; have Hr := Lib.hid hr; clear hd hr he
    by_cases h0 : (a + b + c + d) % 2 = 0
    all_goals
      have H0 := Lib.hid h0; clear h0
      go_enter Try.func15, Try.ntmps15
      go_wp2_with fail
      refine (spec_l1Even_any _ _ _ _ _ h).mono ?_; rintro e w1 ⟨rfl, hb1⟩
      rw [Hd.out]; obtain ⟨hc_hb1, hf_hb1⟩ := bcell hb1; have hz_hb1 := hb1.size; try simp at hz_hb1; have hs0_hb1 : w.heap.size < w1.heap.size := by omega
      go_wp2_with fail
      refine (spec_l11Odd_any _ _).mono ?_; rintro e w2 ⟨rfl, rfl⟩
      first | rw [if_pos H0.out] | rw [if_neg H0.out]
      go_wp2_with fail
      go_ret
      exact ⟨ret_int (by rw [Hr.out]; first | rw [if_pos H0.out] | rw [if_neg H0.out]), (by repeat (first | exact Below.refl _ _ | assumption | refine Below.drew ?_ | refine below_drewN ?_ _ | refine Below.alloc ?_ (by first | omega | (simp <;> omega)) _ | refine Below.setCell ?_ (by first | omega | (simp <;> omega)) _ | refine Below.trans ?_ (Below.mono (by assumption) (by first | omega | (simp <;> omega)))))⟩

theorem impl_ResidueType_any (a b c d : Int) (w : World) :
    Calls Try.prog 17 #[.agg #[.int .i64 a, .int .i64 b, .int .i64 c, .int .i64 d]] w fun e w' => e = .returned (if GoodR a b c d then .tuple #[.int .i64 (resF a b c d), .bool true] else .tuple #[.int .i64 0, .bool false]) ∧ Below w.heap.size w w' := by
  by_cases hg : GoodR a b c d
  · have hd : decide (GoodR a b c d) = true := decide_eq_true hg
    rw [if_pos hg]
    have Hd := Lib.hid hd; clear hd
    obtain ⟨⟨h1, h2⟩, ⟨h3, h4⟩, ⟨h5, h6⟩, h7, h8⟩ := goodR_bd hg
    by_cases he : (a + c) % 2 = 0 ∧ (b + d) % 2 = 0
    · have hd : decide ((a + c) % 2 = 0 ∧ (b + d) % 2 = 0) = true := decide_eq_true he
      have hr : resF a b c d = 0 := if_pos he
      rw [hr]
      have He := Lib.hid hd; clear hd hr he
      go_enter Try.func17, Try.ntmps17
      go_wp2_with fail
      refine (impl_IsValidRing_any _ _ _ _ _).mono ?_; rintro e w1 ⟨rfl, hb1⟩
      rw [Hd.out]; obtain ⟨hc_hb1, hf_hb1⟩ := bcell hb1; have hz_hb1 := hb1.size; try simp at hz_hb1; have hs0_hb1 : w.heap.size < w1.heap.size := by omega
      go_wp2_with fail
      refine (impl_isEven_any _ _ _ _ _ hg).mono ?_; rintro e w2 ⟨rfl, hb2⟩
      rw [He.out]; replace hb2 := Below.trans hb1 (Below.mono hb2 hb1.size); clear hb1 hc_hb1 hf_hb1; obtain ⟨hc_hb2, hf_hb2⟩ := bcell hb2; have hz_hb2 := hb2.size; try simp at hz_hb2
      go_wp2_with fail
      go_ret2
      exact ⟨rfl, (by repeat (first | exact Below.refl _ _ | assumption | refine Below.drew ?_ | refine below_drewN ?_ _ | refine Below.alloc ?_ (by first | omega | (simp <;> omega)) _ | refine Below.setCell ?_ (by first | omega | (simp <;> omega)) _ | refine Below.trans ?_ (Below.mono (by assumption) (by first | omega | (simp <;> omega)))))⟩
    · have hd : decide ((a + c) % 2 = 0 ∧ (b + d) % 2 = 0) = false := decide_eq_false he
      have hr : resF a b c d = if (a + b + c + d) % 2 = 0 then 2 else 1 := if_neg he
      rw [hr]
      have He := Lib.hid hd; clear hd hr he
      have hx := tmod2_zero (a + b + c + d)
      by_cases h0 : (a + b + c + d) % 2 = 0
      · rw [if_pos h0]
        have hq : ((a + b + c + d).tmod 2 != 0) = false := by rw [hx.symm] at h0; rw [h0]; rfl
        clear hx h0
        go_enter Try.func17, Try.ntmps17
        go_wp2_with fail
        refine (impl_IsValidRing_any _ _ _ _ _).mono ?_; rintro e w1 ⟨rfl, hb1⟩
        rw [Hd.out]; obtain ⟨hc_hb1, hf_hb1⟩ := bcell hb1; have hz_hb1 := hb1.size; try simp at hz_hb1; have hs0_hb1 : w.heap.size < w1.heap.size := by omega
        go_wp2_with fail
        refine (impl_isEven_any _ _ _ _ _ hg).mono ?_; rintro e w2 ⟨rfl, hb2⟩
        rw [He.out]; replace hb2 := Below.trans hb1 (Below.mono hb2 hb1.size); clear hb1 hc_hb1 hf_hb1; obtain ⟨hc_hb2, hf_hb2⟩ := bcell hb2; have hz_hb2 := hb2.size; try simp at hz_hb2
        go_wp2_with fail
        go_ret2
        exact ⟨rfl, (by repeat (first | exact Below.refl _ _ | assumption | refine Below.drew ?_ | refine below_drewN ?_ _ | refine Below.alloc ?_ (by first | omega | (simp <;> omega)) _ | refine Below.setCell ?_ (by first | omega | (simp <;> omega)) _ | refine Below.trans ?_ (Below.mono (by assumption) (by first | omega | (simp <;> omega)))))⟩
      · rw [if_neg h0]
        have hq : ((a + b + c + d).tmod 2 != 0) = true := by rw [bne_iff_ne, ne_eq, hx]; exact h0
        clear hx h0
        go_enter Try.func17, Try.ntmps17
        go_wp2_with fail
        refine (impl_IsValidRing_any _ _ _ _ _).mono ?_; rintro e w1 ⟨rfl, hb1⟩
        rw [Hd.out]; obtain ⟨hc_hb1, hf_hb1⟩ := bcell hb1; have hz_hb1 := hb1.size; try simp at hz_hb1; have hs0_hb1 : w.heap.size < w1.heap.size := by omega
        go_wp2_with fail
        refine (impl_isEven_any _ _ _ _ _ hg).mono ?_; rintro e w2 ⟨rfl, hb2⟩
        rw [He.out]; replace hb2 := Below.trans hb1 (Below.mono hb2 hb1.size); clear hb1 hc_hb1 hf_hb1; obtain ⟨hc_hb2, hf_hb2⟩ := bcell hb2; have hz_hb2 := hb2.size; try simp at hz_hb2
        go_wp2_with fail
        go_ret2
        exact ⟨rfl, (by repeat (first | exact Below.refl _ _ | assumption | refine Below.drew ?_ | refine below_drewN ?_ _ | refine Below.alloc ?_ (by first | omega | (simp <;> omega)) _ | refine Below.setCell ?_ (by first | omega | (simp <;> omega)) _ | refine Below.trans ?_ (Below.mono (by assumption) (by first | omega | (simp <;> omega)))))⟩
  · have hd : decide (GoodR a b c d) = false := decide_eq_false hg
    rw [if_neg hg]
    have Hd := Lib.hid hd; clear hd hg
    go_enter Try.func17, Try.ntmps17
    go_wp2_with fail
    refine (impl_IsValidRing_any _ _ _ _ _).mono ?_; rintro e w1 ⟨rfl, hb1⟩
    rw [Hd.out]; obtain ⟨hc_hb1, hf_hb1⟩ := bcell hb1; have hz_hb1 := hb1.size; try simp at hz_hb1; have hs0_hb1 : w.heap.size < w1.heap.size := by omega
    go_wp2_with fail
    go_ret2
    exact ⟨rfl, (by repeat (first | exact Below.refl _ _ | assumption | refine Below.drew ?_ | refine below_drewN ?_ _ | refine Below.alloc ?_ (by first | omega | (simp <;> omega)) _ | refine Below.setCell ?_ (by first | omega | (simp <;> omega)) _ | refine Below.trans ?_ (Below.mono (by assumption) (by first | omega | (simp <;> omega)))))⟩

theorem laws_toRing_any (a b c d : Int) (w : World) :
    Calls Try.prog 6 #[.agg #[.int .i64 a, .int .i64 b, .int .i64 c, .int .i64 d]] w fun e w' => e = .returned (.agg #[.int .i64 a, .int .i64 b, .int .i64 c, .int .i64 d]) ∧ Below w.heap.size w w' := by
  go_enter Try.func6, Try.ntmps6
  go_wp2_with fail
  exact bodyPost_ret (v := .agg #[.int .i64 a, .int .i64 b, .int .i64 c, .int .i64 d]) (by simp [results, Try.results6, go_sem]) rfl ⟨rfl, (by repeat (first | exact Below.refl _ _ | assumption | refine Below.drew ?_ | refine below_drewN ?_ _ | refine Below.alloc ?_ (by first | omega | (simp <;> omega)) _ | refine Below.setCell ?_ (by first | omega | (simp <;> omega)) _ | refine Below.trans ?_ (Below.mono (by assumption) (by first | omega | (simp <;> omega)))))⟩

end Go.Proofs.Ytfjokpgcmhebfaa
