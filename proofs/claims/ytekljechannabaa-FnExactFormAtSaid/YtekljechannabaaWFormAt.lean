/- The walk through the law FnExactFormAt. -/
import Derived.Test.YtekljechannabaaFormAt2
import Derived.Test.YtekljechannabaaOpen1
namespace Go.Proofs.Ytekljechannabaa
set_option linter.unusedSimpArgs false
set_option linter.unusedVariables false
open Go.ChangeShapes Go.WideShapes Go.ChangeAt Go.RowKit

theorem spec_FormAt_any (n k : Int) (w : World) : Calls Try.prog 22 #[.int .i64 n, .int .i64 k] w (FormPost n k w) := by
  by_cases hf : formOK n k
  · obtain ⟨⟨h1, h2⟩, h3, h4⟩ := hf
    obtain ⟨n, rfl⟩ := Int.eq_ofNat_of_zero_le h1
    obtain ⟨k, rfl⟩ := Int.eq_ofNat_of_zero_le h3
    obtain ⟨g1, g2⟩ := sy_none h4 (by omega)
    have hf : formOK n k := ⟨⟨h1, h2⟩, h3, h4⟩
    have hpost : ∀ s w', s.data.toList = syF n k → Below w.heap.size w w' → FormPost n k w (.returned (.tuple #[.agg #[.string s, .int .i64 ((k : Int) % 24), .int .i64 0], .bool true])) w' := fun s w' hs hb => ⟨s, _, by rw [decide_eq_true hf], by rw [if_pos hf, Int.toNat_natCast, Int.toNat_natCast]; exact hs, by rw [if_pos hf], hb⟩
    have Hp := Lib.hid hpost; clear hpost
    have d1 : decide ((0 : Int) ≤ n ∧ (n : Int) ≤ 20) = true := decide_eq_true ⟨h1, h2⟩
    have d2 : decide ((0 : Int) ≤ k ∧ (k : Int) ≤ countF n - 1) = true := decide_eq_true ⟨h3, h4⟩
    obtain ⟨cb1, cb2⟩ := countF_bd n (by omega)
    have D1 := Lib.hid d1; have D2 := Lib.hid d2; clear d1 d2 hf h3 h4
    go_enter Try.func22, Try.ntmps22
    go_wp2_with fail
    refine (l1In_p _ _ _ _).mono ?_; rintro e w' ⟨rfl, rfl⟩
    rw [D1.out]
    go_wp2_with fail
    refine (l10Count_any _ _ h1 h2).mono ?_; rintro e w' ⟨rfl, rfl⟩
    go_wp2_with fail
    refine (l1In_p _ _ _ _).mono ?_; rintro e w' ⟨rfl, rfl⟩
    have hw : wrap64 (countF n - 1) = countF n - 1 := IntWalk.wrap64_in _ ⟨by omega, by omega⟩
    try rw [hw]
    rw [D2.out]
    clear hw
    go_wp2_with fail
    refine (spec_l10At_any n k _ (by omega) g1 g2).mono ?_; rintro e w1 ⟨s, rfl, hs, hb1⟩
    have Hs := Lib.hid hs; clear hs
    obtain ⟨hc_hb1, hf_hb1⟩ := bcell hb1; have hz_hb1 := hb1.size; try simp at hz_hb1; have hs0_hb1 : w.heap.size < w1.heap.size := by omega
    go_wp2_with fail
    exact bodyPost_ret (v := .tuple #[.agg #[.string s, .int .i64 ((k : Int) % 24), .int .i64 0], .bool true]) (by simp [results, Try.results22, go_sem, hc_hb1]) rfl (Hp.out s _ Hs.out (by repeat (first | exact Below.refl _ _ | assumption | refine Below.drew ?_ | refine below_drewN ?_ _ | refine Below.alloc ?_ (by first | omega | (simp <;> omega)) _ | refine Below.setCell ?_ (by first | omega | (simp <;> omega)) _ | refine Below.trans ?_ (Below.mono (by assumption) (by first | omega | (simp <;> omega))))))
  · have hd : decide (formOK n k) = false := decide_eq_false hf
    have hpost : ∀ w', Below w.heap.size w w' → FormPost n k w (.returned (.tuple #[.agg #[.string ⟨#[]⟩, .int .i64 0, .int .i64 0], .bool false])) w' := fun w' hb => ⟨⟨#[]⟩, 0, by rw [hd], by rw [if_neg hf], by rw [if_neg hf], hb⟩
    have Hp := Lib.hid hpost; clear hpost hd
    by_cases hn : 0 ≤ n ∧ n ≤ 20
    · have hk : decide (0 ≤ k ∧ k ≤ countF n - 1) = false := decide_eq_false (fun h => hf ⟨hn, h⟩)
      have hcb : 1 ≤ countF n ∧ countF n ≤ 37748736 := by
        obtain ⟨m, rfl⟩ := Int.eq_ofNat_of_zero_le hn.1
        exact countF_bd m (by omega)
      obtain ⟨cb1, cb2⟩ := hcb
      have d1 : decide (0 ≤ n ∧ n ≤ 20) = true := decide_eq_true hn
      obtain ⟨hn1, hn2⟩ := hn
      have Hn := Lib.hid d1; have Hk := Lib.hid hk; clear d1 hk hf
      go_enter Try.func22, Try.ntmps22
      go_wp2_with fail
      refine (l1In_p _ _ _ _).mono ?_; rintro e w' ⟨rfl, rfl⟩
      rw [Hn.out]
      go_wp2_with fail
      refine (l10Count_any _ _ hn1 hn2).mono ?_; rintro e w' ⟨rfl, rfl⟩
      go_wp2_with fail
      refine (l1In_p _ _ _ _).mono ?_; rintro e w' ⟨rfl, rfl⟩
      have hw : wrap64 (countF n - 1) = countF n - 1 := IntWalk.wrap64_in _ ⟨by omega, by omega⟩
      try rw [hw]
      rw [Hk.out]
      clear hw
      go_wp2_with fail
      exact bodyPost_ret (v := .tuple #[.agg #[.string ⟨#[]⟩, .int .i64 0, .int .i64 0], .bool false]) (by simp [results, Try.results22, go_sem]) rfl (Hp.out _ (by repeat (first | exact Below.refl _ _ | assumption | refine Below.drew ?_ | refine below_drewN ?_ _ | refine Below.alloc ?_ (by first | omega | (simp <;> omega)) _ | refine Below.setCell ?_ (by first | omega | (simp <;> omega)) _ | refine Below.trans ?_ (Below.mono (by assumption) (by first | omega | (simp <;> omega))))))
    · have d1 : decide (0 ≤ n ∧ n ≤ 20) = false := decide_eq_false hn
      have Hn := Lib.hid d1; clear d1 hf hn
      go_enter Try.func22, Try.ntmps22
      go_wp2_with fail
      refine (l1In_p _ _ _ _).mono ?_; rintro e w' ⟨rfl, rfl⟩
      rw [Hn.out]
      go_wp2_with fail
      exact bodyPost_ret (v := .tuple #[.agg #[.string ⟨#[]⟩, .int .i64 0, .int .i64 0], .bool false]) (by simp [results, Try.results22, go_sem]) rfl (Hp.out _ (by repeat (first | exact Below.refl _ _ | assumption | refine Below.drew ?_ | refine below_drewN ?_ _ | refine Below.alloc ?_ (by first | omega | (simp <;> omega)) _ | refine Below.setCell ?_ (by first | omega | (simp <;> omega)) _ | refine Below.trans ?_ (Below.mono (by assumption) (by first | omega | (simp <;> omega))))))

theorem laws_eqNormalForm_same (s : ByteArray) (c p : Int) (w : World) :
    Calls Try.prog 24 #[.agg #[.string s, .int .i64 c, .int .i64 p], .agg #[.string s, .int .i64 c, .int .i64 p]] w fun e w' => e = .returned (.bool true) ∧ Below w.heap.size w w' := by
  go_enter Try.func24, Try.ntmps24
  go_wp2_with fail
  go_ret
  exact ⟨rfl, (by repeat (first | exact Below.refl _ _ | assumption | refine Below.drew ?_ | refine below_drewN ?_ _ | refine Below.alloc ?_ (by first | omega | (simp <;> omega)) _ | refine Below.setCell ?_ (by first | omega | (simp <;> omega)) _ | refine Below.trans ?_ (Below.mono (by assumption) (by first | omega | (simp <;> omega)))))⟩

theorem walk_FnExactFormAt (v0 v1 : Value) (w : World) (h0 : IsInt v0) (h1 : IsInt v1) :
    Calls Try.prog 7 #[v0, v1] w fun e w' => e = .returned (.bool true) ∧ Below w.heap.size w w' := by
  obtain ⟨n, rfl, hn0, hn1⟩ := h0
  obtain ⟨k, rfl, hk0, hk1⟩ := h1
  go_enter Try.func7, Try.ntmps7
  go_wp2_with fail
  refine (spec_FormAt_any _ _ _).mono ?_; rintro e w1 ⟨s1, c1, rfl, hs1, hc1, hb1⟩
  have Hs1 := Lib.hid hs1; have Hc1 := Lib.hid hc1; clear hs1 hc1
  obtain ⟨hc_hb1, hf_hb1⟩ := bcell hb1; have hz_hb1 := hb1.size; try simp at hz_hb1; have hs0_hb1 : w.heap.size < w1.heap.size := by omega
  go_wp2_with fail
  refine (impl_FormAt_any _ _ _).mono ?_; rintro e w2 ⟨s2, c2, rfl, hs2, hc2, hb2⟩
  obtain rfl : s2 = s1 := by
    have h := hs2.trans Hs1.out.symm
    cases s1; cases s2
    congr 1
    exact Array.toList_inj.1 h
  obtain rfl : c2 = c1 := hc2.trans Hc1.out.symm
  clear hs2 hc2 Hs1 Hc1
  obtain ⟨hc_hb2, hf_hb2⟩ := bcell hb2; have hz_hb2 := hb2.size; try simp at hz_hb2; have hs0_hb2 : w.heap.size < w2.heap.size := by omega
  have h12 : w1.heap.size < w2.heap.size := by omega
  go_wp2_with fail
  refine (laws_eqNormalForm_same _ _ _ _).mono ?_; rintro e w3 ⟨rfl, hb3⟩
  have zw := hb1.size
  go_wp2_with fail
  go_ret
  exact ⟨rfl, (by repeat (first | exact Below.refl _ _ | assumption | refine Below.drew ?_ | refine below_drewN ?_ _ | refine Below.alloc ?_ (by first | omega | (simp <;> omega)) _ | refine Below.setCell ?_ (by first | omega | (simp <;> omega)) _ | refine Below.trans ?_ (Below.mono (by assumption) (by first | omega | (simp <;> omega)))))⟩
end Go.Proofs.Ytekljechannabaa
