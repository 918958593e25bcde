/- The walk through the law FnExactResidueType. -/
import Derived.Test.YtekljechannabaaRing1
import Derived.Test.YtekljechannabaaOpen1
namespace Go.Proofs.Ytekljechannabaa
set_option linter.unusedSimpArgs false
set_option linter.unusedVariables false
open Go.ChangeShapes Go.WideShapes Go.ChangeAt Go.RowKit

theorem walk_FnExactResidueType (v0 : Value) (w : World) (h0 : IsRing v0) :
    Calls Try.prog 6 #[v0] w fun e w' => e = .returned (.bool true) ∧ Below w.heap.size w w' := by
  obtain ⟨_, _, _, _, rfl, ⟨a, rfl, ha0, ha1⟩, ⟨b, rfl, hb0, hb1⟩, ⟨c, rfl, hc0, hc1⟩, ⟨d, rfl, hd0, hd1⟩⟩ := h0
  by_cases hg : GoodR a b c d
  all_goals
    go_enter Try.func6, Try.ntmps6
    go_wp2_with fail
    refine (laws_toRing_any _ _ _ _ _).mono ?_; rintro e w1 ⟨rfl, hb1⟩
    obtain ⟨hc_hb1, hf_hb1⟩ := bcell hb1; have hz_hb1 := hb1.size; try simp at hz_hb1; have hs0_hb1 : w.heap.size < w1.heap.size := by omega
    go_wp2_with fail
    refine (spec_ResidueType_any _ _ _ _ _).mono ?_; rintro e w2 ⟨rfl, hb2⟩
    first | rw [if_pos hg] | rw [if_neg hg]
    replace hb2 := Below.trans hb1 (Below.mono hb2 hb1.size); clear hb1 hc_hb1 hf_hb1; obtain ⟨hc_hb2, hf_hb2⟩ := bcell hb2; have hz_hb2 := hb2.size; try simp at hz_hb2
    go_wp2_with fail
    refine (laws_toRing_any _ _ _ _ _).mono ?_; rintro e w3 ⟨rfl, hb3⟩
    replace hb3 := Below.trans hb2 (Below.mono hb3 hb2.size); clear hb2 hc_hb2 hf_hb2; obtain ⟨hc_hb3, hf_hb3⟩ := bcell hb3; have hz_hb3 := hb3.size; try simp at hz_hb3
    go_wp2_with fail
    refine (impl_ResidueType_any _ _ _ _ _).mono ?_; rintro e w4 ⟨rfl, hb4⟩
    first | rw [if_pos hg] | rw [if_neg hg]
    replace hb4 := Below.trans hb3 (Below.mono hb4 hb3.size); clear hb3 hc_hb3 hf_hb3; obtain ⟨hc_hb4, hf_hb4⟩ := bcell hb4; have hz_hb4 := hb4.size; try simp at hz_hb4
    go_wp2_with fail
    go_ret
    exact ⟨rfl, (by repeat (first | exact Below.refl _ _ | assumption | refine Below.drew ?_ | refine below_drewN ?_ _ | refine Below.alloc ?_ (by simp <;> omega) _ | refine Below.setCell ?_ (by simp <;> omega) _ | refine Below.trans ?_ (Below.mono (by assumption) (by simp <;> omega))))⟩
end Go.Proofs.Ytekljechannabaa
