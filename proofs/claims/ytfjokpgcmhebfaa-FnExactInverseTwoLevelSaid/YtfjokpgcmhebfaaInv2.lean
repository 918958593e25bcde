/- The inverse of a two-level operator, in the program and in the reference. -/
import Derived.Test.YtfjokpgcmhebfaaTwo1
import Derived.Test.YtfjokpgcmhebfaaElTwoLevel
namespace Go.Proofs.Ytfjokpgcmhebfaa
set_option linter.unusedSimpArgs false
set_option linter.unusedVariables false
open Go.ChangeShapes Go.WideShapes Go.ChangeAt Go.RowKit

def invF (k i j m : Int) : List E4 := if k = 1 then [⟨1, i, 0, 8 - m⟩] else if k = 2 ∨ m = 0 then [⟨k, i, j, m⟩] else [⟨1, j, 0, 8 - m⟩, ⟨3, i, j, 0⟩]
def invG (n k i j m : Int) : Option (List E4) := if TLok n k i j m then some (invF k i j m) else none
theorem own_lit {α : Type} {f : α → List Value} {sz : Nat} (w : World) (base : Nat) (e : TypeId) (g n : Nat) (xs : List α) (hg : g = w.heap.size) (hb : base ≤ g) (hn : n = xs.length) (hm : n ≤ maxLen) (hl : (xs.flatMap f).length = n * sz) :
    OwnE (w.alloc (.cells (xs.flatMap f).toArray e)) base e (.slice (some ⟨g, 0, none⟩) n n) f sz xs := by
  subst hg; subst hn
  refine ⟨hl, .inr ⟨w.heap.size, xs.length, (xs.flatMap f).toArray, rfl, hb, ?_, Nat.le_refl _, hm, by simpa using hl, List.take_of_length_le (Nat.le_of_eq (by simpa using hl))⟩⟩
  show (w.heap.push _)[w.heap.size]? = _
  simp
theorem spec_l11Inverse_any (n k i j m : Int) (w : World) (h : TLok n k i j m) :
    Calls Try.prog 21 #[.agg #[.int .i64 k, .int .i64 i, .int .i64 j, .int .i64 m]] w fun e w' => ∃ v, e = .returned v ∧ OwnE w' w.heap.size 34 v E4.cs 4 (invF k i j m) ∧ Below w.heap.size w w' := by
  obtain ⟨hd, hi0, hi1, hj0, hj1, hk⟩ := h
  obtain ⟨n0, n1⟩ := dim_range hd
  rcases hk with ⟨rfl, rfl, h0, h1⟩ | ⟨rfl, h0, rfl⟩ | ⟨rfl, h0, h1, h2⟩
  · have hr := Lib.hid (show invF 1 i 0 m = [⟨1, i, 0, 8 - m⟩] from rfl)
    go_enter Try.func21, Try.ntmps21
    go_wp2_with fail
    go_ret
    exact ⟨_, rfl, by rw [hr.out]; exact own_lit _ _ _ _ _ [(⟨1, i, 0, 8 - m⟩ : E4)] (by simp) (by first | omega | (simp <;> omega)) rfl (by unfold maxLen; decide) rfl, (by repeat (first | exact Below.refl _ _ | assumption | refine Below.drew ?_ | refine below_drewN ?_ _ | refine Below.alloc ?_ (by first | omega | (simp <;> omega)) _ | refine Below.setCell ?_ (by first | omega | (simp <;> omega)) _ | refine Below.trans ?_ (Below.mono (by assumption) (by first | omega | (simp <;> omega)))))⟩
  · have hr := Lib.hid (show invF 2 i j 0 = [⟨2, i, j, 0⟩] from rfl)
    go_enter Try.func21, Try.ntmps21
    go_wp2_with fail
    go_ret
    exact ⟨_, rfl, by rw [hr.out]; exact own_lit _ _ _ _ _ [(⟨2, i, j, 0⟩ : E4)] (by simp) (by first | omega | (simp <;> omega)) rfl (by unfold maxLen; decide) rfl, (by repeat (first | exact Below.refl _ _ | assumption | refine Below.drew ?_ | refine below_drewN ?_ _ | refine Below.alloc ?_ (by first | omega | (simp <;> omega)) _ | refine Below.setCell ?_ (by first | omega | (simp <;> omega)) _ | refine Below.trans ?_ (Below.mono (by assumption) (by first | omega | (simp <;> omega)))))⟩
  · by_cases hm : m = 0
    · subst hm
      have hr := Lib.hid (show invF 3 i j 0 = [⟨3, i, j, 0⟩] from rfl)
      go_enter Try.func21, Try.ntmps21
      go_wp2_with fail
      go_ret
      exact ⟨_, rfl, by rw [hr.out]; exact own_lit _ _ _ _ _ [(⟨3, i, j, 0⟩ : E4)] (by simp) (by first | omega | (simp <;> omega)) rfl (by unfold maxLen; decide) rfl, (by repeat (first | exact Below.refl _ _ | assumption | refine Below.drew ?_ | refine below_drewN ?_ _ | refine Below.alloc ?_ (by first | omega | (simp <;> omega)) _ | refine Below.setCell ?_ (by first | omega | (simp <;> omega)) _ | refine Below.trans ?_ (Below.mono (by assumption) (by first | omega | (simp <;> omega)))))⟩
    · have hr := Lib.hid (show invF 3 i j m = [⟨1, j, 0, 8 - m⟩, ⟨3, i, j, 0⟩] from by simp [invF, hm])
      have hm0 : (m == 0) = false := by simpa using hm
      have hm1 : 0 < m := by omega
      clear hm
      go_enter Try.func21, Try.ntmps21
      go_wp2_with fail
      go_ret
      exact ⟨_, rfl, by rw [hr.out]; exact own_lit _ _ _ _ _ [(⟨1, j, 0, 8 - m⟩ : E4), ⟨3, i, j, 0⟩] (by simp) (by first | omega | (simp <;> omega)) rfl (by unfold maxLen; decide) rfl, (by repeat (first | exact Below.refl _ _ | assumption | refine Below.drew ?_ | refine below_drewN ?_ _ | refine Below.alloc ?_ (by first | omega | (simp <;> omega)) _ | refine Below.setCell ?_ (by first | omega | (simp <;> omega)) _ | refine Below.trans ?_ (Below.mono (by assumption) (by first | omega | (simp <;> omega)))))⟩
theorem impl_inverseLevels_any (n k i j m : Int) (w : World) (h : TLok n k i j m) :
    Calls Try.prog 23 #[.agg #[.int .i64 k, .int .i64 i, .int .i64 j, .int .i64 m]] w fun e w' => ∃ v, e = .returned v ∧ OwnE w' w.heap.size 34 v E4.cs 4 (invF k i j m) ∧ Below w.heap.size w w' := by
  obtain ⟨hd, hi0, hi1, hj0, hj1, hk⟩ := h
  obtain ⟨n0, n1⟩ := dim_range hd
  rcases hk with ⟨rfl, rfl, h0, h1⟩ | ⟨rfl, h0, rfl⟩ | ⟨rfl, h0, h1, h2⟩
  · have hr := Lib.hid (show invF 1 i 0 m = [⟨1, i, 0, 8 - m⟩] from rfl)
    go_enter Try.func23, Try.ntmps23
    go_wp2_with fail
    go_ret
    exact ⟨_, rfl, by rw [hr.out]; exact own_lit _ _ _ _ _ [(⟨1, i, 0, 8 - m⟩ : E4)] (by simp) (by first | omega | (simp <;> omega)) rfl (by unfold maxLen; decide) rfl, (by repeat (first | exact Below.refl _ _ | assumption | refine Below.drew ?_ | refine below_drewN ?_ _ | refine Below.alloc ?_ (by first | omega | (simp <;> omega)) _ | refine Below.setCell ?_ (by first | omega | (simp <;> omega)) _ | refine Below.trans ?_ (Below.mono (by assumption) (by first | omega | (simp <;> omega)))))⟩
  · have hr := Lib.hid (show invF 2 i j 0 = [⟨2, i, j, 0⟩] from rfl)
    go_enter Try.func23, Try.ntmps23
    go_wp2_with fail
    go_ret
    exact ⟨_, rfl, by rw [hr.out]; exact own_lit _ _ _ _ _ [(⟨2, i, j, 0⟩ : E4)] (by simp) (by first | omega | (simp <;> omega)) rfl (by unfold maxLen; decide) rfl, (by repeat (first | exact Below.refl _ _ | assumption | refine Below.drew ?_ | refine below_drewN ?_ _ | refine Below.alloc ?_ (by first | omega | (simp <;> omega)) _ | refine Below.setCell ?_ (by first | omega | (simp <;> omega)) _ | refine Below.trans ?_ (Below.mono (by assumption) (by first | omega | (simp <;> omega)))))⟩
  · by_cases hm : m = 0
    · subst hm
      have hr := Lib.hid (show invF 3 i j 0 = [⟨3, i, j, 0⟩] from rfl)
      go_enter Try.func23, Try.ntmps23
      go_wp2_with fail
      go_ret
      exact ⟨_, rfl, by rw [hr.out]; exact own_lit _ _ _ _ _ [(⟨3, i, j, 0⟩ : E4)] (by simp) (by first | omega | (simp <;> omega)) rfl (by unfold maxLen; decide) rfl, (by repeat (first | exact Below.refl _ _ | assumption | refine Below.drew ?_ | refine below_drewN ?_ _ | refine Below.alloc ?_ (by first | omega | (simp <;> omega)) _ | refine Below.setCell ?_ (by first | omega | (simp <;> omega)) _ | refine Below.trans ?_ (Below.mono (by assumption) (by first | omega | (simp <;> omega)))))⟩
    · have hr := Lib.hid (show invF 3 i j m = [⟨1, j, 0, 8 - m⟩, ⟨3, i, j, 0⟩] from by simp [invF, hm])
      have hm0 : (m == 0) = false := by simpa using hm
      have hm1 : 0 < m := by omega
      clear hm
      go_enter Try.func23, Try.ntmps23
      go_wp2_with fail
      go_ret
      exact ⟨_, rfl, by rw [hr.out]; exact own_lit _ _ _ _ _ [(⟨1, j, 0, 8 - m⟩ : E4), ⟨3, i, j, 0⟩] (by simp) (by first | omega | (simp <;> omega)) rfl (by unfold maxLen; decide) rfl, (by repeat (first | exact Below.refl _ _ | assumption | refine Below.drew ?_ | refine below_drewN ?_ _ | refine Below.alloc ?_ (by first | omega | (simp <;> omega)) _ | refine Below.setCell ?_ (by first | omega | (simp <;> omega)) _ | refine Below.trans ?_ (Below.mono (by assumption) (by first | omega | (simp <;> omega)))))⟩
theorem invG_none {n k i j m : Int} (h : ¬ TLok n k i j m) : invG n k i j m = none := if_neg h
theorem invG_some {n k i j m : Int} (h : TLok n k i j m) : invG n k i j m = some (invF k i j m) := if_pos h
theorem invG_len (n k i j m : Int) : ((invG n k i j m).getD []).length ≤ 1000000 := by
  have h : (invF k i j m).length ≤ 2 := by
    unfold invF
    split
    · simp
    · split <;> simp
  unfold invG
  split
  · simp only [Option.getD_some]; omega
  · simp
theorem spec_InverseTwoLevel_any (n k i j m : Int) (w : World) (hi0 : -9223372036854775808 ≤ i) (hi1 : i ≤ 9223372036854775807) :
    Calls Try.prog 8 #[.int .i64 n, .agg #[.int .i64 k, .int .i64 i, .int .i64 j, .int .i64 m]] w (SlPost E4.cs 4 34 w (invG n k i j m)) := by
  by_cases hg : TLok n k i j m
  · have Hr := Lib.hid (invG_some hg)
    have d1 : decide (TLok n k i j m) = true := decide_eq_true hg
    have D1 := Lib.hid d1; clear d1
    go_enter Try.func8, Try.ntmps8
    go_wp2_with fail
    refine (spec_l11Valid_any _ _ _ _ _ _).mono ?_; rintro e w1 ⟨rfl, hb1⟩
    rw [D1.out]; obtain ⟨hc_hb1, hf_hb1⟩ := bcell hb1; have hz_hb1 := hb1.size; try simp at hz_hb1; have hs0_hb1 : w.heap.size < w1.heap.size := by omega
    go_wp2_with fail
    refine (spec_l11Inverse_any n _ _ _ _ _ hg).mono ?_; rintro e w2 ⟨v, rfl, ho, hb2⟩
    have Ho := Lib.hid ho; clear ho
    go_wp2_with fail
    go_ret2
    exact SlPost.some Hr.out (OwnE.le Ho.out (by omega)) (by repeat (first | exact Below.refl _ _ | assumption | refine Below.drew ?_ | refine below_drewN ?_ _ | refine Below.alloc ?_ (by first | omega | (simp <;> omega)) _ | refine Below.setCell ?_ (by first | omega | (simp <;> omega)) _ | refine Below.trans ?_ (Below.mono (by assumption) (by first | omega | (simp <;> omega)))))
  · have Hr := Lib.hid (invG_none hg)
    have d1 : decide (TLok n k i j m) = false := decide_eq_false hg
    have D1 := Lib.hid d1; clear d1 hg
    go_enter Try.func8, Try.ntmps8
    go_wp2_with fail
    refine (spec_l11Valid_any _ _ _ _ _ _).mono ?_; rintro e w1 ⟨rfl, hb1⟩
    rw [D1.out]; obtain ⟨hc_hb1, hf_hb1⟩ := bcell hb1; have hz_hb1 := hb1.size; try simp at hz_hb1; have hs0_hb1 : w.heap.size < w1.heap.size := by omega
    go_wp2_with fail
    go_ret2
    exact SlPost.none Hr.out (by repeat (first | exact Below.refl _ _ | assumption | refine Below.drew ?_ | refine below_drewN ?_ _ | refine Below.alloc ?_ (by first | omega | (simp <;> omega)) _ | refine Below.setCell ?_ (by first | omega | (simp <;> omega)) _ | refine Below.trans ?_ (Below.mono (by assumption) (by first | omega | (simp <;> omega)))))
theorem impl_InverseTwoLevel_any (n k i j m : Int) (w : World) (hi0 : -9223372036854775808 ≤ i) (hi1 : i ≤ 9223372036854775807) :
    Calls Try.prog 10 #[.int .i64 n, .agg #[.int .i64 k, .int .i64 i, .int .i64 j, .int .i64 m]] w (SlPost E4.cs 4 34 w (invG n k i j m)) := by
  by_cases hg : TLok n k i j m
  · have Hr := Lib.hid (invG_some hg)
    have d1 : decide (TLok n k i j m) = true := decide_eq_true hg
    have D1 := Lib.hid d1; clear d1
    go_enter Try.func10, Try.ntmps10
    go_wp2_with fail
    refine (impl_IsValidTwoLevel_any _ _ _ _ _ _ hi0 hi1).mono ?_; rintro e w1 ⟨rfl, hb1⟩
    rw [D1.out]; obtain ⟨hc_hb1, hf_hb1⟩ := bcell hb1; have hz_hb1 := hb1.size; try simp at hz_hb1; have hs0_hb1 : w.heap.size < w1.heap.size := by omega
    go_wp2_with fail
    refine (impl_inverseLevels_any n _ _ _ _ _ hg).mono ?_; rintro e w2 ⟨v, rfl, ho, hb2⟩
    have Ho := Lib.hid ho; clear ho
    go_wp2_with fail
    go_ret2
    exact SlPost.some Hr.out (OwnE.le Ho.out (by omega)) (by repeat (first | exact Below.refl _ _ | assumption | refine Below.drew ?_ | refine below_drewN ?_ _ | refine Below.alloc ?_ (by first | omega | (simp <;> omega)) _ | refine Below.setCell ?_ (by first | omega | (simp <;> omega)) _ | refine Below.trans ?_ (Below.mono (by assumption) (by first | omega | (simp <;> omega)))))
  · have Hr := Lib.hid (invG_none hg)
    have d1 : decide (TLok n k i j m) = false := decide_eq_false hg
    have D1 := Lib.hid d1; clear d1 hg
    go_enter Try.func10, Try.ntmps10
    go_wp2_with fail
    refine (impl_IsValidTwoLevel_any _ _ _ _ _ _ hi0 hi1).mono ?_; rintro e w1 ⟨rfl, hb1⟩
    rw [D1.out]; obtain ⟨hc_hb1, hf_hb1⟩ := bcell hb1; have hz_hb1 := hb1.size; try simp at hz_hb1; have hs0_hb1 : w.heap.size < w1.heap.size := by omega
    go_wp2_with fail
    go_ret2
    exact SlPost.none Hr.out (by repeat (first | exact Below.refl _ _ | assumption | refine Below.drew ?_ | refine below_drewN ?_ _ | refine Below.alloc ?_ (by first | omega | (simp <;> omega)) _ | refine Below.setCell ?_ (by first | omega | (simp <;> omega)) _ | refine Below.trans ?_ (Below.mono (by assumption) (by first | omega | (simp <;> omega)))))
end Go.Proofs.Ytfjokpgcmhebfaa
