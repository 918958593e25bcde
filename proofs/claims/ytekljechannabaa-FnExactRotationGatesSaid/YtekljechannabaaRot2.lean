/- RotationGates in the program and in the reference. -/
import Derived.Test.YtekljechannabaaRot
import Derived.Test.YtekljechannabaaTwo1
namespace Go.Proofs.Ytekljechannabaa
set_option linter.unusedSimpArgs false
set_option linter.unusedVariables false
open Go.ChangeShapes Go.WideShapes Go.ChangeAt Go.RowKit

theorem spec_l13Rotation_any (q c : Int) (w : World) (h0 : 0 ≤ c) (h1 : c ≤ 7) :
    Calls Try.prog 51 #[.int .i64 q, .int .i64 c] w fun e w' => ∃ v, e = .returned v ∧ OwnE w' w.heap.size 71 v E3.cs 3 (rotF q c) ∧ Below w.heap.size w w' := by
  have hc : c = 0 ∨ c = 1 ∨ c = 2 ∨ c = 3 ∨ c = 4 ∨ c = 5 ∨ c = 6 ∨ c = 7 := by omega
  rcases hc with rfl | rfl | rfl | rfl | rfl | rfl | rfl | rfl
  · exact spec_l13Rotation_0 q w
  · exact spec_l13Rotation_1 q w
  · exact spec_l13Rotation_2 q w
  · exact spec_l13Rotation_3 q w
  · exact spec_l13Rotation_4 q w
  · exact spec_l13Rotation_5 q w
  · exact spec_l13Rotation_6 q w
  · exact spec_l13Rotation_7 q w
theorem impl_rotation_any (q c : Int) (w : World) (h0 : 0 ≤ c) (h1 : c ≤ 7) :
    Calls Try.prog 52 #[.int .i64 q, .int .i64 c] w fun e w' => ∃ v, e = .returned v ∧ OwnE w' w.heap.size 71 v E3.cs 3 (rotF q c) ∧ Below w.heap.size w w' := by
  have hc : c = 0 ∨ c = 1 ∨ c = 2 ∨ c = 3 ∨ c = 4 ∨ c = 5 ∨ c = 6 ∨ c = 7 := by omega
  rcases hc with rfl | rfl | rfl | rfl | rfl | rfl | rfl | rfl
  · exact impl_rotation_0 q w
  · exact impl_rotation_1 q w
  · exact impl_rotation_2 q w
  · exact impl_rotation_3 q w
  · exact impl_rotation_4 q w
  · exact impl_rotation_5 q w
  · exact impl_rotation_6 q w
  · exact impl_rotation_7 q w

/-- What a function that answers a list of gates and 'ok' leaves: the gates in a block of its own. -/
def SlPost {α : Type} (f : α → List Value) (sz : Nat) (t : TypeId) (w : World) (r : Option (List α)) (e : Ending) (w' : World) : Prop :=
  ∃ v, e = .returned (.tuple #[v, .bool r.isSome]) ∧ OwnE w' w.heap.size t v f sz (r.getD []) ∧ Below w.heap.size w w'
def rotG (q c : Int) : Option (List E3) := if 0 ≤ q ∧ q ≤ 4 ∧ 0 ≤ c ∧ c ≤ 7 then some (rotF q c) else none
theorem rotG_len (q c : Int) : ((rotG q c).getD []).length ≤ 1000000 := by
  unfold rotG; split
  · simp only [Option.getD_some, rotF, List.length_map, rotKinds]; repeat (first | split | decide)
  · simp
theorem rotG_none {q c : Int} (h : ¬ (0 ≤ q ∧ q ≤ 4 ∧ 0 ≤ c ∧ c ≤ 7)) : rotG q c = none := if_neg h
theorem rotG_some {q c : Int} (h : 0 ≤ q ∧ q ≤ 4 ∧ 0 ≤ c ∧ c ≤ 7) : rotG q c = some (rotF q c) := if_pos h
theorem SlPost.none {α : Type} {f : α → List Value} {sz : Nat} {t : TypeId} {w w' : World} {r : Option (List α)} (hr : r = none) (hb : Below w.heap.size w w') : SlPost f sz t w r (.returned (.tuple #[.slice none 0 0, .bool false])) w' := by
  subst hr; exact ⟨_, rfl, OwnE.nil _ _ _, hb⟩
theorem SlPost.some {α : Type} {f : α → List Value} {sz : Nat} {t : TypeId} {w w' : World} {r : Option (List α)} {xs : List α} {v : Value} (hr : r = some xs) (ho : OwnE w' w.heap.size t v f sz xs) (hb : Below w.heap.size w w') : SlPost f sz t w r (.returned (.tuple #[v, .bool true])) w' := by
  subst hr; exact ⟨_, rfl, ho, hb⟩

theorem spec_RotationGates_any (q c : Int) (w : World) :
    Calls Try.prog 30 #[.int .i64 q, .int .i64 c] w (SlPost E3.cs 3 71 w (rotG q c)) := by
  by_cases hg : 0 ≤ q ∧ q ≤ 4 ∧ 0 ≤ c ∧ c ≤ 7
  · obtain ⟨h1, h2, h3, h4⟩ := hg
    have Hr := Lib.hid (rotG_some ⟨h1, h2, h3, h4⟩)
    have d1 : decide (0 ≤ q ∧ q ≤ 4) = true := by simp; omega
    have d2 : decide (0 ≤ c ∧ c ≤ 7) = true := by simp; omega
    have D1 := Lib.hid d1; have D2 := Lib.hid d2; clear d1 d2
    go_enter Try.func30, Try.ntmps30
    go_wp2_with fail
    refine (l1In_p _ _ _ _).mono ?_; rintro e w' ⟨rfl, rfl⟩
    rw [D1.out]
    go_wp2_with fail
    refine (l1In_p _ _ _ _).mono ?_; rintro e w' ⟨rfl, rfl⟩
    rw [D2.out]
    go_wp2_with fail
    refine (spec_l13Rotation_any _ _ _ h3 h4).mono ?_; rintro e w1 ⟨v, rfl, ho, hb1⟩
    have Ho := Lib.hid ho; clear ho
    go_wp2_with fail
    go_ret2
    exact SlPost.some Hr.out Ho.out hb1
  · have Hr := Lib.hid (rotG_none hg)
    by_cases hq : 0 ≤ q ∧ q ≤ 4
    · have d1 : decide (0 ≤ q ∧ q ≤ 4) = true := decide_eq_true hq
      have d2 : decide (0 ≤ c ∧ c ≤ 7) = false := by simp; omega
      have D1 := Lib.hid d1; have D2 := Lib.hid d2; clear d1 d2 hg hq
      go_enter Try.func30, Try.ntmps30
      go_wp2_with fail
      refine (l1In_p _ _ _ _).mono ?_; rintro e w' ⟨rfl, rfl⟩
      rw [D1.out]
      go_wp2_with fail
      refine (l1In_p _ _ _ _).mono ?_; rintro e w' ⟨rfl, rfl⟩
      rw [D2.out]
      go_wp2_with fail
      go_ret2
      exact SlPost.none Hr.out (by repeat (first | exact Below.refl _ _ | assumption | refine Below.drew ?_ | refine below_drewN ?_ _ | refine Below.alloc ?_ (by first | omega | (simp <;> omega)) _ | refine Below.setCell ?_ (by first | omega | (simp <;> omega)) _ | refine Below.trans ?_ (Below.mono (by assumption) (by first | omega | (simp <;> omega)))))
    · have d1 : decide (0 ≤ q ∧ q ≤ 4) = false := decide_eq_false hq
      have D1 := Lib.hid d1; clear d1 hg hq
      go_enter Try.func30, Try.ntmps30
      go_wp2_with fail
      refine (l1In_p _ _ _ _).mono ?_; rintro e w' ⟨rfl, rfl⟩
      rw [D1.out]
      go_wp2_with fail
      go_ret2
      exact SlPost.none Hr.out (by repeat (first | exact Below.refl _ _ | assumption | refine Below.drew ?_ | refine below_drewN ?_ _ | refine Below.alloc ?_ (by first | omega | (simp <;> omega)) _ | refine Below.setCell ?_ (by first | omega | (simp <;> omega)) _ | refine Below.trans ?_ (Below.mono (by assumption) (by first | omega | (simp <;> omega)))))
theorem impl_RotationGates_any (q c : Int) (w : World) :
    Calls Try.prog 31 #[.int .i64 q, .int .i64 c] w (SlPost E3.cs 3 71 w (rotG q c)) := by
  by_cases hg : 0 ≤ q ∧ q ≤ 4 ∧ 0 ≤ c ∧ c ≤ 7
  · obtain ⟨h1, h2, h3, h4⟩ := hg
    have Hr := Lib.hid (rotG_some ⟨h1, h2, h3, h4⟩)
    have d1 : decide (0 ≤ q ∧ q ≤ 4) = true := by simp; omega
    have d2 : decide (0 ≤ c ∧ c ≤ 7) = true := by simp; omega
    have D1 := Lib.hid d1; have D2 := Lib.hid d2; clear d1 d2
    go_enter Try.func31, Try.ntmps31
    go_wp2_with fail
    refine (within_p _ _ _ _).mono ?_; rintro e w' ⟨rfl, rfl⟩
    rw [D1.out]
    go_wp2_with fail
    refine (within_p _ _ _ _).mono ?_; rintro e w' ⟨rfl, rfl⟩
    rw [D2.out]
    go_wp2_with fail
    refine (impl_rotation_any _ _ _ h3 h4).mono ?_; rintro e w1 ⟨v, rfl, ho, hb1⟩
    have Ho := Lib.hid ho; clear ho
    go_wp2_with fail
    go_ret2
    exact SlPost.some Hr.out Ho.out hb1
  · have Hr := Lib.hid (rotG_none hg)
    by_cases hq : 0 ≤ q ∧ q ≤ 4
    · have d1 : decide (0 ≤ q ∧ q ≤ 4) = true := decide_eq_true hq
      have d2 : decide (0 ≤ c ∧ c ≤ 7) = false := by simp; omega
      have D1 := Lib.hid d1; have D2 := Lib.hid d2; clear d1 d2 hg hq
      go_enter Try.func31, Try.ntmps31
      go_wp2_with fail
      refine (within_p _ _ _ _).mono ?_; rintro e w' ⟨rfl, rfl⟩
      rw [D1.out]
      go_wp2_with fail
      refine (within_p _ _ _ _).mono ?_; rintro e w' ⟨rfl, rfl⟩
      rw [D2.out]
      go_wp2_with fail
      go_ret2
      exact SlPost.none Hr.out (by repeat (first | exact Below.refl _ _ | assumption | refine Below.drew ?_ | refine below_drewN ?_ _ | refine Below.alloc ?_ (by first | omega | (simp <;> omega)) _ | refine Below.setCell ?_ (by first | omega | (simp <;> omega)) _ | refine Below.trans ?_ (Below.mono (by assumption) (by first | omega | (simp <;> omega)))))
    · have d1 : decide (0 ≤ q ∧ q ≤ 4) = false := decide_eq_false hq
      have D1 := Lib.hid d1; clear d1 hg hq
      go_enter Try.func31, Try.ntmps31
      go_wp2_with fail
      refine (within_p _ _ _ _).mono ?_; rintro e w' ⟨rfl, rfl⟩
      rw [D1.out]
      go_wp2_with fail
      go_ret2
      exact SlPost.none Hr.out (by repeat (first | exact Below.refl _ _ | assumption | refine Below.drew ?_ | refine below_drewN ?_ _ | refine Below.alloc ?_ (by first | omega | (simp <;> omega)) _ | refine Below.setCell ?_ (by first | omega | (simp <;> omega)) _ | refine Below.trans ?_ (Below.mono (by assumption) (by first | omega | (simp <;> omega)))))
end Go.Proofs.Ytekljechannabaa
