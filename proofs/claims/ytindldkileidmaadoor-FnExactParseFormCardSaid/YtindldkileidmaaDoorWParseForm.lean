/- The walk through the law FnExactParseForm. -/
import Derived.Test.YtindldkileidmaaDoorPf5
import Derived.Test.YtindldkileidmaaDoorPf6
import Derived.Test.YtindldkileidmaaDoorPf7
import Derived.Test.YtindldkileidmaaDoorPf11
import Derived.Test.YtindldkileidmaaDoorPf12
namespace Go.Proofs.YtindldkileidmaaDoor
set_option linter.unusedSimpArgs false
set_option linter.unusedVariables false
set_option linter.unnecessarySimpa false
set_option maxRecDepth 200000
open Go.ChangeShapes Go.WideShapes Go.ChangeAt Go.RowKit

set_option maxHeartbeats 1000000 in
theorem eqNormalForm_same (h : ByteArray) (c p : Int) (w : World) :
    Calls Tryd.prog 12 #[.agg #[.string h, .int .i64 c, .int .i64 p], .agg #[.string h, .int .i64 c, .int .i64 p]] w fun e w' => e = .returned (.bool true) ∧ Below w.heap.size w w' := by
  have he : (h.toList == h.toList) = true := beq_self_eq_true _
  go_enter Tryd.func12, Tryd.ntmps12
  go_wp2_with fail
  go_ret
  exact ⟨rfl, (by repeat (first | exact Below.refl _ _ | assumption | refine Below.drew ?_ | refine below_drewN ?_ _ | refine Below.alloc ?_ (by first | omega | (simp <;> omega)) _ | refine Below.setCell ?_ (by first | omega | (simp <;> omega)) _ | refine Below.trans ?_ (Below.mono (by assumption) (by first | omega | (simp <;> omega)))))⟩
/-- What both readings of a text come to. -/
def parsed (s : ByteArray) (h : ByteArray) (c p : Int) (q : Bool) : Prop :=
  (∀ w : World, s.size ≤ 1048576 → Calls Tryd.prog 10 #[.string s] w fun e w' => e = .returned (.tuple #[.agg #[.string h, .int .i64 c, .int .i64 p], .bool q]) ∧ Below w.heap.size w w') ∧
  (∀ w : World, s.size ≤ 1048576 → MaxL w → Strc w → Calls Tryd.prog 11 #[.string s] w fun e w' => e = .returned (.tuple #[.agg #[.string h, .int .i64 c, .int .i64 p], .bool q]) ∧ Below w.heap.size w w')
theorem three_of {l : List (List UInt8)} (h : l.length = 3) : ∃ a b d : ByteArray, l = [a.data.toList, b.data.toList, d.data.toList] := by
  match l, h with
  | [x, y, z], _ => exact ⟨⟨x.toArray⟩, ⟨y.toArray⟩, ⟨z.toArray⟩, by simp⟩
theorem parsed_any (s : ByteArray) : ∃ h c p q, parsed s h c p q := by
  by_cases h3 : (cutW 32 s.data.toList).length = 3
  · obtain ⟨a, b, d, hw⟩ := three_of h3
    have hal := made_alike (s := s) (h := headOf a) (f := readG) (g := atoG) (fun k hk => read_num hk) (fun k hk => ato_num hk) hw
    cases hm : madeB s (headOf a) (readG b) (readG d) with
    | true =>
      obtain ⟨e1, e2⟩ := made_read (f := readG) (g := atoG) (fun k hk => read_num hk) (fun k hk => ato_num hk) hw hm
      refine ⟨headOf a, readG b, readG d, true, fun w hs => spec_ParseForm_three s a b d w hs hw hm, fun w hs hl hc => ?_⟩
      refine (impl_ParseForm_three s a b d w hs hl hc hw).mono fun e w' h => ?_
      rw [e1, e2] at h
      unfold formAns at h
      rw [hm] at h
      exact h
    | false =>
      refine ⟨⟨#[]⟩, 0, 0, false, fun w hs => spec_ParseForm_bad s a b d w hs hw hm, fun w hs hl hc => ?_⟩
      refine (impl_ParseForm_three s a b d w hs hl hc hw).mono fun e w' h => ?_
      rw [hm] at hal
      unfold formAns at h
      rw [← hal] at h
      exact h
  · exact ⟨⟨#[]⟩, 0, 0, false, fun w hs => spec_ParseForm_few s w hs h3, fun w hs hl _ => impl_ParseForm_few s w hs hl h3⟩
set_option maxHeartbeats 1000000 in
theorem walk_FnExactParseForm (s : ByteArray) (w : World) (hz : s.size ≤ 9223372036854775807) (hl : MaxL w) (hc : Strc w) :
    Calls Tryd.prog 4 #[.string s] w fun e w' => e = .returned (.bool true) ∧ Below w.heap.size w w' := by
  by_cases hs : s.size ≤ 1048576
  · have i0 : ¬ (1048576 : Int) < (s.size : Int) := by omega
    obtain ⟨h, c, p, q, hp⟩ := parsed_any s
    have HP := Lib.hid hp
    have HL := Lib.hid hl
    have HC := Lib.hid hc
    clear hp hl hc
    go_enter Tryd.func4, Tryd.ntmps4
    go_wp2_with fail
    refine (HP.out.1 _ hs).mono ?_; rintro e w1 ⟨rfl, hb1⟩
    have z1 := hb1.size
    have BX : Below w.heap.size w (w1.alloc (.cells #[.string h, .int .i64 c, .int .i64 p] 29)) := (by repeat (first | exact Below.refl _ _ | assumption | refine Below.drew ?_ | refine below_drewN ?_ _ | refine Below.alloc ?_ (by first | omega | (simp <;> omega)) _ | refine Below.setCell ?_ (by first | omega | (simp <;> omega)) _ | refine Below.trans ?_ (Below.mono (by assumption) (by first | omega | (simp <;> omega)))))
    have x0 : (w1.alloc (.cells #[.string h, .int .i64 c, .int .i64 p] 29)).cell? ⟨w1.heap.size, 0, none⟩ = some (.string h) := (by repeat (first | (refine Eq.trans (World.cell?_alloc_at _ _ _ _ ?hh) ?_; (case hh => (simp; done)); rfl) | refine cell_alloc_keep _ ?_))
    have x1 : (w1.alloc (.cells #[.string h, .int .i64 c, .int .i64 p] 29)).cell? ⟨w1.heap.size, 1, none⟩ = some (.int .i64 c) := (by repeat (first | (refine Eq.trans (World.cell?_alloc_at _ _ _ _ ?hh) ?_; (case hh => (simp; done)); rfl) | refine cell_alloc_keep _ ?_))
    have x2 : (w1.alloc (.cells #[.string h, .int .i64 c, .int .i64 p] 29)).cell? ⟨w1.heap.size, 2, none⟩ = some (.int .i64 p) := (by repeat (first | (refine Eq.trans (World.cell?_alloc_at _ _ _ _ ?hh) ?_; (case hh => (simp; done)); rfl) | refine cell_alloc_keep _ ?_))
    go_wp2_with fail
    refine (HP.out.2 _ hs (HL.out.call BX) (HC.out.call BX)).mono ?_; rintro e w2 ⟨rfl, hb2⟩
    replace x0 := bel_pf hb2 x0; replace x1 := bel_pf hb2 x1; replace x2 := bel_pf hb2 x2
    have z2 := hb2.size
    replace BX := Below.trans BX (hb2.mono (by simp; omega))
    clear hb1 hb2
    replace x0 := cell_alloc_keep (.cells #[.string h, .int .i64 c, .int .i64 p] 29) x0
    replace x1 := cell_alloc_keep (.cells #[.string h, .int .i64 c, .int .i64 p] 29) x1
    replace x2 := cell_alloc_keep (.cells #[.string h, .int .i64 c, .int .i64 p] 29) x2
    go_wp2_with fail
    refine (eqNormalForm_same _ _ _ _).mono ?_; rintro e w3 ⟨rfl, hb3⟩
    replace BX : Below w.heap.size w w3 := Below.trans BX ((show Below w2.heap.size w2 w3 from below_step (by repeat (first | exact Below.refl _ _ | assumption | refine Below.drew ?_ | refine below_drewN ?_ _ | refine Below.alloc ?_ (by first | omega | (simp <;> omega)) _ | refine Below.setCell ?_ (by first | omega | (simp <;> omega)) _ | refine Below.trans ?_ (Below.mono (by assumption) (by first | omega | (simp <;> omega))))) hb3).mono (by simp at z2; omega))
    clear hb3
    cases q with
    | true =>
      go_wp2_with fail
      go_ret
      exact ⟨rfl, (by repeat (first | exact Below.refl _ _ | assumption | refine Below.drew ?_ | refine below_drewN ?_ _ | refine Below.alloc ?_ (by first | omega | (simp <;> omega)) _ | refine Below.setCell ?_ (by first | omega | (simp <;> omega)) _ | refine Below.trans ?_ (Below.mono (by assumption) (by first | omega | (simp <;> omega)))))⟩
    | false =>
      go_wp2_with fail
      go_ret
      exact ⟨rfl, (by repeat (first | exact Below.refl _ _ | assumption | refine Below.drew ?_ | refine below_drewN ?_ _ | refine Below.alloc ?_ (by first | omega | (simp <;> omega)) _ | refine Below.setCell ?_ (by first | omega | (simp <;> omega)) _ | refine Below.trans ?_ (Below.mono (by assumption) (by first | omega | (simp <;> omega)))))⟩
  · have i0 : (1048576 : Int) < (s.size : Int) := by omega
    clear hs hl hc
    go_enter Tryd.func4, Tryd.ntmps4
    go_wp2_with fail
    go_ret
    exact ⟨rfl, (by repeat (first | exact Below.refl _ _ | assumption | refine Below.drew ?_ | refine below_drewN ?_ _ | refine Below.alloc ?_ (by first | omega | (simp <;> omega)) _ | refine Below.setCell ?_ (by first | omega | (simp <;> omega)) _ | refine Below.trans ?_ (Below.mono (by assumption) (by first | omega | (simp <;> omega)))))⟩
end Go.Proofs.YtindldkileidmaaDoor
