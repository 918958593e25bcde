/- Lists of whole numbers in the laws' helpers: equal, marked, held, sized, copied; and the reference's test on all of them. -/
import Derived.Test.YtindldkileidmaaDoorSlice0
import Derived.Test.YtindldkileidmaaDoorTwo1
namespace Go.Proofs.YtindldkileidmaaDoor
set_option linter.unusedSimpArgs false
set_option linter.unusedVariables false
set_option linter.unnecessarySimpa false
set_option maxRecDepth 200000
open Go.ChangeShapes Go.WideShapes Go.ChangeAt Go.RowKit

def allIn (zs : List Int) (lo hi : Int) : Bool := zs.all fun z => decide (lo ≤ z ∧ z ≤ hi)
theorem allIn_step {zs : List Int} {lo hi : Int} {k : Nat} (h : Hid (allIn (zs.take k) lo hi = true)) (hk : k < zs.length) (h1 : lo ≤ zs.getD k 0 ∧ zs.getD k 0 ≤ hi) : Hid (allIn (zs.take (k + 1)) lo hi = true) := by
  have h := h.out
  show allIn _ lo hi = true
  rw [take_next zs k hk]
  simp [allIn, List.all_append] at h ⊢
  exact ⟨h, by simpa using h1⟩
theorem allIn_fail {zs : List Int} {lo hi : Int} {k : Nat} (hk : k < zs.length) (h1 : ¬ (lo ≤ zs.getD k 0 ∧ zs.getD k 0 ≤ hi)) : false = allIn zs lo hi := by
  symm
  unfold allIn
  rw [List.all_eq_false]
  exact ⟨zs.getD k 0, by simp [List.getD, hk], by simpa using h1⟩
theorem allIn_end {zs : List Int} {lo hi : Int} {k : Nat} (h : Hid (allIn (zs.take k) lo hi = true)) (hk : zs.length ≤ k) : true = allIn zs lo hi := by
  have h := h.out
  rw [List.take_of_length_le hk] at h
  exact h.symm

theorem spec_l1All_any (v : Value) (zs : List Int) (lo hi : Int) (w : World) (h : RdI w v zs) :
    Calls Tryd.prog 36 #[v, .int .i64 lo, .int .i64 hi] w fun e w' => e = .returned (.bool (allIn zs lo hi)) ∧ w = w' := by
  rcases h.cases with ⟨⟨a0, c0, rfl⟩, rfl⟩ | ⟨b, off, cap, rfl, hb, hl, hm, hc⟩
  · go_enter Tryd.func36, Tryd.ntmps36
    go_wp2_with fail
    refine wp_loop_rounds 1 ?_
    rw [rounds_succ]
    go_wp2_with fail
    go_ret
    exact ⟨rfl, rfl⟩
  · clear h
    go_enter Tryd.func36, Tryd.ntmps36
    go_wp2_with fail
    go_loop [11] (fun i => ∃ k : Nat, k ≤ zs.length ∧ i = .int .i64 k ∧ Hid (allIn (zs.take k) lo hi = true)) (fun i => zs.length - (intOf i).toNat)
    case atStart => exact ⟨0, Nat.zero_le _, rfl, rfl⟩
    case round =>
      obtain ⟨k, hk, rfl, hpre⟩ := hrel
      by_cases hlt : k < zs.length
      · have hcell := hc k hlt
        clear hc
        go_wp2_with (go_at_call 26; refine (l1In_p _ _ _ _).mono ?_; rintro e w' ⟨rfl, rfl⟩)
        all_goals first
          | (go_round
             case rel => exact ⟨k + 1, by omega, by go_num, allIn_step hpre hlt (by go_light; simp_all)⟩
             case measure => simp [intOf]; omega)
          | (go_ret; exact ⟨ret_bool (allIn_fail hlt (by go_light; simp_all; try omega)), rfl⟩)
      · clear hc
        go_wp2_with fail
        go_ret
        exact ⟨ret_bool (allIn_end hpre (by omega)), rfl⟩

theorem eq_step {xs ys : List Int} {k : Nat} (h : Hid (xs.take k = ys.take k)) (h1 : k < xs.length) (h2 : k < ys.length) (he : xs.getD k 0 = ys.getD k 0) : Hid (xs.take (k + 1) = ys.take (k + 1)) := by
  show _ = _
  rw [take_next xs k h1, take_next ys k h2, h.out, he]
theorem eq_fail {xs ys : List Int} {k : Nat} (he : ¬ xs.getD k 0 = ys.getD k 0) : false = decide (xs = ys) := by
  symm; rw [decide_eq_false_iff_not]; rintro rfl; exact he rfl
theorem eq_end {xs ys : List Int} {k : Nat} (h : Hid (xs.take k = ys.take k)) (h1 : xs.length ≤ k) (h2 : ys.length ≤ k) : true = decide (xs = ys) := by
  have h := h.out
  rw [List.take_of_length_le h1, List.take_of_length_le h2] at h
  simp [h]
/-- The cells that a helper has marked: whole numbers in a row, from k on. -/
def marks (k : Int) (n : Nat) : List Value := (List.range n).map fun i : Nat => Value.int .i64 (k + i)
theorem marks_len (k : Int) (n : Nat) : (marks k n).length = n := by simp [marks]
theorem marks_get (k : Int) (n j : Nat) (h : j < n) : (marks k n)[j]? = some (.int .i64 (k + j)) := by simp [marks, h]
theorem marks_step (k : Int) (j : Nat) (xs : List Value) (h : j < xs.length) : (marks k j ++ xs.drop j).set j (.int .i64 (k + j)) = marks k (j + 1) ++ xs.drop (j + 1) := by
  have e : xs.drop j = xs[j] :: xs.drop (j + 1) := by rw [List.drop_eq_getElem_cons h]
  rw [List.set_append_right _ _ (by simp [marks_len]), marks_len, Nat.sub_self, e, List.set_cons_zero]
  simp [marks, List.range_succ]
theorem marks_cell {w : World} {base : Nat} {e : TypeId} {g n cap j sz : Nat} {xs : List Value} (h : w.ownsRow base e sz (.slice (some ⟨g, 0, none⟩) n cap) n xs) (hj : j < n * sz) : ∃ u, w.cell? ⟨g, j, none⟩ = some u := by
  rw [h.cellAt j hj]
  have := h.1
  exact ⟨xs[j], by rw [List.getElem?_eq_getElem (by omega)]⟩

end Go.Proofs.YtindldkileidmaaDoor
