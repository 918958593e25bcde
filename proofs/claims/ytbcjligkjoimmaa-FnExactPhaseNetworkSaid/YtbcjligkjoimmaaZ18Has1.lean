/- Is a number among those of a list: the reference's l1Has and slices.Contains. -/
import Derived.Test.YtbcjligkjoimmaaZ17Set1
import Derived.Test.YtbcjligkjoimmaaShelf
namespace Go.Proofs.Ytbcjligkjoimmaa
set_option linter.unusedSimpArgs false
set_option linter.unusedVariables false
set_option linter.unnecessarySimpa false
set_option maxRecDepth 200000
open Go.ChangeShapes Go.WideShapes Go.ChangeAt Go.RowKit

/-- Is a number among those of a list? -/
def hasB (L : List Nat) (x : Nat) : Bool := L.any fun y => decide (y = x)
theorem has_yes {L : List Nat} {x k : Nat} (hk : k < L.length) (h : L.getD k 0 = x) : true = hasB L x := by
  symm; unfold hasB; rw [List.any_eq_true]
  exact ⟨L[k], List.getElem_mem hk, by rw [getD_lt hk] at h; simpa using h⟩
theorem has_no {L : List Nat} {x k : Nat} (hk : L.length ≤ k) (h : Hid (∀ j, j < k → j < L.length → L.getD j 0 ≠ x)) : false = hasB L x := by
  symm; unfold hasB; rw [List.any_eq_false]
  intro y hy
  obtain ⟨j, hj, rfl⟩ := List.mem_iff_getElem.1 hy
  have := h.out j (by omega) hj
  rw [getD_lt hj] at this
  simpa using this
theorem rd_low {w : World} {v : Value} {L : List Nat} (h : RdI w v (ints L)) (h0 : 0 < L.length) : ∃ b off cap, v = .slice (some ⟨b, off, none⟩) L.length cap ∧ b < w.heap.size ∧ L.length ≤ cap ∧ cap ≤ 9223372036854775807 ∧ ∀ j, j < L.length → w.cell? ⟨b, off + j, none⟩ = some (.int .i64 (L.getD j 0 : Nat)) := by
  rcases RdI.cases h with ⟨_, he⟩ | ⟨b, off, cap, rfl, hb, hl, hm, hc⟩
  · have hF : L = [] := by simpa [ints] using he
    subst hF; simp at h0
  · rw [ints_len] at hl hc ⊢
    exact ⟨b, off, cap, rfl, hb, hl, hm, fun j hj => by rw [hc j hj]; simp [ints, List.getD, hj]⟩
theorem spec_l1Has_any (v : Value) (L : List Nat) (x : Nat) (w : World) (h : RdI w v (ints L)) (h0 : 0 < L.length) :
    Calls Try.prog 54 #[v, .int .i64 (x : Int)] w fun e w' => e = .returned (.bool (hasB L x)) ∧ w = w' := by
  obtain ⟨b, off, cap, rfl, hb, hlc, hcm, hc⟩ := rd_low h h0
  have Hc := Lib.hid hc; clear hc h
  go_enter Try.func54, Try.ntmps54
  go_wp2_with fail
  go_loop [9] (fun i => ∃ k : Nat, k ≤ L.length ∧ i = .int .i64 k ∧ Hid (∀ j, j < k → j < L.length → L.getD j 0 ≠ x)) (fun i => L.length - (intOf i).toNat)
  case atStart => exact ⟨0, Nat.zero_le _, rfl, (fun j hj => by omega)⟩
  case round =>
    obtain ⟨k, hk, rfl, hpre⟩ := hrel
    by_cases hlt : k < L.length
    · have i1 : (k : Int) < (L.length : Int) := by omega
      obtain ⟨y, hy⟩ : ∃ y, y = L.getD k 0 := ⟨_, rfl⟩
      have cy := Hc.out k hlt
      rw [← hy] at cy
      by_cases hyx : y = x
      · have b1 : ((y : Int) == (x : Int)) = true := beq_iff_eq.2 (by rw [hyx])
        have HR := Lib.hid (has_yes (x := x) hlt (by rw [← hy]; exact hyx))
        clear hyx hy
        go_wp2_with fail
        go_ret
        exact ⟨ret_bool HR.out, rfl⟩
      · have b1 : ((y : Int) == (x : Int)) = false := by simpa using fun e => hyx (by omega)
        have HP : Hid (∀ j, j < k + 1 → j < L.length → L.getD j 0 ≠ x) := by
          intro j hj hjl
          by_cases e : j = k
          · subst e; rw [← hy]; exact hyx
          · exact hpre.out j (by omega) hjl
        clear hyx hy
        go_wp2_with fail
        go_round
        case rel => exact ⟨k + 1, by omega, by go_num, HP⟩
        case measure => simp [intOf]; omega
    · go_wp2_with fail
      go_ret
      exact ⟨ret_bool (has_no (by omega) hpre), rfl⟩
theorem has_cont (L : List Nat) (x : Nat) : ((ints L).take L.length).contains (x : Int) = hasB L x := by
  rw [List.take_of_length_le (by rw [ints_len]; exact Nat.le_refl _)]
  unfold hasB ints
  rw [Bool.eq_iff_iff]
  simp
  constructor
  · rintro ⟨a, ha, e⟩; exact (show a = x by omega) ▸ ha
  · exact fun h => ⟨x, h, rfl⟩
end Go.Proofs.Ytbcjligkjoimmaa
