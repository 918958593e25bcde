/- Slices of whole numbers that come in as a law's arguments: opened, measured, copied. -/
import Derived.Test.YtgonldkgghikiaaDoorLin1
import Derived.Test.YtgonldkgghikiaaDoorOpen1
import Derived.ChangeSlices
namespace Go.Proofs.YtgonldkgghikiaaDoor
set_option linter.unusedSimpArgs false
set_option linter.unusedVariables false
set_option linter.unnecessarySimpa false
set_option maxRecDepth 200000
open Go.ChangeShapes Go.WideShapes Go.ChangeAt Go.RowKit Go.Joins

def InI64 (zs : List Int) : Prop := ∀ z ∈ zs, -9223372036854775808 ≤ z ∧ z ≤ 9223372036854775807
def IsIntS (w : World) (v : Value) : Prop := ∃ zs : List Int, RdI w v zs ∧ InI64 zs
theorem addr_none {w : World} {a : Addr} {u : Value} (h : w.cell? a = some u) : a.spot = none := by
  unfold World.cell? at h
  split at h
  · split at h
    · cases h
    · rename_i hs; simpa using hs
  · cases h
section
variable {H : Type} {enc : TypeId × Value → H} {W : World} {base : Nat} {spare : Nat → Bool} {held : Bool} {r : Reach} {b0 : Nat}
theorem cellIntS_of {n : Nat} {t e : TypeId} {v : Value} {y : DataW H × List MemPlace} (ht : Tryd.prog.underlying t = some (.slice e)) (he : Tryd.prog.underlying e = some (.int .i64)) (hc : Tryd.prog.cellsOf e = 1) (h : DataW.trod enc Tryd.prog W base spare held n t [v] = some y) : IsIntS W v := by
  rcases open_ints ht he hc h with ⟨hv, _⟩ | ⟨a, len, cap, zs, hv, _, hlc, hcm, hzl, _, hcell, hwf⟩
  · simp at hv; subst hv
    exact ⟨[], ⟨rfl, .inl ⟨⟨_, _, rfl⟩, rfl⟩⟩, fun z hz => by cases hz⟩
  · simp at hv; subst hv
    have hle : len ≤ zs.length := by rw [hzl]; split <;> omega
    have hrange : InI64 (zs.take len) := fun z hz => i64_range (hwf z (List.mem_of_mem_take hz))
    have hlen : (zs.take len).length = len := by simp; omega
    rcases Nat.eq_zero_or_pos len with h0 | h0
    · subst h0
      exact ⟨[], ⟨rfl, .inl ⟨⟨_, _, rfl⟩, rfl⟩⟩, fun z hz => by cases hz⟩
    · have c0 := hcell 0 (by omega)
      have hs : a.spot = none := by simpa [Addr.add] using addr_none c0
      obtain ⟨b, off, sp⟩ := a
      simp at hs; subst hs
      refine ⟨zs.take len, ⟨by simp, .inr ⟨b, off, cap, by rw [hlen], World.block_lt_of_cell? _ _ c0, by omega, by simpa [maxLen] using hcm, fun j u hj => ?_⟩⟩, hrange⟩
      have hj' := (List.getElem?_eq_some_iff.1 hj).1
      simp at hj'
      have := hcell j (by omega)
      rw [Addr.add_lit] at this
      rw [this, ← hj]
      have h2 : j < zs.length := by omega
      have h3 : j < len := by omega
      simp [List.getElem?_take, h3, List.getD, List.getElem?_eq_getElem h2]
end

theorem fill_step {xs ys : List Value} {k : Nat} (h : k < xs.length) (hl : xs.length = ys.length) : (xs.take k ++ ys.drop k).set k xs[k] = xs.take (k + 1) ++ ys.drop (k + 1) := by
  have hk : (xs.take k).length = k := by simp; omega
  have e : ys.drop k = ys[k]'(by omega) :: ys.drop (k + 1) := by rw [List.drop_eq_getElem_cons (by omega)]
  rw [List.set_append_right _ _ (by omega), hk, Nat.sub_self, e, List.set_cons_zero, List.take_succ_eq_append_getElem h, List.append_assoc]
  rfl
theorem fill_end {xs ys : List Value} {k : Nat} (h : xs.length ≤ k) (hl : xs.length = ys.length) : xs.take k ++ ys.drop k = xs := by
  rw [List.take_of_length_le h, List.drop_eq_nil_of_le (by omega), List.append_nil]
end Go.Proofs.YtgonldkgghikiaaDoor
