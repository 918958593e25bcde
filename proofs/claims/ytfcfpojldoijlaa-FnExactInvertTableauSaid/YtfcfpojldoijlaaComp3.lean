/- Two tableaux, one after the other: ComposeTableaux in the program and in the reference. -/
import Derived.Test.YtfcfpojldoijlaaComp2
import Derived.Test.YtfcfpojldoijlaaImg3
import Derived.Test.YtfcfpojldoijlaaTab3a
namespace Go.Proofs.Ytfcfpojldoijlaa
set_option linter.unusedSimpArgs false
set_option linter.unusedVariables false
set_option linter.unnecessarySimpa false
set_option maxRecDepth 200000
open Go.ChangeShapes Go.WideShapes Go.ChangeAt Go.RowKit

noncomputable def cmpG (d1 d2 : Tab) : Option Tab := if TabOk d1 ∧ TabOk d2 ∧ d1.n = d2.n then some ⟨d1.n, pes (compL imgN (d2.xs.map tn) (d2.zs.map tn) d1.n.toNat (d1.xs.map tn)), pes (compL imgN (d2.xs.map tn) (d2.zs.map tn) d1.n.toNat (d1.zs.map tn))⟩ else none
theorem cmpG_some {d1 d2 : Tab} (h1 : TabOk d1) (h2 : TabOk d2) (h3 : d1.n = d2.n) : cmpG d1 d2 = some ⟨d1.n, pes (compL imgN (d2.xs.map tn) (d2.zs.map tn) d1.n.toNat (d1.xs.map tn)), pes (compL imgN (d2.xs.map tn) (d2.zs.map tn) d1.n.toNat (d1.zs.map tn))⟩ := if_pos ⟨h1, h2, h3⟩
theorem cmpG_len (d1 d2 : Tab) : ((cmpG d1 d2).getD Tab.zero).xs.length ≤ 1000000 ∧ ((cmpG d1 d2).getD Tab.zero).zs.length ≤ 1000000 := by
  unfold cmpG; split
  · next h =>
    obtain ⟨⟨a1, a2⟩, a3, a4, _⟩ := h.1
    simp [pes, compL]; omega
  · simp [Tab.zero]
theorem compL_same {n : Nat} {X Z : List PN} (hn : n ≤ 5) {L : List PN} (h : PLok L) (hl : ∀ a ∈ L, a.x < 2 ^ n) : compL imgS X Z n L = compL imgN X Z n L := by
  unfold compL
  apply List.map_congr_left
  intro a ha
  exact img_same X Z (h.all a ha).p (hl a ha) (by omega)
theorem tab_lt {d : Tab} {m : Nat} (h : TabOk d) (hm : d.n = (m : Int)) : (∀ a ∈ d.xs.map tn, a.x < 2 ^ m) ∧ (∀ a ∈ d.zs.map tn, a.x < 2 ^ m) := by
  obtain ⟨⟨h1, h2⟩, h3, h4, h5, _⟩ := h
  constructor
  · intro a ha
    obtain ⟨g, hg, rfl⟩ := List.mem_map.1 ha
    obtain ⟨i, hi, rfl⟩ := List.mem_iff_getElem.1 hg
    have h6 := (h5 i (by omega)).1
    have e : (d.xs ++ d.zs).getD i ⟨0, 0, 0⟩ = d.xs[i] := by simp [List.getD, List.getElem?_append_left hi, hi]
    rw [e] at h6
    exact pau_lt (by omega) h6 hm rfl
  · intro a ha
    obtain ⟨g, hg, rfl⟩ := List.mem_map.1 ha
    obtain ⟨i, hi, rfl⟩ := List.mem_iff_getElem.1 hg
    have h6 := (h5 (d.xs.length + i) (by omega)).1
    have e : (d.xs ++ d.zs).getD (d.xs.length + i) ⟨0, 0, 0⟩ = d.zs[i] := by simp [List.getD, List.getElem?_append_right, hi]
    rw [e] at h6
    exact pau_lt (by omega) h6 hm rfl
end Go.Proofs.Ytfcfpojldoijlaa
