/- The image of an operator under a tableau: ImageOf in the program and in the reference. -/
import Derived.Test.YtjdffjnennodaaaZ23Pau8
import Derived.Test.YtjdffjnennodaaaZ14Img2
namespace Go.Proofs.Ytjdffjnennodaaa
set_option linter.unusedSimpArgs false
set_option linter.unusedVariables false
set_option linter.unnecessarySimpa false
set_option maxRecDepth 200000
open Go.ChangeShapes Go.WideShapes Go.ChangeAt Go.RowKit

noncomputable def imgG (d : Tab) (x : E3) : Option E3 := if TabOk d ∧ PauOk d.n x then some (imgN (d.xs.map tn) (d.zs.map tn) (tn x) d.n.toNat).e else none
theorem pes_of {L : List E3} (h : ∀ i, i < L.length → L.getD i ⟨0, 0, 0⟩ = (tn (L.getD i ⟨0, 0, 0⟩)).e) : L = pes (L.map tn) := by
  unfold pes
  rw [List.map_map]
  apply List.ext_getElem
  · simp
  · intro i h1 h2
    have := h i h1
    rw [getD_E h1] at this
    simpa using this
theorem plok_of {L : List E3} (h : ∀ i, i < L.length → PNok (tn (L.getD i ⟨0, 0, 0⟩))) : PLok (L.map tn) := by
  refine ⟨fun a ha => ?_⟩
  obtain ⟨g, hg, rfl⟩ := List.mem_map.1 ha
  obtain ⟨i, hi, rfl⟩ := List.mem_iff_getElem.1 hg
  have := h i hi
  rwa [getD_E hi] at this
theorem TabOk.parts {d : Tab} (h : TabOk d) : ∃ m : Nat, d.n = (m : Int) ∧ 1 ≤ m ∧ m ≤ 5 ∧ d.xs = pes (d.xs.map tn) ∧ d.zs = pes (d.zs.map tn) ∧ (d.xs.map tn).length = m ∧ (d.zs.map tn).length = m ∧ PLok (d.xs.map tn) ∧ PLok (d.zs.map tn) := by
  obtain ⟨⟨h1, h2⟩, h3, h4, h5, _⟩ := h
  have hx : ∀ i, i < d.xs.length → d.xs.getD i ⟨0, 0, 0⟩ = (tn (d.xs.getD i ⟨0, 0, 0⟩)).e ∧ PNok (tn (d.xs.getD i ⟨0, 0, 0⟩)) := fun i hi => by
    have h6 := (h5 i (by omega)).1.nat h1 h2
    have e : (d.xs ++ d.zs).getD i ⟨0, 0, 0⟩ = d.xs.getD i ⟨0, 0, 0⟩ := by simp [List.getD, List.getElem?_append_left hi]
    rwa [e] at h6
  have hz : ∀ i, i < d.zs.length → d.zs.getD i ⟨0, 0, 0⟩ = (tn (d.zs.getD i ⟨0, 0, 0⟩)).e ∧ PNok (tn (d.zs.getD i ⟨0, 0, 0⟩)) := fun i hi => by
    have h6 := (h5 (d.xs.length + i) (by omega)).1.nat h1 h2
    have e : (d.xs ++ d.zs).getD (d.xs.length + i) ⟨0, 0, 0⟩ = d.zs.getD i ⟨0, 0, 0⟩ := by simp [List.getD, List.getElem?_append_right]
    rwa [e] at h6
  exact ⟨d.n.toNat, by omega, by omega, by omega, pes_of fun i hi => (hx i hi).1, pes_of fun i hi => (hz i hi).1, by simp; omega, by simp; omega, plok_of fun i hi => (hx i hi).2, plok_of fun i hi => (hz i hi).2⟩
theorem pau_lt {n : Int} {m : Nat} {x : E3} {P : PN} (m5 : m ≤ 5) (h : PauOk n x) (hm : n = (m : Int)) (hP : P = tn x) : P.x < 2 ^ m := by
  subst hP hm
  have h2 := h.2.1
  rw [Int.toNat_natCast] at h2
  have e : (2 : Int) ^ m = ((2 ^ m : Nat) : Int) := by simp
  rw [e] at h2
  show x.b.toNat < _
  omega
end Go.Proofs.Ytjdffjnennodaaa
