/- The powers of a tableau, plain: OrderOf. -/
import Derived.Test.YtfcfpojldoijlaaComp3
namespace Go.Proofs.Ytfcfpojldoijlaa
set_option linter.unusedSimpArgs false
set_option linter.unusedVariables false
set_option linter.unnecessarySimpa false
set_option maxRecDepth 200000
open Go.ChangeShapes Go.WideShapes Go.ChangeAt Go.RowKit

/-- Operators whose masks lie below 2^n. -/
structure LtL (n : Nat) (L : List PN) : Prop where
  ok : PLok L
  lt : ∀ a ∈ L, a.x < 2 ^ n ∧ a.z < 2 ^ n
theorem LtL.get {n : Nat} {L : List PN} (h : LtL n L) (i : Nat) : (L.getD i ⟨0, 0, 0⟩).x < 2 ^ n ∧ (L.getD i ⟨0, 0, 0⟩).z < 2 ^ n := by
  by_cases hi : i < L.length
  · have e : L.getD i ⟨0, 0, 0⟩ = L[i] := by simp [List.getD, hi]
    rw [e]; exact h.lt _ (List.getElem_mem hi)
  · have e : L.getD i ⟨0, 0, 0⟩ = ⟨0, 0, 0⟩ := by simp [List.getD, hi]
    rw [e]; exact ⟨Nat.two_pow_pos n, Nat.two_pow_pos n⟩
theorem mulN_lt {n : Nat} {a b : PN} (ha : a.x < 2 ^ n ∧ a.z < 2 ^ n) (hb : b.x < 2 ^ n ∧ b.z < 2 ^ n) : (mulN a b).x < 2 ^ n ∧ (mulN a b).z < 2 ^ n :=
  ⟨Nat.xor_lt_two_pow ha.1 hb.1, Nat.xor_lt_two_pow ha.2 hb.2⟩
theorem imgN_lt {n : Nat} {X Z : List PN} (hX : LtL n X) (hZ : LtL n Z) (p : PN) : ∀ k, (imgN X Z p k).x < 2 ^ n ∧ (imgN X Z p k).z < 2 ^ n
  | 0 => ⟨Nat.two_pow_pos n, Nat.two_pow_pos n⟩
  | k + 1 => by
    have ih := imgN_lt hX hZ p k
    unfold imgN
    dsimp only
    split
    · split
      · exact mulN_lt (mulN_lt ih (hX.get k)) (hZ.get k)
      · exact mulN_lt ih (hZ.get k)
    · split
      · exact mulN_lt ih (hX.get k)
      · exact ih
theorem LtL.comp {n : Nat} {X Z L : List PN} (hX : LtL n X) (hZ : LtL n Z) : LtL n (compL imgN X Z n L) := by
  refine ⟨⟨fun a ha => ?_⟩, fun a ha => ?_⟩
  · obtain ⟨p, _, rfl⟩ := List.mem_map.1 ha; exact imgN_ok hX.ok hZ.ok n
  · obtain ⟨p, _, rfl⟩ := List.mem_map.1 ha; exact imgN_lt hX hZ p n
theorem compL_len (f : List PN → List PN → PN → Nat → PN) (X Z : List PN) (n : Nat) (L : List PN) : (compL f X Z n L).length = L.length := by simp [compL]
theorem TabOk.lt {d : Tab} {m : Nat} (h : TabOk d) (hm : d.n = (m : Int)) : LtL m (d.xs.map tn) ∧ LtL m (d.zs.map tn) := by
  obtain ⟨m2, hm2, _, _, _, _, _, _, okx, okz⟩ := h.parts
  obtain rfl : m2 = m := by omega
  obtain ⟨⟨h1, h2⟩, h3, h4, h5, _⟩ := h
  have key : ∀ g : E3, PauOk d.n g → (tn g).x < 2 ^ m2 ∧ (tn g).z < 2 ^ m2 := by
    intro g hg
    obtain ⟨_, ⟨b0, b1⟩, c0, c1⟩ := hg
    rw [hm2, Int.toNat_natCast] at b1 c1
    have e : (2 : Int) ^ m2 = ((2 ^ m2 : Nat) : Int) := by simp
    rw [e] at b1 c1
    have hp := Nat.two_pow_pos m2
    unfold tn; dsimp only
    generalize 2 ^ m2 = q at *
    omega
  refine ⟨⟨okx, fun a ha => ?_⟩, ⟨okz, fun a ha => ?_⟩⟩
  · obtain ⟨g, hg, rfl⟩ := List.mem_map.1 ha
    obtain ⟨i, hi, rfl⟩ := List.mem_iff_getElem.1 hg
    have h6 := (h5 i (by omega)).1
    have e : (d.xs ++ d.zs).getD i ⟨0, 0, 0⟩ = d.xs[i] := by simp [List.getD, List.getElem?_append_left hi, hi]
    rw [e] at h6
    exact key _ h6
  · obtain ⟨g, hg, rfl⟩ := List.mem_map.1 ha
    obtain ⟨i, hi, rfl⟩ := List.mem_iff_getElem.1 hg
    have h6 := (h5 (d.xs.length + i) (by omega)).1
    have e : (d.xs ++ d.zs).getD (d.xs.length + i) ⟨0, 0, 0⟩ = d.zs[i] := by simp [List.getD, List.getElem?_append_right, hi]
    rw [e] at h6
    exact key _ h6
theorem compL_samet {n : Nat} {X Z : List PN} (hn : n ≤ 5) {L : List PN} (h : LtL n L) : compL imgS X Z n L = compL imgN X Z n L :=
  compL_same hn h.ok (fun a ha => (h.lt a ha).1)
/-- The identity's images. -/
def idPX (n : Nat) : List PN := (List.range n).map fun q => ⟨0, 2 ^ q, 0⟩
def idPZ (n : Nat) : List PN := (List.range n).map fun q => ⟨0, 0, 2 ^ q⟩
theorem idPX_len (n : Nat) : (idPX n).length = n := by simp [idPX]
theorem idPZ_len (n : Nat) : (idPZ n).length = n := by simp [idPZ]
theorem idX_pes (n : Nat) : idX n = pes (idPX n) := by
  unfold idX pes idPX; rw [List.map_map]; apply List.map_congr_left; intro q _; simp [PN.e]
theorem idZ_pes (n : Nat) : idZ n = pes (idPZ n) := by
  unfold idZ pes idPZ; rw [List.map_map]; apply List.map_congr_left; intro q _; simp [PN.e]
theorem idPX_lt {n : Nat} (h : n ≤ 5) : LtL n (idPX n) := by
  refine ⟨⟨fun a ha => ?_⟩, fun a ha => ?_⟩
  all_goals
    obtain ⟨q, hq, rfl⟩ := List.mem_map.1 ha
    have hq := List.mem_range.1 hq
    have h2 : 2 ^ q < 2 ^ n := Nat.pow_lt_pow_right (by omega) hq
    have h3 : 2 ^ n ≤ 2 ^ 5 := Nat.pow_le_pow_right (by omega) h
  · exact ⟨by simp, by dsimp only; omega, by simp⟩
  · exact ⟨h2, Nat.two_pow_pos n⟩
theorem idPZ_lt {n : Nat} (h : n ≤ 5) : LtL n (idPZ n) := by
  refine ⟨⟨fun a ha => ?_⟩, fun a ha => ?_⟩
  all_goals
    obtain ⟨q, hq, rfl⟩ := List.mem_map.1 ha
    have hq := List.mem_range.1 hq
    have h2 : 2 ^ q < 2 ^ n := Nat.pow_lt_pow_right (by omega) hq
    have h3 : 2 ^ n ≤ 2 ^ 5 := Nat.pow_le_pow_right (by omega) h
  · exact ⟨by simp, by simp, by dsimp only; omega⟩
  · exact ⟨Nat.two_pow_pos n, h2⟩
theorem PN.e_inj {a b : PN} (h : a.e = b.e) : a = b := by
  unfold PN.e at h; injection h with h1 h2 h3
  exact PN.eq_of (by omega) (by omega) (by omega)
theorem pes_inj {L M : List PN} : pes L = pes M ↔ L = M := by
  constructor
  · intro h
    unfold pes at h
    exact List.map_inj_right (fun _ _ => PN.e_inj) |>.1 h
  · rintro rfl; rfl
/-- The power k + 1 of a tableau. -/
def powX (X Z : List PN) (n : Nat) : Nat → List PN
  | 0 => X
  | k + 1 => compL imgN X Z n (powX X Z n k)
def powZ (X Z : List PN) (n : Nat) : Nat → List PN
  | 0 => Z
  | k + 1 => compL imgN X Z n (powZ X Z n k)
theorem powX_len (X Z : List PN) (n : Nat) : ∀ k, (powX X Z n k).length = X.length
  | 0 => rfl
  | k + 1 => by unfold powX; rw [compL_len, powX_len X Z n k]
theorem powZ_len (X Z : List PN) (n : Nat) : ∀ k, (powZ X Z n k).length = Z.length
  | 0 => rfl
  | k + 1 => by unfold powZ; rw [compL_len, powZ_len X Z n k]
theorem powX_lt {X Z : List PN} {n : Nat} (hX : LtL n X) (hZ : LtL n Z) : ∀ k, LtL n (powX X Z n k)
  | 0 => hX
  | k + 1 => LtL.comp hX hZ
theorem powZ_lt {X Z : List PN} {n : Nat} (hX : LtL n X) (hZ : LtL n Z) : ∀ k, LtL n (powZ X Z n k)
  | 0 => hZ
  | k + 1 => LtL.comp hX hZ
/-- Is the power k + 1 the identity? -/
def ordAt (X Z : List PN) (n k : Nat) : Bool := decide (powX X Z n k = idPX n ∧ powZ X Z n k = idPZ n)
def OrdTo (X Z : List PN) (n k : Nat) : Prop := ∀ j, j < k → ordAt X Z n j = false
theorem OrdTo.next {X Z : List PN} {n k : Nat} (h : OrdTo X Z n k) (h2 : ordAt X Z n k = false) : OrdTo X Z n (k + 1) := by
  intro j hj
  by_cases e : j = k
  · subst e; exact h2
  · exact h j (by omega)
def ordN (X Z : List PN) (n : Nat) : Option Nat := (List.range 1000).find? (ordAt X Z n)
theorem ord_yes {X Z : List PN} {n k : Nat} (h : OrdTo X Z n k) (hk : k < 1000) (h2 : ordAt X Z n k = true) : ordN X Z n = some k := by
  unfold ordN
  rw [List.find?_range_eq_some]
  exact ⟨h2, List.mem_range.2 hk, fun j hj => by rw [h j hj]; rfl⟩
theorem ord_no {X Z : List PN} {n : Nat} (h : OrdTo X Z n 1000) : ordN X Z n = none := by
  unfold ordN
  rw [List.find?_eq_none]
  intro j hj
  rw [h j (List.mem_range.1 hj)]; simp
/-- What OrderOf answers. -/
noncomputable def ordG (d : Tab) : Option Int := if TabOk d then (ordN (d.xs.map tn) (d.zs.map tn) d.n.toNat).map (fun k => (k : Int) + 1) else none
end Go.Proofs.Ytfcfpojldoijlaa
