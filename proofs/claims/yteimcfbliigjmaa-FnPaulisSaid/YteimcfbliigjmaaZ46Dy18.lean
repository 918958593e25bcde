/- The product of the matrices of two operators. -/
import Derived.Test.YteimcfbliigjmaaZ45Dy17
import Derived.Test.YteimcfbliigjmaaZ33Fp1
import Derived.BigRegion
import Derived.BigQuiet
namespace Go.Proofs.Yteimcfbliigjmaa
set_option linter.unusedSimpArgs false
set_option linter.unusedVariables false
set_option linter.unnecessarySimpa false
set_option maxRecDepth 200000
open Go.ChangeShapes Go.WideShapes Go.ChangeAt Go.RowKit

theorem cod_add {x y : Nat} (hx : x ≤ 4) (hy : y ≤ 4) (h : x = 4 ∨ y = 4) : dadd (cod x) (cod y) = cod (addU x y) := by
  have h2 : ∀ x : Fin 5, ∀ y : Fin 5, (x.val = 4 ∨ y.val = 4) → dadd (cod x) (cod y) = cod (addU x y) := by decide +kernel
  exact h2 ⟨x, by omega⟩ ⟨y, by omega⟩ h
theorem cod_addok {x y : Nat} (hx : x ≤ 4) (hy : y ≤ 4) : AddOk (cod x) (cod y) := by
  obtain ⟨h1, h2⟩ := cod_small hx
  obtain ⟨h3, h4⟩ := cod_small hy
  refine ⟨cod_ok hx, cod_ok hy, ?_, ?_, ?_⟩
  · intro k hk
    rw [h1, h3] at hk
    obtain rfl : k = 0 := by simpa using hk
    exact h2.mono (by decide)
  · intro k hk
    rw [h1, h3] at hk
    obtain rfl : k = 0 := by simpa using hk
    exact h4.mono (by decide)
  · rw [h1, h3]
    exact (Rg4.add_le h2 h4).mono (by decide)
theorem impl_add_cod (x y : Nat) (w : World) (hx : x ≤ 4) (hy : y ≤ 4) (h : x = 4 ∨ y = 4) :
    Calls Try.prog 34 #[(cod x).v, (cod y).v] w fun r w' => r = .returned (.tuple #[(cod (addU x y)).v, .bool true]) ∧ Below w.heap.size w w' := by
  rw [← cod_add hx hy h]
  exact impl_AddDyadic_ok _ _ w (cod_addok hx hy)
theorem addU_le {a b : Nat} (ha : a ≤ 4) (hb : b ≤ 4) : addU a b ≤ 4 := by unfold addU; split <;> omega
theorem sumU_le (n : Nat) (a b : PN) (i j : Nat) (ha : a.p ≤ 3) (hb : b.p ≤ 3) : ∀ m, sumU n a b i j m ≤ 4
  | 0 => Nat.le_refl _
  | m + 1 => addU_le (sumU_le n a b i j ha hb m) (mulU_le _ _ (cellU_le _ _ _ _ ha _) (cellU_le _ _ _ _ hb _))
theorem pauli_sums (n : Nat) (a b : PN) (hn : n ≤ 3) (ha : PNn n a) (hb : PNn n b) :
    SumOk (2 ^ n) (2 ^ n) (2 ^ n) (fun i j => cod (cellU n a i j n)) (fun i j => cod (cellU n b i j n)) (fun i j k => cod (mulU (cellU n a i k n) (cellU n b k j n))) (fun i j k => cod (sumU n a b i j k)) := by
  refine ⟨fun i j _ _ => rfl, fun i j k _ _ _ W => impl_mul_cod _ _ W (cellU_le _ _ _ _ ha.p _) (cellU_le _ _ _ _ hb.p _), fun i j k hi _ hk W => ?_⟩
  exact impl_add_cod _ _ W (sumU_le _ _ _ _ _ ha.p hb.p _) (mulU_le _ _ (cellU_le _ _ _ _ ha.p _) (cellU_le _ _ _ _ hb.p _)) (sumU_one hn ha hi hk)
theorem cells_ok (n : Nat) (a : PN) (ha : a.p ≤ 3) (c m : Nat) : ∀ x ∈ cellsTo c (fun i j => cod (cellU n a i j n)) m, x.ok := by
  intro x hx
  unfold cellsTo at hx
  obtain ⟨t, _, rfl⟩ := List.mem_map.1 hx
  exact cod_ok (cellU_le _ _ _ _ ha _)
theorem prod_cells (n : Nat) (a b : PN) (hn : n ≤ 3) (ha : PNn n a) (hb : PNn n b) :
    cellsTo (2 ^ n) (fun i j => cod (sumU n a b i j (2 ^ n))) (2 ^ n * 2 ^ n) = cellsTo (2 ^ n) (fun i j => cod (cellU n (mulN a b) i j n)) (2 ^ n * 2 ^ n) := by
  unfold cellsTo
  refine List.map_congr_left fun t ht => ?_
  rw [List.mem_range] at ht
  dsimp only
  rw [sumU_mul hn ha hb (Nat.div_lt_of_lt_mul ht)]
theorem PNn.of {n : Nat} {g : E3} (h : pauB (n : Int) g = true) : PNn n (tn g) := by
  have h2 := of_decide_eq_true h
  have h3 := h2.2
  obtain ⟨e, o⟩ := pauB_nat h
  have hx : g.b = ((tn g).x : Int) := congrArg E3.b e
  have hz : g.c = ((tn g).z : Int) := congrArg E3.c e
  have hb := pauB_eq (m := n) (g := g) (by have := h2.1.1; omega) (by have := h2.1.2; omega)
  rw [h] at hb
  have hb2 := hb.symm
  simp only [Bool.and_eq_true, inB, decide_eq_true_eq] at hb2
  have hp : ((2 : Int) ^ n) = ((2 ^ n : Nat) : Int) := by push_cast; rfl
  refine ⟨o.p, ?_, ?_⟩
  · have := hb2.2.1.2; rw [hp] at this; omega
  · have := hb2.2.2.2; rw [hp] at this; omega
theorem comm_R (n : Int) (a b : E3) (ha : pauB n a = true) (hb : pauB n b = true) : decide (mulR n b a = mulR n a b) = commN (tn a) (tn b) := by
  unfold mulR
  rw [ha, hb]
  simp only [Bool.and_self, if_true]
  rw [Bool.eq_iff_iff, decide_eq_true_eq, ← mulN_e]
  exact ⟨fun h => h.symm, fun h => h.symm⟩
end Go.Proofs.Yteimcfbliigjmaa
