/- Matrices of gates, plain: each carries the generators into the images of its tableau. -/
import Derived.Test.YtnckabohlakbgaaGreatZ29Ft2
import Derived.Test.YtnckabohlakbgaaGreatZ11Dy9
namespace Go.Proofs.YtnckabohlakbgaaGreat
set_option linter.unusedSimpArgs false
set_option linter.unusedVariables false
set_option linter.unnecessarySimpa false
set_option maxRecDepth 200000
open Go.ChangeShapes Go.WideShapes Go.ChangeAt Go.RowKit

/-- The numerators of a gate on one qubit. -/
def entN (k i j : Nat) : Rg4 := (entD k i j).num
def gh (k : Nat) : Nat := if k = 1 then 1 else 0
def flp (n i q : Nat) : Nat := i ^^^ 2 ^ (n - 1 - q)
/-- The state from which a gate on two qubits makes state i. -/
def srcN (n k a b i : Nat) : Nat :=
  if k = 9 ∧ qb n i a = 1 then flp n i b else if k = 11 ∧ qb n i a ≠ qb n i b then flp n (flp n i a) b else i
/-- The numerators of a gate. -/
def gmN (n k a b i j : Nat) : Rg4 :=
  if k = 12 then (if i = j then omN .one 1 else .zero)
  else if 9 ≤ k then (if srcN n k a b i = j then omN .one (if k = 10 ∧ qb n i a = 1 ∧ qb n i b = 1 then 4 else 0) else .zero)
  else if i = j ∨ flp n i a = j then entN k (qb n i a) (qb n j a) else .zero
def okG (n k a b : Nat) : Bool := decide (a < n ∧ b < n) && (decide (k = 12 ∧ a = 0 ∧ b = 0) || (decide (9 ≤ k ∧ k ≤ 11 ∧ a ≠ b) || decide (1 ≤ k ∧ k ≤ 6 ∧ b = 0)))
def chkC (n k a b : Nat) (Q P : PN) : Bool :=
  (List.range (2 ^ n)).all fun i => (List.range (2 ^ n)).all fun j => decide ((gmN n k a b i (hitN n Q.x j)).mul (pmN n Q (hitN n Q.x j) j) = (pmN n P i (hitN n P.x i)).mul (gmN n k a b (hitN n P.x i) j))
def chkN (n : Nat) (a : PN) : Bool := decide (a.p ≤ 3 ∧ a.x < 2 ^ n ∧ a.z < 2 ^ n)
def chkD (n k a b : Nat) : Bool :=
  (List.range n).all fun q => chkN n ((gtX n k a b).getD q ⟨0, 0, 0⟩) && chkN n ((gtZ n k a b).getD q ⟨0, 0, 0⟩) && chkC n k a b ⟨0, 2 ^ q, 0⟩ ((gtX n k a b).getD q ⟨0, 0, 0⟩) && chkC n k a b ⟨0, 0, 2 ^ q⟩ ((gtZ n k a b).getD q ⟨0, 0, 0⟩)
def chkK (n k : Nat) : Bool := (List.range n).all fun a => (List.range n).all fun b => !(okG n k a b) || chkD n k a b
theorem chk1 : ∀ k : Fin 13, chkK 1 k.val = true := by decide +kernel
theorem chk2 : ∀ k : Fin 13, chkK 2 k.val = true := by decide +kernel
theorem chk3a : ∀ k : Fin 7, chkK 3 k.val = true := by decide +kernel
theorem chk3b : chkK 3 9 = true := by decide +kernel
theorem chk3c : chkK 3 10 = true := by decide +kernel
theorem chk3d : chkK 3 11 = true := by decide +kernel
theorem chk3e : chkK 3 12 = true := by decide +kernel
theorem chk_all {n k a b : Nat} (h1 : 1 ≤ n) (h3 : n ≤ 3) (h : GtOk n k a b) : chkD n k a b = true := by
  have hk := h.kind; have ha := h.la; have hb := h.lb
  have ho : okG n k a b = true := by
    unfold okG
    simp only [Bool.and_eq_true, Bool.or_eq_true, decide_eq_true_eq]
    exact ⟨⟨ha, hb⟩, hk⟩
  have hK : chkK n k = true := by
    rcases (show n = 1 ∨ n = 2 ∨ n = 3 by omega) with rfl | rfl | rfl
    · exact chk1 ⟨k, by omega⟩
    · exact chk2 ⟨k, by omega⟩
    · by_cases h7 : k < 7
      · exact chk3a ⟨k, h7⟩
      · rcases (show k = 9 ∨ k = 10 ∨ k = 11 ∨ k = 12 by omega) with rfl | rfl | rfl | rfl
        · exact chk3b
        · exact chk3c
        · exact chk3d
        · exact chk3e
  unfold chkK at hK
  simp only [List.all_eq_true, List.mem_range, Bool.or_eq_true, Bool.not_eq_true'] at hK
  rcases hK a ha b hb with h9 | h9
  · rw [ho] at h9; cases h9
  · exact h9
theorem gate_parts {n k a b : Nat} (h1 : 1 ≤ n) (h3 : n ≤ 3) (h : GtOk n k a b) : ∀ q, q < n → (PNn n ((gtX n k a b).getD q ⟨0, 0, 0⟩) ∧ PNn n ((gtZ n k a b).getD q ⟨0, 0, 0⟩)) ∧ Conj n (gmN n k a b) ⟨0, 2 ^ q, 0⟩ ((gtX n k a b).getD q ⟨0, 0, 0⟩) ∧ Conj n (gmN n k a b) ⟨0, 0, 2 ^ q⟩ ((gtZ n k a b).getD q ⟨0, 0, 0⟩) := by
  intro q hq
  have hc := chk_all h1 h3 h
  unfold chkD at hc
  simp only [List.all_eq_true, List.mem_range, Bool.and_eq_true] at hc
  obtain ⟨⟨⟨c1, c2⟩, c3⟩, c4⟩ := hc q hq
  have n1 : PNn n ((gtX n k a b).getD q ⟨0, 0, 0⟩) := by
    have := of_decide_eq_true c1; exact ⟨this.1, this.2.1, this.2.2⟩
  have n2 : PNn n ((gtZ n k a b).getD q ⟨0, 0, 0⟩) := by
    have := of_decide_eq_true c2; exact ⟨this.1, this.2.1, this.2.2⟩
  have pq : 2 ^ q < 2 ^ n := Nat.pow_lt_pow_right (by omega) hq
  have g1 : PNn n ⟨0, 2 ^ q, 0⟩ := ⟨Nat.zero_le _, pq, Nat.two_pow_pos n⟩
  have g2 : PNn n ⟨0, 0, 2 ^ q⟩ := ⟨Nat.zero_le _, Nat.two_pow_pos n, pq⟩
  have key : ∀ Q P : PN, PNn n Q → PNn n P → chkC n k a b Q P = true → Conj n (gmN n k a b) Q P := by
    intro Q P hQ hP hc i j hi hj
    unfold chkC at hc
    simp only [List.all_eq_true, List.mem_range, decide_eq_true_eq] at hc
    rw [pm_col h3 hQ hj, pm_row h3 hP hi]
    exact hc i hi j hj
  exact ⟨⟨n1, n2⟩, key _ _ g1 n1 c3, key _ _ g2 n2 c4⟩
/-- A gate's matrix carries each operator into its image. -/
theorem gate_conj {n k a b : Nat} (h1 : 1 ≤ n) (h3 : n ≤ 3) (h : GtOk n k a b) {P : PN} (hP : PNn n P) : Conj n (gmN n k a b) P (imgN (gtX n k a b) (gtZ n k a b) P n) := by
  have G := gate_parts h1 h3 h
  have pq : ∀ q, q < n → 2 ^ q < 2 ^ n := fun q hq => Nat.pow_lt_pow_right (by omega) hq
  have hI := idPX_lt (n := n) (by omega)
  have hJ := idPZ_lt (n := n) (by omega)
  have hX := gtX_lt (n := n) (by omega) h
  have hZ := gtZ_lt (n := n) (by omega) h
  have e1 : imgN (idPX n) (idPZ n) P n = P := img_id (by omega) hP.p hP.x hP.z
  have key := Conj.all (n := n) (G := gmN n k a b) (X := idPX n) (Z := idPZ n) (X2 := gtX n k a b) (Z2 := gtZ n k a b) h3
    (fun q hq => by rw [idPX_get hq]; exact ⟨Nat.zero_le _, pq q hq, Nat.two_pow_pos n⟩) (fun q hq => by rw [idPZ_get hq]; exact ⟨Nat.zero_le _, Nat.two_pow_pos n, pq q hq⟩)
    (fun q hq => (G q hq).1.1) (fun q hq => (G q hq).1.2) (fun q hq => by rw [idPX_get hq]; exact (G q hq).2.1) (fun q hq => by rw [idPZ_get hq]; exact (G q hq).2.2)
    (P.p + pop (P.x &&& P.z)) P.x P.z n (Nat.le_refl _)
  rw [← imgN_imF hI.ok hJ.ok, ← imgN_imF hX.ok hZ.ok, e1] at key
  exact key
/-- The cells of a gate's matrix. -/
def gmD (n k a b i j : Nat) : Dy :=
  if k = 12 then (if i = j then phs 1 else whl 0)
  else if 9 ≤ k then (if srcN n k a b i = j then phs (4 * (if k = 10 ∧ qb n i a = 1 ∧ qb n i b = 1 then 1 else 0)) else whl 0)
  else if i = j ∨ flp n i a = j then entD k (qb n i a) (qb n j a) else whl 0
theorem ent_nrm {k i j : Nat} (h1 : 1 ≤ k) (h6 : k ≤ 6) (hi : i ≤ 1) (hj : j ≤ 1) : entD k i j = nrm (entN k i j) (gh k) := by
  have h : ∀ k : Fin 7, 1 ≤ k.val → ∀ i : Fin 2, ∀ j : Fin 2, entD k.val i.val j.val = nrm (entN k.val i.val j.val) (gh k.val) := by decide +kernel
  exact h ⟨k, by omega⟩ h1 ⟨i, by omega⟩ ⟨j, by omega⟩
theorem gmD_nrm {n k a b : Nat} (h : GtOk n k a b) (i j : Nat) : gmD n k a b i j = nrm (gmN n k a b i j) (gh k) := by
  have hk := h.kind
  unfold gmD gmN
  by_cases h12 : k = 12
  · subst h12; simp only [if_true]; split <;> rfl
  · rw [if_neg h12, if_neg h12]
    by_cases h9 : 9 ≤ k
    · rw [if_pos h9, if_pos h9]
      have e : gh k = 0 := by unfold gh; rw [if_neg (by omega)]
      rw [e]
      split
      · split <;> rfl
      · rfl
    · rw [if_neg h9, if_neg h9]
      split
      · exact ent_nrm (by omega) (by omega) (qb_le _ _ _) (qb_le _ _ _)
      · exact (nrm_zero _).symm
/-- Each number of a gate's matrix is zero or a power of w; in a row there are at most two that are not zero, and but for H one. -/
def unitB (x : Rg4) : Bool := decide (x = .zero) || (List.range 8).any fun t => decide (x = omN .one t)
def cntR (f : Nat → Rg4) : Nat → Nat
  | 0 => 0
  | m + 1 => cntR f m + (if f m = .zero then 0 else 1)
def rowB (n k a b : Nat) : Bool := (List.range (2 ^ n)).all fun i => decide (cntR (gmN n k a b i) (2 ^ n) ≤ 2 ^ gh k) && (List.range (2 ^ n)).all fun j => unitB (gmN n k a b i j)
def rowK (n k : Nat) : Bool := (List.range n).all fun a => (List.range n).all fun b => !(okG n k a b) || rowB n k a b
theorem row_all : ∀ n : Fin 4, ∀ k : Fin 13, rowK n.val k.val = true := by decide +kernel
theorem row_ok {n k a b : Nat} (h3 : n ≤ 3) (h : GtOk n k a b) : ∀ i, i < 2 ^ n → cntR (gmN n k a b i) (2 ^ n) ≤ 2 ^ gh k ∧ ∀ j, j < 2 ^ n → unitB (gmN n k a b i j) = true := by
  have hk := h.kind; have ha := h.la; have hb := h.lb
  have ho : okG n k a b = true := by
    unfold okG
    simp only [Bool.and_eq_true, Bool.or_eq_true, decide_eq_true_eq]
    exact ⟨⟨ha, hb⟩, hk⟩
  have hK := row_all ⟨n, by omega⟩ ⟨k, by omega⟩
  unfold rowK at hK
  simp only [List.all_eq_true, List.mem_range, Bool.or_eq_true, Bool.not_eq_true'] at hK
  rcases hK a ha b hb with h9 | h9
  · rw [ho] at h9; cases h9
  · unfold rowB at h9
    simp only [List.all_eq_true, List.mem_range, Bool.and_eq_true, decide_eq_true_eq] at h9
    exact h9
theorem om_mul (x y : Rg4) : x.om.mul y = (x.mul y).om := by unfold Rg4.mul Rg4.om; congr 1 <;> grind
theorem omN_mul (x y : Rg4) : ∀ t, (omN x t).mul y = omN (x.mul y) t
  | 0 => rfl
  | t + 1 => by simp only [omN]; rw [om_mul, omN_mul x y t]
theorem unit_mul {u x : Rg4} {M : Int} (hu : unitB u = true) (hx : x.le M) : (u.mul x).le M ∧ (u = .zero → u.mul x = .zero) := by
  refine ⟨?_, fun h => by rw [h, Rg4.zero_mul]⟩
  unfold unitB at hu
  rw [Bool.or_eq_true] at hu
  rcases hu with h | h
  · have h := of_decide_eq_true h
    subst h
    rw [Rg4.zero_mul]
    have := hx.nonneg
    unfold Rg4.le Rg4.zero; dsimp only; omega
  · obtain ⟨t, _, ht⟩ := List.any_eq_true.1 h
    have ht := of_decide_eq_true ht
    subst ht
    rw [omN_mul, Rg4.one_mul]
    exact omN_le hx t
theorem row_le {A B : Nat → Rg4} {M : Int} (m : Nat) (hA : ∀ l, l < m → unitB (A l) = true) (hB : ∀ l, l < m → (B l).le M) (h0 : 0 ≤ M) : (sumR (fun l => (A l).mul (B l)) m).le ((cntR A m : Int) * M) := by
  induction m with
  | zero =>
    have e : ((cntR A 0 : Nat) : Int) * M = 0 := by simp [cntR]
    rw [e]; unfold sumR Rg4.le Rg4.zero; decide
  | succ m ih =>
    have h1 := ih (fun l hl => hA l (by omega)) (fun l hl => hB l (by omega))
    obtain ⟨h2, h3⟩ := unit_mul (hA m (by omega)) (hB m (by omega))
    simp only [sumR, cntR]
    by_cases hz : A m = .zero
    · rw [if_pos hz, h3 hz, Rg4.add_zero]; exact h1
    · rw [if_neg hz]
      have h4 := Rg4.add_le h1 h2
      have e : ((cntR A m + 1 : Nat) : Int) * M = (cntR A m : Int) * M + M := by rw [Int.natCast_succ, Int.add_mul, Int.one_mul]
      rw [e]; exact h4
end Go.Proofs.YtnckabohlakbgaaGreat
