/- Matrices of Pauli operators and of gates over the ring, plain. -/
import Derived.Test.YtnckabohlakbgaaGreatZ01M
import Derived.Test.YtnckabohlakbgaaGreatZ03M
import Derived.Test.YtnckabohlakbgaaGreatZ10M
import Derived.Test.YtnckabohlakbgaaGreatZ13M
import Derived.Test.YtnckabohlakbgaaGreatZ24M
import Derived.BigRegion
import Derived.BigQuiet
import Derived.Test.YtnckabohlakbgaaGreatZ06Brk
import Derived.Test.YtnckabohlakbgaaGreatZ14M
import Derived.Deep.LoopGhost
import Derived.Shelf.Abstract
namespace Go.Proofs.YtnckabohlakbgaaGreat
set_option linter.unusedSimpArgs false
set_option linter.unusedVariables false
set_option linter.unnecessarySimpa false
set_option maxRecDepth 200000

theorem nrm_at (x : Rg4) {e f : Nat} (h : e ≤ f) : nrm (rtN x (f - e)) f = nrm x e := by
  have := nrm_rtN x e (f - e)
  rwa [show e + (f - e) = f by omega] at this
/-- The sum of two numbers over one power. -/
theorem nrm_add (x y : Rg4) (e : Nat) : dadd (nrm x e) (nrm y e) = nrm (x.add y) e := by
  have hx := nrm_exp x e
  have hy := nrm_exp y e
  unfold dadd
  rw [← nrm_at _ (show max (nrm x e).exp (nrm y e).exp ≤ e by omega), rtN_add, rtN_rtN, rtN_rtN,
    show max (nrm x e).exp (nrm y e).exp - (nrm x e).exp + (e - max (nrm x e).exp (nrm y e).exp) = e - (nrm x e).exp by omega,
    show max (nrm x e).exp (nrm y e).exp - (nrm y e).exp + (e - max (nrm x e).exp (nrm y e).exp) = e - (nrm y e).exp by omega, nrm_up, nrm_up]
theorem nrm_mul (x y : Rg4) (e f : Nat) : dmul (nrm x e) (nrm y f) = nrm (x.mul y) (e + f) := by
  have hx := nrm_exp x e
  have hy := nrm_exp y f
  unfold dmul
  rw [← nrm_at _ (show (nrm x e).exp + (nrm y f).exp ≤ e + f by omega),
    show e + f - ((nrm x e).exp + (nrm y f).exp) = (e - (nrm x e).exp) + (f - (nrm y f).exp) by omega, ← rtN_rtN, rtN_mulL, rtN_mulR, nrm_up, nrm_up]
/-- The number of a code: zero (4) or a power of i. -/
def codN (c : Nat) : Rg4 := if c = 4 then .zero else omN .one (2 * c % 8)
theorem cod_nrm (c : Nat) : cod c = nrm (codN c) 0 := by unfold cod codN; split <;> rfl
theorem codN_le (c : Nat) : (codN c).le 1 := by
  unfold codN; split
  · unfold Rg4.le Rg4.zero; decide
  · exact omN_le one_le _
theorem codN_mul {x y : Nat} (hx : x ≤ 4) (hy : y ≤ 4) : (codN x).mul (codN y) = codN (mulU x y) := by
  have h : ∀ x : Fin 5, ∀ y : Fin 5, (codN x.val).mul (codN y.val) = codN (mulU x.val y.val) := by decide +kernel
  exact h ⟨x, by omega⟩ ⟨y, by omega⟩
theorem codN_add {x y : Nat} (hx : x ≤ 4) (hy : y ≤ 4) (h : x = 4 ∨ y = 4) : (codN x).add (codN y) = codN (addU x y) := by
  have h2 : ∀ x : Fin 5, ∀ y : Fin 5, x.val = 4 ∨ y.val = 4 → (codN x.val).add (codN y.val) = codN (addU x.val y.val) := by decide +kernel
  exact h2 ⟨x, by omega⟩ ⟨y, by omega⟩ h
/-- The matrix of a Pauli operator. -/
def pmN (n : Nat) (P : PN) (i j : Nat) : Rg4 := codN (cellU n P i j n)
theorem sumU_le4 (n : Nat) (a b : PN) (i j : Nat) (ha : a.p ≤ 3) (hb : b.p ≤ 3) : ∀ m, sumU n a b i j m ≤ 4
  | 0 => by unfold sumU; omega
  | m + 1 => by
    have h1 := sumU_le4 n a b i j ha hb m
    have h2 := mulU_le _ _ (cellU_le n a i m ha n) (cellU_le n b m j hb n)
    unfold sumU addU; split <;> assumption
theorem pmN_sum {n : Nat} {a b : PN} {i j : Nat} (hn : n ≤ 3) (ha : PNn n a) (hb : PNn n b) (hi : i < 2 ^ n) : ∀ m, m ≤ 2 ^ n → sumR (fun l => (pmN n a i l).mul (pmN n b l j)) m = codN (sumU n a b i j m)
  | 0, _ => rfl
  | m + 1, hm => by
    have ih := pmN_sum (j := j) hn ha hb hi m (by omega)
    have h2 := mulU_le _ _ (cellU_le n a i m ha.p n) (cellU_le n b m j hb.p n)
    simp only [sumR, sumU]
    rw [ih]
    unfold pmN
    rw [codN_mul (cellU_le n a i m ha.p n) (cellU_le n b m j hb.p n), codN_add (sumU_le4 n a b i j ha.p hb.p m) h2 (sumU_one hn ha hi (by omega))]
theorem pmN_mul {n : Nat} {a b : PN} (hn : n ≤ 3) (ha : PNn n a) (hb : PNn n b) : EqM (2 ^ n) (mm (2 ^ n) (pmN n a) (pmN n b)) (pmN n (mulN a b)) := fun i j hi _ => by
  unfold mm
  rw [pmN_sum hn ha hb hi _ (Nat.le_refl _), sumU_mul hn ha hb hi]; rfl
/-- Row i of an operator is zero but at the column that it hits. -/
theorem pmN_hit {n : Nat} {a : PN} {i j : Nat} (hn : n ≤ 3) (ha : PNn n a) (hi : i < 2 ^ n) (hj : j < 2 ^ n) (h : j ≠ hitN n a.x i) : pmN n a i j = .zero := by
  unfold pmN
  by_cases h4 : cellU n a i j n = 4
  · rw [h4]; rfl
  · exact absurd (hits_eq hn ha.x hi hj (cellU_hits n h4)) h
theorem hits_symm {n x i k : Nat} (h : Hits n x i k) : Hits n x k i := fun q hq => by
  have := h q hq
  rw [this]
  cases i.testBit (n - 1 - q) <;> cases x.testBit q <;> rfl
theorem pmN_hitc {n : Nat} {a : PN} {i j : Nat} (hn : n ≤ 3) (ha : PNn n a) (hi : i < 2 ^ n) (hj : j < 2 ^ n) (h : i ≠ hitN n a.x j) : pmN n a i j = .zero := by
  unfold pmN
  by_cases h4 : cellU n a i j n = 4
  · rw [h4]; rfl
  · exact absurd (hits_eq hn ha.x hj hi (hits_symm (cellU_hits n h4))) h
/-- A product with an operator has one summand. -/
theorem pm_row {n : Nat} {a : PN} {B : Nat → Nat → Rg4} {i : Nat} (hn : n ≤ 3) (ha : PNn n a) (hi : i < 2 ^ n) (j : Nat) : mm (2 ^ n) (pmN n a) B i j = (pmN n a i (hitN n a.x i)).mul (B (hitN n a.x i) j) := by
  have hh := hit_lt hn ha.x hi
  have e : mm (2 ^ n) (pmN n a) B i j = mm (2 ^ n) (fun i l => if l < 2 ^ n then pmN n a i l else .zero) B i j := sumR_congr _ fun l hl => by dsimp only; rw [if_pos hl]
  rw [e, mm_row (A := fun i l => if l < 2 ^ n then pmN n a i l else .zero) hh (fun l hl => by
    split
    · next h => exact pmN_hit hn ha hi h hl
    · rfl), if_pos hh]
theorem pm_col {n : Nat} {a : PN} {A : Nat → Nat → Rg4} {j : Nat} (hn : n ≤ 3) (ha : PNn n a) (hj : j < 2 ^ n) (i : Nat) : mm (2 ^ n) A (pmN n a) i j = (A i (hitN n a.x j)).mul (pmN n a (hitN n a.x j) j) := by
  have hh := hit_lt hn ha.x hj
  have e : mm (2 ^ n) A (pmN n a) i j = mm (2 ^ n) A (fun l j => if l < 2 ^ n then pmN n a l j else .zero) i j := sumR_congr _ fun l hl => by dsimp only; rw [if_pos hl]
  rw [e, mm_col (B := fun l j => if l < 2 ^ n then pmN n a l j else .zero) hh (fun l hl => by
    split
    · next h => exact pmN_hitc hn ha h hj hl
    · rfl), if_pos hh]
/-- A phase alone. -/
theorem cell_scal {n f : Nat} (hf : f ≤ 3) (i : Nat) : ∀ m, cellU n ⟨f, 0, 0⟩ i i m = f
  | 0 => rfl
  | m + 1 => by
    simp only [cellU]
    rw [cell_scal hf i m]
    have e : ltr ⟨f, 0, 0⟩ m = 0 := by unfold ltr bt; simp
    rw [e]
    have e2 : facU 0 (qb n i m) (qb n i m) = 0 := by unfold facU; simp
    rw [e2]
    unfold mulU; rw [if_neg (by omega)]; omega
theorem scal_n {n f : Nat} (hf : f ≤ 3) : PNn n ⟨f, 0, 0⟩ := ⟨hf, Nat.two_pow_pos n, Nat.two_pow_pos n⟩
theorem hit_zero (n i : Nat) : hitN n 0 i = i := by
  unfold hitN
  have : ∀ L : List Nat, L.foldl (fun r q => r + 2 ^ (n - 1 - q) * bt 0 q) 0 = 0 := by
    intro L
    induction L with
    | nil => rfl
    | cons a L ih => simp only [List.foldl_cons]; rw [show 0 + 2 ^ (n - 1 - a) * bt 0 a = 0 from by unfold bt; simp]; exact ih
  rw [this, Nat.xor_zero]
/-- Two operators that a matrix carries into each other. -/
def Conj (n : Nat) (G : Nat → Nat → Rg4) (P Q : PN) : Prop := EqM (2 ^ n) (mm (2 ^ n) G (pmN n P)) (mm (2 ^ n) (pmN n Q) G)
section
variable {n : Nat} {G : Nat → Nat → Rg4} {P Q P2 Q2 : PN}
theorem Conj.scal (hn : n ≤ 3) {f : Nat} (hf : f ≤ 3) : Conj n G ⟨f, 0, 0⟩ ⟨f, 0, 0⟩ := fun i j hi hj => by
  rw [pm_col hn (scal_n hf) hj, pm_row hn (scal_n hf) hi]
  dsimp only
  rw [hit_zero, hit_zero]
  unfold pmN
  rw [cell_scal hf, cell_scal hf, Rg4.mul_comm]
theorem Conj.mul (hn : n ≤ 3) (hP : PNn n P) (hQ : PNn n Q) (hP2 : PNn n P2) (hQ2 : PNn n Q2) (h : Conj n G P Q) (h2 : Conj n G P2 Q2) : Conj n G (mulN P P2) (mulN Q Q2) := by
  have r : ∀ A : Nat → Nat → Rg4, EqM (2 ^ n) A A := fun A i j _ _ => rfl
  have s : ∀ A B C : Nat → Nat → Rg4, EqM (2 ^ n) (mm (2 ^ n) (mm (2 ^ n) A B) C) (mm (2 ^ n) A (mm (2 ^ n) B C)) := fun A B C i j _ _ => mm_assoc A B C i j
  have a1 := mm_congr (r G) (pmN_mul hn hP hP2).symm
  have a2 := (s G (pmN n P) (pmN n P2)).symm
  have a3 := mm_congr h (r (pmN n P2))
  have a4 := s (pmN n Q) G (pmN n P2)
  have a5 := mm_congr (r (pmN n Q)) h2
  have a6 := (s (pmN n Q) (pmN n Q2) G).symm
  have a7 := mm_congr (pmN_mul hn hQ hQ2) (r G)
  exact a1.trans (a2.trans (a3.trans (a4.trans (a5.trans (a6.trans a7)))))
theorem gp_n {a : PN} (h : PNn n a) (b : Bool) : PNn n (gp a b) := by
  cases b
  · exact scal_n (by omega)
  · exact h
theorem Conj.gp (hn : n ≤ 3) (h : Conj n G P Q) (b : Bool) : Conj n G (Go.Proofs.YtnckabohlakbgaaGreat.gp P b) (Go.Proofs.YtnckabohlakbgaaGreat.gp Q b) := by
  cases b
  · exact Conj.scal hn (by omega)
  · exact h
end
/-- What holds for the generators holds for all. -/
theorem imF_n {n : Nat} {X Z : List PN} (hX : ∀ q, q < n → PNn n (X.getD q ⟨0, 0, 0⟩)) (hZ : ∀ q, q < n → PNn n (Z.getD q ⟨0, 0, 0⟩)) (f x z : Nat) : ∀ k, k ≤ n → PNn n (imF X Z f x z k)
  | 0, _ => scal_n (by omega)
  | k + 1, hk => mulN_n (mulN_n (imF_n hX hZ f x z k (by omega)) (gp_n (hX k (by omega)) _)) (gp_n (hZ k (by omega)) _)
theorem Conj.all {n : Nat} {G : Nat → Nat → Rg4} {X Z X2 Z2 : List PN} (hn : n ≤ 3) (h1 : ∀ q, q < n → PNn n (X.getD q ⟨0, 0, 0⟩)) (h2 : ∀ q, q < n → PNn n (Z.getD q ⟨0, 0, 0⟩)) (h3 : ∀ q, q < n → PNn n (X2.getD q ⟨0, 0, 0⟩)) (h4 : ∀ q, q < n → PNn n (Z2.getD q ⟨0, 0, 0⟩))
    (hx : ∀ q, q < n → Conj n G (X.getD q ⟨0, 0, 0⟩) (X2.getD q ⟨0, 0, 0⟩)) (hz : ∀ q, q < n → Conj n G (Z.getD q ⟨0, 0, 0⟩) (Z2.getD q ⟨0, 0, 0⟩)) (f x z : Nat) : ∀ k, k ≤ n → Conj n G (imF X Z f x z k) (imF X2 Z2 f x z k)
  | 0, _ => Conj.scal hn (by omega)
  | k + 1, hk => by
    have ih := Conj.all hn h1 h2 h3 h4 hx hz f x z k (by omega)
    have i1 := imF_n h1 h2 f x z k (by omega)
    have i2 := imF_n h3 h4 f x z k (by omega)
    simp only [imF]
    exact Conj.mul hn (mulN_n i1 (gp_n (h1 k (by omega)) _)) (mulN_n i2 (gp_n (h3 k (by omega)) _)) (gp_n (h2 k (by omega)) _) (gp_n (h4 k (by omega)) _)
      (Conj.mul hn i1 i2 (gp_n (h1 k (by omega)) _) (gp_n (h3 k (by omega)) _) ih ((hx k (by omega)).gp hn _)) ((hz k (by omega)).gp hn _)
end Go.Proofs.YtnckabohlakbgaaGreat
namespace Go.Proofs.YtnckabohlakbgaaGreat
set_option linter.unusedSimpArgs false
set_option linter.unusedVariables false
set_option linter.unnecessarySimpa false
set_option maxRecDepth 200000
open Go.ChangeShapes Go.WideShapes Go.ChangeAt Go.RowKit

/-- A dimension. -/
def MDim (n : Nat) : Prop := n = 1 ∨ n = 2 ∨ n = 4 ∨ n = 8 ∨ n = 16 ∨ n = 32
theorem MDim.le {n : Nat} (h : MDim n) : 1 ≤ n ∧ n ≤ 32 := by unfold MDim at h; omega
theorem impl_isDim_ok (n : Nat) (w : World) (h : MDim n) :
    Calls Tryz.prog 84 #[.int .i64 (n : Int)] w fun e w' => e = .returned (.bool true) ∧ w = w' := by
  rcases h with rfl | rfl | rfl | rfl | rfl | rfl
  all_goals
    go_enter Tryz.func84, Tryz.ntmps84
    go_wp2_with fail
    refine (within_is (b := true) (by decide) _).mono ?_; rintro e w1 ⟨rfl, rfl⟩
    go_wp2_with fail
    go_ret
    exact ⟨rfl, rfl⟩
theorem dy_info : (Tryz.prog.info? 86).map (fun i => (i.zero, i.size, i.bytes)) = some (some (.agg #[.int .i64 0, .int .i64 0, .int .i64 0, .int .i64 0, .int .i64 0]), 5, 40) := by kernel_rfl
/-- The first m cells, row after row. -/
def cellsTo (c : Nat) (F : Nat → Nat → Dy) (m : Nat) : List Dy := (List.range m).map fun t => F (t / c) (t % c)
theorem cellsTo_len (c : Nat) (F : Nat → Nat → Dy) (m : Nat) : (cellsTo c F m).length = m := by simp [cellsTo]
theorem cellsTo_succ {c i j : Nat} (F : Nat → Nat → Dy) (hj : j < c) : cellsTo c F (i * c + j + 1) = cellsTo c F (i * c + j) ++ [F i j] := by
  unfold cellsTo
  rw [List.range_succ, List.map_append]
  have h1 : (i * c + j) / c = i := by rw [Nat.add_comm, Nat.add_mul_div_right _ _ (by omega), Nat.div_eq_of_lt hj, Nat.zero_add]
  have h2 : (i * c + j) % c = j := by rw [Nat.add_comm, Nat.add_mul_mod_self_right, Nat.mod_eq_of_lt hj]
  simp [h1, h2]
theorem cellsTo_get {c : Nat} (F : Nat → Nat → Dy) {r i j : Nat} (hi : i < r) (hj : j < c) (h : i * c + j < (cellsTo c F (r * c)).length) : (cellsTo c F (r * c))[i * c + j] = F i j := by
  have h1 : (i * c + j) / c = i := by rw [Nat.add_comm, Nat.add_mul_div_right _ _ (by omega), Nat.div_eq_of_lt hj, Nat.zero_add]
  have h2 : (i * c + j) % c = j := by rw [Nat.add_comm, Nat.add_mul_mod_self_right, Nat.mod_eq_of_lt hj]
  simp [cellsTo, h1, h2]
theorem cell_in {r c i j : Nat} (hi : i < r) (hj : j < c) : i * c + j < r * c := by
  have : (i + 1) * c ≤ r * c := Nat.mul_le_mul_right c hi
  rw [Nat.add_mul] at this; omega
/-- The state of matrixOf: the result's box, the matrix's box, its cells. -/
structure Mst (w0 w : World) (r c : Nat) (a : Option Addr) (n cap : Nat) (M : List Dy) : Prop where
  bx : Sb w0.heap.size w0 w [(w0.heap.size + 1, [.int .i64 (r : Int), .int .i64 (c : Int), .slice a n cap]), (w0.heap.size, [.int .i64 0, .int .i64 0, .slice none 0 0])]
  own : OwnE w (w0.heap.size + 2) 86 (.slice a n cap) Dy.cs 5 M
  len : M.length = n
theorem Mst.sz {w0 w : World} {r c : Nat} {a : Option Addr} {n cap : Nat} {M : List Dy} (h : Mst w0 w r c a n cap M) : w0.heap.size + 2 ≤ w.heap.size := h.bx.lt
theorem Mst.call {w0 w w' : World} {r c : Nat} {a : Option Addr} {n cap : Nat} {M : List Dy} (h : Mst w0 w r c a n cap M) (hb : Below w.heap.size w w') : Mst w0 w' r c a n cap M :=
  ⟨h.bx.call hb, OwnE.below h.own hb rfl, h.len⟩
theorem Mst.alloc {w0 w : World} {r c : Nat} {a : Option Addr} {n cap : Nat} {M : List Dy} (h : Mst w0 w r c a n cap M) (X : Obj) : Mst w0 (w.alloc X) r c a n cap M :=
  h.call (show Below w.heap.size w (w.alloc X) from belo)
theorem Mst.kept {w0 w w' : World} {r c : Nat} {a : Option Addr} {n cap : Nat} {M : List Dy} (h : Mst w0 w r c a n cap M) (hg : w.grownBy w' (Value.slice a n cap).ownBlock) :
    Sb w0.heap.size w0 w' [(w0.heap.size + 1, [.int .i64 (r : Int), .int .i64 (c : Int), .slice a n cap]), (w0.heap.size, [.int .i64 0, .int .i64 0, .slice none 0 0])] :=
  h.bx.kept hg (fun b hb => by
    have := (h.own.lt b hb).1
    refine ⟨by omega, fun p hp e => ?_⟩
    simp only [List.mem_cons, List.not_mem_nil, or_false] at hp
    rcases hp with rfl | rfl <;> (dsimp only at e; omega))
theorem Mst.app {w0 w w' : World} {r c : Nat} {a a1 : Option Addr} {n cap c1 : Nat} {M : List Dy} {D : Dy} (h : Mst w0 w r c a n cap M) (hg : w.grownBy w' (Value.slice a n cap).ownBlock)
    (ho : w'.ownsRow (w0.heap.size + 2) 86 5 (.slice a1 (n + 1) c1) (n + 1) (M.flatMap Dy.cs ++ D.cs)) : Mst w0 (w'.setCell ⟨w0.heap.size + 1, 2, none⟩ (.slice a1 (n + 1) c1)) r c a1 (n + 1) c1 (M ++ [D]) := by
  refine ⟨(h.kept hg).set0 2 (.slice a1 (n + 1) c1), OwnE.set (show OwnE w' (w0.heap.size + 2) 86 (.slice a1 (n + 1) c1) Dy.cs 5 (M ++ [D]) from ?_) (show w0.heap.size + 1 < _ by omega) _, by simp [h.len]⟩
  unfold OwnE
  rw [List.length_append, List.flatMap_append, h.len]
  simpa using ho
set_option maxHeartbeats 8000000 in
theorem impl_matrixOf_ok (r c : Nat) (hr : MDim r) (hc : MDim c) (g : Nat) (lb : Array Value) (F : Nat → Nat → Dy) (eg : ∀ args w, (callFunc g args).run Tryz.prog w = .ok (.enter g args) w) (w : World)
    (hF : ∀ (W : World) (i j : Nat), i < r → j < c → Below w.heap.size w W → Calls Tryz.prog g (#[.int .i64 (i : Int), .int .i64 (j : Int)] ++ lb) W fun e w' => e = .returned (.tuple #[(F i j).v, .bool true]) ∧ Below W.heap.size W w') :
    Calls Tryz.prog 48 #[.int .i64 (r : Int), .int .i64 (c : Int), .func (.func g) #[] lb] w fun e w' => ∃ a cap, e = .returned (.tuple #[.agg #[.int .i64 (r : Int), .int .i64 (c : Int), .slice a (r * c) cap], .bool true]) ∧
      OwnE w' (w.heap.size + 2) 86 (.slice a (r * c) cap) Dy.cs 5 (cellsTo c F (r * c)) ∧ Below w.heap.size w w' := by
  obtain ⟨i0, hi, hz0, hz1, hz2⟩ := info_parts dy_info
  have HF := Lib.hid hF
  have HR := Lib.hid hr
  have HC := Lib.hid hc
  obtain ⟨r1, r2⟩ := hr.le
  obtain ⟨c1, c2⟩ := hc.le
  have S0 := Lib.hid (show Mst w ((w.alloc (.cells #[.int .i64 0, .int .i64 0, .slice none 0 0] 47)).alloc (.cells #[.int .i64 (r : Int), .int .i64 (c : Int), .slice none 0 0] 47)) r c none 0 0 [] from
    ⟨((Sb.nil w).push [.int .i64 0, .int .i64 0, .slice none 0 0] 47 rfl).push [.int .i64 (r : Int), .int .i64 (c : Int), .slice none 0 0] 47 (g := w.heap.size + 1) (by simp), OwnE.nil _ _ _, rfl⟩)
  clear hr hc hF
  go_enter Tryz.func48, Tryz.ntmps48
  go_wp2_with fail
  generalize ((w.alloc (.cells #[.int .i64 0, .int .i64 0, .slice none 0 0] 47)).alloc (.cells #[.int .i64 (r : Int), .int .i64 (c : Int), .slice none 0 0] 47)) = w1 at *
  refine (impl_isDim_ok r _ HR.out).mono ?_; rintro e w2 ⟨rfl, rfl⟩
  go_wp2_with fail
  refine (impl_isDim_ok c _ HC.out).mono ?_; rintro e w2 ⟨rfl, rfl⟩
  go_wp2_with fail
  go_loopw [26] (fun o wr => ∃ (k n : Nat) (a : Option Addr) (cap : Nat), k ≤ r ∧ o = .int .i64 (k : Int) ∧ n = k * c ∧ Hid (Mst w wr r c a n cap (cellsTo c F n))) (fun o _ => r - (intOf o).toNat)
  case atStart => exact ⟨0, 0, none, 0, Nat.zero_le _, rfl, by simp, S0⟩
  case round =>
    clear S0
    obtain ⟨k, n, a, cap, hk, rfl, hn, hS⟩ := hrel
    have HN := Lib.hid hn
    clear hn
    by_cases hlt : k < r
    · have i1 : (k : Int) < (r : Int) := by omega
      go_wp2_with fail
      go_loopw [30] (fun o wr => ∃ (j n : Nat) (a : Option Addr) (cap : Nat), j ≤ c ∧ o = .int .i64 (j : Int) ∧ n = k * c + j ∧ Hid (Mst w wr r c a n cap (cellsTo c F n))) (fun o _ => c - (intOf o).toNat)
      case atStart => exact ⟨0, n, a, cap, Nat.zero_le _, rfl, by rw [HN.out]; rfl, hS⟩
      case round =>
        clear hS HN
        clear n a cap
        obtain ⟨j, n, a, cap, hj, rfl, hn, hS⟩ := hrel
        by_cases hlt2 : j < c
        · have i2 : (j : Int) < (c : Int) := by omega
          have hcall := HF.out wr k j hlt hlt2 hS.out.bx.bel
          have hsz := hS.out.sz
          have hn1024 : n ≤ 1024 := by
            have := cell_in hlt hlt2
            have h3 : r * c ≤ 32 * 32 := Nat.mul_le_mul r2 c2
            omega
          have HS := Lib.hid (show cellsTo c F (n + 1) = cellsTo c F n ++ [F k j] from by rw [hn]; exact cellsTo_succ F hlt2)
          have HN := Lib.hid (show n + 1 = k * c + (j + 1) from by rw [hn]; omega)
          clear hn
          obtain ⟨D, hD⟩ : ∃ D, D = F k j := ⟨_, rfl⟩
          rw [← hD] at hcall HS
          clear hD
          obtain ⟨⟨da, db, dc, dd⟩, de⟩ := D
          dsimp only [Dy.v] at hcall
          go_wp2_with fail
          refine hcall.mono ?_; rintro e w3 ⟨rfl, hb3⟩
          have h3 := hS.out.call hb3
          have g3 := Nat.le_trans hsz hb3.size
          clear hS hcall hb3
          have X3 := Lib.hid (h3.alloc (.cells #[.int .i64 da, .int .i64 db, .int .i64 dc, .int .i64 dd, .int .i64 (de : Int)] 86))
          have X4 := Lib.hid (X3.out.alloc (.cells #[.int .i64 da, .int .i64 db, .int .i64 dc, .int .i64 dd, .int .i64 (de : Int)] 86))
          have R4 := Lib.hid (show Reads ((w3.alloc (.cells #[.int .i64 da, .int .i64 db, .int .i64 dc, .int .i64 dd, .int .i64 (de : Int)] 86)).alloc (.cells #[.int .i64 da, .int .i64 db, .int .i64 dc, .int .i64 dd, .int .i64 (de : Int)] 86)) (w3.heap.size + 1 + 1) 5 (some ⟨w3.heap.size + 1, 0, none⟩) 1 (Dy.cs ⟨⟨da, db, dc, dd⟩, de⟩) from by
            have := reads_news (w3.alloc (.cells #[.int .i64 da, .int .i64 db, .int .i64 dc, .int .i64 dd, .int .i64 (de : Int)] 86)) (Dy.cs ⟨⟨da, db, dc, dd⟩, de⟩) 86 5 1 rfl
            simpa using this)
          clear h3
          obtain ⟨⟨c0, c1, c2⟩, f0, f1, f2⟩ := X3.out.bx.head.c3
          go_wp2_with (at_builtin; go_loud (refine wpList_append_any _ rfl _ _ 45 rfl (w.heap.size + 2) 86 i0 (.agg #[.int .i64 0, .int .i64 0, .int .i64 0, .int .i64 0, .int .i64 0]) 5 40 Tryz.underlying45 hi hz0 hz1 hz2 rfl (by decide) (.slice a n cap) n ((cellsTo c F n).flatMap Dy.cs) ?hs ?ho (w3.heap.size + 1 + 1) (some ⟨w3.heap.size + 1, 0, none⟩) 1 1 (Dy.cs ⟨⟨da, db, dc, dd⟩, de⟩) ?hx ?hr (Dy.ones _) ?h63 ?hb ?hbs ?_; (case hs => rfl); (case hx => rfl); (case h63 => (unfold maxLen; omega)); (case hb => omega); (case hbs => (simp; omega)); (case ho => (have h9 := X4.out.own; unfold OwnE at h9; rw [X4.out.len] at h9; exact h9)); (case hr => exact R4.out); intro v1 w5 hown1 hg1 hat1; obtain ⟨ap, cp, rfl⟩ := own_form hown1; have X5 := Lib.hid (X4.out.app hg1 hown1); obtain ⟨⟨k0, k1, k2⟩, q0, q1, q2⟩ := (X4.out.kept hg1).head.c3; clear hown1 hg1 hat1 c0 c1 c2 f0 f1 f2 X3 X4 R4))
          go_wp2_with fail
          go_roundw
          case rel => exact ⟨j + 1, n + 1, ap, cp, by omega, by go_num, HN.out, by rw [HS.out]; exact X5⟩
          case measure => simp [intOf]; omega
        · have i2 : ¬ (j : Int) < (c : Int) := by omega
          have HN := Lib.hid (show n = (k + 1) * c from by rw [hn, Nat.add_mul]; omega)
          clear hn
          go_wp2_with fail
          go_roundw
          case rel => exact ⟨k + 1, n, a, cap, by omega, by go_num, HN.out, hS⟩
          case measure => simp [intOf]; omega
    · have i1 : ¬ (k : Int) < (r : Int) := by omega
      have e9 : n = r * c := by rw [HN.out, show k = r from by omega]
      subst e9
      obtain ⟨⟨b0, b1, b2⟩, g0, g1, g2⟩ := hS.out.bx.head.c3
      obtain ⟨⟨c0, c1, c2⟩, f0, f1, f2⟩ := (hS.out.bx.at 1 rfl).c3
      have O9 := Lib.hid (((OwnE.set hS.out.own (a := ⟨w.heap.size, 0, none⟩) (by dsimp only; omega) (.int .i64 (r : Int))).set (a := ⟨w.heap.size, 1, none⟩) (by dsimp only; omega) (.int .i64 (c : Int))).set (a := ⟨w.heap.size, 2, none⟩) (by dsimp only; omega) (.slice a (r * c) cap))
      have S9 := Lib.hid (((hS.out.bx.set1 0 (.int .i64 (r : Int))).set1 1 (.int .i64 (c : Int))).set1 2 (.slice a (r * c) cap))
      clear hS
      go_wp2_with fail
      clear b0 b1 b2 g0 g1 g2 c0 c1 c2 f0 f1 f2
      generalize ((wr.setCell ⟨w.heap.size, 0, none⟩ (.int .i64 (r : Int))).setCell ⟨w.heap.size, 1, none⟩ (.int .i64 (c : Int))).setCell ⟨w.heap.size, 2, none⟩ (.slice a (r * c) cap) = w9 at *
      obtain ⟨⟨c0, c1, c2⟩, _⟩ := (S9.out.at 1 rfl).c3
      refine bodyPost_ret (v := .tuple #[.agg #[.int .i64 (r : Int), .int .i64 (c : Int), .slice a (r * c) cap], .bool true]) (by simp [results, Tryz.results48, go_sem, c0, c1, c2]) rfl ⟨a, cap, rfl, O9.out, S9.out.bel⟩
end Go.Proofs.YtnckabohlakbgaaGreat
namespace Go.Proofs.YtnckabohlakbgaaGreat
set_option linter.unusedSimpArgs false
set_option linter.unusedVariables false
set_option linter.unnecessarySimpa false
set_option maxRecDepth 200000
open Go.ChangeShapes Go.WideShapes Go.ChangeAt Go.RowKit

theorem Sb.drewN {B : Nat} {w0 w : World} {L : List (Nat × List Value)} (h : Sb B w0 w L) (n : Nat) : Sb B w0 (w.drewN n) L :=
  ⟨h.hB, below_drewN h.bel n, fun p hp => ⟨(h.bx p hp).lt, (h.bx p hp).cs, (h.bx p hp).fz⟩, h.ap, h.ge⟩
/-- A matrix in memory: r rows of c cells that F gives. -/
def RdM (w : World) (r c : Nat) (a : Option Addr) (cap : Nat) (F : Nat → Nat → Dy) : Prop := RdE w (.slice a (r * c) cap) Dy.cs 5 (cellsTo c F (r * c))
theorem RdM.call {w w' : World} {r c : Nat} {a : Option Addr} {cap : Nat} {F : Nat → Nat → Dy} (h : RdM w r c a cap F) (hb : Below w.heap.size w w') : RdM w' r c a cap F := RdE.below h hb rfl
theorem RdM.at {w : World} {r c : Nat} {a : Option Addr} {cap : Nat} {F : Nat → Nat → Dy} (h : RdM w r c a cap F) {i j : Nat} (hi : i < r) (hj : j < c) :
    ∃ b off, a = some ⟨b, off, none⟩ ∧ ∀ t u, t < 5 → (F i j).cs[t]? = some u → w.cell? ⟨b, off + ((i * c + j) * 5 + t), none⟩ = some u := by
  have hlt := cell_in hi hj
  rcases RdE.cases0 Dy.len h with ⟨h0, _⟩ | ⟨_, b, off, cap2, e, _, _, _, hc⟩
  · have := congrArg List.length h0
    rw [cellsTo_len] at this
    simp at this; omega
  · injection e with e1 e2 e3
    subst e1
    refine ⟨b, off, rfl, fun t u ht hu => hc (i * c + j) (by rw [cellsTo_len]; exact hlt) t u ht ?_⟩
    rw [cellsTo_get F hi hj]; exact hu
set_option maxHeartbeats 4000000 in
theorem impl_at_ok (r c i j : Nat) (a : Option Addr) (cap : Nat) (F : Nat → Nat → Dy) (w : World) (hr : r ≤ 32) (hc : c ≤ 32) (h : RdM w r c a cap F) (hi : i < r) (hj : j < c) :
    Calls Tryz.prog 57 #[.agg #[.int .i64 (r : Int), .int .i64 (c : Int), .slice a (r * c) cap], .int .i64 (i : Int), .int .i64 (j : Int)] w fun e w' => e = .returned (F i j).v ∧ Below w.heap.size w w' := by
  have S0 := Lib.hid (((Sb.nil w).push [.int .i64 (r : Int), .int .i64 (c : Int), .slice a (r * c) cap] 47 rfl).push [.int .i64 0, .int .i64 0, .int .i64 0, .int .i64 0, .int .i64 0] 86 (g := w.heap.size + 1) (by simp))
  have hb : Below w.heap.size w ((w.alloc (.cells #[.int .i64 (r : Int), .int .i64 (c : Int), .slice a (r * c) cap] 47)).alloc (.cells #[.int .i64 0, .int .i64 0, .int .i64 0, .int .i64 0, .int .i64 0] 86)) := belo
  have h2 := h.call hb
  obtain ⟨b, off, rfl, hcell⟩ := h2.at hi hj
  have hlt := cell_in hi hj
  have hm : r * c ≤ 32 * 32 := Nat.mul_le_mul hr hc
  obtain ⟨n, hn⟩ : ∃ n, n = r * c := ⟨_, rfl⟩
  rw [← hn] at hlt hm S0 hb hcell ⊢
  obtain ⟨p, hp⟩ : ∃ p, p = i * c := ⟨_, rfl⟩
  have hpi : (i : Int) * (c : Int) = (p : Int) := by rw [hp]; simp
  rw [← hp] at hcell hlt
  obtain ⟨t, ht⟩ : ∃ t, t = p + j := ⟨_, rfl⟩
  have hti : (p : Int) + (j : Int) = (t : Int) := by omega
  rw [← ht] at hcell hlt
  have w1 : IntKind.i64.wrap (p : Int) = (p : Int) := IntWalk.i64_in _ (by omega)
  have w2 : IntKind.i64.wrap (t : Int) = (t : Int) := IntWalk.i64_in _ (by omega)
  have i1 : (t : Int) < (n : Int) := by omega
  have i2 : (0 : Int) ≤ (t : Int) := by omega
  clear hn hp ht h h2 hm hi hj hr hc hb
  generalize F i j = D at *
  obtain ⟨⟨da, db, dc, dd⟩, de⟩ := D
  have k0 := hcell 0 _ (by decide) rfl
  have k1 := hcell 1 _ (by decide) rfl
  have k2 := hcell 2 _ (by decide) rfl
  have k3 := hcell 3 _ (by decide) rfl
  have k4 := hcell 4 _ (by decide) rfl
  clear hcell
  rw [Nat.add_zero] at k0
  rw [← Nat.add_assoc] at k1 k2 k3 k4
  dsimp only at k0 k1 k2 k3 k4
  obtain ⟨⟨a0, a1, a2, a3, a4⟩, f0, f1, f2, f3, f4⟩ := S0.out.head.c5
  obtain ⟨⟨b0, b1, b2⟩, -⟩ := (S0.out.at 1 rfl).c3
  clear S0
  go_enter Tryz.func57, Tryz.ntmps57
  go_wp2_with fail
  refine bodyPost_ret (v := .agg #[.int .i64 da, .int .i64 db, .int .i64 dc, .int .i64 dd, .int .i64 (de : Int)]) (by simp [results, Tryz.results57, go_sem]) rfl ⟨rfl, belo⟩
set_option maxHeartbeats 8000000 in
theorem spec_EqualMatrices_ok (r c : Nat) (a b : Option Addr) (n ca cb : Nat) (xs : List Dy) (w : World) (hn : n = xs.length) (h1 : RdE w (.slice a n ca) Dy.cs 5 xs) (h2 : RdE w (.slice b n cb) Dy.cs 5 xs) (hl : n ≤ 2000) :
    Calls Tryz.prog 19 #[.agg #[.int .i64 (r : Int), .int .i64 (c : Int), .slice a n ca], .agg #[.int .i64 (r : Int), .int .i64 (c : Int), .slice b n cb]] w fun e w' => e = .returned (.bool true) ∧ Below w.heap.size w w' := by
  have S0 := Lib.hid (((Sb.nil w).push [.int .i64 (r : Int), .int .i64 (c : Int), .slice a n ca] 47 rfl).push [.int .i64 (r : Int), .int .i64 (c : Int), .slice b n cb] 47 (g := w.heap.size + 1) (by simp))
  have H1 := Lib.hid h1
  have H2 := Lib.hid h2
  have HN := Lib.hid hn
  obtain ⟨⟨a0, a1, a2⟩, -⟩ := S0.out.head.c3
  obtain ⟨⟨b0, b1, b2⟩, -⟩ := (S0.out.at 1 rfl).c3
  clear h1 h2 hn
  go_enter Tryz.func19, Tryz.ntmps19
  go_wp2_with fail
  clear a0 a1 a2 b0 b1 b2
  generalize ((w.alloc (.cells #[.int .i64 (r : Int), .int .i64 (c : Int), .slice a n ca] 47)).alloc (.cells #[.int .i64 (r : Int), .int .i64 (c : Int), .slice b n cb] 47)) = w1 at *
  go_loopw [30] (fun o wr => ∃ k : Nat, k ≤ n ∧ o = .int .i64 (k : Int) ∧ Hid (Sb w.heap.size w wr [(w.heap.size + 1, [.int .i64 (r : Int), .int .i64 (c : Int), .slice b n cb]), (w.heap.size, [.int .i64 (r : Int), .int .i64 (c : Int), .slice a n ca])])) (fun o _ => n - (intOf o).toNat)
  case atStart => exact ⟨0, Nat.zero_le _, rfl, S0⟩
  case round =>
    clear S0
    obtain ⟨k, hk, rfl, hS⟩ := hrel
    by_cases hlt : k < n
    · have i1 : (k : Int) < (n : Int) := by omega
      have i2 : (0 : Int) ≤ (k : Int) := by omega
      have R1 := RdE.below H1.out hS.out.bel rfl
      have R2 := RdE.below H2.out hS.out.bel rfl
      rcases RdE.cases0 Dy.len R1 with ⟨h0, _⟩ | ⟨_, ba, oa, cap, e, _, _, _, hca⟩
      · have := HN.out; rw [h0] at this; simp at this; omega
      injection e with e1 e2 e3
      subst e1
      rcases RdE.cases0 Dy.len R2 with ⟨h0, _⟩ | ⟨_, bb, ob, cap2, e, _, _, _, hcb⟩
      · have := HN.out; rw [h0] at this; simp at this; omega
      injection e with e1 e4 e5
      subst e1
      have hkx : k < xs.length := by rw [← HN.out]; exact hlt
      have ka0 := hca k hkx 0 _ (by decide) rfl; have ka1 := hca k hkx 1 _ (by decide) rfl; have ka2 := hca k hkx 2 _ (by decide) rfl; have ka3 := hca k hkx 3 _ (by decide) rfl; have ka4 := hca k hkx 4 _ (by decide) rfl
      have kb0 := hcb k hkx 0 _ (by decide) rfl; have kb1 := hcb k hkx 1 _ (by decide) rfl; have kb2 := hcb k hkx 2 _ (by decide) rfl; have kb3 := hcb k hkx 3 _ (by decide) rfl; have kb4 := hcb k hkx 4 _ (by decide) rfl
      generalize xs[k] = D at *
      obtain ⟨⟨da, db, dc, dd⟩, de⟩ := D
      rw [Nat.add_zero] at ka0 kb0
      rw [← Nat.add_assoc] at ka1 ka2 ka3 ka4 kb1 kb2 kb3 kb4
      dsimp only at ka0 ka1 ka2 ka3 ka4 kb0 kb1 kb2 kb3 kb4
      obtain ⟨⟨a0, a1, a2⟩, -⟩ := hS.out.head.c3
      obtain ⟨⟨b0, b1, b2⟩, -⟩ := (hS.out.at 1 rfl).c3
      clear hca hcb R1 R2 hkx e2 e3 e4 e5 a0 a1 b0 b1
      have X := Lib.hid hS.out
      clear hS
      go_wp2_with fail
      go_quiet (fail)
      go_wp2_with fail
      go_roundw
      case rel => exact ⟨k + 1, by omega, by go_num, (show Sb _ _ _ _ from X.out.drewN nq)⟩
      case measure => simp [intOf]; omega
    · have i1 : ¬ (k : Int) < (n : Int) := by omega
      go_wp2_with fail
      go_ret
      exact ⟨rfl, hS.out.bel⟩
end Go.Proofs.YtnckabohlakbgaaGreat
namespace Go.Proofs.YtnckabohlakbgaaGreat
set_option linter.unusedSimpArgs false
set_option linter.unusedVariables false
set_option linter.unnecessarySimpa false
set_option maxRecDepth 200000
open Go.ChangeShapes Go.WideShapes Go.ChangeAt Go.RowKit

theorem Sb.push5 {B : Nat} {w0 w : World} {L : List (Nat × List Value)} (h : Sb B w0 w L) (a b c d e : Int) : Sb B w0 (w.alloc (.cells #[.int .i64 a, .int .i64 b, .int .i64 c, .int .i64 d, .int .i64 e] 86)) ((w.heap.size, [.int .i64 a, .int .i64 b, .int .i64 c, .int .i64 d, .int .i64 e]) :: L) :=
  h.push [.int .i64 a, .int .i64 b, .int .i64 c, .int .i64 d, .int .i64 e] 86 rfl
/-- The partial sums of a product's cell, and what each step asks of the program. -/
structure SumOk (r m c : Nat) (A B : Nat → Nat → Dy) (P : Nat → Nat → Nat → Dy) (S : Nat → Nat → Nat → Dy) : Prop where
  zero : ∀ i j, i < r → j < c → S i j 0 = ⟨⟨0, 0, 0, 0⟩, 0⟩
  mul : ∀ i j k, i < r → j < c → k < m → ∀ W : World, Calls Tryz.prog 51 #[(A i k).v, (B k j).v] W fun e w' => e = .returned (.tuple #[(P i j k).v, .bool true]) ∧ Below W.heap.size W w'
  add : ∀ i j k, i < r → j < c → k < m → ∀ W : World, Calls Tryz.prog 58 #[(S i j k).v, (P i j k).v] W fun e w' => e = .returned (.tuple #[(S i j (k + 1)).v, .bool true]) ∧ Below W.heap.size W w'
set_option maxHeartbeats 16000000 in
theorem impl_MulCell_ok (r m c i j ma mb : Nat) (A B : Nat → Nat → Dy) (P S : Nat → Nat → Nat → Dy) (w : World) (a b : Option Addr) (ca cb : Nat) (hr : r ≤ 32) (hm : m ≤ 32) (hc : c ≤ 32) (hi : i < r) (hj : j < c) (hS : SumOk r m c A B P S)
    (h1 : RdM w r m a ca A) (h2 : RdM w m c b cb B)
    (hp : Bw w ma [.int .i64 (r : Int), .int .i64 (m : Int), .slice a (r * m) ca]) (hq : Bw w mb [.int .i64 (m : Int), .int .i64 (c : Int), .slice b (m * c) cb]) :
    Calls Tryz.prog 56 #[.int .i64 (i : Int), .int .i64 (j : Int), .pointer (some ⟨ma, 0, none⟩), .pointer (some ⟨mb, 0, none⟩)] w fun e w' =>
      e = .returned (.tuple #[(S i j m).v, .bool true]) ∧ Below w.heap.size w w' := by
  have HP := Lib.hid hp
  have HQ := Lib.hid hq
  have HM := Lib.hid (hS.mul i j)
  have HAD := Lib.hid (hS.add i j)
  have CA := Lib.hid (fun W k hk h => impl_at_ok r m i k a ca A W hr hm h hi hk)
  have CB := Lib.hid (fun W k hk h => impl_at_ok m c k j b cb B W hm hc h hk hj)
  have HI := Lib.hid hi
  have HJ := Lib.hid hj
  have H1 := Lib.hid h1
  have H2 := Lib.hid h2
  have S0 := Lib.hid (((Sb.nil w).push [.int .i64 0, .int .i64 0, .int .i64 0, .int .i64 0, .int .i64 0] 86 rfl).push [.int .i64 0, .int .i64 0, .int .i64 0, .int .i64 0, .int .i64 0] 86 (g := w.heap.size + 1) (by simp))
  have hz := hS.zero i j hi hj
  obtain ⟨G, hG⟩ : ∃ G, G = S i j := ⟨_, rfl⟩
  have HG := Lib.hid hG
  rw [← hG] at hz ⊢
  have HZ := Lib.hid hz
  replace HAD := Lib.hid (show ∀ k, i < r → j < c → k < m → ∀ W : World, Calls Tryz.prog 58 #[(G k).v, (P i j k).v] W fun e w' => e = .returned (.tuple #[(G (k + 1)).v, .bool true]) ∧ Below W.heap.size W w' from by rw [hG]; exact HAD.out)
  clear hz hG HG hS hi hj h1 h2 hp hq
  generalize r * m = na at *
  generalize m * c = nb at *
  obtain ⟨⟨a0, a1, a2⟩, -⟩ := (HP.out.callB S0.out.bel HP.out.lt).c3
  go_enter Tryz.func56, Tryz.ntmps56
  go_wp2_with fail
  clear a0 a1 a2
  generalize ((w.alloc (.cells #[.int .i64 0, .int .i64 0, .int .i64 0, .int .i64 0, .int .i64 0] 86)).alloc (.cells #[.int .i64 0, .int .i64 0, .int .i64 0, .int .i64 0, .int .i64 0] 86)) = w1 at *
  go_loopw [17] (fun o wr => ∃ k : Nat, k ≤ m ∧ o = .int .i64 (k : Int) ∧ Hid (Sb w.heap.size w wr [(w.heap.size + 1, (G k).cs), (w.heap.size, [.int .i64 0, .int .i64 0, .int .i64 0, .int .i64 0, .int .i64 0])])) (fun o _ => m - (intOf o).toNat)
  case atStart => exact ⟨0, Nat.zero_le _, rfl, by rw [HZ.out]; exact S0⟩
  case round =>
    clear S0 HZ
    obtain ⟨k, hk, rfl, hS⟩ := hrel
    by_cases hlt : k < m
    · have i1 : (k : Int) < (m : Int) := by omega
      have CM := Lib.hid (HM.out k HI.out HJ.out hlt)
      have CD := Lib.hid (HAD.out k HI.out HJ.out hlt)
      have C1 := Lib.hid (fun W h => CA.out W k hlt h)
      have C2 := Lib.hid (fun W h => CB.out W k hlt h)
      have X := Lib.hid hS.out.drew
      clear hS
      obtain ⟨E, hE⟩ : ∃ E, E = G (k + 1) := ⟨_, rfl⟩
      rw [← hE] at CD
      have HE := Lib.hid hE
      clear hE
      generalize P i j k = Q at *
      generalize A i k = y at *
      generalize B k j = z at *
      generalize G k = D at *
      obtain ⟨⟨da, db, dc, dd⟩, de⟩ := D
      obtain ⟨⟨qa, qb, qc, qd⟩, qe⟩ := Q
      obtain ⟨⟨ya, yb, yc, yd⟩, ye⟩ := y
      obtain ⟨⟨za, zb, zc, zd⟩, ze⟩ := z
      obtain ⟨⟨ea, eb, ec, ed⟩, ee⟩ := E
      dsimp only [Dy.v] at C1 C2 CM CD
      obtain ⟨⟨a0, a1, a2⟩, -⟩ := (HP.out.callB X.out.bel HP.out.lt).c3
      obtain ⟨⟨b0, b1, b2⟩, -⟩ := (HQ.out.callB X.out.bel HQ.out.lt).c3
      go_wp2_with fail
      refine AnyB.begin (S := (fun w' => w'.cell? ⟨ma, 0, none⟩ = some (.int .i64 (r : Int)) ∧ w'.cell? ⟨ma, 1, none⟩ = some (.int .i64 (m : Int)) ∧ w'.cell? ⟨ma, 2, none⟩ = some (.slice a na ca) ∧ w'.cell? ⟨mb, 0, none⟩ = some (.int .i64 (m : Int)) ∧ w'.cell? ⟨mb, 1, none⟩ = some (.int .i64 (c : Int)) ∧ w'.cell? ⟨mb, 2, none⟩ = some (.slice b nb cb))) [] (by kernel_rfl) ?_ (fun hHeld0 => ?_)
      · ((try dsimp only); (exact ⟨a0, a1, a2, b0, b1, b2⟩))
      refine AnyB.tk (i := 0) (h := ?_)
      refine AnyB.tq (i := 1) (h := ?_)
      refine AnyB.tq (i := 2) (h := ?_)
      refine AnyB.tk (i := 4) (h := ?_)
      refine AnyB.tq (i := 5) (h := ?_)
      refine AnyB.tq (i := 6) (h := ?_)
      refine AnyB.each (rs := [3, 12]) (by kernel_rfl) (by simp) ?_
      refine EachB.cons rfl (fun K hK hB => ?_) ?_
      · skip
        (go_simp; go_at_call 57; refine (C1.out _ (RdM.call H1.out X.out.bel)).mono ?_; rintro e xA ⟨rfl, hxA⟩; replace X := Lib.hid (X.out.call hxA); clear a0 a1 a2 b0 b1 b2; obtain ⟨⟨a0, a1, a2⟩, -⟩ := (HP.out.callB X.out.bel HP.out.lt).c3; obtain ⟨⟨b0, b1, b2⟩, -⟩ := (HQ.out.callB X.out.bel HQ.out.lt).c3; clear hxA; dsimp only)
        refine hK.out _ _ ?_ (fun hHeld1 => ?_)
        · ((try dsimp only); (exact ⟨a0, a1, a2, b0, b1, b2⟩))
        clear hB hK K hHeld0
        refine AnyB.each (rs := [7, 12]) (by kernel_rfl) (by simp) ?_
        refine EachB.cons rfl (fun K hK hB => ?_) ?_
        · skip
          (go_simp; go_at_call 57; refine (C2.out _ (RdM.call H2.out X.out.bel)).mono ?_; rintro e xA ⟨rfl, hxA⟩; replace X := Lib.hid (X.out.call hxA); clear a0 a1 a2 b0 b1 b2; obtain ⟨⟨a0, a1, a2⟩, -⟩ := (HP.out.callB X.out.bel HP.out.lt).c3; obtain ⟨⟨b0, b1, b2⟩, -⟩ := (HQ.out.callB X.out.bel HQ.out.lt).c3; clear hxA; dsimp only)
          refine hK.out _ _ ?_ (fun hHeld2 => ?_)
          · ((try dsimp only); (exact ⟨a0, a1, a2, b0, b1, b2⟩))
          clear hB hK K hHeld1
          refine AnyB.each (rs := [8, 12]) (by kernel_rfl) (by simp) ?_
          refine EachB.cons rfl (fun K hK hB => ?_) ?_
          · skip
            (go_simp; go_at_call 51; refine (CM.out _).mono ?_; rintro e xA ⟨rfl, hxA⟩; replace X := Lib.hid (X.out.call hxA); clear a0 a1 a2 b0 b1 b2; obtain ⟨⟨a0, a1, a2⟩, -⟩ := (HP.out.callB X.out.bel HP.out.lt).c3; obtain ⟨⟨b0, b1, b2⟩, -⟩ := (HQ.out.callB X.out.bel HQ.out.lt).c3; clear hxA; dsimp only)
            refine hK.out _ _ ?_ (fun hHeld3 => ?_)
            · ((try dsimp only); (exact ⟨a0, a1, a2, b0, b1, b2⟩))
            clear hB hK K hHeld2
            refine AnyB.tq (i := 9) (h := ?_)
            refine AnyB.tq (i := 10) (h := ?_)
            refine AnyB.tq (i := 11) (h := ?_)
            refine AnyB.each (rs := [12]) (by kernel_rfl) (by simp) ?_
            refine EachB.cons rfl (fun K hK hB => ?_) ?_
            · skip
              (go_simp; (first | (obtain ⟨gN, hgN⟩ : ∃ g, xA.heap.size = g := ⟨_, rfl⟩; replace X := Lib.hid (X.out.push5 0 0 0 0 0); rw [hgN] at X ⊢; generalize (xA.alloc (.cells #[.int .i64 0, .int .i64 0, .int .i64 0, .int .i64 0, .int .i64 0] 86)) = xB at *; clear hgN) | (obtain ⟨gN, hgN⟩ : ∃ g, wr.heap.size = g := ⟨_, rfl⟩; replace X := Lib.hid (show Sb w.heap.size w ((wr.alloc (.cells #[.int .i64 0, .int .i64 0, .int .i64 0, .int .i64 0, .int .i64 0] 86)).drew) ((wr.heap.size, [.int .i64 0, .int .i64 0, .int .i64 0, .int .i64 0, .int .i64 0]) :: _) from X.out.push5 0 0 0 0 0); rw [hgN] at X ⊢; generalize ((wr.alloc (.cells #[.int .i64 0, .int .i64 0, .int .i64 0, .int .i64 0, .int .i64 0] 86)).drew) = xB at *; clear hgN)); clear a0 a1 a2 b0 b1 b2; obtain ⟨⟨a0, a1, a2⟩, -⟩ := (HP.out.callB X.out.bel HP.out.lt).c3; obtain ⟨⟨b0, b1, b2⟩, -⟩ := (HQ.out.callB X.out.bel HQ.out.lt).c3)
              refine hK.out _ _ ?_ (fun hHeld4 => ?_)
              · ((try dsimp only); (exact ⟨a0, a1, a2, b0, b1, b2⟩))
              clear hB hK K hHeld3
              refine AnyB.each (rs := [13]) (by kernel_rfl) (by simp) ?_
              refine EachB.cons rfl (fun K hK hB => ?_) ?_
              · skip
                (obtain ⟨⟨y0, y1, y2, y3, y4⟩, q0, q1, q2, q3, q4⟩ := X.out.head.c5; go_simp; clear y0 y1 y2 y3 y4 q0 q1 q2 q3 q4; replace X := Lib.hid (((((X.out.set0 0 (.int .i64 qa)).set0 1 (.int .i64 qb)).set0 2 (.int .i64 qc)).set0 3 (.int .i64 qd)).set0 4 (.int .i64 (qe : Int))); clear a0 a1 a2 b0 b1 b2; obtain ⟨⟨a0, a1, a2⟩, -⟩ := (HP.out.callB X.out.bel HP.out.lt).c3; obtain ⟨⟨b0, b1, b2⟩, -⟩ := (HQ.out.callB X.out.bel HQ.out.lt).c3)
                refine hK.out _ _ ?_ (fun hHeld5 => ?_)
                · ((try dsimp only); (exact ⟨a0, a1, a2, b0, b1, b2⟩))
                clear hB hK K hHeld4
                refine AnyB.tq (i := 14) (h := ?_)
                refine AnyB.none (by kernel_rfl) ?_ _
                clear a0 a1 a2 b0 b1 b2 C1 C2 CM
                obtain ⟨⟨a0, a1, a2, a3, a4⟩, -⟩ := (X.out.at 0 rfl).c5
                obtain ⟨⟨b0, b1, b2, b3, b4⟩, -⟩ := (X.out.at 1 rfl).c5
                go_wp2_with fail
                clear a0 a1 a2 a3 a4 b0 b1 b2 b3 b4
                refine (CD.out _).mono ?_; rintro e w6 ⟨rfl, hb6⟩
                replace X := Lib.hid ((X.out.call hb6).tail.alloc (.cells #[.int .i64 ea, .int .i64 eb, .int .i64 ec, .int .i64 ed, .int .i64 (ee : Int)] 86))
                clear hb6 CD
                obtain ⟨⟨c0, c1, c2, c3, c4⟩, f0, f1, f2, f3, f4⟩ := X.out.head.c5
                have S9 := Lib.hid (((((X.out.set0 0 (.int .i64 ea)).set0 1 (.int .i64 eb)).set0 2 (.int .i64 ec)).set0 3 (.int .i64 ed)).set0 4 (.int .i64 (ee : Int)))
                clear X
                go_wp2_with fail
                go_roundw
                case rel => exact ⟨k + 1, by omega, by go_num, by rw [← HE.out]; exact S9⟩
                case measure => simp [intOf]; omega
              exact EachB.nil
            exact EachB.nil
          refine EachB.cons rfl (fun K hK hB => ?_) ?_
          · skip
            (go_simp; (first | (obtain ⟨gN, hgN⟩ : ∃ g, xA.heap.size = g := ⟨_, rfl⟩; replace X := Lib.hid (X.out.push5 0 0 0 0 0); rw [hgN] at X ⊢; generalize (xA.alloc (.cells #[.int .i64 0, .int .i64 0, .int .i64 0, .int .i64 0, .int .i64 0] 86)) = xB at *; clear hgN) | (obtain ⟨gN, hgN⟩ : ∃ g, wr.heap.size = g := ⟨_, rfl⟩; replace X := Lib.hid (show Sb w.heap.size w ((wr.alloc (.cells #[.int .i64 0, .int .i64 0, .int .i64 0, .int .i64 0, .int .i64 0] 86)).drew) ((wr.heap.size, [.int .i64 0, .int .i64 0, .int .i64 0, .int .i64 0, .int .i64 0]) :: _) from X.out.push5 0 0 0 0 0); rw [hgN] at X ⊢; generalize ((wr.alloc (.cells #[.int .i64 0, .int .i64 0, .int .i64 0, .int .i64 0, .int .i64 0] 86)).drew) = xB at *; clear hgN)); clear a0 a1 a2 b0 b1 b2; obtain ⟨⟨a0, a1, a2⟩, -⟩ := (HP.out.callB X.out.bel HP.out.lt).c3; obtain ⟨⟨b0, b1, b2⟩, -⟩ := (HQ.out.callB X.out.bel HQ.out.lt).c3)
            refine hK.out _ _ ?_ (fun hHeld6 => ?_)
            · ((try dsimp only); (exact ⟨a0, a1, a2, b0, b1, b2⟩))
            clear hB hK K hHeld2
            refine AnyB.each (rs := [8]) (by kernel_rfl) (by simp) ?_
            refine EachB.cons rfl (fun K hK hB => ?_) ?_
            · skip
              (go_simp; go_at_call 51; refine (CM.out _).mono ?_; rintro e xA ⟨rfl, hxA⟩; replace X := Lib.hid (X.out.call hxA); clear a0 a1 a2 b0 b1 b2; obtain ⟨⟨a0, a1, a2⟩, -⟩ := (HP.out.callB X.out.bel HP.out.lt).c3; obtain ⟨⟨b0, b1, b2⟩, -⟩ := (HQ.out.callB X.out.bel HQ.out.lt).c3; clear hxA; dsimp only)
              refine hK.out _ _ ?_ (fun hHeld7 => ?_)
              · ((try dsimp only); (exact ⟨a0, a1, a2, b0, b1, b2⟩))
              clear hB hK K hHeld6
              refine AnyB.tq (i := 9) (h := ?_)
              refine AnyB.tq (i := 10) (h := ?_)
              refine AnyB.tq (i := 11) (h := ?_)
              refine AnyB.each (rs := [13]) (by kernel_rfl) (by simp) ?_
              refine EachB.cons rfl (fun K hK hB => ?_) ?_
              · skip
                (obtain ⟨⟨y0, y1, y2, y3, y4⟩, q0, q1, q2, q3, q4⟩ := X.out.head.c5; go_simp; clear y0 y1 y2 y3 y4 q0 q1 q2 q3 q4; replace X := Lib.hid (((((X.out.set0 0 (.int .i64 qa)).set0 1 (.int .i64 qb)).set0 2 (.int .i64 qc)).set0 3 (.int .i64 qd)).set0 4 (.int .i64 (qe : Int))); clear a0 a1 a2 b0 b1 b2; obtain ⟨⟨a0, a1, a2⟩, -⟩ := (HP.out.callB X.out.bel HP.out.lt).c3; obtain ⟨⟨b0, b1, b2⟩, -⟩ := (HQ.out.callB X.out.bel HQ.out.lt).c3)
                refine hK.out _ _ ?_ (fun hHeld8 => ?_)
                · ((try dsimp only); (exact ⟨a0, a1, a2, b0, b1, b2⟩))
                clear hB hK K hHeld7
                refine AnyB.tq (i := 14) (h := ?_)
                refine AnyB.none (by kernel_rfl) ?_ _
                clear a0 a1 a2 b0 b1 b2 C1 C2 CM
                obtain ⟨⟨a0, a1, a2, a3, a4⟩, -⟩ := (X.out.at 0 rfl).c5
                obtain ⟨⟨b0, b1, b2, b3, b4⟩, -⟩ := (X.out.at 1 rfl).c5
                go_wp2_with fail
                clear a0 a1 a2 a3 a4 b0 b1 b2 b3 b4
                refine (CD.out _).mono ?_; rintro e w6 ⟨rfl, hb6⟩
                replace X := Lib.hid ((X.out.call hb6).tail.alloc (.cells #[.int .i64 ea, .int .i64 eb, .int .i64 ec, .int .i64 ed, .int .i64 (ee : Int)] 86))
                clear hb6 CD
                obtain ⟨⟨c0, c1, c2, c3, c4⟩, f0, f1, f2, f3, f4⟩ := X.out.head.c5
                have S9 := Lib.hid (((((X.out.set0 0 (.int .i64 ea)).set0 1 (.int .i64 eb)).set0 2 (.int .i64 ec)).set0 3 (.int .i64 ed)).set0 4 (.int .i64 (ee : Int)))
                clear X
                go_wp2_with fail
                go_roundw
                case rel => exact ⟨k + 1, by omega, by go_num, by rw [← HE.out]; exact S9⟩
                case measure => simp [intOf]; omega
              exact EachB.nil
            exact EachB.nil
          exact EachB.nil
        refine EachB.cons rfl (fun K hK hB => ?_) ?_
        · skip
          (go_simp; (first | (obtain ⟨gN, hgN⟩ : ∃ g, xA.heap.size = g := ⟨_, rfl⟩; replace X := Lib.hid (X.out.push5 0 0 0 0 0); rw [hgN] at X ⊢; generalize (xA.alloc (.cells #[.int .i64 0, .int .i64 0, .int .i64 0, .int .i64 0, .int .i64 0] 86)) = xB at *; clear hgN) | (obtain ⟨gN, hgN⟩ : ∃ g, wr.heap.size = g := ⟨_, rfl⟩; replace X := Lib.hid (show Sb w.heap.size w ((wr.alloc (.cells #[.int .i64 0, .int .i64 0, .int .i64 0, .int .i64 0, .int .i64 0] 86)).drew) ((wr.heap.size, [.int .i64 0, .int .i64 0, .int .i64 0, .int .i64 0, .int .i64 0]) :: _) from X.out.push5 0 0 0 0 0); rw [hgN] at X ⊢; generalize ((wr.alloc (.cells #[.int .i64 0, .int .i64 0, .int .i64 0, .int .i64 0, .int .i64 0] 86)).drew) = xB at *; clear hgN)); clear a0 a1 a2 b0 b1 b2; obtain ⟨⟨a0, a1, a2⟩, -⟩ := (HP.out.callB X.out.bel HP.out.lt).c3; obtain ⟨⟨b0, b1, b2⟩, -⟩ := (HQ.out.callB X.out.bel HQ.out.lt).c3)
          refine hK.out _ _ ?_ (fun hHeld9 => ?_)
          · ((try dsimp only); (exact ⟨a0, a1, a2, b0, b1, b2⟩))
          clear hB hK K hHeld1
          refine AnyB.each (rs := [7]) (by kernel_rfl) (by simp) ?_
          refine EachB.cons rfl (fun K hK hB => ?_) ?_
          · skip
            (go_simp; go_at_call 57; refine (C2.out _ (RdM.call H2.out X.out.bel)).mono ?_; rintro e xA ⟨rfl, hxA⟩; replace X := Lib.hid (X.out.call hxA); clear a0 a1 a2 b0 b1 b2; obtain ⟨⟨a0, a1, a2⟩, -⟩ := (HP.out.callB X.out.bel HP.out.lt).c3; obtain ⟨⟨b0, b1, b2⟩, -⟩ := (HQ.out.callB X.out.bel HQ.out.lt).c3; clear hxA; dsimp only)
            refine hK.out _ _ ?_ (fun hHeld10 => ?_)
            · ((try dsimp only); (exact ⟨a0, a1, a2, b0, b1, b2⟩))
            clear hB hK K hHeld9
            refine AnyB.each (rs := [8]) (by kernel_rfl) (by simp) ?_
            refine EachB.cons rfl (fun K hK hB => ?_) ?_
            · skip
              (go_simp; go_at_call 51; refine (CM.out _).mono ?_; rintro e xA ⟨rfl, hxA⟩; replace X := Lib.hid (X.out.call hxA); clear a0 a1 a2 b0 b1 b2; obtain ⟨⟨a0, a1, a2⟩, -⟩ := (HP.out.callB X.out.bel HP.out.lt).c3; obtain ⟨⟨b0, b1, b2⟩, -⟩ := (HQ.out.callB X.out.bel HQ.out.lt).c3; clear hxA; dsimp only)
              refine hK.out _ _ ?_ (fun hHeld11 => ?_)
              · ((try dsimp only); (exact ⟨a0, a1, a2, b0, b1, b2⟩))
              clear hB hK K hHeld10
              refine AnyB.tq (i := 9) (h := ?_)
              refine AnyB.tq (i := 10) (h := ?_)
              refine AnyB.tq (i := 11) (h := ?_)
              refine AnyB.each (rs := [13]) (by kernel_rfl) (by simp) ?_
              refine EachB.cons rfl (fun K hK hB => ?_) ?_
              · skip
                (obtain ⟨⟨y0, y1, y2, y3, y4⟩, q0, q1, q2, q3, q4⟩ := X.out.head.c5; go_simp; clear y0 y1 y2 y3 y4 q0 q1 q2 q3 q4; replace X := Lib.hid (((((X.out.set0 0 (.int .i64 qa)).set0 1 (.int .i64 qb)).set0 2 (.int .i64 qc)).set0 3 (.int .i64 qd)).set0 4 (.int .i64 (qe : Int))); clear a0 a1 a2 b0 b1 b2; obtain ⟨⟨a0, a1, a2⟩, -⟩ := (HP.out.callB X.out.bel HP.out.lt).c3; obtain ⟨⟨b0, b1, b2⟩, -⟩ := (HQ.out.callB X.out.bel HQ.out.lt).c3)
                refine hK.out _ _ ?_ (fun hHeld12 => ?_)
                · ((try dsimp only); (exact ⟨a0, a1, a2, b0, b1, b2⟩))
                clear hB hK K hHeld11
                refine AnyB.tq (i := 14) (h := ?_)
                refine AnyB.none (by kernel_rfl) ?_ _
                clear a0 a1 a2 b0 b1 b2 C1 C2 CM
                obtain ⟨⟨a0, a1, a2, a3, a4⟩, -⟩ := (X.out.at 0 rfl).c5
                obtain ⟨⟨b0, b1, b2, b3, b4⟩, -⟩ := (X.out.at 1 rfl).c5
                go_wp2_with fail
                clear a0 a1 a2 a3 a4 b0 b1 b2 b3 b4
                refine (CD.out _).mono ?_; rintro e w6 ⟨rfl, hb6⟩
                replace X := Lib.hid ((X.out.call hb6).tail.alloc (.cells #[.int .i64 ea, .int .i64 eb, .int .i64 ec, .int .i64 ed, .int .i64 (ee : Int)] 86))
                clear hb6 CD
                obtain ⟨⟨c0, c1, c2, c3, c4⟩, f0, f1, f2, f3, f4⟩ := X.out.head.c5
                have S9 := Lib.hid (((((X.out.set0 0 (.int .i64 ea)).set0 1 (.int .i64 eb)).set0 2 (.int .i64 ec)).set0 3 (.int .i64 ed)).set0 4 (.int .i64 (ee : Int)))
                clear X
                go_wp2_with fail
                go_roundw
                case rel => exact ⟨k + 1, by omega, by go_num, by rw [← HE.out]; exact S9⟩
                case measure => simp [intOf]; omega
              exact EachB.nil
            exact EachB.nil
          exact EachB.nil
        exact EachB.nil
      refine EachB.cons rfl (fun K hK hB => ?_) ?_
      · skip
        (go_simp; (first | (obtain ⟨gN, hgN⟩ : ∃ g, xA.heap.size = g := ⟨_, rfl⟩; replace X := Lib.hid (X.out.push5 0 0 0 0 0); rw [hgN] at X ⊢; generalize (xA.alloc (.cells #[.int .i64 0, .int .i64 0, .int .i64 0, .int .i64 0, .int .i64 0] 86)) = xB at *; clear hgN) | (obtain ⟨gN, hgN⟩ : ∃ g, wr.heap.size = g := ⟨_, rfl⟩; replace X := Lib.hid (show Sb w.heap.size w ((wr.alloc (.cells #[.int .i64 0, .int .i64 0, .int .i64 0, .int .i64 0, .int .i64 0] 86)).drew) ((wr.heap.size, [.int .i64 0, .int .i64 0, .int .i64 0, .int .i64 0, .int .i64 0]) :: _) from X.out.push5 0 0 0 0 0); rw [hgN] at X ⊢; generalize ((wr.alloc (.cells #[.int .i64 0, .int .i64 0, .int .i64 0, .int .i64 0, .int .i64 0] 86)).drew) = xB at *; clear hgN)); clear a0 a1 a2 b0 b1 b2; obtain ⟨⟨a0, a1, a2⟩, -⟩ := (HP.out.callB X.out.bel HP.out.lt).c3; obtain ⟨⟨b0, b1, b2⟩, -⟩ := (HQ.out.callB X.out.bel HQ.out.lt).c3)
        refine hK.out _ _ ?_ (fun hHeld13 => ?_)
        · ((try dsimp only); (exact ⟨a0, a1, a2, b0, b1, b2⟩))
        clear hB hK K hHeld0
        refine AnyB.each (rs := [3]) (by kernel_rfl) (by simp) ?_
        refine EachB.cons rfl (fun K hK hB => ?_) ?_
        · skip
          (go_simp; go_at_call 57; refine (C1.out _ (RdM.call H1.out X.out.bel)).mono ?_; rintro e xA ⟨rfl, hxA⟩; replace X := Lib.hid (X.out.call hxA); clear a0 a1 a2 b0 b1 b2; obtain ⟨⟨a0, a1, a2⟩, -⟩ := (HP.out.callB X.out.bel HP.out.lt).c3; obtain ⟨⟨b0, b1, b2⟩, -⟩ := (HQ.out.callB X.out.bel HQ.out.lt).c3; clear hxA; dsimp only)
          refine hK.out _ _ ?_ (fun hHeld14 => ?_)
          · ((try dsimp only); (exact ⟨a0, a1, a2, b0, b1, b2⟩))
          clear hB hK K hHeld13
          refine AnyB.each (rs := [7]) (by kernel_rfl) (by simp) ?_
          refine EachB.cons rfl (fun K hK hB => ?_) ?_
          · skip
            (go_simp; go_at_call 57; refine (C2.out _ (RdM.call H2.out X.out.bel)).mono ?_; rintro e xA ⟨rfl, hxA⟩; replace X := Lib.hid (X.out.call hxA); clear a0 a1 a2 b0 b1 b2; obtain ⟨⟨a0, a1, a2⟩, -⟩ := (HP.out.callB X.out.bel HP.out.lt).c3; obtain ⟨⟨b0, b1, b2⟩, -⟩ := (HQ.out.callB X.out.bel HQ.out.lt).c3; clear hxA; dsimp only)
            refine hK.out _ _ ?_ (fun hHeld15 => ?_)
            · ((try dsimp only); (exact ⟨a0, a1, a2, b0, b1, b2⟩))
            clear hB hK K hHeld14
            refine AnyB.each (rs := [8]) (by kernel_rfl) (by simp) ?_
            refine EachB.cons rfl (fun K hK hB => ?_) ?_
            · skip
              (go_simp; go_at_call 51; refine (CM.out _).mono ?_; rintro e xA ⟨rfl, hxA⟩; replace X := Lib.hid (X.out.call hxA); clear a0 a1 a2 b0 b1 b2; obtain ⟨⟨a0, a1, a2⟩, -⟩ := (HP.out.callB X.out.bel HP.out.lt).c3; obtain ⟨⟨b0, b1, b2⟩, -⟩ := (HQ.out.callB X.out.bel HQ.out.lt).c3; clear hxA; dsimp only)
              refine hK.out _ _ ?_ (fun hHeld16 => ?_)
              · ((try dsimp only); (exact ⟨a0, a1, a2, b0, b1, b2⟩))
              clear hB hK K hHeld15
              refine AnyB.tq (i := 9) (h := ?_)
              refine AnyB.tq (i := 10) (h := ?_)
              refine AnyB.tq (i := 11) (h := ?_)
              refine AnyB.each (rs := [13]) (by kernel_rfl) (by simp) ?_
              refine EachB.cons rfl (fun K hK hB => ?_) ?_
              · skip
                (obtain ⟨⟨y0, y1, y2, y3, y4⟩, q0, q1, q2, q3, q4⟩ := X.out.head.c5; go_simp; clear y0 y1 y2 y3 y4 q0 q1 q2 q3 q4; replace X := Lib.hid (((((X.out.set0 0 (.int .i64 qa)).set0 1 (.int .i64 qb)).set0 2 (.int .i64 qc)).set0 3 (.int .i64 qd)).set0 4 (.int .i64 (qe : Int))); clear a0 a1 a2 b0 b1 b2; obtain ⟨⟨a0, a1, a2⟩, -⟩ := (HP.out.callB X.out.bel HP.out.lt).c3; obtain ⟨⟨b0, b1, b2⟩, -⟩ := (HQ.out.callB X.out.bel HQ.out.lt).c3)
                refine hK.out _ _ ?_ (fun hHeld17 => ?_)
                · ((try dsimp only); (exact ⟨a0, a1, a2, b0, b1, b2⟩))
                clear hB hK K hHeld16
                refine AnyB.tq (i := 14) (h := ?_)
                refine AnyB.none (by kernel_rfl) ?_ _
                clear a0 a1 a2 b0 b1 b2 C1 C2 CM
                obtain ⟨⟨a0, a1, a2, a3, a4⟩, -⟩ := (X.out.at 0 rfl).c5
                obtain ⟨⟨b0, b1, b2, b3, b4⟩, -⟩ := (X.out.at 1 rfl).c5
                go_wp2_with fail
                clear a0 a1 a2 a3 a4 b0 b1 b2 b3 b4
                refine (CD.out _).mono ?_; rintro e w6 ⟨rfl, hb6⟩
                replace X := Lib.hid ((X.out.call hb6).tail.alloc (.cells #[.int .i64 ea, .int .i64 eb, .int .i64 ec, .int .i64 ed, .int .i64 (ee : Int)] 86))
                clear hb6 CD
                obtain ⟨⟨c0, c1, c2, c3, c4⟩, f0, f1, f2, f3, f4⟩ := X.out.head.c5
                have S9 := Lib.hid (((((X.out.set0 0 (.int .i64 ea)).set0 1 (.int .i64 eb)).set0 2 (.int .i64 ec)).set0 3 (.int .i64 ed)).set0 4 (.int .i64 (ee : Int)))
                clear X
                go_wp2_with fail
                go_roundw
                case rel => exact ⟨k + 1, by omega, by go_num, by rw [← HE.out]; exact S9⟩
                case measure => simp [intOf]; omega
              exact EachB.nil
            exact EachB.nil
          exact EachB.nil
        exact EachB.nil
      exact EachB.nil
    · have i1 : ¬ (k : Int) < (m : Int) := by omega
      obtain rfl : k = m := by omega
      obtain ⟨D, hD⟩ : ∃ D, D = G k := ⟨_, rfl⟩
      have S9 := hS.out
      rw [← hD] at S9
      have HD := Lib.hid hD
      clear hS hD
      obtain ⟨⟨da, db, dc, dd⟩, de⟩ := D
      have hS := Lib.hid S9
      clear S9
      obtain ⟨⟨b0, b1, b2, b3, b4⟩, g0, g1, g2, g3, g4⟩ := hS.out.head.c5
      obtain ⟨⟨c0, c1, c2, c3, c4⟩, f0, f1, f2, f3, f4⟩ := (hS.out.at 1 rfl).c5
      have S9 := Lib.hid (((((hS.out.set1 0 (.int .i64 da)).set1 1 (.int .i64 db)).set1 2 (.int .i64 dc)).set1 3 (.int .i64 dd)).set1 4 (.int .i64 (de : Int)))
      clear hS
      go_wp2_with fail
      clear b0 b1 b2 b3 b4 g0 g1 g2 g3 g4 c0 c1 c2 c3 c4 f0 f1 f2 f3 f4
      generalize ((((wr.setCell ⟨w.heap.size, 0, none⟩ (.int .i64 da)).setCell ⟨w.heap.size, 1, none⟩ (.int .i64 db)).setCell ⟨w.heap.size, 2, none⟩ (.int .i64 dc)).setCell ⟨w.heap.size, 3, none⟩ (.int .i64 dd)).setCell ⟨w.heap.size, 4, none⟩ (.int .i64 (de : Int)) = w9 at *
      obtain ⟨⟨c0, c1, c2, c3, c4⟩, _⟩ := (S9.out.at 1 rfl).c5
      refine bodyPost_ret (v := .tuple #[.agg #[.int .i64 da, .int .i64 db, .int .i64 dc, .int .i64 dd, .int .i64 (de : Int)], .bool true]) (by simp [results, Tryz.results56, go_sem, c0, c1, c2, c3, c4]) rfl ⟨by rw [← HD.out], S9.out.bel⟩
end Go.Proofs.YtnckabohlakbgaaGreat
namespace Go.Proofs.YtnckabohlakbgaaGreat
set_option linter.unusedSimpArgs false
set_option linter.unusedVariables false
set_option linter.unnecessarySimpa false
set_option maxRecDepth 200000
open Go.ChangeShapes Go.WideShapes Go.ChangeAt Go.RowKit

def encDy (x : Dy) : Value := x.v
set_option maxHeartbeats 2000000 in
theorem slices_IndexFunc_Dyadic (g : Nat) (lb : Array Value) (p : Dy → Bool) (eg : ∀ args w, (callFunc g args).run Tryz.prog w = .ok (.enter g args) w) (v : Value) (zs : List Dy) (w : World) (h : RdE w v Dy.cs 5 zs) (hp : PredB g lb encDy p zs w) :
    Calls Tryz.prog 110 #[v, .func (.func g) #[] lb] w fun e w' => e = .returned (.int .i64 (idxI p zs)) ∧ Below w.heap.size w w' := by
  rcases h.cases0 Dy.len with ⟨rfl, a0, c0, rfl⟩ | ⟨h0, b, off, cap, rfl, hb, hl, hm, hc⟩
  · go_enter Tryz.func110, Tryz.ntmps110
    go_wp2_with fail
    refine wp_loop_rounds 1 ?_
    rw [rounds_succ]
    go_wp2_with fail
    go_ret
    exact ⟨rfl, belo⟩
  · clear h
    have Hp := Lib.hid hp; clear hp
    go_enter Tryz.func110, Tryz.ntmps110
    go_wp2_with fail
    go_loopg [5, 8] zs.length (fun gg _ i wr => ∃ k : Nat, k ≤ zs.length ∧ zs.length - k ≤ gg ∧ i = .int .i64 k ∧ Hid (∀ j (h : j < zs.length), j < k → p zs[j] = false) ∧ Below w.heap.size w wr)
    case atStart => exact ⟨0, Nat.zero_le _, by omega, rfl, (show ∀ j (h : j < zs.length), j < 0 → p zs[j] = false from fun j h hj => absurd hj (Nat.not_lt_zero _)), Below.refl _ _⟩
    case round =>
      obtain ⟨k, hk, hg, rfl, hpre, hbel⟩ := hrel
      by_cases hlt : k < zs.length
      · obtain ⟨y, hy⟩ : ∃ y, zs[k] = y := ⟨_, rfl⟩
        have q0 : wr.cell? ⟨b, off + k * 5, none⟩ = some (.int .i64 y.num.a) := (hbel.cell hb).trans (by rw [← hy]; exact hc k hlt 0 _ (by omega) rfl)
        have q1 : wr.cell? ⟨b, off + k * 5 + 1, none⟩ = some (.int .i64 y.num.b) := (hbel.cell hb).trans (by rw [← hy]; exact hc k hlt 1 _ (by omega) rfl)
        have q2 : wr.cell? ⟨b, off + k * 5 + 2, none⟩ = some (.int .i64 y.num.c) := (hbel.cell hb).trans (by rw [← hy]; exact hc k hlt 2 _ (by omega) rfl)
        have q3 : wr.cell? ⟨b, off + k * 5 + 3, none⟩ = some (.int .i64 y.num.d) := (hbel.cell hb).trans (by rw [← hy]; exact hc k hlt 3 _ (by omega) rfl)
        have q4 : wr.cell? ⟨b, off + k * 5 + 4, none⟩ = some (.int .i64 (y.exp : Int)) := (hbel.cell hb).trans (by rw [← hy]; exact hc k hlt 4 _ (by omega) rfl)
        have hcall := Hp.out wr y (by rw [← hy]; exact List.getElem_mem hlt) hbel
        unfold encDy at hcall
        have i1 : (k : Int) < (zs.length : Int) := by omega
        have Hy := Lib.hid hy; clear hy hc
        cases hq : p y with
        | true =>
          rw [hq] at hcall
          have Hq := Lib.hid hq; clear hq
          go_wp2_with (go_at_fn g; refine hcall.mono ?_; rintro e w2 ⟨rfl, hb2⟩)
          go_ret
          exact ⟨ret_int (idx_hit hlt hpre (by rw [Hy.out]; exact Hq.out)), below_step hbel hb2⟩
        | false =>
          rw [hq] at hcall
          have Hq := Lib.hid hq; clear hq
          go_wp2_with (go_at_fn g; refine hcall.mono ?_; rintro e w2 ⟨rfl, hb2⟩)
          go_roundg (zs.length - (k + 1))
          case measure => omega
          case rel => exact ⟨k + 1, by omega, by omega, by go_num, idx_next hlt hpre (by rw [Hy.out]; exact Hq.out), below_step hbel hb2⟩
      · clear hc
        go_wp2_with fail
        go_ret
        exact ⟨ret_int (idx_miss (by omega) hpre), hbel⟩
theorem slices_ContainsFunc_Dyadic (g : Nat) (lb : Array Value) (p : Dy → Bool) (eg : ∀ args w, (callFunc g args).run Tryz.prog w = .ok (.enter g args) w) (v : Value) (zs : List Dy) (w : World) (h : RdE w v Dy.cs 5 zs) (hp : PredB g lb encDy p zs w) :
    Calls Tryz.prog 91 #[v, .func (.func g) #[] lb] w fun e w' => e = .returned (.bool (zs.any p)) ∧ Below w.heap.size w w' := by
  have Hh := Lib.hid h; have Hp := Lib.hid hp
  obtain ⟨A, c, rfl, _⟩ := h.form
  clear h hp
  go_enter Tryz.func91, Tryz.ntmps91
  go_wp2_with fail
  refine (slices_IndexFunc_Dyadic g lb p eg _ zs _ Hh.out Hp.out).mono ?_; rintro e w1 ⟨rfl, hb1⟩
  go_wp2_with fail
  go_ret
  exact ⟨ret_bool (by rw [Bool.eq_iff_iff, ← idxI_ge]; simp), hb1⟩
end Go.Proofs.YtnckabohlakbgaaGreat
