/- The bitwise operations on small whole numbers, as the walk spells them. -/
import Derived.Test.YtbcjligkjoimmaaZ00M
import Derived.Test.YtbcjligkjoimmaaZ13Circ1
namespace Go.Proofs.Ytbcjligkjoimmaa
set_option linter.unusedSimpArgs false
set_option linter.unusedVariables false
set_option linter.unnecessarySimpa false
set_option maxRecDepth 200000
open Go.ChangeShapes Go.WideShapes Go.ChangeAt Go.RowKit

theorem toNat_i64 (x : Int) (h0 : 0 ≤ x) (h1 : x < 9223372036854775808) : (BitVec.ofInt 64 x).toNat = x.toNat := by
  obtain ⟨n, rfl⟩ := Int.eq_ofNat_of_zero_le h0
  rw [BitVec.ofInt_natCast, BitVec.toNat_ofNat, Int.toNat_natCast]
  exact Nat.mod_eq_of_lt (by omega)
theorem wrap_i64_nat (n : Nat) (h : n < 9223372036854775808) : IntKind.i64.wrap (n : Int) = (n : Int) := IntWalk.i64_in _ (by omega)
theorem xor_lt63 (a b : Nat) (ha : a < 9223372036854775808) (hb : b < 9223372036854775808) : a ^^^ b < 9223372036854775808 := Nat.xor_lt_two_pow (n := 63) ha hb
theorem bits_xor (x y : Nat) (hx : x < 9223372036854775808) (hy : y < 9223372036854775808) : bits .xor .i64 (x : Int) (y : Int) = ((x ^^^ y : Nat) : Int) := by
  show IntKind.i64.wrap ((BitVec.ofInt 64 (x : Int) ^^^ BitVec.ofInt 64 (y : Int)).toNat : Int) = _
  rw [BitVec.toNat_xor, toNat_i64 _ (by omega) (by omega), toNat_i64 _ (by omega) (by omega), Int.toNat_natCast, Int.toNat_natCast]
  exact wrap_i64_nat _ (xor_lt63 x y hx hy)
theorem bits_and (x y : Nat) (hx : x < 9223372036854775808) (hy : y < 9223372036854775808) : bits .and .i64 (x : Int) (y : Int) = ((x &&& y : Nat) : Int) := by
  show IntKind.i64.wrap ((BitVec.ofInt 64 (x : Int) &&& BitVec.ofInt 64 (y : Int)).toNat : Int) = _
  rw [BitVec.toNat_and, toNat_i64 _ (by omega) (by omega), toNat_i64 _ (by omega) (by omega), Int.toNat_natCast, Int.toNat_natCast]
  exact wrap_i64_nat _ (Nat.lt_of_le_of_lt Nat.and_le_left hx)
theorem bits_or (x y : Nat) (hx : x < 9223372036854775808) (hy : y < 9223372036854775808) : bits .or .i64 (x : Int) (y : Int) = ((x ||| y : Nat) : Int) := by
  show IntKind.i64.wrap ((BitVec.ofInt 64 (x : Int) ||| BitVec.ofInt 64 (y : Int)).toNat : Int) = _
  rw [BitVec.toNat_or, toNat_i64 _ (by omega) (by omega), toNat_i64 _ (by omega) (by omega), Int.toNat_natCast, Int.toNat_natCast]
  exact wrap_i64_nat _ (Nat.or_lt_two_pow (n := 63) hx hy)
theorem bits_and1 (x : Int) (h0 : -9223372036854775808 ≤ x) (h1 : x ≤ 9223372036854775807) : bits .and .i64 x 1 = x % 2 := by
  show IntKind.i64.wrap ((BitVec.ofInt 64 x &&& BitVec.ofInt 64 1).toNat : Int) = _
  have e : (BitVec.ofInt 64 x &&& BitVec.ofInt 64 1).toNat = (x % 2).toNat := by
    rw [BitVec.toNat_and]
    have h2 : (BitVec.ofInt 64 (1 : Int)).toNat = 1 := by decide
    rw [h2, Nat.and_one_is_mod, BitVec.toNat_ofInt]
    have h3 : ((2 ^ 64 : Nat) : Int) = 18446744073709551616 := by decide
    rw [h3]
    omega
  rw [e]
  exact IntWalk.i64_in _ (by omega) |>.trans (by omega)
theorem bit_test (y k : Nat) (h : y < 9223372036854775808) : (bits .and .i64 ((y : Int) / 2 ^ k) 1 == 1) = y.testBit k := by
  have e : ((y : Int) / 2 ^ k) = ((y / 2 ^ k : Nat) : Int) := by simp
  have hle : y / 2 ^ k ≤ y := Nat.div_le_self _ _
  rw [e, Nat.testBit, Nat.one_and_eq_mod_two, Nat.shiftRight_eq_div_pow]
  generalize y / 2 ^ k = q at hle
  rw [bits_and1 _ (by omega) (by omega), Bool.eq_iff_iff]
  have h2 : q % 2 = 0 ∨ q % 2 = 1 := by omega
  have e3 : ((q : Int) % 2) = ((q % 2 : Nat) : Int) := by simp
  rw [e3]
  rcases h2 with h2 | h2 <;> rw [h2] <;> simp
end Go.Proofs.Ytbcjligkjoimmaa
namespace Go.Proofs.Ytbcjligkjoimmaa
set_option linter.unusedSimpArgs false
set_option linter.unusedVariables false
set_option linter.unnecessarySimpa false
set_option maxRecDepth 200000

inductive Spn (L : List Nat) : Nat → Prop
  | zero : Spn L 0
  | add {r v : Nat} : r ∈ L → Spn L v → Spn L (r ^^^ v)
theorem Spn.one {L : List Nat} {r : Nat} (h : r ∈ L) : Spn L r := by simpa using Spn.add h Spn.zero
theorem Spn.xor {L : List Nat} {u v : Nat} (hu : Spn L u) (hv : Spn L v) : Spn L (u ^^^ v) := by
  induction hu with
  | zero => simpa using hv
  | add h _ ih => rw [Nat.xor_assoc]; exact Spn.add h ih
theorem Spn.le {L M : List Nat} (h : ∀ r ∈ L, Spn M r) {v : Nat} (hv : Spn L v) : Spn M v := by
  induction hv with
  | zero => exact .zero
  | add hr _ ih => exact (h _ hr).xor ih
/-- Two lists that span the same. -/
def Same (L M : List Nat) : Prop := ∀ v, Spn L v ↔ Spn M v
theorem Same.of {L M : List Nat} (h1 : ∀ r ∈ L, Spn M r) (h2 : ∀ r ∈ M, Spn L r) : Same L M := fun _ => ⟨Spn.le h1, Spn.le h2⟩
theorem Same.mem {L M : List Nat} (h : ∀ r, r ∈ L ↔ r ∈ M) : Same L M := .of (fun r hr => .one ((h r).1 hr)) (fun r hr => .one ((h r).2 hr))
theorem Same.symm {L M : List Nat} (h : Same L M) : Same M L := fun v => (h v).symm
theorem Same.trans {L M N : List Nat} (h : Same L M) (h' : Same M N) : Same L N := fun v => (h v).trans (h' v)

/-- One row behind a pivot. -/
def piv (b p r : Nat) : Nat := if r.testBit b then r ^^^ p else r
theorem piv_xor {b p u v : Nat} (hp : p.testBit b = true) : piv b p (u ^^^ v) = piv b p u ^^^ piv b p v := by
  unfold piv
  rw [Nat.testBit_xor]
  cases hu : u.testBit b <;> cases hv : v.testBit b <;> simp
  · rw [Nat.xor_assoc]
  · rw [Nat.xor_assoc, Nat.xor_assoc, Nat.xor_comm v p]
  · rw [Nat.xor_assoc, ← Nat.xor_assoc p v p, Nat.xor_comm p v, Nat.xor_assoc v p p, Nat.xor_self, Nat.xor_zero]
theorem piv_bit {b p r : Nat} (hp : p.testBit b = true) : (piv b p r).testBit b = false := by
  unfold piv
  cases hr : r.testBit b <;> simp [hr, hp, Nat.testBit_xor]
theorem piv_self {b p : Nat} (hp : p.testBit b = true) : piv b p p = 0 := by simp [piv, hp]
theorem piv_of {b p r : Nat} (h : r.testBit b = false) : piv b p r = r := by simp [piv, h]
/-- A list, its pivot p, and what remains of the other rows R. -/
theorem span_step {L R : List Nat} {b p : Nat} (hp : p.testBit b = true) (hL : ∀ r, r ∈ L ↔ r = p ∨ r ∈ R) (v : Nat) : Spn (R.map (piv b p)) v ↔ Spn L v ∧ v.testBit b = false := by
  constructor
  · intro h
    induction h with
    | zero => exact ⟨.zero, by simp⟩
    | @add r v hr _ ih =>
      obtain ⟨s, hs, rfl⟩ := List.mem_map.1 hr
      refine ⟨Spn.xor ?_ ih.1, by rw [Nat.testBit_xor, piv_bit hp, ih.2]; rfl⟩
      have hs' : Spn L s := .one ((hL s).2 (.inr hs))
      unfold piv
      split
      · exact hs'.xor (.one ((hL p).2 (.inl rfl)))
      · exact hs'
  · rintro ⟨h, hb⟩
    have key : ∀ u, Spn L u → Spn (R.map (piv b p)) (piv b p u) := by
      intro u hu
      induction hu with
      | zero => simp [piv]; exact .zero
      | @add r v hr _ ih =>
        rw [piv_xor hp]
        refine Spn.xor ?_ ih
        rcases (hL r).1 hr with rfl | h
        · rw [piv_self hp]; exact .zero
        · exact .one (List.mem_map_of_mem h)
    have := key v h
    rwa [piv_of hb] at this
theorem span_bit {L : List Nat} {b : Nat} : (∃ r ∈ L, r.testBit b = true) ↔ ∃ v, Spn L v ∧ v.testBit b = true := by
  constructor
  · rintro ⟨r, hr, h⟩; exact ⟨r, .one hr, h⟩
  · rintro ⟨v, hv, h⟩
    induction hv with
    | zero => simp at h
    | @add r v hr _ ih =>
      cases hb : r.testBit b with
      | true => exact ⟨r, hr, hb⟩
      | false => rw [Nat.testBit_xor, hb, Bool.false_xor] at h; exact ih h
/-- The same span, a pivot of each: the same span remains. -/
theorem same_step {L L' R R' : List Nat} {b p p' : Nat} (hs : Same L L') (hp : p.testBit b = true) (hp' : p'.testBit b = true) (hL : ∀ r, r ∈ L ↔ r = p ∨ r ∈ R) (hL' : ∀ r, r ∈ L' ↔ r = p' ∨ r ∈ R') : Same (R.map (piv b p)) (R'.map (piv b p')) := fun v => by
  rw [span_step hp hL, span_step hp' hL', hs v]
/-- The rank, of the span alone: for each of the bits from b on, f of them: is there a pivot? -/
inductive Rank : Nat → Nat → List Nat → Nat → Prop
  | nil {b : Nat} {L : List Nat} : Rank 0 b L 0
  | skip {f b n : Nat} {L : List Nat} : (∀ r ∈ L, r.testBit b = false) → Rank f (b + 1) L n → Rank (f + 1) b L n
  | take {f b n p : Nat} {L R : List Nat} : p.testBit b = true → (∀ r, r ∈ L ↔ r = p ∨ r ∈ R) → Rank f (b + 1) (R.map (piv b p)) n → Rank (f + 1) b L (n + 1)
theorem Rank.same {f b n m : Nat} {L M : List Nat} (h : Rank f b L n) (h' : Rank f b M m) (hs : Same L M) : n = m := by
  induction h generalizing M m with
  | nil => cases h'; rfl
  | @skip f b n L h0 _ ih =>
    cases h' with
    | skip _ h'' => exact ih h'' hs
    | @take _ _ n' p _ R hp hL _ =>
      obtain ⟨r, hr, hb⟩ := span_bit.2 ((span_bit.1 ⟨p, (hL p).2 (.inl rfl), hp⟩).imp fun v hv => ⟨(hs v).2 hv.1, hv.2⟩)
      rw [h0 r hr] at hb; cases hb
  | @take f b n p L R hp hL _ ih =>
    cases h' with
    | skip h0 _ =>
      obtain ⟨r, hr, hb⟩ := span_bit.2 ((span_bit.1 ⟨p, (hL p).2 (.inl rfl), hp⟩).imp fun v hv => ⟨(hs v).1 hv.1, hv.2⟩)
      rw [h0 r hr] at hb; cases hb
    | @take _ _ n' p' _ R' hp' hL' h'' => rw [ih h'' (same_step hs hp hp' hL hL')]
theorem Rank.uniq {f b n m : Nat} {L : List Nat} (h : Rank f b L n) (h' : Rank f b L m) : n = m := h.same h' (fun _ => Iff.rfl)
theorem rank_total : ∀ (f b : Nat) (L : List Nat), ∃ n, Rank f b L n
  | 0, b, L => ⟨0, .nil⟩
  | f + 1, b, L => by
    by_cases h : ∃ p ∈ L, p.testBit b = true
    · obtain ⟨p, hp, hb⟩ := h
      obtain ⟨n, hn⟩ := rank_total f (b + 1) (L.map (piv b p))
      exact ⟨n + 1, .take hb (fun r => ⟨.inr, fun h => h.elim (fun e => e ▸ hp) id⟩) hn⟩
    · obtain ⟨n, hn⟩ := rank_total f (b + 1) L
      exact ⟨n, .skip (fun r hr => by cases hb : r.testBit b with | false => rfl | true => exact absurd ⟨r, hr, hb⟩ h) hn⟩
/-- What the loops carry: the whole answer N is what is counted and what remains. -/
def Left (N rank f b : Nat) (L : List Nat) : Prop := ∃ n, Rank f b L n ∧ N = rank + n
theorem Left.skip {N rank f b : Nat} {L : List Nat} (h : Left N rank (f + 1) b L) (h0 : ∀ r ∈ L, r.testBit b = false) : Left N rank f (b + 1) L := by
  obtain ⟨n, hn, rfl⟩ := h
  obtain ⟨m, hm⟩ := rank_total f (b + 1) L
  exact ⟨m, hm, by rw [hn.uniq (.skip h0 hm)]⟩
theorem Left.take {N rank f b p : Nat} {L R : List Nat} (h : Left N rank (f + 1) b L) (hp : p.testBit b = true) (hL : ∀ r, r ∈ L ↔ r = p ∨ r ∈ R) : Left N (rank + 1) f (b + 1) (R.map (piv b p)) := by
  obtain ⟨n, hn, rfl⟩ := h
  obtain ⟨m, hm⟩ := rank_total f (b + 1) (R.map (piv b p))
  exact ⟨m, hm, by rw [hn.uniq (.take hp hL hm)]; omega⟩
theorem Left.done {N rank b : Nat} {L : List Nat} (h : Left N rank 0 b L) : N = rank := by
  obtain ⟨n, hn, rfl⟩ := h
  cases hn; rfl
theorem Left.start (L : List Nat) : ∃ N, Left N 0 10 0 L := (rank_total 10 0 L).imp fun n hn => ⟨n, hn, by omega⟩
end Go.Proofs.Ytbcjligkjoimmaa
namespace Go.Proofs.Ytbcjligkjoimmaa
set_option linter.unusedSimpArgs false
set_option linter.unusedVariables false
set_option linter.unnecessarySimpa false
set_option maxRecDepth 200000

def swp (M : List Nat) (r j : Nat) : List Nat := (M.set j (M.getD r 0)).set r (M.getD j 0)
theorem swp_len (M : List Nat) (r j : Nat) : (swp M r j).length = M.length := by simp [swp]
theorem getD_lt {M : List Nat} {i : Nat} (h : i < M.length) : M.getD i 0 = M[i] := by simp [List.getD, h]
theorem swp_get {M : List Nat} {r j t : Nat} (hr : r ≤ j) (hj : j < M.length) (ht : t < M.length) : (swp M r j)[t]'(by rw [swp_len]; exact ht) = if t = r then M[j] else if t = j then M[r] else M[t] := by
  simp only [swp, List.getElem_set, getD_lt hj, getD_lt (show r < M.length by omega)]
  by_cases h1 : t = r
  · subst h1; simp
  · by_cases h2 : t = j
    · subst h2; simp [h1, Ne.symm h1]
    · simp [h1, h2, Ne.symm h1, Ne.symm h2]
theorem swp_mem {M : List Nat} {r j : Nat} (hr : r ≤ j) (hj : j < M.length) (x : Nat) : x ∈ M.drop r ↔ x = M.getD j 0 ∨ x ∈ (swp M r j).drop (r + 1) := by
  rw [getD_lt hj]
  constructor
  · intro h
    obtain ⟨i, hi, rfl⟩ := List.mem_iff_getElem.1 h
    simp only [List.length_drop] at hi
    simp only [List.getElem_drop]
    by_cases h1 : r + i = j
    · left; simp [h1]
    · right
      by_cases h2 : i = 0
      · subst h2
        refine List.mem_iff_getElem.2 ⟨j - (r + 1), by simp [swp_len]; omega, ?_⟩
        simp only [List.getElem_drop]
        rw [swp_get hr hj (by omega)]
        have e : r + 1 + (j - (r + 1)) = j := by omega
        simp [e]; omega
      · refine List.mem_iff_getElem.2 ⟨i - 1, by simp [swp_len]; omega, ?_⟩
        simp only [List.getElem_drop]
        rw [swp_get hr hj (by omega)]
        have e : r + 1 + (i - 1) = r + i := by omega
        simp [e, h1, h2]
  · rintro (rfl | h)
    · exact List.mem_iff_getElem.2 ⟨j - r, by simp; omega, by simp only [List.getElem_drop]; congr 1; omega⟩
    · obtain ⟨i, hi, rfl⟩ := List.mem_iff_getElem.1 h
      simp only [List.length_drop, swp_len] at hi
      simp only [List.getElem_drop]
      rw [swp_get hr hj (by omega)]
      by_cases h1 : r + 1 + i = j
      · refine List.mem_iff_getElem.2 ⟨0, by simp; omega, ?_⟩
        simp [h1]; omega
      · refine List.mem_iff_getElem.2 ⟨1 + i, by simp; omega, ?_⟩
        simp only [List.getElem_drop]
        rw [if_neg (by omega), if_neg h1]
        congr 1; omega
def clr (r k y i x : Nat) : Nat := if i ≠ r ∧ x.testBit k = true then x ^^^ y else x
def clrTo (M : List Nat) (r k y n : Nat) : List Nat := M.mapIdx fun i x => if i < n then clr r k y i x else x
theorem clrTo_len (M : List Nat) (r k y n : Nat) : (clrTo M r k y n).length = M.length := by simp [clrTo]
theorem clrTo_zero (M : List Nat) (r k y : Nat) : clrTo M r k y 0 = M := by
  apply List.ext_getElem <;> simp [clrTo]
theorem clrTo_get {M : List Nat} {r k y n : Nat} (h : n < M.length) : (clrTo M r k y n).getD n 0 = M.getD n 0 := by
  simp [clrTo, List.getD, h]
theorem clrTo_succ {M : List Nat} {r k y n : Nat} (h : n < M.length) : clrTo M r k y (n + 1) = (clrTo M r k y n).set n (clr r k y n (M.getD n 0)) := by
  apply List.ext_getElem
  · simp [clrTo]
  · intro i h1 h2
    simp [clrTo] at h1
    rw [List.getElem_set]
    by_cases e : n = i
    · subst e; simp [clrTo, List.getD, h]
    · simp [clrTo, e]
      by_cases h3 : i < n
      · rw [if_pos (by omega), if_pos h3]
      · rw [if_neg (by omega), if_neg h3]
theorem clrTo_same {M : List Nat} {r k y n : Nat} (h : n < M.length) (hc : ¬ (n ≠ r ∧ (M.getD n 0).testBit k = true)) : clrTo M r k y (n + 1) = clrTo M r k y n := by
  rw [clrTo_succ h]
  have e : clr r k y n (M.getD n 0) = (clrTo M r k y n).getD n 0 := by rw [clrTo_get h]; simp only [clr]; rw [if_neg hc]
  rw [e]
  apply List.ext_getElem
  · simp
  · intro i h1 h2
    rw [List.getElem_set]
    split
    · next e2 => subst e2; simp [List.getD, h2]
    · rfl
theorem clrTo_drop {M : List Nat} {r k y n : Nat} (h : M.length ≤ n) : (clrTo M r k y n).drop (r + 1) = (M.drop (r + 1)).map (piv k y) := by
  apply List.ext_getElem
  · simp [clrTo]
  · intro i h1 h2
    simp [clrTo] at h1
    simp only [List.getElem_drop, List.getElem_map, clrTo, List.getElem_mapIdx]
    rw [if_pos (by omega)]
    unfold clr piv
    by_cases hb : (M[r + 1 + i]).testBit k = true
    · rw [if_pos ⟨by omega, hb⟩, if_pos hb]
    · rw [if_neg (fun hh => hb hh.2), if_neg hb]
theorem clr_bd {r k y i x : Nat} (hy : y ≤ 1023) (hx : x ≤ 1023) : clr r k y i x ≤ 1023 := by
  unfold clr
  split
  · have := Nat.xor_lt_two_pow (x := x) (y := y) (n := 10) (by omega) (by omega); omega
  · exact hx
theorem set_bd {M : List Nat} {i x : Nat} (h : ∀ z ∈ M, z ≤ 1023) (hx : x ≤ 1023) : ∀ z ∈ M.set i x, z ≤ 1023 := by
  intro z hz
  rcases List.mem_or_eq_of_mem_set hz with h1 | rfl
  · exact h z h1
  · exact hx
theorem getD_bd {M : List Nat} {i : Nat} (h : ∀ z ∈ M, z ≤ 1023) : M.getD i 0 ≤ 1023 := by
  by_cases hi : i < M.length
  · rw [getD_lt hi]; exact h _ (List.getElem_mem hi)
  · simp [List.getD, hi]
theorem swp_bd {M : List Nat} {r j : Nat} (h : ∀ z ∈ M, z ≤ 1023) : ∀ z ∈ swp M r j, z ≤ 1023 := set_bd (set_bd h (getD_bd h)) (getD_bd h)
theorem clrTo_bd {M : List Nat} {r k y : Nat} (hy : y ≤ 1023) (h : ∀ z ∈ M, z ≤ 1023) (n : Nat) : ∀ z ∈ clrTo M r k y n, z ≤ 1023 := by
  intro z hz
  obtain ⟨i, hi, rfl⟩ := List.mem_iff_getElem.1 hz
  simp [clrTo] at hi ⊢
  split
  · exact clr_bd hy (h _ (List.getElem_mem _))
  · exact h _ (List.getElem_mem _)
/-- The round of the reference's elimination with a pivot at j. -/
theorem Left.swap {N r k j : Nat} {M : List Nat} (h : Left N r (10 - k) k (M.drop r)) (hk : k < 10) (hr : r ≤ j) (hj : j < M.length) (hb : (M.getD j 0).testBit k = true) (n : Nat) (hn : M.length ≤ n) :
    Left N (r + 1) (10 - (k + 1)) (k + 1) ((clrTo (swp M r j) r k (M.getD j 0) n).drop (r + 1)) := by
  rw [clrTo_drop (by rw [swp_len]; exact hn)]
  rw [show 10 - k = (10 - (k + 1)) + 1 from by omega] at h
  exact Left.take h hb (swp_mem hr hj)
theorem Left.none {N r k : Nat} {M : List Nat} (h : Left N r (10 - k) k (M.drop r)) (hk : k < 10) (h0 : ∀ t, r ≤ t → t < M.length → (M.getD t 0).testBit k = false) : Left N r (10 - (k + 1)) (k + 1) (M.drop r) := by
  rw [show 10 - k = (10 - (k + 1)) + 1 from by omega] at h
  refine Left.skip h (fun x hx => ?_)
  obtain ⟨i, hi, rfl⟩ := List.mem_iff_getElem.1 hx
  simp only [List.length_drop] at hi
  simp only [List.getElem_drop]
  rw [← getD_lt (show r + i < M.length by omega)]
  exact h0 _ (by omega) (by omega)
end Go.Proofs.Ytbcjligkjoimmaa
namespace Go.Proofs.Ytbcjligkjoimmaa
set_option linter.unusedSimpArgs false
set_option linter.unusedVariables false
set_option linter.unnecessarySimpa false
set_option maxRecDepth 200000
open Go.ChangeShapes Go.WideShapes Go.ChangeAt Go.RowKit

def setB (y k : Nat) : List Nat := (List.range k).filter y.testBit
theorem setB_succ (y k : Nat) : setB y (k + 1) = if y.testBit k = true then setB y k ++ [k] else setB y k := by
  simp only [setB, List.range_succ, List.filter_append]
  cases h : y.testBit k <;> simp [h]
theorem setB_len (y k : Nat) : (setB y k).length ≤ k := by
  have := List.length_filter_le y.testBit (List.range k); simpa [setB] using this
theorem setB_mem {y k j : Nat} (h : j ∈ setB y k) : j < k ∧ y.testBit j = true := by simpa [setB] using h
theorem testBit_big {y k j : Nat} (h : y < 2 ^ k) (hj : k ≤ j) : y.testBit j = false := Nat.testBit_lt_two_pow (Nat.lt_of_lt_of_le h (Nat.pow_le_pow_right (by decide) hj))
theorem setB_eq {y k m : Nat} (h : y < 2 ^ k) (hm : y < 2 ^ m) : setB y k = setB y m := by
  have key : ∀ d a, y < 2 ^ a → setB y (a + d) = setB y a := by
    intro d
    induction d with
    | zero => intro a _; rfl
    | succ d ih =>
      intro a ha
      rw [← Nat.add_assoc, setB_succ, testBit_big ha (by omega)]
      simp [ih a ha]
  rcases Nat.le_total k m with hk | hk
  · rw [show m = k + (m - k) from by omega, key _ _ h]
  · rw [show k = m + (k - m) from by omega, key _ _ hm]
/-- All places. -/
def bitsOf (y : Nat) : List Nat := setB y 10
end Go.Proofs.Ytbcjligkjoimmaa
namespace Go.Proofs.Ytbcjligkjoimmaa
set_option linter.unusedSimpArgs false
set_option linter.unusedVariables false
set_option linter.unnecessarySimpa false
set_option maxRecDepth 200000
open Go.ChangeShapes Go.WideShapes Go.ChangeAt Go.RowKit

/-- A task: its vectors, its free qubits as bits, its target or -1. -/
structure GT where (vs : List Nat) (fm : Nat) (tg : Int)
def addV (j t v : Nat) : Nat := if v.testBit t = true then v ^^^ 2 ^ j else v
def addL (j t : Nat) (vs : List Nat) : List Nat := vs.map (addV j t)
def GT.add (j t : Nat) (x : GT) : GT := ⟨addL j t x.vs, x.fm, x.tg⟩
def inAllB (vs : List Nat) (j : Nat) : Bool := vs.all fun v => v.testBit j
def gSet (vs : List Nat) (j : Nat) (b : Bool) : List Nat := vs.filter fun v => v.testBit j == b
/-- Within a task: its vectors, the tasks below it, the gates. -/
structure GS where (vs : List Nat) (st : List GT) (out : List E3)
def gHit (tg : Int) (vs : List Nat) (j : Nat) : Bool := !decide ((j : Int) = tg) && inAllB vs j
def gIn (tg : Int) (s : GS) (j : Nat) : GS := if gHit tg s.vs j = true then ⟨addL j tg.toNat s.vs, s.st.map (GT.add j tg.toNat), s.out ++ [⟨9, (j : Int), tg⟩]⟩ else s
def gInTo (tg : Int) (s : GS) (k : Nat) : GS := (List.range k).foldl (gIn tg) s
theorem gInTo_succ (tg : Int) (s : GS) (k : Nat) : gInTo tg s (k + 1) = gIn tg (gInTo tg s k) k := by
  unfold gInTo; rw [List.range_succ, List.foldl_append]; rfl
def gIns (n : Nat) (x : GT) (r : List GT) (out : List E3) : GS := if x.tg < 0 then ⟨x.vs, r, out⟩ else gInTo x.tg ⟨x.vs, r, out⟩ n
def gMost (vs : List Nat) (j : Nat) : Nat := max (gSet vs j true).length (gSet vs j false).length
def gB (vs : List Nat) (s : Int × Int) (j : Nat) : Int × Int := if s.2 < (gMost vs j : Int) then ((j : Int), (gMost vs j : Int)) else s
/-- The reference's choice after k of the free qubits. -/
def gSp (vs : List Nat) (fr : List Nat) (k : Nat) : Int × Int := (fr.take k).foldl (gB vs) (-1, 0)
theorem gSp_succ {vs fr : List Nat} {k : Nat} (h : k < fr.length) : gSp vs fr (k + 1) = gB vs (gSp vs fr k) (fr.getD k 0) := by
  unfold gSp
  rw [List.take_succ_eq_append_getElem h, List.foldl_append]
  simp [List.getD, h]
/-- The program's choice after k qubits. -/
def gIm (vs : List Nat) (fm k : Nat) : Int × Int := (setB fm k).foldl (gB vs) (-1, -1)
theorem gIm_succ (vs : List Nat) (fm k : Nat) : gIm vs fm (k + 1) = if fm.testBit k = true then gB vs (gIm vs fm k) k else gIm vs fm k := by
  unfold gIm; rw [setB_succ]
  split
  · rw [List.foldl_append]; rfl
  · rfl
def gBest (vs : List Nat) (fm : Nat) : Int := (gIm vs fm 5).1
theorem gMost_pos {vs : List Nat} (h : vs ≠ []) (j : Nat) : 1 ≤ gMost vs j := by
  cases vs with
  | nil => exact absurd rfl h
  | cons v vs =>
    unfold gMost gSet
    cases hb : v.testBit j
    · have : 1 ≤ ((v :: vs).filter fun v => v.testBit j == false).length := by rw [List.filter_cons]; simp [hb]
      omega
    · have : 1 ≤ ((v :: vs).filter fun v => v.testBit j == true).length := by rw [List.filter_cons]; simp [hb]
      omega
theorem gSp_best {vs : List Nat} (h : vs ≠ []) (fm : Nat) : (gSp vs (setB fm 5) (setB fm 5).length).1 = gBest vs fm := by
  unfold gSp gBest gIm
  rw [List.take_length]
  cases setB fm 5 with
  | nil => rfl
  | cons j l =>
    have := gMost_pos h j
    rw [List.foldl_cons, List.foldl_cons]
    have e : gB vs (-1, 0) j = gB vs (-1, -1) j := by
      unfold gB
      rw [if_pos (by dsimp only; omega), if_pos (by dsimp only; omega)]
    rw [e]
theorem gB_mem (vs : List Nat) : ∀ (l : List Nat) (s : Int × Int), (l.foldl (gB vs) s).1 = s.1 ∨ ∃ j ∈ l, (l.foldl (gB vs) s).1 = (j : Int)
  | [], _ => .inl rfl
  | j :: l, s => by
    rw [List.foldl_cons]
    rcases gB_mem vs l (gB vs s j) with h | ⟨i, hi, h⟩
    · rw [h]
      unfold gB
      split
      · exact .inr ⟨j, by simp, rfl⟩
      · exact .inl rfl
    · exact .inr ⟨i, by simp [hi], h⟩
theorem gBest_mem (vs : List Nat) (fm : Nat) : gBest vs fm = -1 ∨ ∃ j ∈ setB fm 5, gBest vs fm = (j : Int) := gB_mem vs (setB fm 5) (-1, -1)
/-- A free qubit is chosen where there is one. -/
theorem gBest_yes {vs : List Nat} (h : vs ≠ []) {fm : Nat} (hf : setB fm 5 ≠ []) : 0 ≤ gBest vs fm := by
  unfold gBest gIm
  cases he : setB fm 5 with
  | nil => exact absurd he hf
  | cons j l =>
    have := gMost_pos h j
    rw [List.foldl_cons]
    have e : gB vs (-1, -1) j = ((j : Int), (gMost vs j : Int)) := by unfold gB; rw [if_pos (by dsimp only; omega)]
    rw [e]
    rcases gB_mem vs l ((j : Int), (gMost vs j : Int)) with h | ⟨i, _, h⟩
    · rw [h]; exact Int.natCast_nonneg j
    · rw [h]; exact Int.natCast_nonneg i
def clearB (fm j : Nat) : Nat := fm - 2 ^ j
theorem clear_bits : ∀ fm : Nat, fm < 32 → ∀ j : Nat, j ∈ setB fm 5 → clearB fm j < 32 ∧ setB (clearB fm j) 5 = (setB fm 5).filter (fun i => !decide (i = j)) ∧ (setB fm 5).length = (setB (clearB fm j) 5).length + 1 := by decide +kernel
/-- How many tasks a task may still become. -/
def wt (fm : Nat) : Nat := 2 ^ ((setB fm 5).length + 1) - 1
theorem wt_pos (fm : Nat) : 1 ≤ wt fm := by
  unfold wt
  have : 2 ≤ 2 ^ ((setB fm 5).length + 1) := by rw [Nat.pow_succ]; have := Nat.pow_pos (n := (setB fm 5).length) (show 0 < 2 by omega); omega
  omega
theorem wt_clear {fm j : Nat} (h : fm < 32) (hj : j ∈ setB fm 5) : wt fm = 2 * wt (clearB fm j) + 1 := by
  obtain ⟨_, _, h3⟩ := clear_bits fm h j hj
  unfold wt
  rw [h3]
  have := Nat.pow_pos (n := (setB (clearB fm j) 5).length) (show 0 < 2 by omega)
  rw [Nat.pow_succ, Nat.pow_succ]
  omega
def wts (st : List GT) : Nat := (st.map fun x => wt x.fm).sum
theorem wts_cons (x : GT) (r : List GT) : wts (x :: r) = wt x.fm + wts r := rfl
/-- The rounds: the stack's top stands first. -/
def gLoop (n : Nat) : Nat → List GT → List E3 → List E3
  | 0, _, out => out
  | _ + 1, [], out => out
  | f + 1, x :: r, out =>
    if x.vs = [] then gLoop n f r out
    else if gBest (gIns n x r out).vs x.fm < 0 then gLoop n f (gIns n x r out).st (gIns n x r out).out
    else gLoop n f (⟨gSet (gIns n x r out).vs (gBest (gIns n x r out).vs x.fm).toNat false, clearB x.fm (gBest (gIns n x r out).vs x.fm).toNat, x.tg⟩ :: ⟨gSet (gIns n x r out).vs (gBest (gIns n x r out).vs x.fm).toNat true, clearB x.fm (gBest (gIns n x r out).vs x.fm).toNat, if x.tg < 0 then gBest (gIns n x r out).vs x.fm else x.tg⟩ :: (gIns n x r out).st) (gIns n x r out).out
def gAll (n : Nat) (masks : List Nat) : List E3 := gLoop n 63 [⟨masks, 2 ^ n - 1, -1⟩] []
def Sm (vs : List Nat) : Prop := vs.length ≤ 31 ∧ ∀ v ∈ vs, v ≤ 31
structure GTok (n : Nat) (x : GT) : Prop where
  sm : Sm x.vs
  fm : x.fm < 2 ^ n
  tg : -1 ≤ x.tg ∧ x.tg < (n : Int)
structure GInv (n f : Nat) (st : List GT) (out : List E3) : Prop where
  ok : ∀ x ∈ st, GTok n x
  fuel : wts st ≤ f
  len : out.length + 5 * wts st ≤ 315
  gates : ∀ g ∈ out, GateOk (n : Int) g
theorem pow5 {n : Nat} (h : n ≤ 5) : 2 ^ n ≤ 32 := by have := Nat.pow_le_pow_right (n := 2) (by omega) h; omega
theorem addV_le {j t v : Nat} (hj : j < 5) (hv : v ≤ 31) : addV j t v ≤ 31 := by
  unfold addV
  split
  · have h1 : (2 : Nat) ^ j < 2 ^ 5 := Nat.pow_lt_pow_right (by omega) hj
    have := Nat.xor_lt_two_pow (x := v) (y := 2 ^ j) (n := 5) (by omega) (by omega)
    omega
  · exact hv
theorem Sm.add {j t : Nat} {vs : List Nat} (hj : j < 5) (h : Sm vs) : Sm (addL j t vs) := by
  refine ⟨by unfold addL; rw [List.length_map]; exact h.1, fun v hv => ?_⟩
  unfold addL at hv
  obtain ⟨u, hu, rfl⟩ := List.mem_map.1 hv
  exact addV_le hj (h.2 u hu)
theorem Sm.set {j : Nat} {b : Bool} {vs : List Nat} (h : Sm vs) : Sm (gSet vs j b) :=
  ⟨Nat.le_trans (List.length_filter_le _ _) h.1, fun v hv => h.2 v (List.mem_filter.1 hv).1⟩
/-- What the rounds within a task keep. -/
structure GSok (n : Nat) (fms : List Nat) (len k m : Nat) (s : GS) : Prop where
  sm : Sm s.vs
  ne : s.vs.length = len
  ok : ∀ x ∈ s.st, GTok n x
  fms : s.st.map GT.fm = fms
  len : s.out.length ≤ k + m
  gates : ∀ g ∈ s.out, GateOk (n : Int) g
theorem gIn_ok {n : Nat} {fms : List Nat} {l k m j : Nat} {tg : Int} {s : GS} (hn : n ≤ 5) (htg : 0 ≤ tg ∧ tg < (n : Int)) (hj : j < n) (h : GSok n fms l k m s) : GSok n fms l (k + 1) m (gIn tg s j) := by
  unfold gIn
  split
  · next hh =>
    unfold gHit at hh
    simp only [Bool.and_eq_true, Bool.not_eq_true', decide_eq_false_iff_not] at hh
    refine ⟨h.sm.add (by omega), by simp [addL, h.ne], ?_, ?_, ?_, ?_⟩
    · intro x hx
      obtain ⟨y, hy, rfl⟩ := List.mem_map.1 hx
      have := h.ok y hy
      exact ⟨this.sm.add (by omega), this.fm, this.tg⟩
    · rw [← h.fms]; simp [GT.add, Function.comp_def]
    · simp; have := h.len; omega
    · intro g hg
      rcases List.mem_append.1 hg with hg | hg
      · exact h.gates g hg
      · simp only [List.mem_singleton] at hg
        subst hg
        unfold GateOk
        dsimp only
        omega
  · exact ⟨h.sm, h.ne, h.ok, h.fms, by have := h.len; omega, h.gates⟩
theorem gInTo_ok {n : Nat} {fms : List Nat} {l m : Nat} {tg : Int} {s : GS} (hn : n ≤ 5) (htg : 0 ≤ tg ∧ tg < (n : Int)) (h : GSok n fms l 0 m s) : ∀ k, k ≤ n → GSok n fms l k m (gInTo tg s k)
  | 0, _ => h
  | k + 1, hk => by rw [gInTo_succ]; exact gIn_ok hn htg (by omega) (gInTo_ok hn htg h k (by omega))
theorem gIns_ok {n f : Nat} {x : GT} {r : List GT} {out : List E3} (hn : n ≤ 5) (h : GInv n f (x :: r) out) : GSok n (r.map GT.fm) x.vs.length 5 out.length (gIns n x r out) := by
  have hx := h.ok x (by simp)
  have h0 : GSok n (r.map GT.fm) x.vs.length 0 out.length ⟨x.vs, r, out⟩ := ⟨hx.sm, rfl, fun y hy => h.ok y (by simp [hy]), rfl, by simp, h.gates⟩
  unfold gIns
  split
  · exact ⟨h0.sm, h0.ne, h0.ok, h0.fms, by have := h0.len; omega, h0.gates⟩
  · have h1 := gInTo_ok hn ⟨by omega, hx.tg.2⟩ h0 n (Nat.le_refl _)
    exact ⟨h1.sm, h1.ne, h1.ok, h1.fms, by have := h1.len; omega, h1.gates⟩
theorem wts_fms {a b : List GT} (h : a.map GT.fm = b.map GT.fm) : wts a = wts b := by
  have e : ∀ l : List GT, wts l = ((l.map GT.fm).map wt).sum := fun l => by unfold wts; rw [List.map_map]; rfl
  rw [e, e, h]
theorem gInv_empty {n f : Nat} {x : GT} {r : List GT} {out : List E3} (h : GInv n (f + 1) (x :: r) out) : GInv n f r out := by
  have hp := wt_pos x.fm
  have h1 := h.fuel
  have h2 := h.len
  rw [wts_cons] at h1 h2
  exact ⟨fun y hy => h.ok y (by simp [hy]), by omega, by omega, h.gates⟩
theorem gInv_stop {n f : Nat} {x : GT} {r : List GT} {out : List E3} (hn : n ≤ 5) (h : GInv n (f + 1) (x :: r) out) : GInv n f (gIns n x r out).st (gIns n x r out).out := by
  have hp := wt_pos x.fm
  have h1 := h.fuel
  have h2 := h.len
  have h3 := gIns_ok hn h
  have h4 := wts_fms h3.fms
  have h5 := h3.len
  rw [wts_cons] at h1 h2
  exact ⟨h3.ok, by omega, by omega, h3.gates⟩
theorem gInv_split {n f j : Nat} {x : GT} {r : List GT} {out : List E3} {tg : Int} (hn : n ≤ 5) (h : GInv n (f + 1) (x :: r) out) (hj : j ∈ setB x.fm 5) (htg : -1 ≤ tg ∧ tg < (n : Int)) :
    GInv n f (⟨gSet (gIns n x r out).vs j false, clearB x.fm j, x.tg⟩ :: ⟨gSet (gIns n x r out).vs j true, clearB x.fm j, tg⟩ :: (gIns n x r out).st) (gIns n x r out).out := by
  have hx := h.ok x (by simp)
  have hp5 := pow5 hn
  have hw := wt_clear (j := j) (by have := hx.fm; omega) hj
  have h1 := h.fuel
  have h2 := h.len
  have h3 := gIns_ok hn h
  have h4 := wts_fms h3.fms
  have h5 := h3.len
  have hc : clearB x.fm j < 2 ^ n := Nat.lt_of_le_of_lt (Nat.sub_le _ _) hx.fm
  rw [wts_cons] at h1 h2
  refine ⟨?_, ?_, ?_, h3.gates⟩
  · intro y hy
    rcases List.mem_cons.1 hy with rfl | hy
    · exact ⟨h3.sm.set, hc, hx.tg⟩
    · rcases List.mem_cons.1 hy with rfl | hy
      · exact ⟨h3.sm.set, hc, htg⟩
      · exact h3.ok y hy
  · rw [wts_cons, wts_cons]; dsimp only; omega
  · rw [wts_cons, wts_cons]; dsimp only; omega
theorem bits_lt {n fm j : Nat} (h : fm < 2 ^ n) (hj : j ∈ setB fm 5) : j < n := by
  have := (setB_mem hj).2
  exact Nat.lt_of_not_le fun hle => by rw [testBit_big h hle] at this; cases this
theorem gInv_gates {n : Nat} (hn : n ≤ 5) : ∀ (f : Nat) (st : List GT) (out : List E3), GInv n f st out → (gLoop n f st out).length ≤ 315 ∧ ∀ g ∈ gLoop n f st out, GateOk (n : Int) g
  | 0, st, out, h => ⟨by have := h.len; unfold gLoop; omega, h.gates⟩
  | f + 1, [], out, h => ⟨by have := h.len; unfold gLoop; omega, h.gates⟩
  | f + 1, x :: r, out, h => by
    unfold gLoop
    split
    · exact gInv_gates hn f r out (gInv_empty h)
    · split
      · exact gInv_gates hn f _ _ (gInv_stop hn h)
      · next h1 h2 =>
        rcases gBest_mem (gIns n x r out).vs x.fm with h3 | ⟨j, hj, h3⟩
        · omega
        · have hjn := bits_lt (h.ok x (by simp)).fm hj
          have htg := (h.ok x (by simp)).tg
          rw [h3, Int.toNat_natCast]
          refine gInv_gates hn f _ _ (gInv_split hn h hj ?_)
          split <;> omega
theorem full_bits : ∀ n : Nat, n < 6 → wt (2 ^ n - 1) ≤ 63 ∧ setB (2 ^ n - 1) 5 = List.range n := by decide +kernel
theorem gInv_start {n : Nat} {masks : List Nat} (hn : n ≤ 5) (h : Sm masks) : GInv n 63 [⟨masks, 2 ^ n - 1, -1⟩] [] := by
  have h1 := (full_bits n (by omega)).1
  have h2 := Nat.pow_pos (n := n) (show 0 < 2 by omega)
  have h3 : wts [⟨masks, 2 ^ n - 1, -1⟩] = wt (2 ^ n - 1) := by rw [wts_cons]; rfl
  refine ⟨fun x hx => ?_, by rw [h3]; exact h1, by rw [h3]; simp; omega, fun g hg => by cases hg⟩
  simp only [List.mem_singleton] at hx
  subst hx
  exact ⟨h, by dsimp only; omega, by dsimp only; omega⟩
theorem gAll_ok {n : Nat} {masks : List Nat} (h1 : 1 ≤ n) (hn : n ≤ 5) (h : Sm masks) : circB ⟨(n : Int), gAll n masks⟩ = true := by
  have := gInv_gates hn 63 _ _ (gInv_start hn h)
  exact decide_eq_true ⟨⟨by dsimp only; omega, by dsimp only; omega⟩, by have := this.1; unfold gAll; dsimp only; omega, this.2⟩
end Go.Proofs.Ytbcjligkjoimmaa
