/- The bitwise operations on small whole numbers, as the walk spells them. -/
import Derived.Test.YtnckabohlakbgaaGreatZ00Base
namespace Go.Proofs.YtnckabohlakbgaaGreat
set_option linter.unusedSimpArgs false
set_option linter.unusedVariables false
set_option linter.unnecessarySimpa false
set_option maxRecDepth 200000
open Go.ChangeShapes Go.WideShapes Go.ChangeAt Go.RowKit

theorem toNat_i64 (x : Int) (h0 : 0 ≤ x) (h1 : x < 9223372036854775808) : (BitVec.ofInt 64 x).toNat = x.toNat := by
  obtain ⟨n, rfl⟩ := Int.eq_ofNat_of_zero_le h0
  rw [BitVec.ofInt_natCast, BitVec.toNat_ofNat, Int.toNat_natCast]
  exact Nat.mod_eq_of_lt (by omega)
theorem wrap_i64_nat (n : Nat) (h : n < 9223372036854775808) : IntKind.i64.wrap (n : Int) = (n : Int) := IntWalk.i64_in _ (by omega)
theorem xor_lt63 (a b : Nat) (ha : a < 9223372036854775808) (hb : b < 9223372036854775808) : a ^^^ b < 9223372036854775808 := Nat.xor_lt_two_pow (n := 63) ha hb
theorem bits_xor (x y : Nat) (hx : x < 9223372036854775808) (hy : y < 9223372036854775808) : bits .xor .i64 (x : Int) (y : Int) = ((x ^^^ y : Nat) : Int) := by
  show IntKind.i64.wrap ((BitVec.ofInt 64 (x : Int) ^^^ BitVec.ofInt 64 (y : Int)).toNat : Int) = _
  rw [BitVec.toNat_xor, toNat_i64 _ (by omega) (by omega), toNat_i64 _ (by omega) (by omega), Int.toNat_natCast, Int.toNat_natCast]
  exact wrap_i64_nat _ (xor_lt63 x y hx hy)
theorem bits_and (x y : Nat) (hx : x < 9223372036854775808) (hy : y < 9223372036854775808) : bits .and .i64 (x : Int) (y : Int) = ((x &&& y : Nat) : Int) := by
  show IntKind.i64.wrap ((BitVec.ofInt 64 (x : Int) &&& BitVec.ofInt 64 (y : Int)).toNat : Int) = _
  rw [BitVec.toNat_and, toNat_i64 _ (by omega) (by omega), toNat_i64 _ (by omega) (by omega), Int.toNat_natCast, Int.toNat_natCast]
  exact wrap_i64_nat _ (Nat.lt_of_le_of_lt Nat.and_le_left hx)
theorem bits_or (x y : Nat) (hx : x < 9223372036854775808) (hy : y < 9223372036854775808) : bits .or .i64 (x : Int) (y : Int) = ((x ||| y : Nat) : Int) := by
  show IntKind.i64.wrap ((BitVec.ofInt 64 (x : Int) ||| BitVec.ofInt 64 (y : Int)).toNat : Int) = _
  rw [BitVec.toNat_or, toNat_i64 _ (by omega) (by omega), toNat_i64 _ (by omega) (by omega), Int.toNat_natCast, Int.toNat_natCast]
  exact wrap_i64_nat _ (Nat.or_lt_two_pow (n := 63) hx hy)
theorem bits_and1 (x : Int) (h0 : -9223372036854775808 ≤ x) (h1 : x ≤ 9223372036854775807) : bits .and .i64 x 1 = x % 2 := by
  show IntKind.i64.wrap ((BitVec.ofInt 64 x &&& BitVec.ofInt 64 1).toNat : Int) = _
  have e : (BitVec.ofInt 64 x &&& BitVec.ofInt 64 1).toNat = (x % 2).toNat := by
    rw [BitVec.toNat_and]
    have h2 : (BitVec.ofInt 64 (1 : Int)).toNat = 1 := by decide
    rw [h2, Nat.and_one_is_mod, BitVec.toNat_ofInt]
    have h3 : ((2 ^ 64 : Nat) : Int) = 18446744073709551616 := by decide
    rw [h3]
    omega
  rw [e]
  exact IntWalk.i64_in _ (by omega) |>.trans (by omega)
end Go.Proofs.YtnckabohlakbgaaGreat
namespace Go.Proofs.YtnckabohlakbgaaGreat
set_option linter.unusedSimpArgs false
set_option linter.unusedVariables false
set_option linter.unnecessarySimpa false
set_option maxRecDepth 200000

inductive Spn (L : List Nat) : Nat → Prop
  | zero : Spn L 0
  | add {r v : Nat} : r ∈ L → Spn L v → Spn L (r ^^^ v)
theorem Spn.one {L : List Nat} {r : Nat} (h : r ∈ L) : Spn L r := by simpa using Spn.add h Spn.zero
theorem Spn.xor {L : List Nat} {u v : Nat} (hu : Spn L u) (hv : Spn L v) : Spn L (u ^^^ v) := by
  induction hu with
  | zero => simpa using hv
  | add h _ ih => rw [Nat.xor_assoc]; exact Spn.add h ih
theorem Spn.le {L M : List Nat} (h : ∀ r ∈ L, Spn M r) {v : Nat} (hv : Spn L v) : Spn M v := by
  induction hv with
  | zero => exact .zero
  | add hr _ ih => exact (h _ hr).xor ih
/-- Two lists that span the same. -/
def Same (L M : List Nat) : Prop := ∀ v, Spn L v ↔ Spn M v
theorem Same.of {L M : List Nat} (h1 : ∀ r ∈ L, Spn M r) (h2 : ∀ r ∈ M, Spn L r) : Same L M := fun _ => ⟨Spn.le h1, Spn.le h2⟩
theorem Same.symm {L M : List Nat} (h : Same L M) : Same M L := fun v => (h v).symm
theorem Same.trans {L M N : List Nat} (h : Same L M) (h' : Same M N) : Same L N := fun v => (h v).trans (h' v)

/-- One row behind a pivot. -/
def piv (b p r : Nat) : Nat := if r.testBit b then r ^^^ p else r
theorem piv_xor {b p u v : Nat} (hp : p.testBit b = true) : piv b p (u ^^^ v) = piv b p u ^^^ piv b p v := by
  unfold piv
  rw [Nat.testBit_xor]
  cases hu : u.testBit b <;> cases hv : v.testBit b <;> simp
  · rw [Nat.xor_assoc]
  · rw [Nat.xor_assoc, Nat.xor_assoc, Nat.xor_comm v p]
  · rw [Nat.xor_assoc, ← Nat.xor_assoc p v p, Nat.xor_comm p v, Nat.xor_assoc v p p, Nat.xor_self, Nat.xor_zero]
theorem piv_bit {b p r : Nat} (hp : p.testBit b = true) : (piv b p r).testBit b = false := by
  unfold piv
  cases hr : r.testBit b <;> simp [hr, hp, Nat.testBit_xor]
theorem piv_self {b p : Nat} (hp : p.testBit b = true) : piv b p p = 0 := by simp [piv, hp]
theorem piv_of {b p r : Nat} (h : r.testBit b = false) : piv b p r = r := by simp [piv, h]
/-- A list, its pivot p, and what remains of the other rows R. -/
theorem span_step {L R : List Nat} {b p : Nat} (hp : p.testBit b = true) (hL : ∀ r, r ∈ L ↔ r = p ∨ r ∈ R) (v : Nat) : Spn (R.map (piv b p)) v ↔ Spn L v ∧ v.testBit b = false := by
  constructor
  · intro h
    induction h with
    | zero => exact ⟨.zero, by simp⟩
    | @add r v hr _ ih =>
      obtain ⟨s, hs, rfl⟩ := List.mem_map.1 hr
      refine ⟨Spn.xor ?_ ih.1, by rw [Nat.testBit_xor, piv_bit hp, ih.2]; rfl⟩
      have hs' : Spn L s := .one ((hL s).2 (.inr hs))
      unfold piv
      split
      · exact hs'.xor (.one ((hL p).2 (.inl rfl)))
      · exact hs'
  · rintro ⟨h, hb⟩
    have key : ∀ u, Spn L u → Spn (R.map (piv b p)) (piv b p u) := by
      intro u hu
      induction hu with
      | zero => simp [piv]; exact .zero
      | @add r v hr _ ih =>
        rw [piv_xor hp]
        refine Spn.xor ?_ ih
        rcases (hL r).1 hr with rfl | h
        · rw [piv_self hp]; exact .zero
        · exact .one (List.mem_map_of_mem h)
    have := key v h
    rwa [piv_of hb] at this
theorem span_bit {L : List Nat} {b : Nat} : (∃ r ∈ L, r.testBit b = true) ↔ ∃ v, Spn L v ∧ v.testBit b = true := by
  constructor
  · rintro ⟨r, hr, h⟩; exact ⟨r, .one hr, h⟩
  · rintro ⟨v, hv, h⟩
    induction hv with
    | zero => simp at h
    | @add r v hr _ ih =>
      cases hb : r.testBit b with
      | true => exact ⟨r, hr, hb⟩
      | false => rw [Nat.testBit_xor, hb, Bool.false_xor] at h; exact ih h
/-- The same span, a pivot of each: the same span remains. -/
theorem same_step {L L' R R' : List Nat} {b p p' : Nat} (hs : Same L L') (hp : p.testBit b = true) (hp' : p'.testBit b = true) (hL : ∀ r, r ∈ L ↔ r = p ∨ r ∈ R) (hL' : ∀ r, r ∈ L' ↔ r = p' ∨ r ∈ R') : Same (R.map (piv b p)) (R'.map (piv b p')) := fun v => by
  rw [span_step hp hL, span_step hp' hL', hs v]
/-- The rank, of the span alone: for each of the bits from b on, f of them: is there a pivot? -/
inductive Rank : Nat → Nat → List Nat → Nat → Prop
  | nil {b : Nat} {L : List Nat} : Rank 0 b L 0
  | skip {f b n : Nat} {L : List Nat} : (∀ r ∈ L, r.testBit b = false) → Rank f (b + 1) L n → Rank (f + 1) b L n
  | take {f b n p : Nat} {L R : List Nat} : p.testBit b = true → (∀ r, r ∈ L ↔ r = p ∨ r ∈ R) → Rank f (b + 1) (R.map (piv b p)) n → Rank (f + 1) b L (n + 1)
theorem Rank.same {f b n m : Nat} {L M : List Nat} (h : Rank f b L n) (h' : Rank f b M m) (hs : Same L M) : n = m := by
  induction h generalizing M m with
  | nil => cases h'; rfl
  | @skip f b n L h0 _ ih =>
    cases h' with
    | skip _ h'' => exact ih h'' hs
    | @take _ _ n' p _ R hp hL _ =>
      obtain ⟨r, hr, hb⟩ := span_bit.2 ((span_bit.1 ⟨p, (hL p).2 (.inl rfl), hp⟩).imp fun v hv => ⟨(hs v).2 hv.1, hv.2⟩)
      rw [h0 r hr] at hb; cases hb
  | @take f b n p L R hp hL _ ih =>
    cases h' with
    | skip h0 _ =>
      obtain ⟨r, hr, hb⟩ := span_bit.2 ((span_bit.1 ⟨p, (hL p).2 (.inl rfl), hp⟩).imp fun v hv => ⟨(hs v).1 hv.1, hv.2⟩)
      rw [h0 r hr] at hb; cases hb
    | @take _ _ n' p' _ R' hp' hL' h'' => rw [ih h'' (same_step hs hp hp' hL hL')]
theorem Rank.uniq {f b n m : Nat} {L : List Nat} (h : Rank f b L n) (h' : Rank f b L m) : n = m := h.same h' (fun _ => Iff.rfl)
theorem rank_total : ∀ (f b : Nat) (L : List Nat), ∃ n, Rank f b L n
  | 0, b, L => ⟨0, .nil⟩
  | f + 1, b, L => by
    by_cases h : ∃ p ∈ L, p.testBit b = true
    · obtain ⟨p, hp, hb⟩ := h
      obtain ⟨n, hn⟩ := rank_total f (b + 1) (L.map (piv b p))
      exact ⟨n + 1, .take hb (fun r => ⟨.inr, fun h => h.elim (fun e => e ▸ hp) id⟩) hn⟩
    · obtain ⟨n, hn⟩ := rank_total f (b + 1) L
      exact ⟨n, .skip (fun r hr => by cases hb : r.testBit b with | false => rfl | true => exact absurd ⟨r, hr, hb⟩ h) hn⟩
/-- What the loops carry: the whole answer N is what is counted and what remains. -/
def Left (N rank f b : Nat) (L : List Nat) : Prop := ∃ n, Rank f b L n ∧ N = rank + n
theorem Left.skip {N rank f b : Nat} {L : List Nat} (h : Left N rank (f + 1) b L) (h0 : ∀ r ∈ L, r.testBit b = false) : Left N rank f (b + 1) L := by
  obtain ⟨n, hn, rfl⟩ := h
  obtain ⟨m, hm⟩ := rank_total f (b + 1) L
  exact ⟨m, hm, by rw [hn.uniq (.skip h0 hm)]⟩
theorem Left.take {N rank f b p : Nat} {L R : List Nat} (h : Left N rank (f + 1) b L) (hp : p.testBit b = true) (hL : ∀ r, r ∈ L ↔ r = p ∨ r ∈ R) : Left N (rank + 1) f (b + 1) (R.map (piv b p)) := by
  obtain ⟨n, hn, rfl⟩ := h
  obtain ⟨m, hm⟩ := rank_total f (b + 1) (R.map (piv b p))
  exact ⟨m, hm, by rw [hn.uniq (.take hp hL hm)]; omega⟩
theorem Left.done {N rank b : Nat} {L : List Nat} (h : Left N rank 0 b L) : N = rank := by
  obtain ⟨n, hn, rfl⟩ := h
  cases hn; rfl
theorem Left.start (L : List Nat) : ∃ N, Left N 0 10 0 L := (rank_total 10 0 L).imp fun n hn => ⟨n, hn, by omega⟩
end Go.Proofs.YtnckabohlakbgaaGreat
namespace Go.Proofs.YtnckabohlakbgaaGreat
set_option linter.unusedSimpArgs false
set_option linter.unusedVariables false
set_option linter.unnecessarySimpa false
set_option maxRecDepth 200000

def swp (M : List Nat) (r j : Nat) : List Nat := (M.set j (M.getD r 0)).set r (M.getD j 0)
theorem swp_len (M : List Nat) (r j : Nat) : (swp M r j).length = M.length := by simp [swp]
theorem getD_lt {M : List Nat} {i : Nat} (h : i < M.length) : M.getD i 0 = M[i] := by simp [List.getD, h]
theorem swp_get {M : List Nat} {r j t : Nat} (hr : r ≤ j) (hj : j < M.length) (ht : t < M.length) : (swp M r j)[t]'(by rw [swp_len]; exact ht) = if t = r then M[j] else if t = j then M[r] else M[t] := by
  simp only [swp, List.getElem_set, getD_lt hj, getD_lt (show r < M.length by omega)]
  by_cases h1 : t = r
  · subst h1; simp
  · by_cases h2 : t = j
    · subst h2; simp [h1, Ne.symm h1]
    · simp [h1, h2, Ne.symm h1, Ne.symm h2]
theorem swp_mem {M : List Nat} {r j : Nat} (hr : r ≤ j) (hj : j < M.length) (x : Nat) : x ∈ M.drop r ↔ x = M.getD j 0 ∨ x ∈ (swp M r j).drop (r + 1) := by
  rw [getD_lt hj]
  constructor
  · intro h
    obtain ⟨i, hi, rfl⟩ := List.mem_iff_getElem.1 h
    simp only [List.length_drop] at hi
    simp only [List.getElem_drop]
    by_cases h1 : r + i = j
    · left; simp [h1]
    · right
      by_cases h2 : i = 0
      · subst h2
        refine List.mem_iff_getElem.2 ⟨j - (r + 1), by simp [swp_len]; omega, ?_⟩
        simp only [List.getElem_drop]
        rw [swp_get hr hj (by omega)]
        have e : r + 1 + (j - (r + 1)) = j := by omega
        simp [e]; omega
      · refine List.mem_iff_getElem.2 ⟨i - 1, by simp [swp_len]; omega, ?_⟩
        simp only [List.getElem_drop]
        rw [swp_get hr hj (by omega)]
        have e : r + 1 + (i - 1) = r + i := by omega
        simp [e, h1, h2]
  · rintro (rfl | h)
    · exact List.mem_iff_getElem.2 ⟨j - r, by simp; omega, by simp only [List.getElem_drop]; congr 1; omega⟩
    · obtain ⟨i, hi, rfl⟩ := List.mem_iff_getElem.1 h
      simp only [List.length_drop, swp_len] at hi
      simp only [List.getElem_drop]
      rw [swp_get hr hj (by omega)]
      by_cases h1 : r + 1 + i = j
      · refine List.mem_iff_getElem.2 ⟨0, by simp; omega, ?_⟩
        simp [h1]; omega
      · refine List.mem_iff_getElem.2 ⟨1 + i, by simp; omega, ?_⟩
        simp only [List.getElem_drop]
        rw [if_neg (by omega), if_neg h1]
        congr 1; omega
def clr (r k y i x : Nat) : Nat := if i ≠ r ∧ x.testBit k = true then x ^^^ y else x
def clrTo (M : List Nat) (r k y n : Nat) : List Nat := M.mapIdx fun i x => if i < n then clr r k y i x else x
theorem clrTo_drop {M : List Nat} {r k y n : Nat} (h : M.length ≤ n) : (clrTo M r k y n).drop (r + 1) = (M.drop (r + 1)).map (piv k y) := by
  apply List.ext_getElem
  · simp [clrTo]
  · intro i h1 h2
    simp [clrTo] at h1
    simp only [List.getElem_drop, List.getElem_map, clrTo, List.getElem_mapIdx]
    rw [if_pos (by omega)]
    unfold clr piv
    by_cases hb : (M[r + 1 + i]).testBit k = true
    · rw [if_pos ⟨by omega, hb⟩, if_pos hb]
    · rw [if_neg (fun hh => hb hh.2), if_neg hb]
/-- The round of the reference's elimination with a pivot at j. -/
theorem Left.swap {N r k j : Nat} {M : List Nat} (h : Left N r (10 - k) k (M.drop r)) (hk : k < 10) (hr : r ≤ j) (hj : j < M.length) (hb : (M.getD j 0).testBit k = true) (n : Nat) (hn : M.length ≤ n) :
    Left N (r + 1) (10 - (k + 1)) (k + 1) ((clrTo (swp M r j) r k (M.getD j 0) n).drop (r + 1)) := by
  rw [clrTo_drop (by rw [swp_len]; exact hn)]
  rw [show 10 - k = (10 - (k + 1)) + 1 from by omega] at h
  exact Left.take h hb (swp_mem hr hj)
theorem Left.none {N r k : Nat} {M : List Nat} (h : Left N r (10 - k) k (M.drop r)) (hk : k < 10) (h0 : ∀ t, r ≤ t → t < M.length → (M.getD t 0).testBit k = false) : Left N r (10 - (k + 1)) (k + 1) (M.drop r) := by
  rw [show 10 - k = (10 - (k + 1)) + 1 from by omega] at h
  refine Left.skip h (fun x hx => ?_)
  obtain ⟨i, hi, rfl⟩ := List.mem_iff_getElem.1 hx
  simp only [List.length_drop] at hi
  simp only [List.getElem_drop]
  rw [← getD_lt (show r + i < M.length by omega)]
  exact h0 _ (by omega) (by omega)
end Go.Proofs.YtnckabohlakbgaaGreat
namespace Go.Proofs.YtnckabohlakbgaaGreat
set_option linter.unusedSimpArgs false
set_option linter.unusedVariables false
set_option linter.unnecessarySimpa false
set_option maxRecDepth 200000
open Go.ChangeShapes Go.WideShapes Go.ChangeAt Go.RowKit

def setB (y k : Nat) : List Nat := (List.range k).filter y.testBit
theorem setB_succ (y k : Nat) : setB y (k + 1) = if y.testBit k = true then setB y k ++ [k] else setB y k := by
  simp only [setB, List.range_succ, List.filter_append]
  cases h : y.testBit k <;> simp [h]
theorem testBit_big {y k j : Nat} (h : y < 2 ^ k) (hj : k ≤ j) : y.testBit j = false := Nat.testBit_lt_two_pow (Nat.lt_of_lt_of_le h (Nat.pow_le_pow_right (by decide) hj))
theorem setB_eq {y k m : Nat} (h : y < 2 ^ k) (hm : y < 2 ^ m) : setB y k = setB y m := by
  have key : ∀ d a, y < 2 ^ a → setB y (a + d) = setB y a := by
    intro d
    induction d with
    | zero => intro a _; rfl
    | succ d ih =>
      intro a ha
      rw [← Nat.add_assoc, setB_succ, testBit_big ha (by omega)]
      simp [ih a ha]
  rcases Nat.le_total k m with hk | hk
  · rw [show m = k + (m - k) from by omega, key _ _ h]
  · rw [show k = m + (k - m) from by omega, key _ _ hm]
end Go.Proofs.YtnckabohlakbgaaGreat
namespace Go.Proofs.YtnckabohlakbgaaGreat
set_option linter.unusedSimpArgs false
set_option linter.unusedVariables false
set_option linter.unnecessarySimpa false
set_option maxRecDepth 200000
open Go.ChangeShapes Go.WideShapes Go.ChangeAt Go.RowKit

theorem tb_cut (q b j : Nat) (hb : b < 256) : (256 * q + b).testBit j = if j < 8 then b.testBit j else q.testBit (j - 8) :=
  Nat.testBit_two_pow_mul_add (i := 8) q hb j
theorem and256 (a b c d : Nat) (hb : b < 256) (hd : d < 256) : (256 * a + b) &&& (256 * c + d) = 256 * (a &&& c) + (b &&& d) := by
  apply Nat.eq_of_testBit_eq
  intro j
  have hbd : b &&& d < 256 := Nat.lt_of_le_of_lt Nat.and_le_left hb
  rw [Nat.testBit_and, tb_cut a b j hb, tb_cut c d j hd, tb_cut _ _ j hbd]
  split <;> simp
def repB (c : Nat) : Nat → Nat
  | 0 => 0
  | k + 1 => 256 * repB c k + c
def g1 (b : Nat) : Nat := (b / 2 &&& 85) + (b &&& 85)
def g2 (b : Nat) : Nat := (b / 4 &&& 51) + (b &&& 51)
def g3 (b : Nat) : Nat := (b / 16 + b) &&& 15
def S1 (k x : Nat) : Nat := (x / 2 &&& repB 85 k) + (x &&& repB 85 k)
def S2 (k x : Nat) : Nat := (x / 4 &&& repB 51 k) + (x &&& repB 51 k)
def S3 (k x : Nat) : Nat := (x / 16 + x) &&& repB 15 k
theorem g1_lt : ∀ b, b < 256 → g1 b < 256 := by decide +kernel
theorem g21_lt : ∀ b, b < 256 → g2 (g1 b) ≤ 68 ∧ g2 (g1 b) % 16 ≤ 4 := by decide +kernel
theorem low1 : ∀ r, r < 2 → ∀ b, b < 256 → (128 * r + b / 2) &&& 85 = (b / 2) &&& 85 := by decide +kernel
theorem low2 : ∀ r, r < 4 → ∀ b, b < 256 → (64 * r + b / 4) &&& 51 = (b / 4) &&& 51 := by decide +kernel
theorem low3 : ∀ r, r < 5 → ∀ b, b < 69 → (16 * r + (b / 16 + b)) &&& 15 = (b / 16 + b) &&& 15 := by decide +kernel
theorem S1_cut (k q b : Nat) (hb : b < 256) : S1 (k + 1) (256 * q + b) = 256 * S1 k q + g1 b := by
  unfold S1 g1
  rw [show repB 85 (k + 1) = 256 * repB 85 k + 85 from rfl]
  have e : (256 * q + b) / 2 = 256 * (q / 2) + (128 * (q % 2) + b / 2) := by omega
  rw [e, and256 _ _ _ _ (by omega) (by omega), and256 _ _ _ _ hb (by omega), low1 _ (by omega) _ hb]
  omega
theorem S2_cut (k q b : Nat) (hb : b < 256) : S2 (k + 1) (256 * q + b) = 256 * S2 k q + g2 b := by
  unfold S2 g2
  rw [show repB 51 (k + 1) = 256 * repB 51 k + 51 from rfl]
  have e : (256 * q + b) / 4 = 256 * (q / 4) + (64 * (q % 4) + b / 4) := by omega
  rw [e, and256 _ _ _ _ (by omega) (by omega), and256 _ _ _ _ hb (by omega), low2 _ (by omega) _ hb]
  omega
theorem S3_cut (k q b : Nat) (hb : b ≤ 68) (hq : q % 16 ≤ 4) : S3 (k + 1) (256 * q + b) = 256 * S3 k q + g3 b := by
  unfold S3 g3
  rw [show repB 15 (k + 1) = 256 * repB 15 k + 15 from rfl]
  have e : (256 * q + b) / 16 + (256 * q + b) = 256 * (q / 16 + q) + (16 * (q % 16) + (b / 16 + b)) := by omega
  rw [e, and256 _ _ _ _ (by omega) (by omega), low3 _ (by omega) _ (by omega)]
def fB (b : Nat) : Nat := g3 (g2 (g1 b))
def bySum : Nat → Nat → Nat
  | 0, _ => 0
  | k + 1, x => 256 * bySum k (x / 256) + fB (x % 256)
theorem S21_low (k x : Nat) : S2 k (S1 k x) % 16 ≤ 4 := by
  cases k with
  | zero => simp [S1, S2, repB]
  | succ k =>
    have e : x = 256 * (x / 256) + x % 256 := by omega
    rw [e, S1_cut _ _ _ (by omega), S2_cut _ _ _ (g1_lt _ (by omega))]
    have := (g21_lt (x % 256) (by omega)).2
    omega
theorem S321 : ∀ k x, S3 k (S2 k (S1 k x)) = bySum k x
  | 0, x => by simp [S3, repB, bySum]
  | k + 1, x => by
    have e : x = 256 * (x / 256) + x % 256 := by omega
    have hb : x % 256 < 256 := by omega
    show S3 (k + 1) (S2 (k + 1) (S1 (k + 1) x)) = 256 * bySum k (x / 256) + fB (x % 256)
    rw [← S321 k (x / 256)]
    conv => lhs; rw [e]
    rw [S1_cut _ _ _ hb, S2_cut _ _ _ (g1_lt _ hb), S3_cut _ _ _ (g21_lt _ hb).1 (S21_low _ _)]
    rfl
theorem setB_cut (q b : Nat) (hb : b < 256) : ∀ k, (setB (256 * q + b) (8 + k)).length = (setB b 8).length + (setB q k).length
  | 0 => by
    have e : setB (256 * q + b) 8 = setB b 8 := by
      unfold setB
      apply List.filter_congr
      intro j hj
      rw [tb_cut q b j hb, if_pos (by simpa using hj)]
    show (setB (256 * q + b) 8).length = (setB b 8).length + 0
    rw [e]; rfl
  | k + 1 => by
    have ih := setB_cut q b hb k
    rw [show 8 + (k + 1) = (8 + k) + 1 from by omega, setB_succ (256 * q + b) (8 + k), setB_succ q k, tb_cut q b (8 + k) hb, if_neg (show ¬ 8 + k < 8 by omega), show 8 + k - 8 = k from by omega]
    split <;> simp [ih] <;> omega
theorem of_natAll {n : Nat} {p : Nat → Bool} (h : (Nat.rec true (fun k r => p k && r) n : Bool) = true) : ∀ b, b < n → p b = true := by
  induction n with
  | zero => intro b hb; omega
  | succ n ih =>
    have h2 : (p n && (Nat.rec true (fun k r => p k && r) n : Bool)) = true := h
    rw [Bool.and_eq_true] at h2
    intro b hb
    by_cases e : b = n
    · subst e; exact h2.1
    · exact ih h2.2 b (by omega)
theorem fB_len : ∀ b, b < 256 → fB b = (setB b 8).length := fun b hb =>
  Nat.eq_of_beq_eq_true (of_natAll (n := 256) (p := fun b => Nat.beq (fB b) (setB b 8).length) (by decide +kernel) b hb)
theorem fB_le : ∀ b, b < 256 → fB b ≤ 8 := by decide +kernel
theorem setB_8 (x k : Nat) : (setB x (8 + k)).length = fB (x % 256) + (setB (x / 256) k).length := by
  have e : x = 256 * (x / 256) + x % 256 := by omega
  rw [fB_len _ (by omega), ← setB_cut _ _ (by omega), ← e]
theorem fold_sum (c0 c1 c2 c3 c4 c5 c6 c7 : Nat) (h0 : c0 ≤ 8) (h1 : c1 ≤ 8) (h2 : c2 ≤ 8) (h3 : c3 ≤ 8) (h4 : c4 ≤ 8) (h5 : c5 ≤ 8) (h6 : c6 ≤ 8) (h7 : c7 ≤ 8)
    (y y1 y2 y3 : Nat) (e : y = 256 * (256 * (256 * (256 * (256 * (256 * (256 * (256 * 0 + c7) + c6) + c5) + c4) + c3) + c2) + c1) + c0) (e1 : y1 = y + y / 256) (e2 : y2 = y1 + y1 / 65536) (e3 : y3 = y2 + y2 / 4294967296) :
    y3 < 9223372036854775808 ∧ y3 % 128 = c0 + c1 + c2 + c3 + c4 + c5 + c6 + c7 := by
  have a1 : y1 = 256 * (256 * (256 * (256 * (256 * (256 * (256 * c7 + (c6 + c7)) + (c5 + c6)) + (c4 + c5)) + (c3 + c4)) + (c2 + c3)) + (c1 + c2)) + (c0 + c1) := by omega
  clear e e1
  have q1 : y1 / 65536 = 256 * (256 * (256 * (256 * (256 * c7 + (c6 + c7)) + (c5 + c6)) + (c4 + c5)) + (c3 + c4)) + (c2 + c3) := by omega
  have a2 : y2 = 256 * (256 * (256 * (256 * (256 * (256 * (256 * c7 + (c6 + c7)) + (c5 + c6 + c7)) + (c4 + c5 + c6 + c7)) + (c3 + c4 + c5 + c6)) + (c2 + c3 + c4 + c5)) + (c1 + c2 + c3 + c4)) + (c0 + c1 + c2 + c3) := by rw [e2, q1, a1]; omega
  clear e2 q1 a1
  have q2 : y2 / 4294967296 = 256 * (256 * (256 * c7 + (c6 + c7)) + (c5 + c6 + c7)) + (c4 + c5 + c6 + c7) := by omega
  obtain ⟨A, hA⟩ : ∃ A, A = 256 * (256 * (256 * (256 * (256 * (256 * c7 + (c6 + c7)) + (c5 + c6 + c7)) + (c4 + c5 + c6 + c7)) + (c3 + c4 + c5 + c6)) + (c2 + c3 + c4 + c5)) + (c1 + c2 + c3 + c4) := ⟨_, rfl⟩
  obtain ⟨B, hB⟩ : ∃ B, B = 256 * (256 * c7 + (c6 + c7)) + (c5 + c6 + c7) := ⟨_, rfl⟩
  have hA2 : A ≤ 9007199254740992 := by omega
  have hB2 : B ≤ 9007199254740992 := by omega
  have e4 : y3 = 256 * (A + B) + (c0 + c1 + c2 + c3 + c4 + c5 + c6 + c7) := by rw [e3, q2, a2, ← hA, ← hB]; omega
  clear e3 a2 q2 hA hB
  constructor
  · omega
  · rw [e4]; omega
/-- The number of one bits. -/
def pop (x : Nat) : Nat := (setB x 64).length
theorem pop_sum (x y y1 y2 y3 : Nat) (e : y = S3 8 (S2 8 (S1 8 x))) (e1 : y1 = y + y / 256) (e2 : y2 = y1 + y1 / 65536) (e3 : y3 = y2 + y2 / 4294967296) :
    y3 < 9223372036854775808 ∧ y3 % 128 = pop x := by
  rw [S321] at e
  have hp : pop x = fB (x % 256) + (fB (x / 256 % 256) + (fB (x / 256 / 256 % 256) + (fB (x / 256 / 256 / 256 % 256) + (fB (x / 256 / 256 / 256 / 256 % 256) + (fB (x / 256 / 256 / 256 / 256 / 256 % 256) + (fB (x / 256 / 256 / 256 / 256 / 256 / 256 % 256) + (fB (x / 256 / 256 / 256 / 256 / 256 / 256 / 256 % 256) + 0))))))) := by
    unfold pop
    rw [show 64 = 8 + 56 from rfl, setB_8, show 56 = 8 + 48 from rfl, setB_8, show 48 = 8 + 40 from rfl, setB_8, show 40 = 8 + 32 from rfl, setB_8, show 32 = 8 + 24 from rfl, setB_8, show 24 = 8 + 16 from rfl, setB_8, show 16 = 8 + 8 from rfl, setB_8, show 8 = 8 + 0 from rfl, setB_8]
    simp [setB]
  have hl := fun z => fB_le (z % 256) (by omega)
  obtain ⟨r1, r2⟩ := fold_sum _ _ _ _ _ _ _ _ (hl x) (hl (x / 256)) (hl (x / 256 / 256)) (hl (x / 256 / 256 / 256)) (hl (x / 256 / 256 / 256 / 256)) (hl (x / 256 / 256 / 256 / 256 / 256)) (hl (x / 256 / 256 / 256 / 256 / 256 / 256)) (hl (x / 256 / 256 / 256 / 256 / 256 / 256 / 256)) y y1 y2 y3 (by rw [e]; rfl) e1 e2 e3
  exact ⟨r1, by rw [r2, hp]; omega⟩
end Go.Proofs.YtnckabohlakbgaaGreat
