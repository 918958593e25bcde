/- The rank over GF(2): two ways of elimination count the same. No program in sight. -/
import Derived.Test.YtgonldkgghikiaaBase
namespace Go.Proofs.Ytgonldkgghikiaa
set_option linter.unusedSimpArgs false
set_option linter.unusedVariables false
set_option linter.unnecessarySimpa false
set_option maxRecDepth 200000

inductive Spn (L : List Nat) : Nat → Prop
  | zero : Spn L 0
  | add {r v : Nat} : r ∈ L → Spn L v → Spn L (r ^^^ v)
theorem Spn.one {L : List Nat} {r : Nat} (h : r ∈ L) : Spn L r := by simpa using Spn.add h Spn.zero
theorem Spn.xor {L : List Nat} {u v : Nat} (hu : Spn L u) (hv : Spn L v) : Spn L (u ^^^ v) := by
  induction hu with
  | zero => simpa using hv
  | add h _ ih => rw [Nat.xor_assoc]; exact Spn.add h ih
theorem Spn.le {L M : List Nat} (h : ∀ r ∈ L, Spn M r) {v : Nat} (hv : Spn L v) : Spn M v := by
  induction hv with
  | zero => exact .zero
  | add hr _ ih => exact (h _ hr).xor ih
/-- Two lists that span the same. -/
def Same (L M : List Nat) : Prop := ∀ v, Spn L v ↔ Spn M v
theorem Same.of {L M : List Nat} (h1 : ∀ r ∈ L, Spn M r) (h2 : ∀ r ∈ M, Spn L r) : Same L M := fun _ => ⟨Spn.le h1, Spn.le h2⟩
theorem Same.mem {L M : List Nat} (h : ∀ r, r ∈ L ↔ r ∈ M) : Same L M := .of (fun r hr => .one ((h r).1 hr)) (fun r hr => .one ((h r).2 hr))
theorem Same.symm {L M : List Nat} (h : Same L M) : Same M L := fun v => (h v).symm
theorem Same.trans {L M N : List Nat} (h : Same L M) (h' : Same M N) : Same L N := fun v => (h v).trans (h' v)

/-- One row behind a pivot. -/
def piv (b p r : Nat) : Nat := if r.testBit b then r ^^^ p else r
theorem piv_xor {b p u v : Nat} (hp : p.testBit b = true) : piv b p (u ^^^ v) = piv b p u ^^^ piv b p v := by
  unfold piv
  rw [Nat.testBit_xor]
  cases hu : u.testBit b <;> cases hv : v.testBit b <;> simp
  · rw [Nat.xor_assoc]
  · rw [Nat.xor_assoc, Nat.xor_assoc, Nat.xor_comm v p]
  · rw [Nat.xor_assoc, ← Nat.xor_assoc p v p, Nat.xor_comm p v, Nat.xor_assoc v p p, Nat.xor_self, Nat.xor_zero]
theorem piv_bit {b p r : Nat} (hp : p.testBit b = true) : (piv b p r).testBit b = false := by
  unfold piv
  cases hr : r.testBit b <;> simp [hr, hp, Nat.testBit_xor]
theorem piv_self {b p : Nat} (hp : p.testBit b = true) : piv b p p = 0 := by simp [piv, hp]
theorem piv_of {b p r : Nat} (h : r.testBit b = false) : piv b p r = r := by simp [piv, h]
/-- A list, its pivot p, and what remains of the other rows R. -/
theorem span_step {L R : List Nat} {b p : Nat} (hp : p.testBit b = true) (hL : ∀ r, r ∈ L ↔ r = p ∨ r ∈ R) (v : Nat) : Spn (R.map (piv b p)) v ↔ Spn L v ∧ v.testBit b = false := by
  constructor
  · intro h
    induction h with
    | zero => exact ⟨.zero, by simp⟩
    | @add r v hr _ ih =>
      obtain ⟨s, hs, rfl⟩ := List.mem_map.1 hr
      refine ⟨Spn.xor ?_ ih.1, by rw [Nat.testBit_xor, piv_bit hp, ih.2]; rfl⟩
      have hs' : Spn L s := .one ((hL s).2 (.inr hs))
      unfold piv
      split
      · exact hs'.xor (.one ((hL p).2 (.inl rfl)))
      · exact hs'
  · rintro ⟨h, hb⟩
    have key : ∀ u, Spn L u → Spn (R.map (piv b p)) (piv b p u) := by
      intro u hu
      induction hu with
      | zero => simp [piv]; exact .zero
      | @add r v hr _ ih =>
        rw [piv_xor hp]
        refine Spn.xor ?_ ih
        rcases (hL r).1 hr with rfl | h
        · rw [piv_self hp]; exact .zero
        · exact .one (List.mem_map_of_mem h)
    have := key v h
    rwa [piv_of hb] at this
theorem span_bit {L : List Nat} {b : Nat} : (∃ r ∈ L, r.testBit b = true) ↔ ∃ v, Spn L v ∧ v.testBit b = true := by
  constructor
  · rintro ⟨r, hr, h⟩; exact ⟨r, .one hr, h⟩
  · rintro ⟨v, hv, h⟩
    induction hv with
    | zero => simp at h
    | @add r v hr _ ih =>
      cases hb : r.testBit b with
      | true => exact ⟨r, hr, hb⟩
      | false => rw [Nat.testBit_xor, hb, Bool.false_xor] at h; exact ih h
/-- The same span, a pivot of each: the same span remains. -/
theorem same_step {L L' R R' : List Nat} {b p p' : Nat} (hs : Same L L') (hp : p.testBit b = true) (hp' : p'.testBit b = true) (hL : ∀ r, r ∈ L ↔ r = p ∨ r ∈ R) (hL' : ∀ r, r ∈ L' ↔ r = p' ∨ r ∈ R') : Same (R.map (piv b p)) (R'.map (piv b p')) := fun v => by
  rw [span_step hp hL, span_step hp' hL', hs v]
/-- The rank, of the span alone: for each of the bits from b on, f of them: is there a pivot? -/
inductive Rank : Nat → Nat → List Nat → Nat → Prop
  | nil {b : Nat} {L : List Nat} : Rank 0 b L 0
  | skip {f b n : Nat} {L : List Nat} : (∀ r ∈ L, r.testBit b = false) → Rank f (b + 1) L n → Rank (f + 1) b L n
  | take {f b n p : Nat} {L R : List Nat} : p.testBit b = true → (∀ r, r ∈ L ↔ r = p ∨ r ∈ R) → Rank f (b + 1) (R.map (piv b p)) n → Rank (f + 1) b L (n + 1)
theorem Rank.same {f b n m : Nat} {L M : List Nat} (h : Rank f b L n) (h' : Rank f b M m) (hs : Same L M) : n = m := by
  induction h generalizing M m with
  | nil => cases h'; rfl
  | @skip f b n L h0 _ ih =>
    cases h' with
    | skip _ h'' => exact ih h'' hs
    | @take _ _ n' p _ R hp hL _ =>
      obtain ⟨r, hr, hb⟩ := span_bit.2 ((span_bit.1 ⟨p, (hL p).2 (.inl rfl), hp⟩).imp fun v hv => ⟨(hs v).2 hv.1, hv.2⟩)
      rw [h0 r hr] at hb; cases hb
  | @take f b n p L R hp hL _ ih =>
    cases h' with
    | skip h0 _ =>
      obtain ⟨r, hr, hb⟩ := span_bit.2 ((span_bit.1 ⟨p, (hL p).2 (.inl rfl), hp⟩).imp fun v hv => ⟨(hs v).1 hv.1, hv.2⟩)
      rw [h0 r hr] at hb; cases hb
    | @take _ _ n' p' _ R' hp' hL' h'' => rw [ih h'' (same_step hs hp hp' hL hL')]
theorem Rank.uniq {f b n m : Nat} {L : List Nat} (h : Rank f b L n) (h' : Rank f b L m) : n = m := h.same h' (fun _ => Iff.rfl)
theorem rank_total : ∀ (f b : Nat) (L : List Nat), ∃ n, Rank f b L n
  | 0, b, L => ⟨0, .nil⟩
  | f + 1, b, L => by
    by_cases h : ∃ p ∈ L, p.testBit b = true
    · obtain ⟨p, hp, hb⟩ := h
      obtain ⟨n, hn⟩ := rank_total f (b + 1) (L.map (piv b p))
      exact ⟨n + 1, .take hb (fun r => ⟨.inr, fun h => h.elim (fun e => e ▸ hp) id⟩) hn⟩
    · obtain ⟨n, hn⟩ := rank_total f (b + 1) L
      exact ⟨n, .skip (fun r hr => by cases hb : r.testBit b with | false => rfl | true => exact absurd ⟨r, hr, hb⟩ h) hn⟩
/-- What the loops carry: the whole answer N is what is counted and what remains. -/
def Left (N rank f b : Nat) (L : List Nat) : Prop := ∃ n, Rank f b L n ∧ N = rank + n
theorem Left.skip {N rank f b : Nat} {L : List Nat} (h : Left N rank (f + 1) b L) (h0 : ∀ r ∈ L, r.testBit b = false) : Left N rank f (b + 1) L := by
  obtain ⟨n, hn, rfl⟩ := h
  obtain ⟨m, hm⟩ := rank_total f (b + 1) L
  exact ⟨m, hm, by rw [hn.uniq (.skip h0 hm)]⟩
theorem Left.take {N rank f b p : Nat} {L R : List Nat} (h : Left N rank (f + 1) b L) (hp : p.testBit b = true) (hL : ∀ r, r ∈ L ↔ r = p ∨ r ∈ R) : Left N (rank + 1) f (b + 1) (R.map (piv b p)) := by
  obtain ⟨n, hn, rfl⟩ := h
  obtain ⟨m, hm⟩ := rank_total f (b + 1) (R.map (piv b p))
  exact ⟨m, hm, by rw [hn.uniq (.take hp hL hm)]; omega⟩
theorem Left.done {N rank b : Nat} {L : List Nat} (h : Left N rank 0 b L) : N = rank := by
  obtain ⟨n, hn, rfl⟩ := h
  cases hn; rfl
theorem Left.start (L : List Nat) : ∃ N, Left N 0 10 0 L := (rank_total 10 0 L).imp fun n hn => ⟨n, hn, by omega⟩
end Go.Proofs.Ytgonldkgghikiaa
