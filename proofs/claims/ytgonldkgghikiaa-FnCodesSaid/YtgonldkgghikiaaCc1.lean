/- FnCodes, plain: the nearest code word is in the code, none is nearer, and the parities of a code word sum to a multiple of 8. The law's own count of one bits. -/
import Derived.Test.YtgonldkgghikiaaRms
namespace Go.Proofs.Ytgonldkgghikiaa
set_option linter.unusedSimpArgs false
set_option linter.unusedVariables false
set_option linter.unnecessarySimpa false
set_option maxRecDepth 200000
open Go.ChangeShapes Go.WideShapes Go.ChangeAt Go.RowKit

/-- The near word's invariants. -/
theorem near_inv {L : List Nat} {x : Nat} (h0 : 0 ∈ L) : ∀ k, k ≤ L.length → (nearTo L x k).1 ∈ L ∧ (nearTo L x k).2 = pop (x ^^^ (nearTo L x k).1) ∧ (∀ i, i < k → (nearTo L x k).2 ≤ pop (x ^^^ L.getD i 0))
  | 0, _ => ⟨h0, by simp [nearTo], fun i hi => by omega⟩
  | k + 1, hk => by
    obtain ⟨h1, h2, h3⟩ := near_inv (x := x) h0 k (by omega)
    have hkl : k < L.length := hk
    rw [nearTo_succ (by omega), nearF]
    split
    · next hlt =>
      refine ⟨?_, rfl, fun i hi => ?_⟩
      · show L.getD k 0 ∈ L
        rw [show L.getD k 0 = L[k] from by simp [List.getD, hkl]]
        exact List.getElem_mem _
      · rcases Nat.lt_succ_iff_lt_or_eq.1 hi with h | rfl
        · exact Nat.le_trans (Nat.le_of_lt hlt) (h3 i h)
        · exact Nat.le_refl _
    · next hlt =>
      refine ⟨h1, h2, fun i hi => ?_⟩
      rcases Nat.lt_succ_iff_lt_or_eq.1 hi with h | rfl
      · exact h3 i h
      · omega
theorem zero_code {n : Nat} (h1 : 1 ≤ n) (h5 : n ≤ 5) : 0 ∈ codesS n := by
  have h := (code_ok h1 h5).head
  cases hc : codesS n with
  | nil => rw [hc] at h; simp at h
  | cons a l => rw [hc] at h; simp at h; subst h; exact List.mem_cons_self
theorem pop_zero {z : Nat} (hz : z < 2 ^ 64) (h : pop z = 0) : z = 0 := by
  have hs : setB z 64 = [] := List.eq_nil_of_length_eq_zero h
  apply Nat.eq_of_testBit_eq
  intro i
  rw [Nat.zero_testBit]
  rcases Nat.lt_or_ge i 64 with hi | hi
  · cases hb : z.testBit i with
    | false => rfl
    | true =>
      have : i ∈ setB z 64 := by simp [setB, hi, hb]
      rw [hs] at this; cases this
  · exact testBit_big hz hi
theorem xor_zero {a b : Nat} (h : a ^^^ b = 0) : a = b := by
  apply Nat.eq_of_testBit_eq
  intro i
  have : (a ^^^ b).testBit i = false := by rw [h, Nat.zero_testBit]
  rw [Nat.testBit_xor] at this
  cases ha : a.testBit i <;> cases hb : b.testBit i <;> simp_all
/-- All that the law asks of the nearest word. -/
theorem near_facts {n x : Nat} (h1 : 1 ≤ n) (h5 : n ≤ 5) (hx : x < 2147483648) :
    (near n x).1 ∈ codesS n ∧ (near n x).2 = pop (x ^^^ (near n x).1) ∧ (∀ y ∈ codesS n, (near n x).2 ≤ pop (x ^^^ y)) ∧ hasB (codesS n) x = decide ((near n x).2 = 0) := by
  have hok := code_ok h1 h5
  obtain ⟨a1, a2, a3⟩ := near_inv (x := x) (zero_code h1 h5) (codesS n).length (Nat.le_refl _)
  have a4 : ∀ y ∈ codesS n, (near n x).2 ≤ pop (x ^^^ y) := by
    intro y hy
    obtain ⟨i, hi, rfl⟩ := List.mem_iff_getElem.1 hy
    have := a3 i hi
    rwa [show (codesS n).getD i 0 = (codesS n)[i] from by simp [List.getD, hi]] at this
  refine ⟨a1, a2, a4, ?_⟩
  have hb : (near n x).1 < 2147483648 := hok.small _ a1
  cases hh : hasB (codesS n) x with
  | true =>
    unfold hasB at hh
    rw [List.any_eq_true] at hh
    obtain ⟨y, hy, e⟩ := hh
    have e := of_decide_eq_true e
    subst e
    have h9 := a4 y hy
    rw [Nat.xor_self, show pop 0 = 0 from by decide +kernel] at h9
    rw [decide_eq_true (by omega)]
  | false =>
    by_cases h0 : (near n x).2 = 0
    · exfalso
      have h9 : pop (x ^^^ (near n x).1) = 0 := by rw [← h0]; exact a2.symm
      have hz := pop_zero (Nat.lt_of_lt_of_le (Nat.xor_lt_two_pow (n := 31) (by omega) (by omega)) (by decide)) h9
      have he := xor_zero hz
      have : hasB (codesS n) x = true := by
        unfold hasB
        rw [List.any_eq_true]
        exact ⟨(near n x).1, a1, by rw [← he]; simp⟩
      rw [this] at hh; cases hh
    · rw [decide_eq_false h0]
/-- The parities' sum. -/
def sumTo (x bs k : Nat) : Nat := (List.range k).foldl (fun s i => s + (x / 2 ^ i % 2) * (pop ((i + 1) &&& bs) % 2)) 0
theorem sumTo_succ (x bs k : Nat) : sumTo x bs (k + 1) = sumTo x bs k + (x / 2 ^ k % 2) * (pop ((k + 1) &&& bs) % 2) := fold_range (f := fun s i => s + (x / 2 ^ i % 2) * (pop ((i + 1) &&& bs) % 2)) 0 k
theorem sumTo_le (x bs : Nat) : ∀ k, sumTo x bs k ≤ k
  | 0 => Nat.le_refl _
  | k + 1 => by
    have ih := sumTo_le x bs k
    have h1 : x / 2 ^ k % 2 < 2 := Nat.mod_lt _ (by decide)
    have h2 : pop ((k + 1) &&& bs) % 2 < 2 := Nat.mod_lt _ (by decide)
    have h3 : (x / 2 ^ k % 2) * (pop ((k + 1) &&& bs) % 2) ≤ 1 * 1 := Nat.mul_le_mul (by omega) (by omega)
    rw [sumTo_succ]; omega
def par5 (v : Nat) : Nat := (v % 2 + v / 2 % 2 + v / 4 % 2 + v / 8 % 2 + v / 16 % 2) % 2
theorem par_pop : ∀ v : Nat, v < 32 → pop v % 2 = par5 v := by decide +kernel
def sumP (x bs k : Nat) : Nat := (List.range k).foldl (fun s i => s + (x / 2 ^ i % 2) * par5 ((i + 1) &&& bs)) 0
theorem sumP_eq (x bs : Nat) : ∀ k, k ≤ 31 → sumTo x bs k = sumP x bs k
  | 0, _ => rfl
  | k + 1, hk => by
    rw [sumTo_succ, show sumP x bs (k + 1) = sumP x bs k + (x / 2 ^ k % 2) * par5 ((k + 1) &&& bs) from fold_range (f := fun s i => s + (x / 2 ^ i % 2) * par5 ((i + 1) &&& bs)) 0 k, sumP_eq x bs k (by omega), par_pop _ (Nat.lt_of_le_of_lt Nat.and_le_left (by omega))]
def sumB (n : Nat) : Bool := (codesS n).all fun x => (List.range (2 ^ n)).all fun bs => sumP x bs (2 ^ n - 1) % 8 == 0
theorem sums1 : sumB 1 = true := by decide +kernel
theorem sums2 : sumB 2 = true := by decide +kernel
theorem sums3 : sumB 3 = true := by decide +kernel
theorem sums4 : sumB 4 = true := by decide +kernel
theorem sums5 : sumB 5 = true := by decide +kernel
theorem sum_8 {n x bs : Nat} (h1 : 1 ≤ n) (h5 : n ≤ 5) (hx : x ∈ codesS n) (hb : bs < 2 ^ n) : sumTo x bs (2 ^ n - 1) % 8 = 0 := by
  have hs : sumB n = true := by
    have : n = 1 ∨ n = 2 ∨ n = 3 ∨ n = 4 ∨ n = 5 := by omega
    rcases this with rfl | rfl | rfl | rfl | rfl
    · exact sums1
    · exact sums2
    · exact sums3
    · exact sums4
    · exact sums5
  have hle : 2 ^ n ≤ 2 ^ 5 := Nat.pow_le_pow_right (by decide) h5
  rw [sumP_eq _ _ _ (by omega)]
  unfold sumB at hs
  have h2 := List.all_eq_true.1 (List.all_eq_true.1 hs x hx) bs (by simpa using hb)
  simpa using h2
theorem pop_step {m : Nat} (hm : m < 2147483648) : pop m = m % 2 + pop (m / 2) := by
  have key : ∀ k, (setB m (k + 1)).length = m % 2 + (setB (m / 2) k).length := by
    intro k
    induction k with
    | zero =>
      rw [setB_succ]
      have : m.testBit 0 = decide (m % 2 = 1) := Nat.testBit_zero m
      rcases Nat.mod_two_eq_zero_or_one m with h | h <;> simp [this, h, setB]
    | succ k ih =>
      rw [setB_succ m (k + 1), setB_succ (m / 2) k, Nat.testBit_succ]
      split
      · rw [List.length_append, List.length_append, ih]; simp; omega
      · exact ih
  have h1 := key 64
  have h2 : setB m 65 = setB m 64 := setB_eq (Nat.lt_of_lt_of_le hm (by decide)) (Nat.lt_of_lt_of_le hm (by decide))
  rw [h2] at h1
  exact h1
set_option maxHeartbeats 2000000 in
theorem laws_qWeight_any (y : Nat) (w : World) (hy : y < 2147483648) : Calls Try.prog 19 #[.int .i64 (y : Int)] w fun e w' => e = .returned (.int .i64 (pop y : Int)) ∧ w' = w := by
  go_enter Try.func19, Try.ntmps19
  go_wp2_with fail
  go_loopw [0, 3] (fun sn sk wx => ∃ m k : Nat, sn = .int .i64 m ∧ sk = .int .i64 k ∧ m < 2147483648 ∧ k + pop m = pop y ∧ k ≤ 64 ∧ wx = w) (fun sn _ _ => (intOf sn).toNat)
  case atStart => exact ⟨y, 0, rfl, rfl, hy, by omega, by omega, rfl⟩
  case round =>
    obtain ⟨m, k, rfl, rfl, hm, hk, hk64, rfl⟩ := hrel
    by_cases h0 : 0 < m
    · have i1 : (0 : Int) < (m : Int) := by omega
      have hs := pop_step hm
      have hp := pop_le y
      have tb : bits .and .i64 (m : Int) 1 = (m : Int) % 2 := bits_and1 _ (by omega) (by omega)
      have hw : IntKind.i64.wrap ((k : Int) + (m : Int) % 2) = (k : Int) + (m : Int) % 2 := IntWalk.i64_in _ (by omega)
      go_wp2_with fail
      go_roundw
      case rel => exact ⟨m / 2, k + m % 2, by go_num, by go_num, by omega, by omega, by omega, trivial⟩
      case measure => simp [intOf]; omega
    · have i1 : ¬ (0 : Int) < (m : Int) := by omega
      obtain rfl : m = 0 := by omega
      have hp : pop 0 = 0 := by decide +kernel
      go_wp2_with fail
      go_ret
      exact ⟨by rw [← hk, hp]; rfl, rfl⟩
end Go.Proofs.Ytgonldkgghikiaa
