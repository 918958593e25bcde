/- Rm0, Rm1, Rm2, Rm3, Rm4, Rm5, Rm6 in one text. -/
import Derived.Test.YtgonldkgghikiaaPop
import Derived.Test.YtgonldkgghikiaaSet1
import Derived.Test.YtgonldkgghikiaaPhase1
import Derived.Test.YtgonldkgghikiaaSortI
import Derived.Test.YtgonldkgghikiaaTwo2
import Derived.Test.YtgonldkgghikiaaHas1
import Derived.BigGuardPart
import Derived.Sort.Row
import Derived.Sort.Grow
import Derived.BigRegion
namespace Go.Proofs.Ytgonldkgghikiaa
set_option linter.unusedSimpArgs false
set_option linter.unusedVariables false
set_option linter.unnecessarySimpa false
set_option maxRecDepth 200000
open Go.ChangeShapes Go.WideShapes Go.ChangeAt Go.RowKit

def affStep (a t x i : Nat) : Nat := x ||| (((pop ((i + 1) &&& a) % 2) ^^^ t) <<< i)
def affTo (a t : Nat) (k : Nat) : Nat := (List.range k).foldl (affStep a t) 0
def aff (n a t : Nat) : Nat := affTo a t (2 ^ n - 1)
def cutAt (l : List Nat) (x : Nat) : Nat := (l.takeWhile (fun y => decide (y < x))).length
def putN (l : List Nat) (x : Nat) : List Nat := if cutAt l x < l.length ∧ l.getD (cutAt l x) 0 = x then l else l.take (cutAt l x) ++ [x] ++ l.drop (cutAt l x)
def codeStep (n : Nat) (o : List Nat) (i : Nat) : List Nat := putN (putN o (aff n (i + 1) 0)) (aff n (i + 1) 1)
def codesTo (n : Nat) (o : List Nat) (k : Nat) : List Nat := (List.range k).foldl (codeStep n) o
def codes4 (n : Nat) : List Nat := if 4 ≤ n then putN [0] (aff n 0 1) else [0]
def codesS (n : Nat) : List Nat := if n = 5 then codesTo n (codes4 n) 31 else codes4 n
def wordStep (c x i : Nat) : Nat := if (i + 1) &&& c = c then x ||| 2 ^ i else x
def wordTo (c k : Nat) : Nat := (List.range k).foldl (wordStep c) 0
def skipB (n c : Nat) : Bool := decide (n < 4) || decide (n < pop c + 4)
def cwStep (n : Nat) (out : List Nat) (c : Nat) : List Nat := if skipB n c = true then out else out ++ out.map (· ^^^ wordTo c (2 ^ n - 1))
def codesI (n k : Nat) : List Nat := (List.range k).foldl (cwStep n) [0]
theorem fold_range {α : Type} (f : α → Nat → α) (z : α) (k : Nat) : (List.range (k + 1)).foldl f z = f ((List.range k).foldl f z) k := by
  rw [List.range_succ, List.foldl_append]; rfl
theorem affTo_succ (a t k : Nat) : affTo a t (k + 1) = affStep a t (affTo a t k) k := fold_range _ _ k
theorem codesTo_succ (n : Nat) (o : List Nat) (k : Nat) : codesTo n o (k + 1) = codeStep n (codesTo n o k) k := fold_range _ _ k
theorem wordTo_succ (c k : Nat) : wordTo c (k + 1) = wordStep c (wordTo c k) k := fold_range _ _ k
theorem codesI_succ (n k : Nat) : codesI n (k + 1) = cwStep n (codesI n k) k := fold_range _ _ k
def riseB : List Nat → Bool
  | x :: y :: l => Nat.ble x y && riseB (y :: l)
  | _ => true
theorem riseB_pw : ∀ {l : List Nat}, riseB l = true → l.Pairwise (· ≤ ·)
  | [], _ => List.Pairwise.nil
  | [x], _ => by simp
  | x :: y :: l, h => by
    have h' : (Nat.ble x y && riseB (y :: l)) = true := h
    rw [Bool.and_eq_true] at h'
    have ih := riseB_pw h'.2
    have hxy : x ≤ y := Nat.le_of_ble_eq_true h'.1
    refine List.pairwise_cons.2 ⟨fun z hz => ?_, ih⟩
    rcases List.mem_cons.1 hz with rfl | hz
    · exact hxy
    · exact Nat.le_trans hxy ((List.pairwise_cons.1 ih).1 z hz)
/-- All that is asked of the two lists, for each number of qubits. -/
def codeFacts (n : Nat) : Bool := riseB (codesS n) && (codesI n (2 ^ n)).isPerm (codesS n) && (codesS n).all (fun x => Nat.blt x 2147483648) && Nat.ble (codesS n).length 64 && (codesS n).headD 1 == 0
theorem facts1 : codeFacts 1 = true := by decide +kernel
theorem facts2 : codeFacts 2 = true := by decide +kernel
theorem facts3 : codeFacts 3 = true := by decide +kernel
theorem facts4 : codeFacts 4 = true := by decide +kernel
theorem facts5 : codeFacts 5 = true := by decide +kernel
theorem facts_all {n : Nat} (h1 : 1 ≤ n) (h2 : n ≤ 5) : codeFacts n = true := by
  have : n = 1 ∨ n = 2 ∨ n = 3 ∨ n = 4 ∨ n = 5 := by omega
  rcases this with rfl | rfl | rfl | rfl | rfl
  · exact facts1
  · exact facts2
  · exact facts3
  · exact facts4
  · exact facts5
structure CodeOk (n : Nat) : Prop where
  rise : (codesS n).Pairwise (· ≤ ·)
  perm : (codesI n (2 ^ n)).Perm (codesS n)
  small : ∀ x ∈ codesS n, x < 2147483648
  few : (codesS n).length ≤ 64
  head : (codesS n).headD 1 = 0
theorem code_ok {n : Nat} (h1 : 1 ≤ n) (h2 : n ≤ 5) : CodeOk n := by
  have h := facts_all h1 h2
  unfold codeFacts at h
  rw [Bool.and_eq_true, Bool.and_eq_true, Bool.and_eq_true, Bool.and_eq_true] at h
  obtain ⟨⟨⟨⟨a, b⟩, c⟩, d⟩, e⟩ := h
  refine ⟨riseB_pw a, List.isPerm_iff.1 b, fun x hx => ?_, Nat.le_of_ble_eq_true d, by simpa using e⟩
  have := List.all_eq_true.1 c x hx
  exact Nat.le_of_ble_eq_true this
theorem CodeOk.lenI {n : Nat} (h : CodeOk n) : (codesI n (2 ^ n)).length = (codesS n).length := h.perm.length_eq
/-- The sorted list of whole numbers. -/
theorem sort_codes {n : Nat} (h : CodeOk n) : ((ints (codesI n (2 ^ n))).mergeSort fun x y => decide (x ≤ y)) = ints (codesS n) := by
  have hp : ((ints (codesI n (2 ^ n))).mergeSort fun x y => decide (x ≤ y)).Perm (ints (codesS n)) := (List.mergeSort_perm _ _).trans (h.perm.map _)
  have s1 : ((ints (codesI n (2 ^ n))).mergeSort fun x y => decide (x ≤ y)).Pairwise (fun a b => decide (a ≤ b) = true) :=
    List.pairwise_mergeSort (fun a b c h1 h2 => by simp at *; omega) (fun a b => by simp; omega) _
  have s2 : (ints (codesS n)).Pairwise (fun a b => decide (a ≤ b) = true) := by
    unfold ints
    rw [List.pairwise_map]
    exact h.rise.imp (fun {a b} hab => by simpa using hab)
  exact List.Perm.eq_of_pairwise (fun a b _ _ h1 h2 => by simp at h1 h2; omega) s1 s2 hp
end Go.Proofs.Ytgonldkgghikiaa
namespace Go.Proofs.Ytgonldkgghikiaa
set_option linter.unusedSimpArgs false
set_option linter.unusedVariables false
set_option linter.unnecessarySimpa false
set_option maxRecDepth 200000
open Go.ChangeShapes Go.WideShapes Go.ChangeAt Go.RowKit

theorem lt_31 {y : Nat} (h : y < 2147483648) : y < 2 ^ 31 := h
set_option maxHeartbeats 1000000 in
theorem spec_l1Set_big (y : Nat) (w : World) (hy : y < 2147483648) :
    Calls Try.prog 55 #[.int .i64 (y : Int)] w fun e w' => ∃ v, e = .returned v ∧ OwnI w' w.heap.size v (ints (setB y 31)) ∧ Below w.heap.size w w' := by
  obtain ⟨i0, hi, hz0, hz1, hz2⟩ := info_parts info_int
  go_enter Try.func55, Try.ntmps55
  go_wp2_with fail
  go_loopw [3, 4] (fun v i wr => ∃ k : Nat, k ≤ 31 ∧ i = .int .i64 k ∧ Hid (wr.ownsRow w.heap.size 3 1 v (setB y k).length ((ints (setB y k)).map (Value.int .i64))) ∧ Below w.heap.size w wr) (fun _ i _ => 32 - (intOf i).toNat)
  case atStart => exact ⟨0, by omega, rfl, World.ownsRow_nil _ _ _ _, Below.refl _ _⟩
  case round =>
    obtain ⟨k, hk, rfl, hown, hbel⟩ := hrel
    have e0 : ((y : Int) / 2 ^ k) = ((y / 2 ^ k : Nat) : Int) := by simp
    by_cases hp : 2 ^ k ≤ y
    · have hk9 : k ≤ 30 := by
        rcases Nat.lt_or_ge 30 k with h | h
        · have : (2 : Nat) ^ 31 ≤ 2 ^ k := Nat.pow_le_pow_right (by decide) h
          omega
        · exact h
      have ht : (0 : Int) < (y : Int) / 2 ^ k := by rw [e0]; have := (div_pos_iff y k).2 hp; omega
      have hbt := bit_test y k (by omega)
      have hlw := hbel.size
      have hln := setB_len y k
      clear e0 hp
      cases hb : y.testBit k with
      | false =>
        rw [hb] at hbt
        have hs := Lib.hid (show setB y (k + 1) = setB y k from by rw [setB_succ, hb]; rfl)
        clear hb
        go_wp2_with fail
        go_roundw
        case rel => exact ⟨k + 1, by omega, by go_num, (show World.ownsRow _ _ _ _ _ _ _ from by rw [hs.out]; exact hown.out), hbel⟩
        case measure => simp [intOf]; omega
      | true =>
        rw [hb] at hbt
        have hs := Lib.hid (show setB y (k + 1) = setB y k ++ [k] from by rw [setB_succ, hb]; rfl)
        clear hb
        obtain ⟨n, hn⟩ : ∃ n, n = (setB y k).length := ⟨_, rfl⟩
        rw [← hn] at hown hln
        have Hn := Lib.hid hn; clear hn
        go_wp2_with (at_builtin; go_must (refine wpList_append_some _ rfl _ _ 22 rfl w.heap.size 3 i0 (.int .i64 0) 1 8 Try.underlying22 hi hz0 hz1 hz2 rfl (by decide) _ n _ rfl (hown.out.alloc _) ⟨wr.heap.size, 0, none⟩ 1 1 [.int .i64 (k : Int)] rfl rfl (news_cells _ [_] _) (fun x hx => by simp at hx; subst hx; rfl) (by unfold maxLen; omega) (by omega) (by simp; omega) (by omega) ?_; intro g cap w1 hown1 hg1 hgr1 hsz1))
        go_roundw
        case rel =>
          refine ⟨k + 1, by omega, by go_num, ?_, grown_below (hbel.alloc (by omega) _) (hown.out.alloc _) hgr1 (by omega) (by simp; omega)⟩
          show World.ownsRow _ _ _ _ _ _ _
          rw [hs.out]
          simpa [ints, ← Hn.out] using hown1
        case measure => simp [intOf]; omega
    · have ht : ¬ (0 : Int) < (y : Int) / 2 ^ k := by rw [e0]; have := mt (div_pos_iff y k).1 hp; omega
      have hs : Hid (setB y k = setB y 31) := setB_eq (by omega) (lt_31 hy)
      clear e0 hp
      go_wp2_with fail
      go_ret
      refine ⟨_, rfl, ?_, hbel⟩
      unfold OwnI
      rw [ints_len, ← hs.out]
      exact hown.out
theorem pop_31 {y : Nat} (h : y < 2147483648) : (setB y 31).length = pop y := by
  unfold pop
  rw [setB_eq (lt_31 h) (Nat.lt_of_lt_of_le (lt_31 h) (Nat.pow_le_pow_right (show 0 < 2 by decide) (show 31 ≤ 64 by decide)))]
theorem aff_bit {s t : Nat} (hs : s ≤ 1) (ht : t ≤ 1) : s ^^^ t = 0 ∨ s ^^^ t = 1 := by
  have h1 : s = 0 ∨ s = 1 := by omega
  have h2 : t = 0 ∨ t = 1 := by omega
  rcases h1 with rfl | rfl <;> rcases h2 with rfl | rfl <;> decide
theorem affTo_lt (a : Nat) {t : Nat} (ht : t ≤ 1) : ∀ k, k ≤ 31 → affTo a t k < 2147483648
  | 0, _ => by simp [affTo]
  | k + 1, h => by
    have ih := affTo_lt a ht k (by omega)
    rw [affTo_succ, affStep]
    refine Nat.or_lt_two_pow (n := 31) ih ?_
    have hp : (2 : Nat) ^ k < 2 ^ 31 := Nat.pow_lt_pow_right (by omega) (by omega)
    rcases aff_bit (s := pop ((k + 1) &&& a) % 2) (by omega) ht with e | e <;> rw [e]
    · simp
    · rw [Nat.one_shiftLeft]; exact hp
set_option maxHeartbeats 1000000 in
theorem spec_l15Affine_any (n a t : Nat) (w : World) (h1 : 1 ≤ n) (h2 : n ≤ 5) (ha : a ≤ 31) (ht : t ≤ 1) :
    Calls Try.prog 59 #[.int .i64 (n : Int), .int .i64 (a : Int), .int .i64 (t : Int)] w fun e w' => e = .returned (.int .i64 (aff n a t : Int)) ∧ Below w.heap.size w w' := by
  obtain ⟨p1, p2⟩ := pow_5 (n := (n : Int)) (by omega)
  rw [Int.toNat_natCast] at p1 p2
  obtain ⟨N, hN⟩ : ∃ N : Nat, N = 2 ^ n := ⟨_, rfl⟩
  have hNi : (2 : Int) ^ n = (N : Int) := by rw [hN]; simp
  rw [hNi] at p1 p2
  have hw : IntKind.i64.wrap ((2 : Int) ^ n) = (N : Int) := by rw [hNi]; exact IntWalk.i64_in _ (by omega)
  have HN : Hid (aff n a t = affTo a t (N - 1)) := by show _ = _; rw [hN]; rfl
  clear hN hNi
  go_enter Try.func59, Try.ntmps59
  go_wp2_with fail
  go_loopw [7, 8] (fun x i wr => ∃ k : Nat, k ≤ N - 1 ∧ i = .int .i64 ((k : Int) + 1) ∧ x = .int .i64 (affTo a t k : Int) ∧ Below w.heap.size w wr) (fun _ i _ => N - (intOf i).toNat)
  case atStart => exact ⟨0, by omega, rfl, rfl, Below.refl _ _⟩
  case round =>
    obtain ⟨k, hk, rfl, rfl, hbel⟩ := hrel
    by_cases hlt : k + 1 < N
    · have i1 : (k : Int) + 1 < (N : Int) := by omega
      obtain ⟨x, hx⟩ : ∃ x, x = affTo a t k := ⟨_, rfl⟩
      have hxl := affTo_lt a ht k (by omega)
      obtain ⟨z, hz⟩ : ∃ z, z = (k + 1) &&& a := ⟨_, rfl⟩
      have hz31 : z ≤ 31 := by rw [hz]; exact Nat.le_trans Nat.and_le_right ha
      have hand : bits .and .i64 ((k : Int) + 1) (a : Int) = (z : Int) := by rw [hz]; have := bits_and (k + 1) a (by omega) (by omega); simpa using this
      obtain ⟨s, hs⟩ : ∃ s, s = pop z % 2 := ⟨_, rfl⟩
      have he : ((pop z : Nat) : Int) % 2 = (s : Int) := by rw [hs]; simp
      obtain ⟨u, hu⟩ : ∃ u, u = s ^^^ t := ⟨_, rfl⟩
      have hxor : bits .xor .i64 (s : Int) (t : Int) = (u : Int) := by rw [hu]; exact bits_xor s t (by omega) (by omega)
      obtain ⟨q1, q2⟩ := pow_small k (by omega)
      have hwk : IntKind.i64.wrap ((2 : Int) ^ k) = (2 : Int) ^ k := IntWalk.i64_in _ (by omega)
      have e2 : ((2 : Int) ^ k) = ((2 ^ k : Nat) : Int) := by simp
      have hp63 : (2 : Nat) ^ k < 9223372036854775808 := by have : (2 : Nat) ^ k < 2 ^ 31 := Nat.pow_lt_pow_right (by omega) (by omega); omega
      have hor : bits .or .i64 (x : Int) ((2 : Int) ^ k) = ((x ||| 2 ^ k : Nat) : Int) := by rw [e2]; exact bits_or _ _ (by omega) hp63
      have hor0 : bits .or .i64 (x : Int) 0 = (x : Int) := by have := bits_or x 0 (by omega) (by omega); simpa using this
      have Hs := Lib.hid (show affTo a t (k + 1) = x ||| (u <<< k) from by rw [affTo_succ, affStep, hu, hs, hz, hx])
      have hu01 := aff_bit (s := s) (t := t) (by omega) ht
      rw [← hu] at hu01
      rw [← hx] at hxl
      rw [← hx]
      have HE := Lib.hid he
      clear he hu hs hz hx e2 hp63
      rcases hu01 with rfl | rfl
      · replace hxor : bits .xor .i64 (s : Int) (t : Int) = 0 := hxor
        have Hs0 := Lib.hid (show affTo a t (k + 1) = x from by rw [Hs.out]; simp)
        go_wp2_with fail
        refine (spec_l13Parity_any z _ (by omega)).mono ?_; rintro e w1 ⟨rfl, hb1⟩; rw [HE.out]
        go_wp2_with fail
        go_roundw
        case rel => exact ⟨k + 1, by omega, by go_num, by rw [Hs0.out], below_step hbel hb1⟩
        case measure => simp [intOf]; omega
      · replace hxor : bits .xor .i64 (s : Int) (t : Int) = 1 := hxor
        have Hs1 := Lib.hid (show affTo a t (k + 1) = x ||| 2 ^ k from by rw [Hs.out, Nat.one_shiftLeft])
        go_wp2_with fail
        refine (spec_l13Parity_any z _ (by omega)).mono ?_; rintro e w1 ⟨rfl, hb1⟩; rw [HE.out]
        go_wp2_with fail
        go_roundw
        case rel => exact ⟨k + 1, by omega, by go_num, by rw [Hs1.out], below_step hbel hb1⟩
        case measure => simp [intOf]; omega
    · have i1 : ¬ (k : Int) + 1 < (N : Int) := by omega
      have hr : Hid (affTo a t k = aff n a t) := by show _ = _; rw [HN.out, show k = N - 1 from by omega]
      go_wp2_with fail
      go_ret
      exact ⟨ret_int (by rw [hr.out]), hbel⟩
end Go.Proofs.Ytgonldkgghikiaa
namespace Go.Proofs.Ytgonldkgghikiaa
set_option linter.unusedSimpArgs false
set_option linter.unusedVariables false
set_option linter.unnecessarySimpa false
set_option maxRecDepth 200000
open Go.ChangeShapes Go.WideShapes Go.ChangeAt Go.RowKit

theorem cut_at : ∀ {L : List Nat} {x k : Nat}, (∀ j, j < k → L.getD j 0 < x) → k ≤ L.length → (k = L.length ∨ x ≤ L.getD k 0) → cutAt L x = k
  | [], x, k, _, hk, _ => by simp at hk; subst hk; rfl
  | y :: L, x, 0, _, _, h => by
    have : x ≤ y := h.elim (fun h => by simp at h) (fun h => by simpa using h)
    unfold cutAt
    rw [List.takeWhile_cons_of_neg (by simpa using this)]; rfl
  | y :: L, x, k + 1, h, hk, h2 => by
    have hy : y < x := by have := h 0 (by omega); simpa using this
    have ih := cut_at (L := L) (x := x) (k := k) (fun j hj => by have := h (j + 1) (by omega); simpa using this) (by simp at hk; omega) (h2.elim (fun h => Or.inl (by simp at h; omega)) (fun h => Or.inr (by simpa using h)))
    unfold cutAt at ih ⊢
    rw [List.takeWhile_cons_of_pos (by simpa using hy)]
    simp [ih]
theorem put_same {L : List Nat} {x k : Nat} (hc : cutAt L x = k) (hk : k < L.length) (he : L.getD k 0 = x) : putN L x = L := by
  unfold putN; rw [hc, if_pos ⟨hk, he⟩]
theorem put_new {L : List Nat} {x k : Nat} (hc : cutAt L x = k) (h : ¬ (k < L.length ∧ L.getD k 0 = x)) : putN L x = L.take k ++ [x] ++ L.drop k := by
  unfold putN; rw [hc, if_neg h]
theorem put_len (L : List Nat) (x : Nat) : (putN L x).length ≤ L.length + 1 := by
  unfold putN; split
  · omega
  · simp; omega
theorem put_small {L : List Nat} {x b : Nat} (h : ∀ y ∈ L, y < b) (hx : x < b) : ∀ y ∈ putN L x, y < b := by
  unfold putN; split
  · exact h
  · intro y hy
    simp only [List.append_assoc, List.mem_append, List.mem_singleton, List.cons_append, List.nil_append, List.mem_cons] at hy
    rcases hy with hy | rfl | hy
    · exact h y (List.mem_of_mem_take hy)
    · exact hx
    · exact h y (List.mem_of_mem_drop hy)
theorem reads_head {w : World} {g k : Nat} {L : List Nat} (hg : g < w.heap.size) (HC : ∀ j, j < L.length → w.cell? ⟨g, j, none⟩ = some (.int .i64 (L.getD j 0 : Nat))) (hk : k ≤ L.length) : Reads w w.heap.size 1 (some ⟨g, 0, none⟩) k ((ints (L.take k)).map (Value.int .i64)) := by
  refine ⟨by simp [ints]; omega, fun _ => ⟨_, rfl, hg, fun j u hj => ?_⟩⟩
  rw [Addr.add_lit, Nat.zero_add]
  have hjk : j < k := by have := (List.getElem?_eq_some_iff.1 hj).1; simp [ints] at this; omega
  rw [HC j (by omega)]
  have h3 : ((ints (L.take k)).map (Value.int .i64))[j]? = some (.int .i64 (L.getD j 0 : Nat)) := by
    simp [ints, List.getElem?_take, hjk, List.getD, show j < L.length by omega]
  rw [h3] at hj; exact hj
theorem reads_tail {w : World} {g k : Nat} {L : List Nat} (hg : g < w.heap.size) (HC : ∀ j, j < L.length → w.cell? ⟨g, j, none⟩ = some (.int .i64 (L.getD j 0 : Nat))) (hk : k ≤ L.length) : Reads w w.heap.size 1 (some ⟨g, k, none⟩) (L.length - k) ((ints (L.drop k)).map (Value.int .i64)) := by
  refine ⟨by simp [ints], fun _ => ⟨_, rfl, hg, fun j u hj => ?_⟩⟩
  rw [Addr.add_lit]
  have hjk : k + j < L.length := by have := (List.getElem?_eq_some_iff.1 hj).1; simp [ints] at this; omega
  rw [HC (k + j) hjk]
  have h3 : ((ints (L.drop k)).map (Value.int .i64))[j]? = some (.int .i64 (L.getD (k + j) 0 : Nat)) := by
    simp [ints, List.getElem?_drop, List.getD, hjk]
  rw [h3] at hj; exact hj
theorem reads_zero (w : World) (B : Nat) (A : Option Addr) : Reads w B 1 A 0 [] := ⟨rfl, fun h => absurd h (Nat.lt_irrefl _)⟩
theorem reads_one (w : World) (x : Nat) : Reads (w.alloc (.cells #[.int .i64 (x : Int)] 3)) (w.heap.size + 1) 1 (some ⟨w.heap.size, 0, none⟩) 1 [.int .i64 (x : Int)] :=
  ⟨rfl, fun _ => ⟨_, rfl, by simp, news_cells w [_] _⟩⟩
theorem int_one (x : Nat) : ∀ u ∈ [Value.int .i64 (x : Int)], u.oneCell' = true := fun u hu => by simp at hu; subst hu; rfl
/-- What the three appends leave. -/
theorem put_end {w w3 : World} {base m : Nat} {v : Value} {L : List Nat} {x k : Nat} {T3 : List Value} (h : w3.ownsRow w.heap.size 3 1 v m (([] ++ (ints (L.take k)).map (Value.int .i64) ++ [.int .i64 (x : Int)]) ++ T3)) (hT : T3 = (ints (L.drop k)).map (Value.int .i64)) (hp : putN L x = L.take k ++ [x] ++ L.drop k) (hb : base ≤ w.heap.size) : OwnI w3 base v (ints (putN L x)) := by
  subst hT
  have e : ([] ++ (ints (L.take k)).map (Value.int .i64) ++ [.int .i64 (x : Int)]) ++ (ints (L.drop k)).map (Value.int .i64) = (ints (putN L x)).map (Value.int .i64) := by rw [hp]; simp [ints]
  rw [e] at h
  have hm : m = (ints (putN L x)).length := by have := h.1; simp at this; omega
  subst hm
  exact own_le h hb
set_option maxHeartbeats 2000000 in
theorem spec_l1Put_any (v : Value) (L : List Nat) (x base : Nat) (w : World) (ho : OwnI w base v (ints L)) (hbw : base ≤ w.heap.size) (h0 : 0 < L.length) (hn : L.length ≤ 1000) (hs : ∀ y ∈ L, y < 2147483648) (hx : x < 2147483648) :
    Calls Try.prog 58 #[v, .int .i64 (x : Int)] w fun e w' => ∃ v', e = .returned v' ∧ OwnI w' base v' (ints (putN L x)) ∧ Below w.heap.size w w' := by
  obtain ⟨i0, hi, hz0, hz1, hz2⟩ := info_parts info_int
  obtain ⟨g, cap, rfl, hg0, hg1⟩ := own_ints ho h0
  have own := Lib.hid (OwnN.of ho); clear ho
  obtain ⟨hcp, hcm⟩ := own.out.caps
  have hR := Lib.hid (Reads.of_rd (show Rd w (.slice (some ⟨g, 0, none⟩) L.length cap) L.length 1 ((ints L).map (Value.int .i64)) from by have := own.out.rd; unfold RdI at this; rw [ints_len] at this; exact this))
  have HC := Lib.hid (fun j hj => own_int_cell own.out j hj)
  obtain ⟨n, hnl⟩ : ∃ n, n = L.length := ⟨_, rfl⟩
  rw [← hnl] at hcp hR hn h0
  rw [← hnl]
  have Hn := Lib.hid hnl; clear hnl
  go_enter Try.func58, Try.ntmps58
  go_wp2_with fail
  go_loop [5] (fun i => ∃ k : Nat, k ≤ n ∧ i = .int .i64 k ∧ Hid (∀ j, j < k → L.getD j 0 < x)) (fun i => n - (intOf i).toNat)
  case atStart => exact ⟨0, Nat.zero_le _, rfl, (fun j hj => by omega)⟩
  case round =>
    obtain ⟨k, hk, rfl, hpre⟩ := hrel
    by_cases hlt : k < n
    · obtain ⟨y, hy⟩ : ∃ y, y = L.getD k 0 := ⟨_, rfl⟩
      have cy := HC.out k (by rw [← Hn.out]; exact hlt)
      rw [← hy] at cy
      have i1 : (k : Int) < (n : Int) := by omega
      by_cases hyx : y < x
      · have b1 : decide ((y : Int) < (x : Int)) = true := by simp; omega
        have b2 : decide (y < x) = true := by simp; omega
        have HP : Hid (∀ j, j < k + 1 → L.getD j 0 < x) := by
          intro j hj
          by_cases e : j = k
          · subst e; rw [← hy]; exact hyx
          · exact hpre.out j (by omega)
        clear hy hyx
        go_wp2_with fail
        go_round
        case rel => exact ⟨k + 1, by omega, by go_num, HP⟩
        case measure => simp [intOf]; omega
      · have b1 : decide ((y : Int) < (x : Int)) = false := by simp; omega
        have b2 : decide (y < x) = false := by simp; omega
        have HCut := Lib.hid (cut_at hpre.out (by rw [← Hn.out]; exact hk) (.inr (by rw [← hy]; omega)))
        by_cases hye : y = x
        · subst hye
          have HP := Lib.hid (put_same HCut.out (by rw [← Hn.out]; exact hlt) hy.symm)
          clear hy hyx
          go_wp2_with fail
          go_ret
          refine ⟨_, rfl, ?_, Below.refl _ _⟩
          rw [HP.out]
          have := own.out.own
          rw [← Hn.out] at this
          exact this
        · have b3 : ((y : Int) == (x : Int)) = false := by simpa using fun e => hye (by omega)
          have HP := Lib.hid (put_new HCut.out (fun h => hye (by rw [hy]; exact h.2)))
          have hck : ¬ cap = k := by omega
          have RH := Lib.hid (reads_head hg1 HC.out (show k ≤ L.length by rw [← Hn.out]; exact hk))
          have RT := Lib.hid (show Reads w w.heap.size 1 (some ⟨g, k, none⟩) (n - k) ((ints (L.drop k)).map (Value.int .i64)) from by have := reads_tail hg1 HC.out (show k ≤ L.length by rw [← Hn.out]; exact hk); rwa [← Hn.out] at this)
          have HT : (ints (L.drop k)).map (Value.int .i64) = (ints (L.drop k)).map (Value.int .i64) := rfl
          clear hy hyx hye HT
          go_wp2_with (first
            | (at_builtin; refine wpList_append_any _ rfl (.tmp 34) (.tmp 37) 22 rfl w.heap.size 3 i0 (.int .i64 0) 1 8 Try.underlying22 hi hz0 hz1 hz2 rfl (by decide) (.slice (some ⟨w.heap.size, 0, none⟩) 0 0) 0 [] rfl (own_lit0 (α := Int) (f := fun _ => []) (sz := 1) w w.heap.size 3 w.heap.size rfl (Nat.le_refl _)) w.heap.size _ k _ ((ints (L.take k)).map (Value.int .i64)) rfl (RH.out.alloc (Nat.le_refl _) _) ints_one (by unfold maxLen; omega) (by omega) (by simp) ?_; intro v1 w1 hown1 hg1 hat1; have sz1 := hg1.size; (simp at sz1); have H1 := Lib.hid hown1; have T1 := Lib.hid (Reads.keep RT.out (fun p hp => (World.cell?_of_block (hg1.block p.block (by simp; omega) (fun e => by simp [Value.ownBlock] at e; omega))).trans (World.cell?_alloc_lt w _ p hp))); have hb1 := Lib.hid (Below.grown (show Below w.heap.size w (w.alloc (.cells #[] 3)) from (by repeat (first | exact Below.refl _ _ | assumption | refine Below.drew ?_ | refine below_drewN ?_ _ | refine Below.alloc ?_ (by first | omega | (simp <;> omega)) _ | refine Below.setCell ?_ (by first | omega | (simp <;> omega)) _ | refine Below.trans ?_ (Below.mono (by assumption) (by first | omega | (simp <;> omega)))))) hg1 (by simp) (fun q hq => by simp [Value.ownBlock] at hq; omega)); clear hown1 hg1 hat1)
            | (at_builtin; refine wpList_append_any _ rfl (.tmp 39) (.tmp 41) 22 rfl w.heap.size 3 i0 (.int .i64 0) 1 8 Try.underlying22 hi hz0 hz1 hz2 rfl (by decide) v1 (0 + k) _ rfl (H1.out.alloc _) (w1.heap.size + 1) _ 1 1 [.int .i64 (x : Int)] rfl (reads_one w1 x) (int_one x) (by unfold maxLen; omega) (by omega) (by simp; omega) ?_; intro v2 w2 hown2 hg2 hat2; have sz2 := hg2.size; (simp at sz2); have H2 := Lib.hid hown2; have T2 := Lib.hid (Reads.keep T1.out (fun p hp => (World.cell?_of_block (hg2.block p.block (by simp; omega) (fun e => by have := (World.ownsRow.lt H1.out _ e.symm).1; omega))).trans (World.cell?_alloc_lt w1 _ p (by omega)))); have hb2 := Lib.hid (Below.grown (Below.alloc hb1.out (by omega) (.cells #[.int .i64 (x : Int)] 3)) hg2 (by simp; omega) (fun q hq => by have := (World.ownsRow.lt H1.out _ hq).1; omega)); clear hown2 hg2 hat2)
            | (at_builtin; refine wpList_append_any _ rfl (.tmp 43) (.tmp 46) 22 rfl w.heap.size 3 i0 (.int .i64 0) 1 8 Try.underlying22 hi hz0 hz1 hz2 rfl (by decide) v2 (0 + k + 1) _ rfl H2.out w.heap.size _ _ _ _ rfl T2.out ints_one (by unfold maxLen; omega) (by omega) (by omega) ?_; intro v3 w3 hown3 hg3 hat3; have H3 := Lib.hid hown3; have hb3 := Lib.hid (Below.grown hb2.out hg3 (by omega) (fun q hq => by have := (World.ownsRow.lt H2.out _ hq).1; omega)); clear hown3 hg3 hat3))
          go_ret
          exact ⟨v3, rfl, put_end H3.out rfl HP.out hbw, hb3.out⟩
    · have e : k = n := by omega
      have HCut := Lib.hid (cut_at hpre.out (by rw [← Hn.out]; exact hk) (.inl (by rw [← Hn.out]; exact e)))
      have HP := Lib.hid (put_new HCut.out (fun h => by have := h.1; rw [← Hn.out] at this; omega))
      have RH := Lib.hid (reads_head hg1 HC.out (show k ≤ L.length by rw [← Hn.out]; exact hk))
      have RT := Lib.hid (reads_zero w w.heap.size (some ⟨g, 0, none⟩)); have RT2 := Lib.hid (reads_zero w w.heap.size (some ⟨g, k, none⟩))
      have HT := Lib.hid (show ([] : List Value) = (ints (L.drop k)).map (Value.int .i64) from by rw [List.drop_eq_nil_of_le (by rw [← Hn.out]; omega)]; rfl)
      have hnk : n - k = 0 := by omega
      subst e
      by_cases hck : cap = k
      · go_wp2_with (first
          | (at_builtin; refine wpList_append_any _ rfl (.tmp 34) (.tmp 37) 22 rfl w.heap.size 3 i0 (.int .i64 0) 1 8 Try.underlying22 hi hz0 hz1 hz2 rfl (by decide) (.slice (some ⟨w.heap.size, 0, none⟩) 0 0) 0 [] rfl (own_lit0 (α := Int) (f := fun _ => []) (sz := 1) w w.heap.size 3 w.heap.size rfl (Nat.le_refl _)) w.heap.size _ k _ ((ints (L.take k)).map (Value.int .i64)) rfl (RH.out.alloc (Nat.le_refl _) _) ints_one (by unfold maxLen; omega) (by omega) (by simp) ?_; intro v1 w1 hown1 hg1 hat1; have sz1 := hg1.size; (simp at sz1); have H1 := Lib.hid hown1; have T1 := Lib.hid (Reads.keep RT.out (fun p hp => (World.cell?_of_block (hg1.block p.block (by simp; omega) (fun e => by simp [Value.ownBlock] at e; omega))).trans (World.cell?_alloc_lt w _ p hp))); have hb1 := Lib.hid (Below.grown (show Below w.heap.size w (w.alloc (.cells #[] 3)) from (by repeat (first | exact Below.refl _ _ | assumption | refine Below.drew ?_ | refine below_drewN ?_ _ | refine Below.alloc ?_ (by first | omega | (simp <;> omega)) _ | refine Below.setCell ?_ (by first | omega | (simp <;> omega)) _ | refine Below.trans ?_ (Below.mono (by assumption) (by first | omega | (simp <;> omega)))))) hg1 (by simp) (fun q hq => by simp [Value.ownBlock] at hq; omega)); clear hown1 hg1 hat1)
          | (at_builtin; refine wpList_append_any _ rfl (.tmp 39) (.tmp 41) 22 rfl w.heap.size 3 i0 (.int .i64 0) 1 8 Try.underlying22 hi hz0 hz1 hz2 rfl (by decide) v1 (0 + k) _ rfl (H1.out.alloc _) (w1.heap.size + 1) _ 1 1 [.int .i64 (x : Int)] rfl (reads_one w1 x) (int_one x) (by unfold maxLen; omega) (by omega) (by simp; omega) ?_; intro v2 w2 hown2 hg2 hat2; have sz2 := hg2.size; (simp at sz2); have H2 := Lib.hid hown2; have T2 := Lib.hid (Reads.keep T1.out (fun p hp => (World.cell?_of_block (hg2.block p.block (by simp; omega) (fun e => by have := (World.ownsRow.lt H1.out _ e.symm).1; omega))).trans (World.cell?_alloc_lt w1 _ p (by omega)))); have hb2 := Lib.hid (Below.grown (Below.alloc hb1.out (by omega) (.cells #[.int .i64 (x : Int)] 3)) hg2 (by simp; omega) (fun q hq => by have := (World.ownsRow.lt H1.out _ hq).1; omega)); clear hown2 hg2 hat2)
          | (at_builtin; refine wpList_append_any _ rfl (.tmp 43) (.tmp 46) 22 rfl w.heap.size 3 i0 (.int .i64 0) 1 8 Try.underlying22 hi hz0 hz1 hz2 rfl (by decide) v2 (0 + k + 1) _ rfl H2.out w.heap.size _ _ _ _ rfl T2.out (by simp) (by unfold maxLen; omega) (by omega) (by omega) ?_; intro v3 w3 hown3 hg3 hat3; have H3 := Lib.hid hown3; have hb3 := Lib.hid (Below.grown hb2.out hg3 (by omega) (fun q hq => by have := (World.ownsRow.lt H2.out _ hq).1; omega)); clear hown3 hg3 hat3))
        go_ret
        exact ⟨v3, rfl, put_end H3.out HT.out HP.out hbw, hb3.out⟩
      · go_wp2_with (first
          | (at_builtin; refine wpList_append_any _ rfl (.tmp 34) (.tmp 37) 22 rfl w.heap.size 3 i0 (.int .i64 0) 1 8 Try.underlying22 hi hz0 hz1 hz2 rfl (by decide) (.slice (some ⟨w.heap.size, 0, none⟩) 0 0) 0 [] rfl (own_lit0 (α := Int) (f := fun _ => []) (sz := 1) w w.heap.size 3 w.heap.size rfl (Nat.le_refl _)) w.heap.size _ k _ ((ints (L.take k)).map (Value.int .i64)) rfl (RH.out.alloc (Nat.le_refl _) _) ints_one (by unfold maxLen; omega) (by omega) (by simp) ?_; intro v1 w1 hown1 hg1 hat1; have sz1 := hg1.size; (simp at sz1); have H1 := Lib.hid hown1; have T1 := Lib.hid (Reads.keep RT2.out (fun p hp => (World.cell?_of_block (hg1.block p.block (by simp; omega) (fun e => by simp [Value.ownBlock] at e; omega))).trans (World.cell?_alloc_lt w _ p hp))); have hb1 := Lib.hid (Below.grown (show Below w.heap.size w (w.alloc (.cells #[] 3)) from (by repeat (first | exact Below.refl _ _ | assumption | refine Below.drew ?_ | refine below_drewN ?_ _ | refine Below.alloc ?_ (by first | omega | (simp <;> omega)) _ | refine Below.setCell ?_ (by first | omega | (simp <;> omega)) _ | refine Below.trans ?_ (Below.mono (by assumption) (by first | omega | (simp <;> omega)))))) hg1 (by simp) (fun q hq => by simp [Value.ownBlock] at hq; omega)); clear hown1 hg1 hat1)
          | (at_builtin; refine wpList_append_any _ rfl (.tmp 39) (.tmp 41) 22 rfl w.heap.size 3 i0 (.int .i64 0) 1 8 Try.underlying22 hi hz0 hz1 hz2 rfl (by decide) v1 (0 + k) _ rfl (H1.out.alloc _) (w1.heap.size + 1) _ 1 1 [.int .i64 (x : Int)] rfl (reads_one w1 x) (int_one x) (by unfold maxLen; omega) (by omega) (by simp; omega) ?_; intro v2 w2 hown2 hg2 hat2; have sz2 := hg2.size; (simp at sz2); have H2 := Lib.hid hown2; have T2 := Lib.hid (Reads.keep T1.out (fun p hp => (World.cell?_of_block (hg2.block p.block (by simp; omega) (fun e => by have := (World.ownsRow.lt H1.out _ e.symm).1; omega))).trans (World.cell?_alloc_lt w1 _ p (by omega)))); have hb2 := Lib.hid (Below.grown (Below.alloc hb1.out (by omega) (.cells #[.int .i64 (x : Int)] 3)) hg2 (by simp; omega) (fun q hq => by have := (World.ownsRow.lt H1.out _ hq).1; omega)); clear hown2 hg2 hat2)
          | (at_builtin; refine wpList_append_any _ rfl (.tmp 43) (.tmp 46) 22 rfl w.heap.size 3 i0 (.int .i64 0) 1 8 Try.underlying22 hi hz0 hz1 hz2 rfl (by decide) v2 (0 + k + 1) _ rfl H2.out w.heap.size _ _ _ _ rfl T2.out (by simp) (by unfold maxLen; omega) (by omega) (by omega) ?_; intro v3 w3 hown3 hg3 hat3; have H3 := Lib.hid hown3; have hb3 := Lib.hid (Below.grown hb2.out hg3 (by omega) (fun q hq => by have := (World.ownsRow.lt H2.out _ hq).1; omega)); clear hown3 hg3 hat3))
        go_ret
        exact ⟨v3, rfl, put_end H3.out HT.out HP.out hbw, hb3.out⟩
end Go.Proofs.Ytgonldkgghikiaa
namespace Go.Proofs.Ytgonldkgghikiaa
set_option linter.unusedSimpArgs false
set_option linter.unusedVariables false
set_option linter.unnecessarySimpa false
set_option maxRecDepth 200000
open Go.ChangeShapes Go.WideShapes Go.ChangeAt Go.RowKit

theorem own_lit1 (w : World) (z : Nat) : OwnI (w.alloc (.cells #[.int .i64 (z : Int)] 3)) w.heap.size (.slice (some ⟨w.heap.size, 0, none⟩) 1 1) (ints [z]) := by
  refine ⟨by simp [ints], .inr ⟨w.heap.size, 1, #[.int .i64 (z : Int)], rfl, Nat.le_refl _, ?_, Nat.le_refl _, by simp [maxLen, ints], by simp, by simp [ints]⟩⟩
  show (w.heap.push _)[w.heap.size]? = _
  simp
theorem put_ge (L : List Nat) (x : Nat) : L.length ≤ (putN L x).length := by
  unfold putN; split
  · omega
  · simp; omega
theorem aff_lt {n a t : Nat} (h2 : n ≤ 5) (ht : t ≤ 1) : aff n a t < 2147483648 := by
  refine affTo_lt a ht _ ?_
  have : (2 : Nat) ^ n ≤ 2 ^ 5 := Nat.pow_le_pow_right (by omega) h2
  omega
/-- A list on the way. -/
structure CL (m : Nat) (L : List Nat) : Prop where
  pos : 0 < L.length
  len : L.length ≤ m
  small : ∀ y ∈ L, y < 2147483648
theorem CL.put {m : Nat} {L : List Nat} {x : Nat} (h : CL m L) (hx : x < 2147483648) : CL (m + 1) (putN L x) :=
  ⟨Nat.lt_of_lt_of_le h.pos (put_ge L x), by have := put_len L x; have := h.len; omega, put_small h.small hx⟩
theorem cl_zero : CL 1 [0] := ⟨by decide, by decide, by simp⟩
theorem codes4_cl {n : Nat} (h2 : n ≤ 5) : CL 2 (codes4 n) := by
  unfold codes4; split
  · exact cl_zero.put (aff_lt h2 (by omega))
  · exact ⟨by decide, by decide, by simp⟩
theorem codesTo_cl {n : Nat} (h2 : n ≤ 5) : ∀ k, CL (2 + 2 * k) (codesTo n (codes4 n) k)
  | 0 => codes4_cl h2
  | k + 1 => by
    rw [codesTo_succ, codeStep]
    have h := ((codesTo_cl h2 k).put (aff_lt (a := k + 1) (t := 0) h2 (by omega))).put (aff_lt (a := k + 1) (t := 1) h2 (by omega))
    exact ⟨h.pos, by have := h.len; omega, h.small⟩
theorem spec_l15Affine_k (k t : Nat) (w : World) (hk : k ≤ 30) (ht : t ≤ 1) :
    Calls Try.prog 59 #[.int .i64 5, .int .i64 ((k : Int) + 1), .int .i64 (t : Int)] w fun e w' => e = .returned (.int .i64 (aff 5 (k + 1) t : Int)) ∧ Below w.heap.size w w' := by
  have h := spec_l15Affine_any 5 (k + 1) t w (by omega) (by omega) (by omega) ht
  rw [show (((k + 1 : Nat)) : Int) = (k : Int) + 1 from by simp] at h
  exact h
set_option maxHeartbeats 2000000 in
theorem spec_l15Codes_any (n : Nat) (w : World) (h1 : 1 ≤ n) (h2 : n ≤ 5) :
    Calls Try.prog 36 #[.int .i64 (n : Int)] w fun e w' => ∃ v, e = .returned v ∧ OwnI w' w.heap.size v (ints (codesS n)) ∧ Below w.heap.size w w' := by
  by_cases hn4 : 4 ≤ n
  · have h4 := Lib.hid (show codes4 n = putN [0] (aff n 0 1) from if_pos hn4)
    have CL4 := Lib.hid (codes4_cl h2)
    by_cases hn5 : n = 5
    · subst hn5
      have HS := Lib.hid (show codesS 5 = codesTo 5 (codes4 5) 31 from rfl)
      go_enter Try.func36, Try.ntmps36
      go_wp2_with fail
      refine (spec_l15Affine_any 5 0 1 _ (by omega) (by omega) (by omega) (by omega)).mono ?_; rintro e w1 ⟨rfl, hb1⟩
      have z1 := hb1.size; (try simp at z1)
      have o1 := Lib.hid (OwnI.below (own_lit1 w 0) hb1 rfl)
      go_wp2_with fail
      refine (spec_l1Put_any _ [0] (aff 5 0 1) w.heap.size _ o1.out (by omega) (by decide) (by decide) (by simp) (aff_lt (by omega) (by omega))).mono ?_; rintro e w2 ⟨v2, rfl, ho2, hb2⟩
      rw [← h4.out] at ho2
      have O2 := Lib.hid ho2; clear ho2
      have b2 := Lib.hid (show Below w.heap.size w w2 from (by repeat (first | exact Below.refl _ _ | assumption | refine Below.drew ?_ | refine below_drewN ?_ _ | refine Below.alloc ?_ (by first | omega | (simp <;> omega)) _ | refine Below.setCell ?_ (by first | omega | (simp <;> omega)) _ | refine Below.trans ?_ (Below.mono (by assumption) (by first | omega | (simp <;> omega))))))
      clear hb1 hb2 o1
      go_wp2_with fail
      go_loopw [3, 4] (fun v a wr => ∃ (k : Nat) (vv : Value), k ≤ 31 ∧ a = .int .i64 ((k : Int) + 1) ∧ v = vv ∧ Hid (OwnI wr w.heap.size vv (ints (codesTo 5 (codes4 5) k))) ∧ Below w.heap.size w wr) (fun _ a _ => 33 - (intOf a).toNat)
      case atStart => exact ⟨0, v2, by omega, rfl, rfl, O2, b2.out⟩
      case round =>
        obtain ⟨k, vv, hk, rfl, rfl, hown, hbel⟩ := hrel
        have hsz := hbel.size
        by_cases hlt : k < 31
        · have i1 : (k : Int) + 1 < 32 := by omega
          have CK := Lib.hid (codesTo_cl (n := 5) (by omega) k)
          have hst := Lib.hid (show codesTo 5 (codes4 5) (k + 1) = putN (putN (codesTo 5 (codes4 5) k) (aff 5 (k + 1) 0)) (aff 5 (k + 1) 1) from codesTo_succ _ _ _)
          have A0 := Lib.hid (aff_lt (n := 5) (a := k + 1) (t := 0) (by omega) (by omega))
          have A1 := Lib.hid (aff_lt (n := 5) (a := k + 1) (t := 1) (by omega) (by omega))
          go_wp2_with fail
          refine (spec_l15Affine_k k 0 _ (by omega) (by omega)).mono ?_; rintro e x1 ⟨rfl, c1⟩
          have s1 := c1.size
          have p1 := Lib.hid (OwnI.below hown.out c1 rfl)
          go_wp2_with fail
          refine (spec_l1Put_any _ _ (aff 5 (k + 1) 0) w.heap.size _ p1.out (by omega) CK.out.pos (by have := CK.out.len; omega) CK.out.small A0.out).mono ?_; rintro e x2 ⟨u2, rfl, ho2, c2⟩
          have s2 := c2.size
          have CK2 := Lib.hid (CK.out.put A0.out)
          have p2 := Lib.hid ho2; clear ho2
          have d2 := Lib.hid (below_step (below_step hbel c1) c2)
          clear c1 c2 p1 hown hbel
          go_wp2_with fail
          refine (spec_l15Affine_k k 1 _ (by omega) (by omega)).mono ?_; rintro e x3 ⟨rfl, c3⟩
          have s3 := c3.size
          have p3 := Lib.hid (OwnI.below p2.out c3 rfl)
          go_wp2_with fail
          refine (spec_l1Put_any _ _ (aff 5 (k + 1) 1) w.heap.size _ p3.out (by omega) CK2.out.pos (by have := CK2.out.len; omega) CK2.out.small A1.out).mono ?_; rintro e x4 ⟨u4, rfl, ho4, c4⟩
          rw [← hst.out] at ho4
          have p4 := Lib.hid ho4; clear ho4
          have d4 := Lib.hid (below_step (below_step d2.out c3) c4)
          clear c3 c4 p3 d2
          go_wp2_with fail
          go_roundw
          case rel => exact ⟨k + 1, u4, by omega, by go_num, rfl, p4, d4.out⟩
          case measure => simp [intOf]; omega
        · have i1 : ¬ (k : Int) + 1 < 32 := by omega
          have hr : Hid (codesTo 5 (codes4 5) k = codesS 5) := by show _ = _; rw [HS.out, show k = 31 from by omega]
          go_wp2_with fail
          go_ret
          exact ⟨_, rfl, by rw [← hr.out]; exact hown.out, hbel⟩
    · have e : n = 4 := by omega
      subst e
      have HS := Lib.hid (show codesS 4 = codes4 4 from rfl)
      clear hn5
      go_enter Try.func36, Try.ntmps36
      go_wp2_with fail
      refine (spec_l15Affine_any 4 0 1 _ (by omega) (by omega) (by omega) (by omega)).mono ?_; rintro e w1 ⟨rfl, hb1⟩
      have z1 := hb1.size; (try simp at z1)
      have o1 := Lib.hid (OwnI.below (own_lit1 w 0) hb1 rfl)
      go_wp2_with fail
      refine (spec_l1Put_any _ [0] (aff 4 0 1) w.heap.size _ o1.out (by omega) (by decide) (by decide) (by simp) (aff_lt (by omega) (by omega))).mono ?_; rintro e w2 ⟨v2, rfl, ho2, hb2⟩
      rw [← h4.out] at ho2
      have O2 := Lib.hid ho2; clear ho2
      have b2 := Lib.hid (show Below w.heap.size w w2 from (by repeat (first | exact Below.refl _ _ | assumption | refine Below.drew ?_ | refine below_drewN ?_ _ | refine Below.alloc ?_ (by first | omega | (simp <;> omega)) _ | refine Below.setCell ?_ (by first | omega | (simp <;> omega)) _ | refine Below.trans ?_ (Below.mono (by assumption) (by first | omega | (simp <;> omega))))))
      clear hb1 hb2 o1
      go_wp2_with fail
      refine wp_loop_rounds 1 ?_
      rw [rounds_succ]
      go_wp2_with fail
      go_ret
      exact ⟨v2, rfl, by rw [HS.out]; exact O2.out, b2.out⟩
  · have h4 := Lib.hid (show codes4 n = [0] from if_neg hn4)
    have HS := Lib.hid (show codesS n = [0] from by unfold codesS; rw [if_neg (by omega)]; exact h4.out)
    have i1 : ¬ (4 : Int) ≤ (n : Int) := by omega
    have i2 : decide ((4 : Int) ≤ (n : Int)) = false := by simp; omega
    have i2' : decide (4 ≤ n) = false := by simp; omega
    have i3 : ((n : Int) == 5) = false := by simp; omega
    clear hn4
    go_enter Try.func36, Try.ntmps36
    go_wp2_with fail
    refine wp_loop_rounds 1 ?_
    rw [rounds_succ]
    go_wp2_with fail
    go_ret
    exact ⟨_, rfl, by rw [HS.out]; exact own_lit1 w 0, (by repeat (first | exact Below.refl _ _ | assumption | refine Below.drew ?_ | refine below_drewN ?_ _ | refine Below.alloc ?_ (by first | omega | (simp <;> omega)) _ | refine Below.setCell ?_ (by first | omega | (simp <;> omega)) _ | refine Below.trans ?_ (Below.mono (by assumption) (by first | omega | (simp <;> omega)))))⟩
end Go.Proofs.Ytgonldkgghikiaa
namespace Go.Proofs.Ytgonldkgghikiaa
set_option linter.unusedSimpArgs false
set_option linter.unusedVariables false
set_option linter.unnecessarySimpa false
set_option maxRecDepth 200000
open Go.ChangeShapes Go.WideShapes Go.ChangeAt Go.RowKit
open Go.Sort (putRow putCells mapBlock onCells Holds grow)

theorem sort_own {w : World} {base g n cap q : Nat} {os : Array Obj} {M N : List Nat} (h : OwnN w base g n cap M) (hl2 : N.length = M.length) :
    OwnN (grow (putRow (Value.int .i64) (Go.Sort.ahead w q) g 0 (ints N).toArray) os) base g n cap N ∧ ∀ B w0, Below B w0 w → B ≤ g → Below B w0 (grow (putRow (Value.int .i64) (Go.Sort.ahead w q) g 0 (ints N).toArray) os) := by
  have hl := h.len
  have hlt := h.lt
  have hheap : (putRow (Value.int .i64) (Go.Sort.ahead w q) g 0 (ints N).toArray).heap.size = w.heap.size := by simp [putRow, mapBlock, Go.Sort.ahead]
  have hold : ∀ k, k < w.heap.size → (grow (putRow (Value.int .i64) (Go.Sort.ahead w q) g 0 (ints N).toArray) os).heap[k]? = (putRow (Value.int .i64) (Go.Sort.ahead w q) g 0 (ints N).toArray).heap[k]? := fun k hk => by
    show (_ ++ os)[k]? = _
    exact Array.getElem?_append_left (by rw [hheap]; exact hk)
  refine ⟨?_, fun B w0 hb hB => ⟨hb.os, hb.tape, hb.output, ?_, fun k hk => ?_⟩⟩
  · obtain ⟨_, h2⟩ := h
    rcases h2 with ⟨e, _⟩ | ⟨g', cap', cur, e, hb, hg, h1, h3, h4, h5⟩
    · cases e
    · injection e with e1 _ e3; subst e3; injection e1 with e1; injection e1 with e1; subst e1
      refine ⟨by simp [ints, hl2, hl], .inr ⟨g, cap, _, rfl, hb, (hold g hlt.2).trans (putRow_block hg), h1, h3, by simp [putCells, h4], ?_⟩⟩
      rw [putCells_take (by simp [ints, hl2, hl]) (by simp [ints, hl2, hl]; omega)]
      rw [Nat.mul_one, List.take_of_length_le (by simp [ints, hl2, hl])]
  · show w0.heap.size ≤ (_ ++ os).size
    rw [Array.size_append, hheap]; have := hb.size; omega
  · have hkw : k < w.heap.size := by omega
    rw [hold k hkw, putRow_far (by omega)]; exact hb.block k hk
theorem slices_Sort_any (g n cap base : Nat) (M N : List Nat) (w : World) (h : OwnN w base g n cap M) (hn : n ≤ 1048576) (hs : ((ints M).mergeSort fun x y => decide (x ≤ y)) = ints N) :
    Calls Try.prog 57 #[.slice (some ⟨g, 0, none⟩) n cap] w fun e w' => e = .returned (.tuple #[]) ∧ OwnN w' base g n cap N ∧ ∀ B w0, Below B w0 w → B ≤ g → Below B w0 w' := by
  have hl := h.len
  have hH : Holds (Value.int .i64) w g 0 (ints M).toArray := by
    intro t ht
    simp [ints] at ht
    refine ⟨?_, by simpa using h.frz t⟩
    have := own_int_cell h t ht
    simpa [ints, ht, List.getD] using this
  have hlen : N.length = M.length := by have := congrArg List.length hs; rw [List.length_mergeSort, ints_len, ints_len] at this; exact this.symm
  have hc := AnyG.slices_Sort_int Try.sortI g 0 cap (ints M) w hH h.lt.2 (by rw [ints_len]; omega)
  rw [ints_len, hl, hs] at hc
  refine (show Calls Try.prog 57 #[.slice (some ⟨g, 0, none⟩) n cap] w _ from hc).mono ?_
  rintro e w' ⟨rfl, q, os, rfl⟩
  exact ⟨rfl, sort_own h hlen⟩
theorem impl_bitsIn_any (y : Nat) (w : World) (hy : y < 4294967296) :
    Calls Try.prog 54 #[.int .i64 (y : Int)] w fun e w' => e = .returned (.int .i64 (pop y : Int)) ∧ w = w' := by
  go_enter Try.func54, Try.ntmps54
  go_wp2_with fail
  refine (OnesCount_any y _ hy).mono ?_; rintro e w' ⟨rfl, rfl⟩
  go_wp2_with fail
  go_ret
  exact ⟨rfl, rfl⟩
theorem wordTo_lt (c : Nat) : ∀ k, k ≤ 31 → wordTo c k < 2147483648
  | 0, _ => by simp [wordTo]
  | k + 1, h => by
    have ih := wordTo_lt c k (by omega)
    rw [wordTo_succ, wordStep]
    split
    · exact Nat.or_lt_two_pow (n := 31) ih (Nat.pow_lt_pow_right (by omega) (by omega))
    · exact ih
theorem codesI_grow (n k : Nat) : (codesI n k).length ≤ (codesI n (k + 1)).length := by
  rw [codesI_succ, cwStep]; split
  · exact Nat.le_refl _
  · simp
theorem codesI_mono (n : Nat) {k m : Nat} (h : k ≤ m) : (codesI n k).length ≤ (codesI n m).length := by
  induction h with
  | refl => exact Nat.le_refl _
  | step h ih => exact Nat.le_trans ih (codesI_grow n _)
theorem codesI_pos (n k : Nat) : 0 < (codesI n k).length := Nat.lt_of_lt_of_le (show 0 < (codesI n 0).length from Nat.zero_lt_one) (codesI_mono n (Nat.zero_le k))
theorem codesI_small {n : Nat} (h2 : n ≤ 5) : ∀ k, ∀ y ∈ codesI n k, y < 2147483648
  | 0, y, hy => by simp [codesI] at hy; omega
  | k + 1, y, hy => by
    rw [codesI_succ, cwStep] at hy
    split at hy
    · exact codesI_small h2 k y hy
    · rcases List.mem_append.1 hy with hy | hy
      · exact codesI_small h2 k y hy
      · obtain ⟨z, hz, rfl⟩ := List.mem_map.1 hy
        have hz2 := codesI_small h2 k z hz
        have : (2 : Nat) ^ n ≤ 2 ^ 5 := Nat.pow_le_pow_right (by omega) h2
        exact Nat.xor_lt_two_pow (n := 31) hz2 (wordTo_lt k _ (by omega))
theorem skip_1 {n c : Nat} (h : n < 4) : skipB n c = true := by unfold skipB; rw [decide_eq_true h]; rfl
theorem skip_2 {n c : Nat} (h : n < pop c + 4) : skipB n c = true := by unfold skipB; rw [decide_eq_true h, Bool.or_true]
theorem skip_3 {n c : Nat} (h1 : ¬ n < 4) (h2 : ¬ n < pop c + 4) : skipB n c = false := by unfold skipB; rw [decide_eq_false h1, decide_eq_false h2]; rfl
theorem step_skip {n k : Nat} (h : skipB n k = true) : codesI n (k + 1) = codesI n k := by rw [codesI_succ, cwStep, if_pos h]
theorem step_go {n k : Nat} (h : skipB n k = false) : codesI n (k + 1) = codesI n k ++ (codesI n k).map (· ^^^ wordTo k (2 ^ n - 1)) := by rw [codesI_succ, cwStep, if_neg (by rw [h]; exact Bool.false_ne_true)]
theorem map_next {L : List Nat} {f : Nat → Nat} {q : Nat} (h : q < L.length) (M : List Nat) : M ++ (L.take (q + 1)).map f = M ++ (L.take q).map f ++ [f (L.getD q 0)] := by
  rw [List.take_succ_eq_append_getElem h, List.map_append, List.append_assoc]
  simp [List.getD, h]
theorem ne_new {v v2 : Value} {H gC : Nat} (hat : v2.ownBlock = v.ownBlock ∨ v2.ownBlock = some H) (h : ∀ g, v.ownBlock = some g → g ≠ gC) (hH : gC < H) : ∀ g, v2.ownBlock = some g → g ≠ gC := by
  intro g hg
  rcases hat with e | e
  · exact h g (e ▸ hg)
  · rw [e] at hg; injection hg with hg; omega
theorem mem_small {C : List Nat} {q b : Nat} (h : ∀ y ∈ C, y < b) (hq : q < C.length) : C.getD q 0 < b := by
  rw [getD_lt hq]; exact h _ (List.getElem_mem _)
set_option maxHeartbeats 8000000 in
theorem impl_codeWords_any (n : Nat) (w : World) (h1 : 1 ≤ n) (h2 : n ≤ 5) :
    Calls Try.prog 34 #[.int .i64 (n : Int)] w fun e w' => ∃ v, e = .returned v ∧ OwnI w' w.heap.size v (ints (codesS n)) ∧ Below w.heap.size w w' := by
  obtain ⟨i0, hi, hz0, hz1, hz2⟩ := info_parts info_int
  have CO := code_ok h1 h2
  have HF := Lib.hid (show ∀ k, k ≤ 2 ^ n → (codesI n k).length ≤ 64 from fun k hk => Nat.le_trans (codesI_mono n hk) (by rw [CO.lenI]; exact CO.few))
  have HSm := Lib.hid (codesI_small h2)
  obtain ⟨p1, p2⟩ := pow_5 (n := (n : Int)) (by omega)
  rw [Int.toNat_natCast] at p1 p2
  obtain ⟨N, hN⟩ : ∃ N : Nat, N = 2 ^ n := ⟨_, rfl⟩
  have hNi : (2 : Int) ^ n = (N : Int) := by rw [hN]; simp
  rw [hNi] at p1 p2
  have hw : IntKind.i64.wrap ((2 : Int) ^ n) = (N : Int) := by rw [hNi]; exact IntWalk.i64_in _ (by omega)
  rw [← hN] at HF
  have HN := Lib.hid hN; clear hN hNi
  have HSort := Lib.hid (sort_codes CO)
  have HLen := Lib.hid CO.few
  clear CO
  go_enter Try.func34, Try.ntmps34
  go_wp2_with fail
  go_loopw [3, 12] (fun v i wr => ∃ (k : Nat) (vv : Value), k ≤ N ∧ i = .int .i64 k ∧ v = vv ∧ Hid (OwnI wr w.heap.size vv (ints (codesI n k))) ∧ Below w.heap.size w wr) (fun _ i _ => N - (intOf i).toNat)
  case atStart => exact ⟨0, .slice (some ⟨w.heap.size, 0, none⟩) 1 1, by omega, rfl, rfl, own_lit1 w 0, (by repeat (first | exact Below.refl _ _ | assumption | refine Below.drew ?_ | refine below_drewN ?_ _ | refine Below.alloc ?_ (by first | omega | (simp <;> omega)) _ | refine Below.setCell ?_ (by first | omega | (simp <;> omega)) _ | refine Below.trans ?_ (Below.mono (by assumption) (by first | omega | (simp <;> omega)))))⟩
  case round =>
    obtain ⟨k, vv, hk, rfl, rfl, hown, hbel⟩ := hrel
    have hsz := hbel.size
    by_cases hlt : k < N
    · have i1 : (k : Int) < (N : Int) := by omega
      by_cases hn4 : n < 4
      · have HK := Lib.hid (step_skip (skip_1 (c := k) hn4))
        have g1 : decide ((n : Int) < 4) = true := by simp; omega
        have g2 : decide (n < 4) = true := by simp; omega
        clear hn4
        go_wp2_with fail
        go_roundw
        case rel => exact ⟨k + 1, _, by omega, by go_num, rfl, (show OwnI _ _ _ _ from by rw [HK.out]; exact hown.out), hbel⟩
        case measure => simp [intOf]; omega
      · have g1 : decide ((n : Int) < 4) = false := by simp; omega
        have g2 : decide (n < 4) = false := by simp; omega
        have n4 : (4 : Int) ≤ (n : Int) := by omega
        by_cases hpk : n < pop k + 4
        · have HK := Lib.hid (step_skip (skip_2 hpk))
          have g3 : decide ((n : Int) - 4 < (pop k : Int)) = true := by simp; omega
          clear hpk hn4
          go_wp2_with fail
          refine (impl_bitsIn_any k _ (by omega)).mono ?_; rintro e w' ⟨rfl, rfl⟩
          go_wp2_with fail
          go_roundw
          case rel => exact ⟨k + 1, _, by omega, by go_num, rfl, (show OwnI _ _ _ _ from by rw [HK.out]; exact hown.out), hbel⟩
          case measure => simp [intOf]; omega
        · have HK := Lib.hid (step_go (skip_3 hn4 hpk))
          have g3 : decide ((n : Int) - 4 < (pop k : Int)) = false := by simp; omega
          clear hpk hn4
          go_wp2_with fail
          refine (impl_bitsIn_any k _ (by omega)).mono ?_; rintro e w' ⟨rfl, rfl⟩
          go_wp2_with fail
          go_loop [5, 6] (fun x m => ∃ j : Nat, j ≤ N - 1 ∧ m = .int .i64 ((j : Int) + 1) ∧ x = .int .i64 (wordTo k j : Int)) (fun _ m => N - (intOf m).toNat)
          case atStart => exact ⟨0, by omega, rfl, rfl⟩
          case round =>
            obtain ⟨j, hj, rfl, rfl⟩ := hrel
            by_cases hjl : j + 1 < N
            · have j1 : (j : Int) + 1 < (N : Int) := by omega
              obtain ⟨x, hx⟩ : ∃ x, x = wordTo k j := ⟨_, rfl⟩
              have hxl := wordTo_lt k j (by omega)
              rw [← hx] at hxl ⊢
              obtain ⟨z, hz⟩ : ∃ z, z = (j + 1) &&& k := ⟨_, rfl⟩
              have hand : bits .and .i64 ((j : Int) + 1) (k : Int) = (z : Int) := by rw [hz]; have := bits_and (j + 1) k (by omega) (by omega); simpa using this
              obtain ⟨q1, q2⟩ := pow_small j (by omega)
              have hwj : IntKind.i64.wrap ((2 : Int) ^ j) = (2 : Int) ^ j := IntWalk.i64_in _ (by omega)
              have e2 : ((2 : Int) ^ j) = ((2 ^ j : Nat) : Int) := by simp
              have hp63 : (2 : Nat) ^ j < 9223372036854775808 := by have : (2 : Nat) ^ j < 2 ^ 31 := Nat.pow_lt_pow_right (by omega) (by omega); omega
              have hor : bits .or .i64 (x : Int) ((2 : Int) ^ j) = ((x ||| 2 ^ j : Nat) : Int) := by rw [e2]; exact bits_or _ _ (by omega) hp63
              clear e2 hp63
              by_cases hzk : z = k
              · have b1 : ((z : Int) == (k : Int)) = true := beq_iff_eq.2 (by rw [hzk])
                have b2 : (z == k) = true := by simpa using hzk
                have HW := Lib.hid (show wordTo k (j + 1) = x ||| 2 ^ j from by rw [wordTo_succ, wordStep, if_pos (by rw [← hz]; exact hzk), hx])
                clear hzk hz hx
                go_wp2_with fail
                go_round
                case rel => exact ⟨j + 1, by omega, by go_num, by rw [HW.out]⟩
                case measure => simp [intOf]; omega
              · have b1 : ((z : Int) == (k : Int)) = false := by simpa using fun e => hzk (by omega)
                have b2 : (z == k) = false := by simpa using hzk
                have HW := Lib.hid (show wordTo k (j + 1) = x from by rw [wordTo_succ, wordStep, if_neg (by rw [← hz]; exact hzk), hx])
                clear hzk hz hx
                go_wp2_with fail
                go_round
                case rel => exact ⟨j + 1, by omega, by go_num, by rw [HW.out]⟩
                case measure => simp [intOf]; omega
            · have j1 : ¬ (j : Int) + 1 < (N : Int) := by omega
              obtain ⟨x, hx⟩ : ∃ x, x = wordTo k j := ⟨_, rfl⟩
              have hxl := wordTo_lt k j (by omega)
              rw [← hx] at hxl ⊢
              have HX := Lib.hid (show wordTo k (2 ^ n - 1) = x from by rw [← HN.out, show N - 1 = j from by omega, hx])
              clear hx
              obtain ⟨C, hC⟩ : ∃ C, C = codesI n k := ⟨_, rfl⟩
              have HCs := Lib.hid (HSm.out k)
              have hL64 := HF.out k (by omega)
              have hpos := codesI_pos n k
              rw [HX.out, ← hC] at HK
              rw [← hC] at hown HCs hL64 hpos
              have HC := Lib.hid hC; clear hC
              go_wp2_with fail
              refine (slices_Clone_any _ (ints C) _ hown.out.rd (by rw [ints_len]; omega)).mono ?_; rintro e w1 ⟨v1, rfl, ho1, hb1⟩
              obtain ⟨gC, capC, rfl, hgC0, hgC1⟩ := own_ints ho1 hpos
              have HCl := Lib.hid (fun q hq => own_int_cell (OwnN.of ho1) q hq)
              obtain ⟨L, hL⟩ : ∃ L, L = C.length := ⟨_, rfl⟩
              have Hne := Lib.hid (fun g (hg : Value.ownBlock _ = some g) => show g ≠ gC from by have := (hown.out.lt g hg).2; omega)
              have O1 := Lib.hid (show w1.ownsRow w.heap.size 3 1 _ (L + 0) ((ints (C ++ (C.take 0).map (· ^^^ x))).map (Value.int .i64)) from by have := OwnI.below hown.out hb1 rfl; unfold OwnI at this; rw [ints_len, ← hL] at this; simpa using this)
              have B1 := Lib.hid (below_step hbel hb1)
              rw [← hL] at hL64 hpos HCl
              rw [← hL]
              have HL := Lib.hid hL; clear hL ho1 hb1 hown hbel
              go_wp2_with fail
              go_loopw [3, 43] (fun v i wq => ∃ (q : Nat) (vv : Value), q ≤ L ∧ i = .int .i64 q ∧ v = vv ∧ Hid (wq.ownsRow w.heap.size 3 1 vv (L + q) ((ints (C ++ (C.take q).map (· ^^^ x))).map (Value.int .i64))) ∧ Hid (∀ g, vv.ownBlock = some g → g ≠ gC) ∧ Hid (∀ j, j < L → wq.cell? ⟨gC, j, none⟩ = some (.int .i64 (C.getD j 0 : Nat))) ∧ Hid (Below w.heap.size w wq) ∧ gC < wq.heap.size) (fun _ i _ => L - (intOf i).toNat)
              case atStart => exact ⟨0, _, by omega, rfl, rfl, O1, Hne, HCl, B1, hgC1⟩
              case round =>
                obtain ⟨q, vq, hq, rfl, rfl, hoq, hneq, hcq, hbq, hgq⟩ := hrel
                clear O1 Hne HCl B1
                by_cases hql : q < L
                · have i5 : (q : Int) < (L : Int) := by omega
                  obtain ⟨y, hy⟩ : ∃ y, y = C.getD q 0 := ⟨_, rfl⟩
                  have cy := hcq.out q hql
                  rw [← hy] at cy
                  have hyl : y < 2147483648 := by rw [hy]; exact mem_small HCs.out (by rw [← HL.out]; exact hql)
                  have hxor := bits_xor y x (by omega) (by omega)
                  have hnx := Lib.hid (show C ++ (C.take (q + 1)).map (· ^^^ x) = C ++ (C.take q).map (· ^^^ x) ++ [y ^^^ x] from by rw [hy]; exact map_next (by rw [← HL.out]; exact hql) C)
                  have sq := hbq.out.size
                  clear hy
                  go_wp2_with (at_builtin; go_must (refine wpList_append_any _ rfl _ _ 22 rfl w.heap.size 3 i0 (.int .i64 0) 1 8 Try.underlying22 hi hz0 hz1 hz2 rfl (by decide) _ (L + q) _ rfl (hoq.out.alloc _) (wr.heap.size + 1) _ 1 1 [.int .i64 ((y ^^^ x : Nat) : Int)] rfl (reads_one wr (y ^^^ x)) (int_one _) (by unfold maxLen; omega) (by omega) (by simp; omega) ?_; intro v2 w2 hown2 hg2 hat2; have s2 := hg2.size; (simp at s2); have H2 := Lib.hid hown2; have N2 := Lib.hid (ne_new hat2 hneq.out (by simp; omega)); have C2 := Lib.hid (show ∀ j, j < L → w2.cell? ⟨gC, j, none⟩ = some (.int .i64 (C.getD j 0 : Nat)) from fun j hj => cell_grown hg2 (cell_alloc_keep _ (hcq.out j hj)) (fun h => hneq.out gC h rfl)); have B2 := Lib.hid (grown_below (hbq.out.alloc (by omega) _) (hoq.out.alloc _) hg2 (Nat.le_refl _) (by simp; omega)); clear hown2 hg2 hat2))
                  go_roundw
                  case rel => exact ⟨q + 1, v2, by omega, by go_num, rfl, (show World.ownsRow _ _ _ _ _ _ _ from by rw [hnx.out]; have := H2.out; simpa [ints, Nat.add_assoc] using this), N2, C2, B2, by omega⟩
                  case measure => simp [intOf]; omega
                · have hqe : q = L := by omega
                  have HE := Lib.hid (show C ++ (C.take q).map (· ^^^ x) = codesI n (k + 1) from by rw [hqe, HL.out, List.take_length]; exact HK.out.symm)
                  have HQ := Lib.hid hqe; clear hqe
                  go_wp2_with fail
                  go_roundw
                  case rel =>
                    refine ⟨k + 1, _, by omega, by go_num, rfl, (show OwnI _ _ _ _ from ?_), hbq.out⟩
                    have h9 := hoq.out
                    rw [HE.out] at h9
                    have h10 : L + q = (ints (codesI n (k + 1))).length := by have := h9.1; simp at this; omega
                    unfold OwnI
                    rw [← h10]; exact h9
                  case measure => simp [intOf]; omega
    · have e : k = N := by omega
      have hC := Lib.hid (show codesI n k = codesI n (2 ^ n) from by rw [e, HN.out])
      rw [hC.out] at hown
      obtain ⟨g, cap, hv, hg0, hg1⟩ := own_ints hown.out (codesI_pos n _)
      subst hv
      have own := Lib.hid (OwnN.of hown.out)
      have hl64 := HF.out N (Nat.le_refl _)
      obtain ⟨m, hm⟩ : ∃ m, m = (codesI n (2 ^ n)).length := ⟨_, rfl⟩
      rw [HN.out, ← hm] at hl64
      rw [← hm] at own
      rw [← hm]
      clear hm hown e
      go_wp2_with fail
      refine (slices_Sort_any g m cap w.heap.size _ (codesS n) _ own.out (by omega) HSort.out).mono ?_; rintro e w1 ⟨rfl, ho1, hb1⟩
      have O1 := Lib.hid ho1.own; have B1 := Lib.hid (hb1 w.heap.size w hbel hg0); clear ho1 hb1
      go_wp2_with fail
      go_ret
      exact ⟨_, rfl, O1.out, B1.out⟩
end Go.Proofs.Ytgonldkgghikiaa
namespace Go.Proofs.Ytgonldkgghikiaa
set_option linter.unusedSimpArgs false
set_option linter.unusedVariables false
set_option linter.unnecessarySimpa false
set_option maxRecDepth 200000
open Go.ChangeShapes Go.WideShapes Go.ChangeAt Go.RowKit

def CodePost (w : World) (r : Option (List Int)) (e : Ending) (w' : World) : Prop := ∃ v, e = .returned (.tuple #[v, .bool r.isSome]) ∧ OwnI w' w.heap.size v (r.getD []) ∧ Below w.heap.size w w'
theorem CodePost.none {w w' : World} {r : Option (List Int)} (hr : r = none) (hb : Below w.heap.size w w') : CodePost w r (.returned (.tuple #[.slice none 0 0, .bool false])) w' := by
  subst hr; exact ⟨_, rfl, own_nil _ _, hb⟩
theorem CodePost.some {w w' : World} {r : Option (List Int)} {v : Value} {zs : List Int} (hr : r = some zs) (ho : OwnI w' w.heap.size v zs) (hb : Below w.heap.size w w') : CodePost w r (.returned (.tuple #[v, .bool true])) w' := by
  subst hr; exact ⟨_, rfl, ho, hb⟩
def codeG (n : Int) : Option (List Int) := if 1 ≤ n ∧ n ≤ 5 then some (ints (codesS n.toNat)) else none
theorem codeG_len (n : Int) : ((codeG n).getD []).length ≤ 1000000 := by
  unfold codeG
  split
  · next h =>
    have := (code_ok (n := n.toNat) (by omega) (by omega)).few
    simp [ints_len]; omega
  · simp
def topN (n : Int) : Int := 2 ^ (2 ^ n.toNat - 1) - 1
def wordB (n b : Int) : Bool := decide (1 ≤ n ∧ n ≤ 5) && decide (0 ≤ b ∧ b ≤ topN n)
theorem wordB_n {n b : Int} (h : ¬ (1 ≤ n ∧ n ≤ 5)) : false = wordB n b := by unfold wordB; rw [decide_eq_false h]; rfl
theorem wordB_y {n b t : Int} (h : 1 ≤ n ∧ n ≤ 5) (ht : topN n = t) : (decide (0 ≤ b) && decide (b ≤ t)) = wordB n b := by unfold wordB; rw [decide_eq_true h, ht, Bool.true_and, Bool.decide_and]
theorem wordB_ok {n b : Int} (h : wordB n b = true) : (1 ≤ n ∧ n ≤ 5) ∧ 0 ≤ b ∧ b ≤ topN n := by
  unfold wordB at h; simpa using h
theorem top_5 {n : Int} (h : 1 ≤ n ∧ n ≤ 5) : topN n ≤ 2147483647 := by
  have : n = 1 ∨ n = 2 ∨ n = 3 ∨ n = 4 ∨ n = 5 := by omega
  rcases this with rfl | rfl | rfl | rfl | rfl <;> decide
set_option maxHeartbeats 2000000 in
theorem spec_l15Word_any (n b : Int) (w : World) :
    Calls Try.prog 31 #[.int .i64 n, .int .i64 b] w fun e w' => e = .returned (.bool (wordB n b)) ∧ w = w' := by
  by_cases h : 1 ≤ n ∧ n ≤ 5
  · have hn : n = 1 ∨ n = 2 ∨ n = 3 ∨ n = 4 ∨ n = 5 := by omega
    rcases hn with rfl | rfl | rfl | rfl | rfl
    · have HW := Lib.hid (wordB_y (b := b) h (show topN 1 = 1 from by decide))
      clear h
      go_enter Try.func31, Try.ntmps31
      go_wp2_with fail
      refine (l1In_p _ _ _ _).mono ?_; rintro e w' ⟨rfl, rfl⟩; rw [show decide ((1 : Int) ≤ 1 ∧ (1 : Int) ≤ 5) = true from by decide]
      go_wp2_with fail
      refine (l1In_p _ _ _ _).mono ?_; rintro e w' ⟨rfl, rfl⟩
      go_wp2_with fail
      go_ret
      exact ⟨ret_bool HW.out, rfl⟩
    · have HW := Lib.hid (wordB_y (b := b) h (show topN 2 = 7 from by decide))
      clear h
      go_enter Try.func31, Try.ntmps31
      go_wp2_with fail
      refine (l1In_p _ _ _ _).mono ?_; rintro e w' ⟨rfl, rfl⟩; rw [show decide ((1 : Int) ≤ 2 ∧ (2 : Int) ≤ 5) = true from by decide]
      go_wp2_with fail
      refine (l1In_p _ _ _ _).mono ?_; rintro e w' ⟨rfl, rfl⟩
      go_wp2_with fail
      go_ret
      exact ⟨ret_bool HW.out, rfl⟩
    · have HW := Lib.hid (wordB_y (b := b) h (show topN 3 = 127 from by decide))
      clear h
      go_enter Try.func31, Try.ntmps31
      go_wp2_with fail
      refine (l1In_p _ _ _ _).mono ?_; rintro e w' ⟨rfl, rfl⟩; rw [show decide ((1 : Int) ≤ 3 ∧ (3 : Int) ≤ 5) = true from by decide]
      go_wp2_with fail
      refine (l1In_p _ _ _ _).mono ?_; rintro e w' ⟨rfl, rfl⟩
      go_wp2_with fail
      go_ret
      exact ⟨ret_bool HW.out, rfl⟩
    · have HW := Lib.hid (wordB_y (b := b) h (show topN 4 = 32767 from by decide))
      clear h
      go_enter Try.func31, Try.ntmps31
      go_wp2_with fail
      refine (l1In_p _ _ _ _).mono ?_; rintro e w' ⟨rfl, rfl⟩; rw [show decide ((1 : Int) ≤ 4 ∧ (4 : Int) ≤ 5) = true from by decide]
      go_wp2_with fail
      refine (l1In_p _ _ _ _).mono ?_; rintro e w' ⟨rfl, rfl⟩
      go_wp2_with fail
      go_ret
      exact ⟨ret_bool HW.out, rfl⟩
    · have HW := Lib.hid (wordB_y (b := b) h (show topN 5 = 2147483647 from by decide))
      clear h
      go_enter Try.func31, Try.ntmps31
      go_wp2_with fail
      refine (l1In_p _ _ _ _).mono ?_; rintro e w' ⟨rfl, rfl⟩; rw [show decide ((1 : Int) ≤ 5 ∧ (5 : Int) ≤ 5) = true from by decide]
      go_wp2_with fail
      refine (l1In_p _ _ _ _).mono ?_; rintro e w' ⟨rfl, rfl⟩
      go_wp2_with fail
      go_ret
      exact ⟨ret_bool HW.out, rfl⟩
  · have HW := Lib.hid (wordB_n (b := b) h)
    have D1 := Lib.hid (decide_eq_false h); clear h
    go_enter Try.func31, Try.ntmps31
    go_wp2_with fail
    refine (l1In_p _ _ _ _).mono ?_; rintro e w' ⟨rfl, rfl⟩; rw [D1.out]
    go_wp2_with fail
    go_ret
    exact ⟨ret_bool HW.out, rfl⟩
set_option maxHeartbeats 2000000 in
theorem impl_isWord_any (n b : Int) (w : World) :
    Calls Try.prog 29 #[.int .i64 n, .int .i64 b] w fun e w' => e = .returned (.bool (wordB n b)) ∧ w = w' := by
  by_cases h : 1 ≤ n ∧ n ≤ 5
  · have hn : n = 1 ∨ n = 2 ∨ n = 3 ∨ n = 4 ∨ n = 5 := by omega
    rcases hn with rfl | rfl | rfl | rfl | rfl
    · have HW := Lib.hid (wordB_y (b := b) h (show topN 1 = 1 from by decide))
      clear h
      go_enter Try.func29, Try.ntmps29
      go_wp2_with fail
      refine (within_p _ _ _ _).mono ?_; rintro e w' ⟨rfl, rfl⟩; rw [show decide ((1 : Int) ≤ 1 ∧ (1 : Int) ≤ 5) = true from by decide]
      go_wp2_with fail
      refine (within_p _ _ _ _).mono ?_; rintro e w' ⟨rfl, rfl⟩
      go_wp2_with fail
      go_ret
      exact ⟨ret_bool HW.out, rfl⟩
    · have HW := Lib.hid (wordB_y (b := b) h (show topN 2 = 7 from by decide))
      clear h
      go_enter Try.func29, Try.ntmps29
      go_wp2_with fail
      refine (within_p _ _ _ _).mono ?_; rintro e w' ⟨rfl, rfl⟩; rw [show decide ((1 : Int) ≤ 2 ∧ (2 : Int) ≤ 5) = true from by decide]
      go_wp2_with fail
      refine (within_p _ _ _ _).mono ?_; rintro e w' ⟨rfl, rfl⟩
      go_wp2_with fail
      go_ret
      exact ⟨ret_bool HW.out, rfl⟩
    · have HW := Lib.hid (wordB_y (b := b) h (show topN 3 = 127 from by decide))
      clear h
      go_enter Try.func29, Try.ntmps29
      go_wp2_with fail
      refine (within_p _ _ _ _).mono ?_; rintro e w' ⟨rfl, rfl⟩; rw [show decide ((1 : Int) ≤ 3 ∧ (3 : Int) ≤ 5) = true from by decide]
      go_wp2_with fail
      refine (within_p _ _ _ _).mono ?_; rintro e w' ⟨rfl, rfl⟩
      go_wp2_with fail
      go_ret
      exact ⟨ret_bool HW.out, rfl⟩
    · have HW := Lib.hid (wordB_y (b := b) h (show topN 4 = 32767 from by decide))
      clear h
      go_enter Try.func29, Try.ntmps29
      go_wp2_with fail
      refine (within_p _ _ _ _).mono ?_; rintro e w' ⟨rfl, rfl⟩; rw [show decide ((1 : Int) ≤ 4 ∧ (4 : Int) ≤ 5) = true from by decide]
      go_wp2_with fail
      refine (within_p _ _ _ _).mono ?_; rintro e w' ⟨rfl, rfl⟩
      go_wp2_with fail
      go_ret
      exact ⟨ret_bool HW.out, rfl⟩
    · have HW := Lib.hid (wordB_y (b := b) h (show topN 5 = 2147483647 from by decide))
      clear h
      go_enter Try.func29, Try.ntmps29
      go_wp2_with fail
      refine (within_p _ _ _ _).mono ?_; rintro e w' ⟨rfl, rfl⟩; rw [show decide ((1 : Int) ≤ 5 ∧ (5 : Int) ≤ 5) = true from by decide]
      go_wp2_with fail
      refine (within_p _ _ _ _).mono ?_; rintro e w' ⟨rfl, rfl⟩
      go_wp2_with fail
      go_ret
      exact ⟨ret_bool HW.out, rfl⟩
  · have HW := Lib.hid (wordB_n (b := b) h)
    have D1 := Lib.hid (decide_eq_false h); clear h
    go_enter Try.func29, Try.ntmps29
    go_wp2_with fail
    refine (within_p _ _ _ _).mono ?_; rintro e w' ⟨rfl, rfl⟩; rw [D1.out]
    go_wp2_with fail
    go_ret
    exact ⟨ret_bool HW.out, rfl⟩
theorem impl_CodeWords_any (n : Int) (w : World) : Calls Try.prog 18 #[.int .i64 n] w (CodePost w (codeG n)) := by
  by_cases h : 1 ≤ n ∧ n ≤ 5
  · obtain ⟨m, rfl⟩ := Int.eq_ofNat_of_zero_le (show 0 ≤ n by omega)
    have HG := Lib.hid (show codeG (m : Int) = some (ints (codesS m)) from by unfold codeG; rw [if_pos h, Int.toNat_natCast])
    have D1 := Lib.hid (decide_eq_true h)
    have m1 : 1 ≤ m := by omega
    have m5 : m ≤ 5 := by omega
    clear h
    go_enter Try.func18, Try.ntmps18
    go_wp2_with fail
    refine (within_p _ _ _ _).mono ?_; rintro e w' ⟨rfl, rfl⟩; rw [D1.out]
    go_wp2_with fail
    refine (impl_codeWords_any m _ m1 m5).mono ?_; rintro e w1 ⟨v, rfl, ho, hb⟩
    have HO := Lib.hid ho; clear ho
    go_wp2_with fail
    go_ret2
    exact CodePost.some HG.out HO.out hb
  · have HG := Lib.hid (show codeG n = none from by unfold codeG; rw [if_neg h])
    have D1 := Lib.hid (decide_eq_false h); clear h
    go_enter Try.func18, Try.ntmps18
    go_wp2_with fail
    refine (within_p _ _ _ _).mono ?_; rintro e w' ⟨rfl, rfl⟩; rw [D1.out]
    go_wp2_with fail
    go_ret2
    exact CodePost.none HG.out (Below.refl _ _)
def isG (n b : Int) : Bool := wordB n b && hasB (codesS n.toNat) b.toNat
theorem isG_0 {n b : Int} (h : wordB n b = false) : false = isG n b := by unfold isG; rw [h]; rfl
theorem isG_1 {n b : Int} (h : wordB n b = true) : hasB (codesS n.toNat) b.toNat = isG n b := by unfold isG; rw [h]; rfl
theorem ret_bb {a b c d : Bool} (h : a = b) (h2 : c = d) : Ending.returned (.tuple #[.bool a, .bool c]) = .returned (.tuple #[.bool b, .bool d]) := by rw [h, h2]
theorem codes_pos {n : Nat} (h1 : 1 ≤ n) (h2 : n ≤ 5) : 0 < (codesS n).length := by
  rw [← (code_ok h1 h2).lenI]; exact codesI_pos n _
theorem spec_IsCodeWord_any (n b : Int) (w : World) : Calls Try.prog 17 #[.int .i64 n, .int .i64 b] w fun e w' => e = .returned (.tuple #[.bool (isG n b), .bool (wordB n b)]) ∧ Below w.heap.size w w' := by
  by_cases hb : wordB n b = true
  · obtain ⟨⟨n1, n2⟩, b1, b2⟩ := wordB_ok hb
    obtain ⟨m, rfl⟩ := Int.eq_ofNat_of_zero_le (show 0 ≤ n by omega)
    obtain ⟨x, rfl⟩ := Int.eq_ofNat_of_zero_le b1
    have HG := Lib.hid (isG_1 hb)
    have HB := Lib.hid hb
    have m1 : 1 ≤ m := by omega
    have m5 : m ≤ 5 := by omega
    have HP := Lib.hid (codes_pos m1 m5)
    clear hb b2
    go_enter Try.func17, Try.ntmps17
    go_wp2_with fail
    refine (spec_l15Word_any _ _ _).mono ?_; rintro e w' ⟨rfl, rfl⟩; rw [HB.out]
    go_wp2_with fail
    refine (spec_l15Codes_any m _ m1 m5).mono ?_; rintro e w1 ⟨v, rfl, ho, hb1⟩
    have HR := Lib.hid ho.rd; clear ho
    go_wp2_with fail
    refine (spec_l1Has_any _ (codesS m) x _ HR.out HP.out).mono ?_; rintro e w' ⟨rfl, rfl⟩
    go_wp2_with fail
    go_ret2
    exact ⟨ret_bb HG.out HB.out.symm, hb1⟩
  · have hf : wordB n b = false := by simpa using hb
    have HG := Lib.hid (isG_0 hf)
    have HB := Lib.hid hf; clear hf hb
    go_enter Try.func17, Try.ntmps17
    go_wp2_with fail
    refine (spec_l15Word_any _ _ _).mono ?_; rintro e w' ⟨rfl, rfl⟩; rw [HB.out]
    go_wp2_with fail
    go_ret2
    exact ⟨ret_bb HG.out HB.out.symm, Below.refl _ _⟩
theorem impl_IsCodeWord_any (n b : Int) (w : World) : Calls Try.prog 16 #[.int .i64 n, .int .i64 b] w fun e w' => e = .returned (.tuple #[.bool (isG n b), .bool (wordB n b)]) ∧ Below w.heap.size w w' := by
  by_cases hb : wordB n b = true
  · obtain ⟨⟨n1, n2⟩, b1, b2⟩ := wordB_ok hb
    obtain ⟨m, rfl⟩ := Int.eq_ofNat_of_zero_le (show 0 ≤ n by omega)
    obtain ⟨x, rfl⟩ := Int.eq_ofNat_of_zero_le b1
    have HG := Lib.hid (isG_1 hb)
    have HB := Lib.hid hb
    have m1 : 1 ≤ m := by omega
    have m5 : m ≤ 5 := by omega
    have HP := Lib.hid (codes_pos m1 m5)
    clear hb b2
    go_enter Try.func16, Try.ntmps16
    go_wp2_with fail
    refine (impl_isWord_any _ _ _).mono ?_; rintro e w' ⟨rfl, rfl⟩; rw [HB.out]
    go_wp2_with fail
    refine (impl_codeWords_any m _ m1 m5).mono ?_; rintro e w1 ⟨v, rfl, ho, hb1⟩
    have HR := Lib.hid ho.rd; clear ho
    go_wp2_with fail
    refine (slices_Contains_any _ (codesS m) x _ HR.out HP.out).mono ?_; rintro e w' ⟨rfl, rfl⟩
    go_wp2_with fail
    go_ret2
    exact ⟨ret_bb HG.out HB.out.symm, hb1⟩
  · have hf : wordB n b = false := by simpa using hb
    have HG := Lib.hid (isG_0 hf)
    have HB := Lib.hid hf; clear hf hb
    go_enter Try.func16, Try.ntmps16
    go_wp2_with fail
    refine (impl_isWord_any _ _ _).mono ?_; rintro e w' ⟨rfl, rfl⟩; rw [HB.out]
    go_wp2_with fail
    go_ret2
    exact ⟨ret_bb HG.out HB.out.symm, Below.refl _ _⟩
end Go.Proofs.Ytgonldkgghikiaa
namespace Go.Proofs.Ytgonldkgghikiaa
set_option linter.unusedSimpArgs false
set_option linter.unusedVariables false
set_option linter.unnecessarySimpa false
set_option maxRecDepth 200000
open Go.ChangeShapes Go.WideShapes Go.ChangeAt Go.RowKit

def nearF (x : Nat) (s : Nat × Nat) (y : Nat) : Nat × Nat := if pop (x ^^^ y) < s.2 then (y, pop (x ^^^ y)) else s
def nearTo (L : List Nat) (x k : Nat) : Nat × Nat := (L.take k).foldl (nearF x) (0, pop x)
def near (n x : Nat) : Nat × Nat := nearTo (codesS n) x (codesS n).length
theorem nearTo_succ {L : List Nat} {x k : Nat} (h : k < L.length) : nearTo L x (k + 1) = nearF x (nearTo L x k) (L.getD k 0) := by
  unfold nearTo
  rw [List.take_succ_eq_append_getElem h, List.foldl_append]
  simp [List.getD, h]
theorem near_hit {L : List Nat} {x k y p : Nat} (h : k < L.length) (hy : y = L.getD k 0) (hp : p = pop (x ^^^ y)) (hlt : p < (nearTo L x k).2) : nearTo L x (k + 1) = (y, p) := by
  rw [nearTo_succ h, nearF, ← hy, ← hp, if_pos hlt]
theorem near_miss {L : List Nat} {x k y p : Nat} (h : k < L.length) (hy : y = L.getD k 0) (hp : p = pop (x ^^^ y)) (hlt : ¬ p < (nearTo L x k).2) : nearTo L x (k + 1) = nearTo L x k := by
  rw [nearTo_succ h, nearF, ← hy, ← hp, if_neg hlt]
theorem pop_le (x : Nat) : pop x ≤ 64 := setB_len x 64
theorem pop_lt {x m : Nat} (hm : m ≤ 64) (h : x < 2 ^ m) : pop x ≤ m := by
  unfold pop
  rw [← setB_eq h (Nat.lt_of_lt_of_le h (Nat.pow_le_pow_right (by omega) hm))]
  exact setB_len x m
theorem nearTo_bd {L : List Nat} {x : Nat} (hs : ∀ y ∈ L, y < 2147483648) : ∀ k, (nearTo L x k).1 < 2147483648 ∧ (nearTo L x k).2 ≤ 64
  | 0 => by simp [nearTo]; exact pop_le x
  | k + 1 => by
    have ih := nearTo_bd (x := x) hs k
    by_cases h : k < L.length
    · rw [nearTo_succ h, nearF]
      split
      · exact ⟨mem_small hs h, pop_le _⟩
      · exact ih
    · unfold nearTo at ih ⊢
      rw [List.take_of_length_le (by omega)] at ih ⊢; exact ih
theorem xor_comm31 (x y : Nat) : x ^^^ y = y ^^^ x := Nat.xor_comm x y
theorem ret_ii {a b c d : Int} (h : a = b) (h2 : c = d) : Ending.returned (.tuple #[.int .i64 a, .int .i64 c]) = .returned (.tuple #[.int .i64 b, .int .i64 d]) := by rw [h, h2]
set_option maxHeartbeats 2000000 in
theorem spec_l15Nearest_any (n x : Nat) (w : World) (h1 : 1 ≤ n) (h2 : n ≤ 5) (hx : x < 2147483648) :
    Calls Try.prog 32 #[.int .i64 (n : Int), .int .i64 (x : Int)] w fun e w' => e = .returned (.tuple #[.int .i64 ((near n x).1 : Int), .int .i64 ((near n x).2 : Int)]) ∧ Below w.heap.size w w' := by
  have CO := code_ok h1 h2
  have hl64 := CO.few
  have HS := Lib.hid CO.small
  have h0 := codes_pos h1 h2
  clear CO
  have HP := Lib.hid (pop_31 hx)
  go_enter Try.func32, Try.ntmps32
  go_wp2_with fail
  refine (spec_l1Set_big x _ hx).mono ?_; rintro e w1 ⟨v, rfl, ho, hb1⟩
  obtain ⟨a, cap, rfl⟩ := ho.forms
  rw [ints_len, HP.out]
  clear ho
  go_wp2_with fail
  refine (spec_l15Codes_any n _ h1 h2).mono ?_; rintro e w2 ⟨v, rfl, ho, hb2⟩
  obtain ⟨b, off, cap2, rfl, hb, hlc, hcm, hc⟩ := rd_low ho.rd h0
  obtain ⟨L, hL⟩ : ∃ L, L = codesS n := ⟨_, rfl⟩
  have B2 := Lib.hid (below_step hb1 hb2)
  rw [← hL] at hl64 h0 hlc hc HS
  rw [← hL]
  have Hc := Lib.hid hc; have HL := Lib.hid hL
  clear hc hL ho hb1 hb2
  go_wp2_with fail
  go_loopw [6, 7, 17] (fun bst lst i wr => ∃ k : Nat, k ≤ L.length ∧ i = .int .i64 k ∧ bst = .int .i64 ((nearTo L x k).1 : Int) ∧ lst = .int .i64 ((nearTo L x k).2 : Int) ∧ Below w2.heap.size w2 wr) (fun _ _ i _ => L.length - (intOf i).toNat)
  case atStart => exact ⟨0, Nat.zero_le _, rfl, rfl, rfl, Below.refl _ _⟩
  case round =>
    obtain ⟨k, hk, rfl, rfl, rfl, hbel⟩ := hrel
    by_cases hlt : k < L.length
    · have i1 : (k : Int) < (L.length : Int) := by omega
      obtain ⟨y, hy⟩ : ∃ y, y = L.getD k 0 := ⟨_, rfl⟩
      have cy := (hbel.cell hb).trans (Hc.out k hlt)
      rw [← hy] at cy
      have hyl : y < 2147483648 := by rw [hy]; exact mem_small HS.out hlt
      obtain ⟨z, hz⟩ : ∃ z, z = x ^^^ y := ⟨_, rfl⟩
      have hxor : bits .xor .i64 (x : Int) (y : Int) = (z : Int) := by rw [hz]; exact bits_xor x y (by omega) (by omega)
      have hz31 : z < 2147483648 := by rw [hz]; exact Nat.xor_lt_two_pow (n := 31) hx hyl
      obtain ⟨p, hp⟩ : ∃ p, p = pop z := ⟨_, rfl⟩
      have HPz := Lib.hid ((pop_31 hz31).trans hp.symm)
      obtain ⟨c, hc⟩ : ∃ c, c = nearTo L x k := ⟨_, rfl⟩
      have hbd := nearTo_bd (x := x) HS.out k
      rw [← hc] at hbd
      rw [← hc]
      obtain ⟨c1, c2⟩ := c
      dsimp only at hbd ⊢
      have hpl : p ≤ 64 := by rw [hp]; exact pop_le _
      have hszr := hbel.size
      by_cases hpc : p < c2
      · have g1 : decide ((p : Int) < (c2 : Int)) = true := by simp; omega
        have g2 : decide (p < c2) = true := by simp; omega
        have HN := Lib.hid (near_hit hlt hy (by rw [hp, hz]) (show p < (nearTo L x k).2 by rw [← hc]; exact hpc))
        clear hpc hp hz hy hc
        go_wp2_with fail
        refine (spec_l1Set_big z _ hz31).mono ?_; rintro e w3 ⟨v3, rfl, ho3, hb3⟩
        obtain ⟨a3, cap3, rfl⟩ := ho3.forms
        rw [ints_len, HPz.out]
        clear ho3
        go_wp2_with fail
        go_roundw
        case rel => exact ⟨k + 1, by omega, by go_num, by rw [HN.out], by rw [HN.out], below_step hbel hb3⟩
        case measure => simp [intOf]; omega
      · have g1 : decide ((p : Int) < (c2 : Int)) = false := by simp; omega
        have g2 : decide (p < c2) = false := by simp; omega
        have HN := Lib.hid ((near_miss hlt hy (by rw [hp, hz]) (show ¬ p < (nearTo L x k).2 by rw [← hc]; exact hpc)).trans hc.symm)
        clear hpc hp hz hy hc
        go_wp2_with fail
        refine (spec_l1Set_big z _ hz31).mono ?_; rintro e w3 ⟨v3, rfl, ho3, hb3⟩
        obtain ⟨a3, cap3, rfl⟩ := ho3.forms
        rw [ints_len, HPz.out]
        clear ho3
        go_wp2_with fail
        go_roundw
        case rel => exact ⟨k + 1, by omega, by go_num, by rw [HN.out], by rw [HN.out], below_step hbel hb3⟩
        case measure => simp [intOf]; omega
    · have hr : Hid (nearTo L x k = near n x) := by show _ = _; unfold near; rw [← HL.out, show k = L.length by omega]
      go_wp2_with fail
      go_ret2
      exact ⟨ret_ii (by rw [hr.out]) (by rw [hr.out]), below_step B2.out hbel⟩
/-- The state of the program's loop: its first bound is larger. -/
def nearI (L : List Nat) (n x k : Nat) : Nat × Nat := if k = 0 then (0, 2 ^ n) else nearTo L x k
theorem nearI_pos {L : List Nat} {n x k : Nat} (h : 0 < k) : nearI L n x k = nearTo L x k := if_neg (by omega)
theorem near_one {L : List Nat} {x : Nat} (h : 0 < L.length) (h0 : L.getD 0 0 = 0) : nearTo L x 1 = (0, pop x) := by
  rw [nearTo_succ h, h0, nearF]
  simp [nearTo]
theorem nearI_hit {L : List Nat} {n x k y p : Nat} (h : k < L.length) (hh : L.getD 0 0 = 0) (hy : y = L.getD k 0) (hp : p = pop (y ^^^ x)) (hlt : p < (nearI L n x k).2) : nearI L n x (k + 1) = (y, p) := by
  rw [nearI_pos (by omega)]
  by_cases hk : k = 0
  · subst hk
    have hy0 : y = 0 := hy.trans hh
    subst hy0
    rw [near_one h hh, hp]; simp
  · rw [nearI_pos (by omega)] at hlt
    exact near_hit h hy (by rw [hp, Nat.xor_comm]) hlt
theorem nearI_miss {L : List Nat} {n x k y p : Nat} (h : k < L.length) (hh : L.getD 0 0 = 0) (hpx : pop x < 2 ^ n) (hy : y = L.getD k 0) (hp : p = pop (y ^^^ x)) (hlt : ¬ p < (nearI L n x k).2) : nearI L n x (k + 1) = nearI L n x k := by
  by_cases hk : k = 0
  · subst hk
    have hy0 : y = 0 := hy.trans hh
    subst hy0
    exfalso; apply hlt; rw [hp]; simpa [nearI] using hpx
  · rw [nearI_pos (by omega)] at hlt ⊢
    rw [nearI_pos (by omega)]
    exact near_miss h hy (by rw [hp, Nat.xor_comm]) hlt
theorem nearI_bd {L : List Nat} {n x : Nat} (h2 : n ≤ 5) (hs : ∀ y ∈ L, y < 2147483648) (k : Nat) : (nearI L n x k).1 < 2147483648 ∧ (nearI L n x k).2 ≤ 64 := by
  unfold nearI; split
  · refine ⟨by dsimp only; omega, ?_⟩
    have : (2 : Nat) ^ n ≤ 2 ^ 5 := Nat.pow_le_pow_right (by omega) h2
    dsimp only; omega
  · exact nearTo_bd hs k
set_option maxHeartbeats 4000000 in
theorem impl_nearest_any (n x : Nat) (w : World) (h1 : 1 ≤ n) (h2 : n ≤ 5) (hx : x < 2147483648) (hpx : pop x < 2 ^ n) :
    Calls Try.prog 30 #[.int .i64 (n : Int), .int .i64 (x : Int)] w fun e w' => e = .returned (.tuple #[.int .i64 ((near n x).1 : Int), .int .i64 ((near n x).2 : Int)]) ∧ Below w.heap.size w w' := by
  have CO := code_ok h1 h2
  have hl64 := CO.few
  have HS := Lib.hid CO.small
  have h0 := codes_pos h1 h2
  have hhd : (codesS n).getD 0 0 = 0 := by have := CO.head; revert h0 this; cases codesS n with
    | nil => intro h0; simp at h0
    | cons a l => intro _ h; simpa using h
  clear CO
  obtain ⟨p1, p2⟩ := pow_5 (n := (n : Int)) (by omega)
  rw [Int.toNat_natCast] at p1 p2
  obtain ⟨N, hN⟩ : ∃ N : Nat, N = 2 ^ n := ⟨_, rfl⟩
  have hNi : (2 : Int) ^ n = (N : Int) := by rw [hN]; simp
  rw [hNi] at p1 p2
  rw [← hN] at hpx
  have hw : IntKind.i64.wrap ((2 : Int) ^ n) = (N : Int) := by rw [hNi]; exact IntWalk.i64_in _ (by omega)
  have HN0 := Lib.hid hN; clear hN hNi
  have n0 : (0 : Int) ≤ (n : Int) := by omega
  go_enter Try.func30, Try.ntmps30
  go_wp2_with fail
  go_region
  go_wp2_with fail
  refine (impl_codeWords_any n _ h1 h2).mono ?_; rintro e w2 ⟨v, rfl, ho, hb2⟩
  obtain ⟨b, off, cap2, rfl, hb, hlc, hcm, hc⟩ := rd_low ho.rd h0
  obtain ⟨L, hL⟩ : ∃ L, L = codesS n := ⟨_, rfl⟩
  have B2 := Lib.hid (show Below w.heap.size w w2 from (by repeat (first | exact Below.refl _ _ | assumption | refine Below.drew ?_ | refine below_drewN ?_ _ | refine Below.alloc ?_ (by first | omega | (simp <;> omega)) _ | refine Below.setCell ?_ (by first | omega | (simp <;> omega)) _ | refine Below.trans ?_ (Below.mono (by assumption) (by first | omega | (simp <;> omega))))))
  rw [← hL] at hl64 h0 hlc hc HS hhd
  rw [← hL]
  have Hc := Lib.hid hc; have HL := Lib.hid hL; have HH := Lib.hid hhd
  have HPX := Lib.hid (show pop x < 2 ^ n by rw [← HN0.out]; exact hpx)
  clear hc hL ho hb2 hhd
  go_wp2_with fail
  go_loopw [6, 7, 16] (fun bst lst i wr => ∃ k : Nat, k ≤ L.length ∧ i = .int .i64 k ∧ bst = .int .i64 ((nearI L n x k).1 : Int) ∧ lst = .int .i64 ((nearI L n x k).2 : Int) ∧ Below w2.heap.size w2 wr) (fun _ _ i _ => L.length - (intOf i).toNat)
  case atStart => exact ⟨0, Nat.zero_le _, rfl, rfl, by show Value.int .i64 (N : Int) = .int .i64 ((2 ^ n : Nat) : Int); rw [HN0.out], Below.refl _ _⟩
  case round =>
    obtain ⟨k, hk, rfl, rfl, rfl, hbel⟩ := hrel
    by_cases hlt : k < L.length
    · have i1 : (k : Int) < (L.length : Int) := by omega
      obtain ⟨y, hy⟩ : ∃ y, y = L.getD k 0 := ⟨_, rfl⟩
      have cy := (hbel.cell hb).trans (Hc.out k hlt)
      rw [← hy] at cy
      have hyl : y < 2147483648 := by rw [hy]; exact mem_small HS.out hlt
      obtain ⟨z, hz⟩ : ∃ z, z = y ^^^ x := ⟨_, rfl⟩
      have hxor : bits .xor .i64 (y : Int) (x : Int) = (z : Int) := by rw [hz]; exact bits_xor y x (by omega) (by omega)
      have hz31 : z < 2147483648 := by rw [hz]; exact Nat.xor_lt_two_pow (n := 31) hyl hx
      obtain ⟨p, hp⟩ : ∃ p, p = pop z := ⟨_, rfl⟩
      obtain ⟨c, hc⟩ : ∃ c, c = nearI L n x k := ⟨_, rfl⟩
      have hbd := nearI_bd (x := x) h2 HS.out k
      rw [← hc] at hbd
      rw [← hc]
      obtain ⟨c1, c2⟩ := c
      dsimp only at hbd ⊢
      have hpl : p ≤ 64 := by rw [hp]; exact pop_le _
      have HP := Lib.hid hp
      have hszr := hbel.size
      by_cases hpc : p < c2
      · have g1 : decide ((p : Int) < (c2 : Int)) = true := by simp; omega
        have g2 : decide (p < c2) = true := by simp; omega
        have HN := Lib.hid (nearI_hit (n := n) hlt HH.out hy (by rw [hp, hz]) (show p < (nearI L n x k).2 by rw [← hc]; exact hpc))
        clear hpc hp hz hy hc
        go_wp2_with fail
        refine (impl_bitsIn_any z _ (by omega)).mono ?_; rintro e w' ⟨rfl, rfl⟩; rw [← HP.out]
        go_wp2_with fail
        go_roundw
        case rel => exact ⟨k + 1, by omega, by go_num, by rw [HN.out], by rw [HN.out], hbel⟩
        case measure => simp [intOf]; omega
      · have g1 : decide ((p : Int) < (c2 : Int)) = false := by simp; omega
        have g2 : decide (p < c2) = false := by simp; omega
        have HN := Lib.hid ((nearI_miss (n := n) hlt HH.out HPX.out hy (by rw [hp, hz]) (show ¬ p < (nearI L n x k).2 by rw [← hc]; exact hpc)).trans hc.symm)
        clear hpc hp hz hy hc
        go_wp2_with fail
        refine (impl_bitsIn_any z _ (by omega)).mono ?_; rintro e w' ⟨rfl, rfl⟩; rw [← HP.out]
        go_wp2_with fail
        go_roundw
        case rel => exact ⟨k + 1, by omega, by go_num, by rw [HN.out], by rw [HN.out], hbel⟩
        case measure => simp [intOf]; omega
    · have hr : Hid (nearI L n x k = near n x) := by show _ = _; rw [nearI_pos (by omega)]; unfold near; rw [← HL.out, show k = L.length by omega]
      go_wp2_with fail
      go_ret2
      exact ⟨ret_ii (by rw [hr.out]) (by rw [hr.out]), below_step B2.out hbel⟩
/-- What NearestCode answers. -/
noncomputable def nearG (n b : Int) : Nat × Nat := if wordB n b = true then near n.toNat b.toNat else (0, 0)
theorem nearG_0 {n b : Int} (h : wordB n b = false) : nearG n b = (0, 0) := if_neg (by rw [h]; exact Bool.false_ne_true)
theorem nearG_1 {n b : Int} (h : wordB n b = true) : nearG n b = near n.toNat b.toNat := if_pos h
theorem ret_iib {a b c d : Int} {p q : Bool} (h : a = b) (h2 : c = d) (h3 : p = q) : Ending.returned (.tuple #[.int .i64 a, .int .i64 c, .bool p]) = .returned (.tuple #[.int .i64 b, .int .i64 d, .bool q]) := by rw [h, h2, h3]
theorem word_pop {m x : Nat} (h1 : 1 ≤ m) (h2 : m ≤ 5) (h : (x : Int) ≤ topN (m : Int)) : x < 2147483648 ∧ pop x < 2 ^ m := by
  have ht : x < 2 ^ (2 ^ m - 1) := by
    have : m = 1 ∨ m = 2 ∨ m = 3 ∨ m = 4 ∨ m = 5 := by omega
    rcases this with rfl | rfl | rfl | rfl | rfl
    · have : topN ((1 : Nat) : Int) = 1 := by decide
      omega
    · have : topN ((2 : Nat) : Int) = 7 := by decide
      omega
    · have : topN ((3 : Nat) : Int) = 127 := by decide
      omega
    · have : topN ((4 : Nat) : Int) = 32767 := by decide
      omega
    · have : topN ((5 : Nat) : Int) = 2147483647 := by decide
      omega
  have hm : (2 : Nat) ^ m ≤ 2 ^ 5 := Nat.pow_le_pow_right (by omega) h2
  have hp := pop_lt (m := 2 ^ m - 1) (by omega) ht
  have h0 : 0 < (2 : Nat) ^ m := Nat.pow_pos (by decide)
  exact ⟨Nat.lt_of_lt_of_le ht (show 2 ^ (2 ^ m - 1) ≤ 2 ^ 31 from Nat.pow_le_pow_right (by omega) (by omega)), by omega⟩
theorem spec_NearestCode_any (n b : Int) (w : World) : Calls Try.prog 15 #[.int .i64 n, .int .i64 b] w fun e w' => e = .returned (.tuple #[.int .i64 ((nearG n b).1 : Int), .int .i64 ((nearG n b).2 : Int), .bool (wordB n b)]) ∧ Below w.heap.size w w' := by
  by_cases hb : wordB n b = true
  · obtain ⟨⟨n1, n2⟩, b1, b2⟩ := wordB_ok hb
    obtain ⟨m, rfl⟩ := Int.eq_ofNat_of_zero_le (show 0 ≤ n by omega)
    obtain ⟨x, rfl⟩ := Int.eq_ofNat_of_zero_le b1
    have HG := Lib.hid (nearG_1 hb)
    have HB := Lib.hid hb
    have m1 : 1 ≤ m := by omega
    have m5 : m ≤ 5 := by omega
    obtain ⟨x31, hpx⟩ := word_pop m1 m5 b2
    have HX := Lib.hid hpx
    clear hb b2 hpx
    go_enter Try.func15, Try.ntmps15
    go_wp2_with fail
    refine (spec_l15Word_any _ _ _).mono ?_; rintro e w' ⟨rfl, rfl⟩; rw [HB.out]
    go_wp2_with fail
    refine (spec_l15Nearest_any m x _ m1 m5 x31).mono ?_; rintro e w1 ⟨rfl, hb1⟩
    go_wp2_with fail
    go_ret3
    exact ⟨ret_iib (by rw [HG.out]; rfl) (by rw [HG.out]; rfl) HB.out.symm, hb1⟩
  · have hf : wordB n b = false := by simpa using hb
    have HG := Lib.hid (nearG_0 hf)
    have HB := Lib.hid hf; clear hf hb
    go_enter Try.func15, Try.ntmps15
    go_wp2_with fail
    refine (spec_l15Word_any _ _ _).mono ?_; rintro e w' ⟨rfl, rfl⟩; rw [HB.out]
    go_wp2_with fail
    go_ret3
    exact ⟨ret_iib (by rw [HG.out]; rfl) (by rw [HG.out]; rfl) HB.out.symm, Below.refl _ _⟩
theorem impl_NearestCode_any (n b : Int) (w : World) : Calls Try.prog 14 #[.int .i64 n, .int .i64 b] w fun e w' => e = .returned (.tuple #[.int .i64 ((nearG n b).1 : Int), .int .i64 ((nearG n b).2 : Int), .bool (wordB n b)]) ∧ Below w.heap.size w w' := by
  by_cases hb : wordB n b = true
  · obtain ⟨⟨n1, n2⟩, b1, b2⟩ := wordB_ok hb
    obtain ⟨m, rfl⟩ := Int.eq_ofNat_of_zero_le (show 0 ≤ n by omega)
    obtain ⟨x, rfl⟩ := Int.eq_ofNat_of_zero_le b1
    have HG := Lib.hid (nearG_1 hb)
    have HB := Lib.hid hb
    have m1 : 1 ≤ m := by omega
    have m5 : m ≤ 5 := by omega
    obtain ⟨x31, hpx⟩ := word_pop m1 m5 b2
    have HX := Lib.hid hpx
    clear hb b2 hpx
    go_enter Try.func14, Try.ntmps14
    go_wp2_with fail
    refine (impl_isWord_any _ _ _).mono ?_; rintro e w' ⟨rfl, rfl⟩; rw [HB.out]
    go_wp2_with fail
    refine (impl_nearest_any m x _ m1 m5 x31 HX.out).mono ?_; rintro e w1 ⟨rfl, hb1⟩
    go_wp2_with fail
    go_ret3
    exact ⟨ret_iib (by rw [HG.out]; rfl) (by rw [HG.out]; rfl) HB.out.symm, hb1⟩
  · have hf : wordB n b = false := by simpa using hb
    have HG := Lib.hid (nearG_0 hf)
    have HB := Lib.hid hf; clear hf hb
    go_enter Try.func14, Try.ntmps14
    go_wp2_with fail
    refine (impl_isWord_any _ _ _).mono ?_; rintro e w' ⟨rfl, rfl⟩; rw [HB.out]
    go_wp2_with fail
    go_ret3
    exact ⟨ret_iib (by rw [HG.out]; rfl) (by rw [HG.out]; rfl) HB.out.symm, Below.refl _ _⟩
end Go.Proofs.Ytgonldkgghikiaa
