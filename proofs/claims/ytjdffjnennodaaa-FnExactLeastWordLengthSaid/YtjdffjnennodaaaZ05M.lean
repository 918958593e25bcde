/- What the arguments of the laws look like as values: integers, strings and plain structs. -/
import Derived.Test.YtjdffjnennodaaaZ00Base
import Derived.Deep.Light
import Derived.Test.YtjdffjnennodaaaZ02Slice0
import Derived.Deep.RegionLaw
import Derived.Deep.RegionHeld3
import Derived.Deep.AppendLies
import Derived.Deep.DrawnRows
import Derived.Deep.DeepFit
import Derived.Deep.DeepMust
import Derived.ChangeSlices
namespace Go.Proofs.Ytjdffjnennodaaa
set_option linter.unusedSimpArgs false
set_option linter.unusedVariables false
set_option linter.unnecessarySimpa false
set_option maxRecDepth 200000
open Go.ChangeShapes Go.WideShapes Go.ChangeAt Go.RowKit Go.Joins
open Go.ChangeMaps (open_string shut_string)

def IsInt (v : Value) : Prop := ∃ n : Int, v = .int .i64 n ∧ -9223372036854775808 ≤ n ∧ n ≤ 9223372036854775807
def IsStr (v : Value) : Prop := ∃ s : ByteArray, v = .string s ∧ s.size ≤ 9223372036854775807
def IsBool (v : Value) : Prop := ∃ b : Bool, v = .bool b

section
variable {H : Type} {enc : TypeId × Value → H} {W : World} {base : Nat} {spare : Nat → Bool} {held : Bool} {r : Reach} {b0 : Nat}

theorem i64_range {n : Int} (h : (Lit.int .i64 n).wf = true) : -9223372036854775808 ≤ n ∧ n ≤ 9223372036854775807 := by
  have h := h
  simp [Lit.wf, IntKind.min, IntKind.max, IntKind.signed, IntKind.bits] at h
  omega

theorem isInt_of {t : TypeId} (ht : Try.prog.underlying t = some (.int .i64)) {v : Value} {d : DataW H} {p : List MemPlace} (hv : Value.okWide Try.prog W r b0 t v) (h : DataW.Trod enc Try.prog W base spare held t v d p) : IsInt v := by
  obtain ⟨n, rfl, rfl, rfl, hw⟩ := open_int ht hv h
  exact ⟨n, rfl, i64_range hw⟩
theorem isStr_of {t : TypeId} (ht : Try.prog.underlying t = some .string) {v : Value} {d : DataW H} {p : List MemPlace} (hv : Value.okWide Try.prog W r b0 t v) (h : DataW.Trod enc Try.prog W base spare held t v d p) : IsStr v := by
  obtain ⟨s, rfl, rfl, rfl, hs⟩ := open_string ht hv h
  exact ⟨s, rfl, by simpa [maxLen] using hs⟩
theorem isBool_of {t : TypeId} (ht : Try.prog.underlying t = some .bool) {v : Value} {d : DataW H} {p : List MemPlace} (hv : Value.okWide Try.prog W r b0 t v) (h : DataW.Trod enc Try.prog W base spare held t v d p) : IsBool v := by
  obtain ⟨b, rfl, rfl, rfl⟩ := open_bool ht hv h
  exact ⟨b, rfl⟩
theorem cellInt_of {n : Nat} {t : TypeId} (ht : Try.prog.underlying t = some (.int .i64)) {v : Value} {y : DataW H × List MemPlace} (h : DataW.trod enc Try.prog W base spare held n t [v] = some y) : IsInt v := by
  obtain ⟨k, e, _, hw⟩ := DataW.trod_int ht h
  simp at e
  exact ⟨k, e, i64_range hw⟩
theorem cellStr_of {n : Nat} {t : TypeId} (ht : Try.prog.underlying t = some .string) {v : Value} {y : DataW H × List MemPlace} (h : DataW.trod enc Try.prog W base spare held n t [v] = some y) : IsStr v := by
  obtain ⟨k, e, _, hw⟩ := DataW.trod_string ht h
  simp at e
  exact ⟨k, e, by simpa [maxLen] using hw⟩

end
end Go.Proofs.Ytjdffjnennodaaa
namespace Go.Proofs.Ytjdffjnennodaaa
set_option linter.unusedSimpArgs false
set_option linter.unusedVariables false
set_option linter.unnecessarySimpa false
set_option maxRecDepth 200000
open Go.ChangeShapes Go.WideShapes Go.ChangeAt Go.RowKit

def inB (n lo hi : Int) : Bool := decide (lo ≤ n) && decide (n ≤ hi)

theorem within_any (n lo hi : Int) (w : World) :
    Calls Try.prog 36 #[.int .i64 n, .int .i64 lo, .int .i64 hi] w fun e w' => e = .returned (.bool (inB n lo hi)) ∧ w = w' := by
  by_cases h1 : lo ≤ n
  · go_enter Try.func36, Try.ntmps36
    go_wp2
    go_ret
    exact ⟨by simp [inB, h1], rfl⟩
  · go_enter Try.func36, Try.ntmps36
    go_wp2
    go_ret
    exact ⟨by simp [inB]; omega, rfl⟩

theorem l1In_any (n lo hi : Int) (w : World) :
    Calls Try.prog 50 #[.int .i64 n, .int .i64 lo, .int .i64 hi] w fun e w' => e = .returned (.bool (inB n lo hi)) ∧ w = w' := by
  by_cases h1 : lo ≤ n
  · go_enter Try.func50, Try.ntmps50
    go_wp2
    go_ret
    exact ⟨by simp [inB, h1], rfl⟩
  · go_enter Try.func50, Try.ntmps50
    go_wp2
    go_ret
    exact ⟨by simp [inB]; omega, rfl⟩

theorem count_wrap (n : Int) (h0 : 0 ≤ n) (h1 : n ≤ 20) : wrap64 (72 * 2 ^ (n.toNat - 1)) = 72 * 2 ^ (n.toNat - 1) := by
  obtain ⟨k, rfl⟩ := Int.eq_ofNat_of_zero_le h0
  rw [Int.toNat_natCast]
  have h : ∀ k : Nat, k < 21 → wrap64 (72 * 2 ^ (k - 1)) = 72 * 2 ^ (k - 1) := by decide +kernel
  exact h k (by omega)

def countF (n : Int) : Int := if n = 0 then 24 else 72 * 2 ^ (n.toNat - 1)
end Go.Proofs.Ytjdffjnennodaaa
namespace Go.Proofs.Ytjdffjnennodaaa
set_option linter.unusedSimpArgs false
set_option linter.unusedVariables false
set_option linter.unnecessarySimpa false
set_option maxRecDepth 200000
open Go.ChangeShapes Go.WideShapes Go.ChangeAt Go.RowKit

theorem within_p (n lo hi : Int) (w : World) :
    Calls Try.prog 36 #[.int .i64 n, .int .i64 lo, .int .i64 hi] w fun e w' => e = .returned (.bool (decide (lo ≤ n ∧ n ≤ hi))) ∧ w = w' :=
  (within_any n lo hi w).mono fun _ _ ⟨h, h'⟩ => ⟨by rw [h]; simp [inB], h'⟩
theorem l1In_p (n lo hi : Int) (w : World) :
    Calls Try.prog 50 #[.int .i64 n, .int .i64 lo, .int .i64 hi] w fun e w' => e = .returned (.bool (decide (lo ≤ n ∧ n ≤ hi))) ∧ w = w' :=
  (l1In_any n lo hi w).mono fun _ _ ⟨h, h'⟩ => ⟨by rw [h]; simp [inB], h'⟩

def IsDim (n : Int) : Prop := n = 2 ∨ n = 4 ∨ n = 8
instance (n : Int) : Decidable (IsDim n) := by unfold IsDim; infer_instance
def TLok (n k i j m : Int) : Prop := IsDim n ∧ 0 ≤ i ∧ i ≤ n - 1 ∧ 0 ≤ j ∧ j ≤ n - 1 ∧ ((k = 1 ∧ j = 0 ∧ 1 ≤ m ∧ m ≤ 7) ∨ (k = 2 ∧ i < j ∧ m = 0) ∨ (k = 3 ∧ i < j ∧ 0 ≤ m ∧ m ≤ 7))
instance (n k i j m : Int) : Decidable (TLok n k i j m) := by unfold TLok; infer_instance


theorem tl_dim {n k i j m : Int} (h : ¬ IsDim n) : false = decide (TLok n k i j m) := by simp [TLok, h]
theorem dim_range {n : Int} (h : IsDim n) : 1 ≤ n ∧ n ≤ 8 := by unfold IsDim at h; omega

end Go.Proofs.Ytjdffjnennodaaa
namespace Go.Proofs.Ytjdffjnennodaaa
set_option linter.unusedSimpArgs false
set_option linter.unusedVariables false
set_option linter.unnecessarySimpa false
set_option maxRecDepth 200000
open Go.ChangeShapes Go.WideShapes Go.ChangeAt Go.RowKit

def allIn (zs : List Int) (lo hi : Int) : Bool := zs.all fun z => decide (lo ≤ z ∧ z ≤ hi)
theorem allIn_step {zs : List Int} {lo hi : Int} {k : Nat} (h : Hid (allIn (zs.take k) lo hi = true)) (hk : k < zs.length) (h1 : lo ≤ zs.getD k 0 ∧ zs.getD k 0 ≤ hi) : Hid (allIn (zs.take (k + 1)) lo hi = true) := by
  have h := h.out
  show allIn _ lo hi = true
  rw [take_next zs k hk]
  simp [allIn, List.all_append] at h ⊢
  exact ⟨h, by simpa using h1⟩
theorem allIn_fail {zs : List Int} {lo hi : Int} {k : Nat} (hk : k < zs.length) (h1 : ¬ (lo ≤ zs.getD k 0 ∧ zs.getD k 0 ≤ hi)) : false = allIn zs lo hi := by
  symm
  unfold allIn
  rw [List.all_eq_false]
  exact ⟨zs.getD k 0, by simp [List.getD, hk], by simpa using h1⟩
theorem allIn_end {zs : List Int} {lo hi : Int} {k : Nat} (h : Hid (allIn (zs.take k) lo hi = true)) (hk : zs.length ≤ k) : true = allIn zs lo hi := by
  have h := h.out
  rw [List.take_of_length_le hk] at h
  exact h.symm

theorem eq_step {xs ys : List Int} {k : Nat} (h : Hid (xs.take k = ys.take k)) (h1 : k < xs.length) (h2 : k < ys.length) (he : xs.getD k 0 = ys.getD k 0) : Hid (xs.take (k + 1) = ys.take (k + 1)) := by
  show _ = _
  rw [take_next xs k h1, take_next ys k h2, h.out, he]
theorem eq_fail {xs ys : List Int} {k : Nat} (he : ¬ xs.getD k 0 = ys.getD k 0) : false = decide (xs = ys) := by
  symm; rw [decide_eq_false_iff_not]; rintro rfl; exact he rfl
theorem eq_end {xs ys : List Int} {k : Nat} (h : Hid (xs.take k = ys.take k)) (h1 : xs.length ≤ k) (h2 : ys.length ≤ k) : true = decide (xs = ys) := by
  have h := h.out
  rw [List.take_of_length_le h1, List.take_of_length_le h2] at h
  simp [h]
/-- The cells that a helper has marked: whole numbers in a row, from k on. -/
def marks (k : Int) (n : Nat) : List Value := (List.range n).map fun i : Nat => Value.int .i64 (k + i)
theorem marks_len (k : Int) (n : Nat) : (marks k n).length = n := by simp [marks]
theorem marks_get (k : Int) (n j : Nat) (h : j < n) : (marks k n)[j]? = some (.int .i64 (k + j)) := by simp [marks, h]
theorem marks_step (k : Int) (j : Nat) (xs : List Value) (h : j < xs.length) : (marks k j ++ xs.drop j).set j (.int .i64 (k + j)) = marks k (j + 1) ++ xs.drop (j + 1) := by
  have e : xs.drop j = xs[j] :: xs.drop (j + 1) := by rw [List.drop_eq_getElem_cons h]
  rw [List.set_append_right _ _ (by simp [marks_len]), marks_len, Nat.sub_self, e, List.set_cons_zero]
  simp [marks, List.range_succ]
theorem marks_cell {w : World} {base : Nat} {e : TypeId} {g n cap j sz : Nat} {xs : List Value} (h : w.ownsRow base e sz (.slice (some ⟨g, 0, none⟩) n cap) n xs) (hj : j < n * sz) : ∃ u, w.cell? ⟨g, j, none⟩ = some u := by
  rw [h.cellAt j hj]
  have := h.1
  exact ⟨xs[j], by rw [List.getElem?_eq_getElem (by omega)]⟩

end Go.Proofs.Ytjdffjnennodaaa
namespace Go.Proofs.Ytjdffjnennodaaa
set_option linter.unusedSimpArgs false
set_option linter.unusedVariables false
set_option linter.unnecessarySimpa false
set_option maxRecDepth 200000
open Go.ChangeShapes Go.WideShapes Go.ChangeAt Go.RowKit

theorem info_int : (Try.prog.info? 3).map (fun i => (i.zero, i.size, i.bytes)) = some (some (.int .i64 0), 1, 8) := by kernel_rfl
/-- A slice of whole numbers that the call itself has made. -/
def OwnI (w : World) (base : Nat) (v : Value) (zs : List Int) : Prop := w.ownsRow base 3 1 v zs.length (zs.map (Value.int .i64))
theorem OwnI.rd {w : World} {base : Nat} {v : Value} {zs : List Int} (h : OwnI w base v zs) : RdI w v zs := Rd.of_own h
def idRows (n : Nat) : List Int := (List.range n).map fun i : Nat => (2 : Int) ^ i
theorem idRows_len (n : Nat) : (idRows n).length = n := by simp [idRows]
theorem idRows_succ (n : Nat) : idRows (n + 1) = idRows n ++ [(2 : Int) ^ n] := by simp [idRows, List.range_succ]
theorem pow_small (k : Nat) (h : k ≤ 61) : (2 : Int) ^ k ≤ 2305843009213693952 ∧ 1 ≤ (2 : Int) ^ k := by
  have h1 : (2 : Nat) ^ k ≤ 2 ^ 61 := Nat.pow_le_pow_right (by decide) h
  have h2 : 0 < (2 : Nat) ^ k := Nat.pow_pos (by decide)
  have e : ((2 : Int) ^ k) = ((2 ^ k : Nat) : Int) := by simp
  rw [e]
  constructor
  · exact Int.ofNat_le.2 h1
  · omega

attribute [local go_sem ↓] Go.wp_at_zero Go.wp_at_succ
end Go.Proofs.Ytjdffjnennodaaa
namespace Go.Proofs.Ytjdffjnennodaaa
set_option linter.unusedSimpArgs false
set_option linter.unusedVariables false
set_option linter.unnecessarySimpa false
set_option maxRecDepth 200000
open Go.ChangeShapes Go.WideShapes Go.ChangeAt Go.RowKit

theorem grown_trans {a b c : World} {row : Option Nat} (h1 : a.grownBy b row) (h2 : b.grownBy c row) : a.grownBy c row :=
  ⟨h2.os.trans h1.os, h2.tape.trans h1.tape, h2.output.trans h1.output, Nat.le_trans h1.size h2.size, fun i hi hn => (h2.block i (Nat.lt_of_lt_of_le hi h1.size) hn).trans (h1.block i hi hn)⟩

/-- What a function that answers a linear map and 'ok' leaves: the rows in a block of its own. -/
def LinPost (w : World) (r : Option (List Int)) (e : Ending) (w' : World) : Prop :=
  ∃ v, e = .returned (.tuple #[.agg #[v], .bool r.isSome]) ∧ OwnI w' w.heap.size v (r.getD []) ∧ Below w.heap.size w w'
theorem own_nil (w : World) (base : Nat) : OwnI w base (.slice none 0 0) [] := World.ownsRow_nil _ _ _ _
theorem OwnI.forms {w : World} {base : Nat} {v : Value} {zs : List Int} (h : OwnI w base v zs) : ∃ a cap, v = .slice a zs.length cap := by
  rcases Go.Joins.ownsRow_forms h with ⟨rfl, h0⟩ | ⟨g, cap, rfl⟩
  · exact ⟨none, 0, by rw [h0]⟩
  · exact ⟨_, _, rfl⟩
theorem OwnI.below {w w' : World} {base B : Nat} {v : Value} {zs : List Int} (h : OwnI w base v zs) (hb : Below B w w') (hB : B = w.heap.size) : OwnI w' base v zs := own_below h hb hB
theorem OwnI.set {w : World} {base : Nat} {v : Value} {zs : List Int} (h : OwnI w base v zs) {a : Addr} (ha : a.block < base) (u : Value) : OwnI (w.setCell a u) base v zs := ownsRow_setCell_below h ha u
theorem OwnI.le {w : World} {base base' : Nat} {v : Value} {zs : List Int} (h : OwnI w base v zs) (hb : base' ≤ base) : OwnI w base' v zs := own_le h hb

def idLin (n : Int) : Option (List Int) := if inB n 1 5 then some (idRows n.toNat) else none
theorem idLin_len (n : Int) : ((idLin n).getD []).length ≤ 1000000 := by
  unfold idLin; split
  · simp [idRows_len]; have h2 : 1 ≤ n ∧ n ≤ 5 := by simpa [inB] using (by assumption : inB n 1 5 = true)
    omega
  · simp
theorem OwnI.lt {w : World} {base : Nat} {v : Value} {zs : List Int} (h : OwnI w base v zs) : ∀ k, v.ownBlock = some k → base ≤ k ∧ k < w.heap.size := World.ownsRow.lt h
end Go.Proofs.Ytjdffjnennodaaa
namespace Go.Proofs.Ytjdffjnennodaaa
set_option linter.unusedSimpArgs false
set_option linter.unusedVariables false
set_option linter.unnecessarySimpa false
set_option maxRecDepth 200000
open Go.ChangeShapes Go.WideShapes Go.ChangeAt Go.RowKit Go.Joins

def InI64 (zs : List Int) : Prop := ∀ z ∈ zs, -9223372036854775808 ≤ z ∧ z ≤ 9223372036854775807
def IsIntS (w : World) (v : Value) : Prop := ∃ zs : List Int, RdI w v zs ∧ InI64 zs
theorem addr_none {w : World} {a : Addr} {u : Value} (h : w.cell? a = some u) : a.spot = none := by
  unfold World.cell? at h
  split at h
  · split at h
    · cases h
    · rename_i hs; simpa using hs
  · cases h
section
variable {H : Type} {enc : TypeId × Value → H} {W : World} {base : Nat} {spare : Nat → Bool} {held : Bool} {r : Reach} {b0 : Nat}
theorem cellIntS_of {n : Nat} {t e : TypeId} {v : Value} {y : DataW H × List MemPlace} (ht : Try.prog.underlying t = some (.slice e)) (he : Try.prog.underlying e = some (.int .i64)) (hc : Try.prog.cellsOf e = 1) (h : DataW.trod enc Try.prog W base spare held n t [v] = some y) : IsIntS W v := by
  rcases open_ints ht he hc h with ⟨hv, _⟩ | ⟨a, len, cap, zs, hv, _, hlc, hcm, hzl, _, hcell, hwf⟩
  · simp at hv; subst hv
    exact ⟨[], ⟨rfl, .inl ⟨⟨_, _, rfl⟩, rfl⟩⟩, fun z hz => by cases hz⟩
  · simp at hv; subst hv
    have hle : len ≤ zs.length := by rw [hzl]; split <;> omega
    have hrange : InI64 (zs.take len) := fun z hz => i64_range (hwf z (List.mem_of_mem_take hz))
    have hlen : (zs.take len).length = len := by simp; omega
    rcases Nat.eq_zero_or_pos len with h0 | h0
    · subst h0
      exact ⟨[], ⟨rfl, .inl ⟨⟨_, _, rfl⟩, rfl⟩⟩, fun z hz => by cases hz⟩
    · have c0 := hcell 0 (by omega)
      have hs : a.spot = none := by simpa [Addr.add] using addr_none c0
      obtain ⟨b, off, sp⟩ := a
      simp at hs; subst hs
      refine ⟨zs.take len, ⟨by simp, .inr ⟨b, off, cap, by rw [hlen], World.block_lt_of_cell? _ _ c0, by omega, by simpa [maxLen] using hcm, fun j u hj => ?_⟩⟩, hrange⟩
      have hj' := (List.getElem?_eq_some_iff.1 hj).1
      simp at hj'
      have := hcell j (by omega)
      rw [Addr.add_lit] at this
      rw [this, ← hj]
      have h2 : j < zs.length := by omega
      have h3 : j < len := by omega
      simp [List.getElem?_take, h3, List.getD, List.getElem?_eq_getElem h2]
end

theorem fill_step {xs ys : List Value} {k : Nat} (h : k < xs.length) (hl : xs.length = ys.length) : (xs.take k ++ ys.drop k).set k xs[k] = xs.take (k + 1) ++ ys.drop (k + 1) := by
  have hk : (xs.take k).length = k := by simp; omega
  have e : ys.drop k = ys[k]'(by omega) :: ys.drop (k + 1) := by rw [List.drop_eq_getElem_cons (by omega)]
  rw [List.set_append_right _ _ (by omega), hk, Nat.sub_self, e, List.set_cons_zero, List.take_succ_eq_append_getElem h, List.append_assoc]
  rfl
theorem fill_end {xs ys : List Value} {k : Nat} (h : xs.length ≤ k) (hl : xs.length = ys.length) : xs.take k ++ ys.drop k = xs := by
  rw [List.take_of_length_le h, List.drop_eq_nil_of_le (by omega), List.append_nil]
end Go.Proofs.Ytjdffjnennodaaa
