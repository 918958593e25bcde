/- What the arguments of the laws look like as values: integers, strings and plain structs. -/
import Derived.Test.YtbcjligkjoimmaaZ00M
import Derived.Deep.Light
namespace Go.Proofs.Ytbcjligkjoimmaa
set_option linter.unusedSimpArgs false
set_option linter.unusedVariables false
set_option linter.unnecessarySimpa false
set_option maxRecDepth 200000
open Go.ChangeShapes Go.WideShapes Go.ChangeAt Go.RowKit Go.Joins
open Go.ChangeMaps (open_string shut_string)

def IsInt (v : Value) : Prop := ∃ n : Int, v = .int .i64 n ∧ -9223372036854775808 ≤ n ∧ n ≤ 9223372036854775807
def IsStr (v : Value) : Prop := ∃ s : ByteArray, v = .string s ∧ s.size ≤ 9223372036854775807
def IsBool (v : Value) : Prop := ∃ b : Bool, v = .bool b

section
variable {H : Type} {enc : TypeId × Value → H} {W : World} {base : Nat} {spare : Nat → Bool} {held : Bool} {r : Reach} {b0 : Nat}

theorem i64_range {n : Int} (h : (Lit.int .i64 n).wf = true) : -9223372036854775808 ≤ n ∧ n ≤ 9223372036854775807 := by
  have h := h
  simp [Lit.wf, IntKind.min, IntKind.max, IntKind.signed, IntKind.bits] at h
  omega

theorem isInt_of {t : TypeId} (ht : Try.prog.underlying t = some (.int .i64)) {v : Value} {d : DataW H} {p : List MemPlace} (hv : Value.okWide Try.prog W r b0 t v) (h : DataW.Trod enc Try.prog W base spare held t v d p) : IsInt v := by
  obtain ⟨n, rfl, rfl, rfl, hw⟩ := open_int ht hv h
  exact ⟨n, rfl, i64_range hw⟩
theorem isStr_of {t : TypeId} (ht : Try.prog.underlying t = some .string) {v : Value} {d : DataW H} {p : List MemPlace} (hv : Value.okWide Try.prog W r b0 t v) (h : DataW.Trod enc Try.prog W base spare held t v d p) : IsStr v := by
  obtain ⟨s, rfl, rfl, rfl, hs⟩ := open_string ht hv h
  exact ⟨s, rfl, by simpa [maxLen] using hs⟩
theorem isBool_of {t : TypeId} (ht : Try.prog.underlying t = some .bool) {v : Value} {d : DataW H} {p : List MemPlace} (hv : Value.okWide Try.prog W r b0 t v) (h : DataW.Trod enc Try.prog W base spare held t v d p) : IsBool v := by
  obtain ⟨b, rfl, rfl, rfl⟩ := open_bool ht hv h
  exact ⟨b, rfl⟩
theorem cellInt_of {n : Nat} {t : TypeId} (ht : Try.prog.underlying t = some (.int .i64)) {v : Value} {y : DataW H × List MemPlace} (h : DataW.trod enc Try.prog W base spare held n t [v] = some y) : IsInt v := by
  obtain ⟨k, e, _, hw⟩ := DataW.trod_int ht h
  simp at e
  exact ⟨k, e, i64_range hw⟩
theorem cellStr_of {n : Nat} {t : TypeId} (ht : Try.prog.underlying t = some .string) {v : Value} {y : DataW H × List MemPlace} (h : DataW.trod enc Try.prog W base spare held n t [v] = some y) : IsStr v := by
  obtain ⟨k, e, _, hw⟩ := DataW.trod_string ht h
  simp at e
  exact ⟨k, e, by simpa [maxLen] using hw⟩

end
end Go.Proofs.Ytbcjligkjoimmaa
namespace Go.Proofs.Ytbcjligkjoimmaa
set_option linter.unusedSimpArgs false
set_option linter.unusedVariables false
set_option linter.unnecessarySimpa false
set_option maxRecDepth 200000
open Go.ChangeShapes Go.WideShapes Go.ChangeAt Go.RowKit

def inB (n lo hi : Int) : Bool := decide (lo ≤ n) && decide (n ≤ hi)

theorem within_any (n lo hi : Int) (w : World) :
    Calls Try.prog 58 #[.int .i64 n, .int .i64 lo, .int .i64 hi] w fun e w' => e = .returned (.bool (inB n lo hi)) ∧ w = w' := by
  by_cases h1 : lo ≤ n
  · go_enter Try.func58, Try.ntmps58
    go_wp2
    go_ret
    exact ⟨by simp [inB, h1], rfl⟩
  · go_enter Try.func58, Try.ntmps58
    go_wp2
    go_ret
    exact ⟨by simp [inB]; omega, rfl⟩

theorem l1In_any (n lo hi : Int) (w : World) :
    Calls Try.prog 43 #[.int .i64 n, .int .i64 lo, .int .i64 hi] w fun e w' => e = .returned (.bool (inB n lo hi)) ∧ w = w' := by
  by_cases h1 : lo ≤ n
  · go_enter Try.func43, Try.ntmps43
    go_wp2
    go_ret
    exact ⟨by simp [inB, h1], rfl⟩
  · go_enter Try.func43, Try.ntmps43
    go_wp2
    go_ret
    exact ⟨by simp [inB]; omega, rfl⟩

theorem count_wrap (n : Int) (h0 : 0 ≤ n) (h1 : n ≤ 20) : wrap64 (72 * 2 ^ (n.toNat - 1)) = 72 * 2 ^ (n.toNat - 1) := by
  obtain ⟨k, rfl⟩ := Int.eq_ofNat_of_zero_le h0
  rw [Int.toNat_natCast]
  have h : ∀ k : Nat, k < 21 → wrap64 (72 * 2 ^ (k - 1)) = 72 * 2 ^ (k - 1) := by decide +kernel
  exact h k (by omega)

def countF (n : Int) : Int := if n = 0 then 24 else 72 * 2 ^ (n.toNat - 1)
end Go.Proofs.Ytbcjligkjoimmaa
namespace Go.Proofs.Ytbcjligkjoimmaa
set_option linter.unusedSimpArgs false
set_option linter.unusedVariables false
set_option linter.unnecessarySimpa false
set_option maxRecDepth 200000
open Go.ChangeShapes Go.WideShapes Go.ChangeAt Go.RowKit

theorem within_p (n lo hi : Int) (w : World) :
    Calls Try.prog 58 #[.int .i64 n, .int .i64 lo, .int .i64 hi] w fun e w' => e = .returned (.bool (decide (lo ≤ n ∧ n ≤ hi))) ∧ w = w' :=
  (within_any n lo hi w).mono fun _ _ ⟨h, h'⟩ => ⟨by rw [h]; simp [inB], h'⟩
theorem l1In_p (n lo hi : Int) (w : World) :
    Calls Try.prog 43 #[.int .i64 n, .int .i64 lo, .int .i64 hi] w fun e w' => e = .returned (.bool (decide (lo ≤ n ∧ n ≤ hi))) ∧ w = w' :=
  (l1In_any n lo hi w).mono fun _ _ ⟨h, h'⟩ => ⟨by rw [h]; simp [inB], h'⟩

def IsDim (n : Int) : Prop := n = 2 ∨ n = 4 ∨ n = 8
instance (n : Int) : Decidable (IsDim n) := by unfold IsDim; infer_instance
def TLok (n k i j m : Int) : Prop := IsDim n ∧ 0 ≤ i ∧ i ≤ n - 1 ∧ 0 ≤ j ∧ j ≤ n - 1 ∧ ((k = 1 ∧ j = 0 ∧ 1 ≤ m ∧ m ≤ 7) ∨ (k = 2 ∧ i < j ∧ m = 0) ∨ (k = 3 ∧ i < j ∧ 0 ≤ m ∧ m ≤ 7))
instance (n k i j m : Int) : Decidable (TLok n k i j m) := by unfold TLok; infer_instance


theorem tl_dim {n k i j m : Int} (h : ¬ IsDim n) : false = decide (TLok n k i j m) := by simp [TLok, h]
theorem dim_range {n : Int} (h : IsDim n) : 1 ≤ n ∧ n ≤ 8 := by unfold IsDim at h; omega

end Go.Proofs.Ytbcjligkjoimmaa
namespace Go.Proofs.Ytbcjligkjoimmaa
set_option linter.unusedSimpArgs false
set_option linter.unusedVariables false
set_option linter.unnecessarySimpa false
set_option maxRecDepth 200000
open Go.ChangeShapes Go.WideShapes Go.ChangeAt Go.RowKit

def allIn (zs : List Int) (lo hi : Int) : Bool := zs.all fun z => decide (lo ≤ z ∧ z ≤ hi)
theorem allIn_step {zs : List Int} {lo hi : Int} {k : Nat} (h : Hid (allIn (zs.take k) lo hi = true)) (hk : k < zs.length) (h1 : lo ≤ zs.getD k 0 ∧ zs.getD k 0 ≤ hi) : Hid (allIn (zs.take (k + 1)) lo hi = true) := by
  have h := h.out
  show allIn _ lo hi = true
  rw [take_next zs k hk]
  simp [allIn, List.all_append] at h ⊢
  exact ⟨h, by simpa using h1⟩
theorem allIn_fail {zs : List Int} {lo hi : Int} {k : Nat} (hk : k < zs.length) (h1 : ¬ (lo ≤ zs.getD k 0 ∧ zs.getD k 0 ≤ hi)) : false = allIn zs lo hi := by
  symm
  unfold allIn
  rw [List.all_eq_false]
  exact ⟨zs.getD k 0, by simp [List.getD, hk], by simpa using h1⟩
theorem allIn_end {zs : List Int} {lo hi : Int} {k : Nat} (h : Hid (allIn (zs.take k) lo hi = true)) (hk : zs.length ≤ k) : true = allIn zs lo hi := by
  have h := h.out
  rw [List.take_of_length_le hk] at h
  exact h.symm

theorem spec_l1All_any (v : Value) (zs : List Int) (lo hi : Int) (w : World) (h : RdI w v zs) :
    Calls Try.prog 84 #[v, .int .i64 lo, .int .i64 hi] w fun e w' => e = .returned (.bool (allIn zs lo hi)) ∧ w = w' := by
  rcases h.cases with ⟨⟨a0, c0, rfl⟩, rfl⟩ | ⟨b, off, cap, rfl, hb, hl, hm, hc⟩
  · go_enter Try.func84, Try.ntmps84
    go_wp2_with fail
    refine wp_loop_rounds 1 ?_
    rw [rounds_succ]
    go_wp2_with fail
    go_ret
    exact ⟨rfl, rfl⟩
  · clear h
    go_enter Try.func84, Try.ntmps84
    go_wp2_with fail
    go_loop [11] (fun i => ∃ k : Nat, k ≤ zs.length ∧ i = .int .i64 k ∧ Hid (allIn (zs.take k) lo hi = true)) (fun i => zs.length - (intOf i).toNat)
    case atStart => exact ⟨0, Nat.zero_le _, rfl, rfl⟩
    case round =>
      obtain ⟨k, hk, rfl, hpre⟩ := hrel
      by_cases hlt : k < zs.length
      · have hcell := hc k hlt
        clear hc
        go_wp2_with (go_at_call 43; refine (l1In_p _ _ _ _).mono ?_; rintro e w' ⟨rfl, rfl⟩)
        all_goals first
          | (go_round
             case rel => exact ⟨k + 1, by omega, by go_num, allIn_step hpre hlt (by go_light; simp_all)⟩
             case measure => simp [intOf]; omega)
          | (go_ret; exact ⟨ret_bool (allIn_fail hlt (by go_light; simp_all; try omega)), rfl⟩)
      · clear hc
        go_wp2_with fail
        go_ret
        exact ⟨ret_bool (allIn_end hpre (by omega)), rfl⟩

theorem eq_step {xs ys : List Int} {k : Nat} (h : Hid (xs.take k = ys.take k)) (h1 : k < xs.length) (h2 : k < ys.length) (he : xs.getD k 0 = ys.getD k 0) : Hid (xs.take (k + 1) = ys.take (k + 1)) := by
  show _ = _
  rw [take_next xs k h1, take_next ys k h2, h.out, he]
theorem eq_fail {xs ys : List Int} {k : Nat} (he : ¬ xs.getD k 0 = ys.getD k 0) : false = decide (xs = ys) := by
  symm; rw [decide_eq_false_iff_not]; rintro rfl; exact he rfl
theorem eq_end {xs ys : List Int} {k : Nat} (h : Hid (xs.take k = ys.take k)) (h1 : xs.length ≤ k) (h2 : ys.length ≤ k) : true = decide (xs = ys) := by
  have h := h.out
  rw [List.take_of_length_le h1, List.take_of_length_le h2] at h
  simp [h]
theorem laws_eqIntS_any (va vb : Value) (xs ys : List Int) (w : World) (ha : RdI w va xs) (hb : RdI w vb ys) :
    Calls Try.prog 82 #[va, vb] w fun e w' => e = .returned (.bool (decide (xs = ys))) ∧ Below w.heap.size w w' := by
  by_cases hlen : xs.length = ys.length
  · have hf : ((xs.length : Int) != (ys.length : Int)) = false := by rw [hlen]; simp
    rcases ha.cases0 with ⟨rfl, a1, cap1, rfl⟩ | ⟨hx, b1, off1, cap1, rfl, hb1, hl1, hm1, hc1⟩
    · have hy : ys = [] := List.eq_nil_of_length_eq_zero (by simpa using hlen.symm)
      subst hy
      obtain ⟨a2, cap2, rfl, _⟩ := hb.form
      clear hlen hf ha hb
      go_enter Try.func82, Try.ntmps82
      go_wp2_with fail
      refine wp_loop_rounds 1 ?_
      rw [rounds_succ]
      go_wp2_with fail
      go_ret
      exact ⟨rfl, (by repeat (first | exact Below.refl _ _ | assumption | refine Below.drew ?_ | refine below_drewN ?_ _ | refine Below.alloc ?_ (by first | omega | (simp <;> omega)) _ | refine Below.setCell ?_ (by first | omega | (simp <;> omega)) _ | refine Below.trans ?_ (Below.mono (by assumption) (by first | omega | (simp <;> omega)))))⟩
    · rcases hb.cases0 with ⟨rfl, a2, cap2, rfl⟩ | ⟨hy, b2, off2, cap2, rfl, hb2, hl2, hm2, hc2⟩
      · simp at hlen; subst hlen; simp at hx
      have hlen1 : xs.length ≤ ys.length := by omega
      have hlen2 : ys.length ≤ xs.length := by omega
      clear hlen ha hb
      go_enter Try.func82, Try.ntmps82
      go_wp2_with fail
      go_loopw [5] (fun i wr => ∃ k : Nat, k ≤ xs.length ∧ i = .int .i64 k ∧ Hid (xs.take k = ys.take k) ∧ Below w.heap.size w wr) (fun i _ => xs.length - (intOf i).toNat)
      case atStart => exact ⟨0, Nat.zero_le _, rfl, rfl, Below.refl _ _⟩
      case round =>
        obtain ⟨k, hk, rfl, hpre, hbel⟩ := hrel
        by_cases hlt : k < xs.length
        · have g1 := hc1 k hlt
          have g2 := hc2 k (by omega)
          have q1 := hbel.cell (p := ⟨b1, off1 + k, none⟩) hb1
          have q2 := hbel.cell (p := ⟨b2, off2 + k, none⟩) hb2
          rw [g1] at q1; rw [g2] at q2
          have hlt2 : k < ys.length := by omega
          have i1 : (k : Int) < (xs.length : Int) := by omega
          have i2 : (k : Int) < (ys.length : Int) := by omega
          clear hc1 hc2 g1 g2
          go_wp2_with fail
          go_quiet (fail)
          go_wp2_with fail
          all_goals first
            | (go_round
               case rel => exact ⟨k + 1, by omega, by go_num, eq_step hpre hlt hlt2 (by go_light; simp_all), (by repeat (first | exact Below.refl _ _ | assumption | refine Below.drew ?_ | refine below_drewN ?_ _ | refine Below.alloc ?_ (by first | omega | (simp <;> omega)) _ | refine Below.setCell ?_ (by first | omega | (simp <;> omega)) _ | refine Below.trans ?_ (Below.mono (by assumption) (by first | omega | (simp <;> omega)))))⟩
               case measure => simp [intOf]; omega)
            | (go_ret; exact ⟨ret_bool (eq_fail (k := k) (by go_light; simp_all)), (by repeat (first | exact Below.refl _ _ | assumption | refine Below.drew ?_ | refine below_drewN ?_ _ | refine Below.alloc ?_ (by first | omega | (simp <;> omega)) _ | refine Below.setCell ?_ (by first | omega | (simp <;> omega)) _ | refine Below.trans ?_ (Below.mono (by assumption) (by first | omega | (simp <;> omega)))))⟩)
        · clear hc1 hc2
          go_wp2_with fail
          go_ret
          exact ⟨ret_bool (eq_end hpre (by omega) (by omega)), (by repeat (first | exact Below.refl _ _ | assumption | refine Below.drew ?_ | refine below_drewN ?_ _ | refine Below.alloc ?_ (by first | omega | (simp <;> omega)) _ | refine Below.setCell ?_ (by first | omega | (simp <;> omega)) _ | refine Below.trans ?_ (Below.mono (by assumption) (by first | omega | (simp <;> omega)))))⟩
  · have hd : decide (xs = ys) = false := by rw [decide_eq_false_iff_not]; rintro rfl; exact hlen rfl
    have hne : ((xs.length : Int) != (ys.length : Int)) = true := by rw [bne_iff_ne]; omega
    rw [hd]
    obtain ⟨a1, cap1, rfl, _⟩ := ha.form
    obtain ⟨a2, cap2, rfl, _⟩ := hb.form
    clear hlen hd ha hb
    go_enter Try.func82, Try.ntmps82
    go_wp2_with fail
    go_ret
    exact ⟨rfl, (by repeat (first | exact Below.refl _ _ | assumption | refine Below.drew ?_ | refine below_drewN ?_ _ | refine Below.alloc ?_ (by first | omega | (simp <;> omega)) _ | refine Below.setCell ?_ (by first | omega | (simp <;> omega)) _ | refine Below.trans ?_ (Below.mono (by assumption) (by first | omega | (simp <;> omega)))))⟩

/-- The cells that a helper has marked: whole numbers in a row, from k on. -/
def marks (k : Int) (n : Nat) : List Value := (List.range n).map fun i : Nat => Value.int .i64 (k + i)
theorem marks_len (k : Int) (n : Nat) : (marks k n).length = n := by simp [marks]
theorem marks_get (k : Int) (n j : Nat) (h : j < n) : (marks k n)[j]? = some (.int .i64 (k + j)) := by simp [marks, h]
theorem marks_step (k : Int) (j : Nat) (xs : List Value) (h : j < xs.length) : (marks k j ++ xs.drop j).set j (.int .i64 (k + j)) = marks k (j + 1) ++ xs.drop (j + 1) := by
  have e : xs.drop j = xs[j] :: xs.drop (j + 1) := by rw [List.drop_eq_getElem_cons h]
  rw [List.set_append_right _ _ (by simp [marks_len]), marks_len, Nat.sub_self, e, List.set_cons_zero]
  simp [marks, List.range_succ]
theorem marks_cell {w : World} {base : Nat} {e : TypeId} {g n cap j sz : Nat} {xs : List Value} (h : w.ownsRow base e sz (.slice (some ⟨g, 0, none⟩) n cap) n xs) (hj : j < n * sz) : ∃ u, w.cell? ⟨g, j, none⟩ = some u := by
  rw [h.cellAt j hj]
  have := h.1
  exact ⟨xs[j], by rw [List.getElem?_eq_getElem (by omega)]⟩

theorem laws_markIntS_any (v : Value) (base n : Nat) (xs : List Value) (k : Int) (w : World) (h : w.ownsRow base 3 1 v n xs) (hk0 : 0 ≤ k) (hk1 : k + n ≤ 4611686018427387904) :
    Calls Try.prog 83 #[v, .int .i64 k] w fun e w' => e = .returned (.int .i64 (k + n)) ∧ w'.ownsRow base 3 1 v n (marks k n) ∧ w.grownBy w' v.ownBlock := by
  rcases Go.Joins.ownsRow_forms h with ⟨rfl, rfl⟩ | ⟨g, cap, rfl⟩
  · have hx : xs = [] := List.eq_nil_of_length_eq_zero (by simpa using h.1)
    subst hx
    go_enter Try.func83, Try.ntmps83
    go_wp2_with fail
    refine wp_loop_rounds 1 ?_
    rw [rounds_succ]
    go_wp2_with fail
    go_ret
    exact ⟨ret_int (by simp), h, World.grownBy.refl _ _⟩
  · have hxl : xs.length = n := by simpa using h.1
    have Hx := Lib.hid hxl; clear hxl
    have H0 : Hid (w.ownsRow base 3 1 (.slice (some ⟨g, 0, none⟩) n cap) n (marks k 0 ++ xs.drop 0)) := h
    clear h
    go_enter Try.func83, Try.ntmps83
    go_wp2_with fail
    go_loopw [1, 5] (fun q i wr => ∃ j : Nat, j ≤ n ∧ i = .int .i64 j ∧ q = .int .i64 (k + j) ∧ Hid (wr.ownsRow base 3 1 (.slice (some ⟨g, 0, none⟩) n cap) n (marks k j ++ xs.drop j)) ∧ Hid (w.grownBy wr (some g))) (fun _ i _ => n - (intOf i).toNat)
    case atStart => exact ⟨0, Nat.zero_le _, rfl, by simp, H0, World.grownBy.refl _ _⟩
    case round =>
      obtain ⟨j, hj, rfl, rfl, hown, hgr⟩ := hrel
      clear H0
      by_cases hlt : j < n
      · obtain ⟨u, hu⟩ := marks_cell hown.out (j := j) (by omega)
        have hfz := hown.out.frozenAt j
        have i1 : (j : Int) < (n : Int) := by omega
        go_wp2_with fail
        go_roundw
        case rel =>
          refine ⟨j + 1, by omega, by go_num, by go_num, ?_, ?_⟩
          · have := (hown.out.stored j (.int .i64 (k + j))).1
            rw [marks_step k j xs (by rw [Hx.out]; exact hlt)] at this
            exact this
          · have h2 := (hown.out.stored j (.int .i64 (k + j))).2
            have h1 := hgr.out
            exact ⟨h2.os.trans h1.os, h2.tape.trans h1.tape, h2.output.trans h1.output, Nat.le_trans h1.size h2.size, fun i hi hn => (h2.block i (Nat.lt_of_lt_of_le hi h1.size) hn).trans (h1.block i hi hn)⟩
        case measure => simp [intOf]; omega
      · have e : j = n := by omega
        subst e
        go_wp2_with fail
        go_ret
        refine ⟨rfl, ?_, hgr⟩
        have h1 := hown.out
        rw [List.drop_eq_nil_of_le (by rw [Hx.out]; omega), List.append_nil] at h1
        exact h1

end Go.Proofs.Ytbcjligkjoimmaa
