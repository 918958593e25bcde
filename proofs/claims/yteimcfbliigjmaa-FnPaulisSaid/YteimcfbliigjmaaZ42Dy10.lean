/- The program's cell of a letter for two bits. -/
import Derived.Test.YteimcfbliigjmaaZ35Dy9
import Derived.Test.YteimcfbliigjmaaZ41Fp6
import Derived.BigRegion
import Derived.BigQuiet
import Derived.Maps.OwnOps
namespace Go.Proofs.Yteimcfbliigjmaa
set_option linter.unusedSimpArgs false
set_option linter.unusedVariables false
set_option linter.unnecessarySimpa false
set_option maxRecDepth 200000
open Go.ChangeShapes Go.WideShapes Go.ChangeAt Go.RowKit Go.Maps

/-- The number of a code: zero (4) or a power of i. -/
def cod (c : Nat) : Dy := if c = 4 then whl 0 else phs (2 * c)
theorem byte_law : Keyed Try.prog 5 := int_keyed Try.underlying5
theorem Em.letter (w : World) : Em (H := Unit) w ((w.alloc (.cells #[.int .i64 0, .int .i64 0, .int .i64 0, .int .i64 0, .int .i64 0] 60)).alloc (.map #[] 0))
    [(w.heap.size, [.int .i64 0, .int .i64 0, .int .i64 0, .int .i64 0, .int .i64 0])] 5 3 (w.heap.size + 1) 0 (.map []) := by
  refine ⟨((Sb.nil w).push [.int .i64 0, .int .i64 0, .int .i64 0, .int .i64 0, .int .i64 0] 60 rfl).alloc (.map #[] 0), ?_, by omega, ?_⟩
  · have h := World.ownsMap_made (H := Unit) (w.alloc (.cells #[.int .i64 0, .int .i64 0, .int .i64 0, .int .i64 0, .int .i64 0] 60)) Try.prog 5 (plainElem Try.prog 3)
    simpa using h
  · intro p hp
    simp only [List.mem_cons, List.not_mem_nil, or_false] at hp
    rcases hp with rfl; (dsimp only; omega)
def letD : DataW Unit := (((DataW.map []).put (.int .u8 88) (.lit (.int .i64 2))).put (.int .u8 89) (.lit (.int .i64 3))).put (.int .u8 90) (.lit (.int .i64 4))
theorem lookL0 {c : Int} (h : letD.atKey (.int .u8 73) (.lit (.int .i64 0)) = .lit (.int .i64 c)) : c = 0 := by
  rw [show letD.atKey (.int .u8 73) (.lit (.int .i64 0)) = .lit (.int .i64 0) from by kernel_rfl] at h; injection h with h; injection h with _ h; exact h.symm
theorem lookL1 {c : Int} (h : letD.atKey (.int .u8 88) (.lit (.int .i64 0)) = .lit (.int .i64 c)) : c = 2 := by
  rw [show letD.atKey (.int .u8 88) (.lit (.int .i64 0)) = .lit (.int .i64 2) from by kernel_rfl] at h; injection h with h; injection h with _ h; exact h.symm
theorem lookL2 {c : Int} (h : letD.atKey (.int .u8 90) (.lit (.int .i64 0)) = .lit (.int .i64 c)) : c = 4 := by
  rw [show letD.atKey (.int .u8 90) (.lit (.int .i64 0)) = .lit (.int .i64 4) from by kernel_rfl] at h; injection h with h; injection h with _ h; exact h.symm
theorem lookL3 {c : Int} (h : letD.atKey (.int .u8 89) (.lit (.int .i64 0)) = .lit (.int .i64 c)) : c = 3 := by
  rw [show letD.atKey (.int .u8 89) (.lit (.int .i64 0)) = .lit (.int .i64 3) from by kernel_rfl] at h; injection h with h; injection h with _ h; exact h.symm
theorem fac_cod : ∀ l : Fin 4, ∀ i : Fin 2, ∀ j : Fin 2, l.val ≠ 0 → entD (if l.val = 1 then 2 else if l.val = 2 then 4 else 3) i.val j.val = cod (facU l.val i.val j.val) := by decide +kernel
set_option maxHeartbeats 16000000 in
theorem impl_factor_ok (l i j : Nat) (w : World) (hl : l ≤ 3) (hi : i ≤ 1) (hj : j ≤ 1) :
    Calls Try.prog 29 #[.int .u8 ((letB l : Nat) : Int), .int .i64 (i : Int), .int .i64 (j : Int)] w fun r w' => r = .returned (cod (facU l i j)).v ∧ Below w.heap.size w w' := by
  have E := Lib.hid (Em.letter w)
  have hmm := @run_makeMap Try.prog
  rcases (show l = 0 ∨ l = 1 ∨ l = 2 ∨ l = 3 by omega) with rfl | rfl | rfl | rfl
  · rw [show letB 0 = 73 from rfl]
    rcases (show i = 0 ∨ i = 1 by omega) with rfl | rfl <;> rcases (show j = 0 ∨ j = 1 by omega) with rfl | rfl
    · rw [show cod (facU 0 0 0) = whl 1 from rfl]
      go_enter Try.func29, Try.ntmps29
      go_wp2_with (first | (refine wpList_insert_own _ rfl _ _ _ 83 rfl 5 3 byte_law Try.underlying83 (plainElem Try.prog 3) (w.heap.size + 1) _ _ rfl E.out.own (by unfold maxLen; omega) _ _ _ rfl rfl (keyOf_int_mk Try.underlying5 (by decide)) _ [] (plainElem_int Try.underlying3 (by decide)) ?_; intro w1 hown1 hg1; replace E := Lib.hid (E.out.step hown1 hg1); clear hown1 hg1; obtain ⟨⟨c0, c1, c2, c3, c4⟩, f0, f1, f2, f3, f4⟩ := (E.out.bx.at 0 rfl).c5) | (at_lookup; refine wpList_lookup_own_int _ rfl _ _ 83 rfl 5 3 .i64 byte_law Try.underlying83 Try.underlying3 (zero_int _) (w.heap.size + 1) _ _ rfl E.out.own _ _ rfl (keyOf_int_mk (a := 73) Try.underlying5 (by decide)) ?_; intro c hat hwc; obtain rfl := lookL0 hat; clear hat hwc))
      clear c0 c1 c2 c3 c4 f0 f1 f2 f3 f4
      refine (impl_small_ok true _).mono ?_; rintro e2 w2 ⟨rfl, hb2⟩
      replace E := Lib.hid (E.out.call hb2)
      clear hb2
      go_wp2_with fail
      refine (impl_whole_ok 1 _).mono ?_; rintro e2 w3 ⟨rfl, hb3⟩
      replace E := Lib.hid (E.out.call hb3)
      clear hb3
      rw [show (whl 1).v = (.agg #[.int .i64 1, .int .i64 0, .int .i64 0, .int .i64 0, .int .i64 0] : Value) from rfl]
      obtain ⟨⟨c0, c1, c2, c3, c4⟩, f0, f1, f2, f3, f4⟩ := (E.out.bx.at 0 rfl).c5
      have S9 := Lib.hid (((((E.out.bx.set0 0 (.int .i64 1)).set0 1 (.int .i64 0)).set0 2 (.int .i64 0)).set0 3 (.int .i64 0)).set0 4 (.int .i64 0))
      go_wp2_with fail
      clear c0 c1 c2 c3 c4 f0 f1 f2 f3 f4
      generalize ((((w3.setCell ⟨w.heap.size, 0, none⟩ (.int .i64 1)).setCell ⟨w.heap.size, 1, none⟩ (.int .i64 0)).setCell ⟨w.heap.size, 2, none⟩ (.int .i64 0)).setCell ⟨w.heap.size, 3, none⟩ (.int .i64 0)).setCell ⟨w.heap.size, 4, none⟩ (.int .i64 0) = w9 at *
      obtain ⟨⟨c0, c1, c2, c3, c4⟩, _⟩ := (S9.out.at 0 rfl).c5
      refine bodyPost_ret (v := .agg #[.int .i64 1, .int .i64 0, .int .i64 0, .int .i64 0, .int .i64 0]) (by simp [results, Try.results29, go_sem, c0, c1, c2, c3, c4]) rfl ⟨rfl, S9.out.bel⟩
    · rw [show cod (facU 0 0 1) = whl 0 from rfl]
      go_enter Try.func29, Try.ntmps29
      go_wp2_with (first | (refine wpList_insert_own _ rfl _ _ _ 83 rfl 5 3 byte_law Try.underlying83 (plainElem Try.prog 3) (w.heap.size + 1) _ _ rfl E.out.own (by unfold maxLen; omega) _ _ _ rfl rfl (keyOf_int_mk Try.underlying5 (by decide)) _ [] (plainElem_int Try.underlying3 (by decide)) ?_; intro w1 hown1 hg1; replace E := Lib.hid (E.out.step hown1 hg1); clear hown1 hg1; obtain ⟨⟨c0, c1, c2, c3, c4⟩, f0, f1, f2, f3, f4⟩ := (E.out.bx.at 0 rfl).c5) | (at_lookup; refine wpList_lookup_own_int _ rfl _ _ 83 rfl 5 3 .i64 byte_law Try.underlying83 Try.underlying3 (zero_int _) (w.heap.size + 1) _ _ rfl E.out.own _ _ rfl (keyOf_int_mk (a := 73) Try.underlying5 (by decide)) ?_; intro c hat hwc; obtain rfl := lookL0 hat; clear hat hwc))
      clear c0 c1 c2 c3 c4 f0 f1 f2 f3 f4
      refine (impl_small_ok false _).mono ?_; rintro e2 w2 ⟨rfl, hb2⟩
      replace E := Lib.hid (E.out.call hb2)
      clear hb2
      go_wp2_with fail
      refine (impl_whole_ok 0 _).mono ?_; rintro e2 w3 ⟨rfl, hb3⟩
      replace E := Lib.hid (E.out.call hb3)
      clear hb3
      rw [show (whl 0).v = (.agg #[.int .i64 0, .int .i64 0, .int .i64 0, .int .i64 0, .int .i64 0] : Value) from rfl]
      obtain ⟨⟨c0, c1, c2, c3, c4⟩, f0, f1, f2, f3, f4⟩ := (E.out.bx.at 0 rfl).c5
      have S9 := Lib.hid (((((E.out.bx.set0 0 (.int .i64 0)).set0 1 (.int .i64 0)).set0 2 (.int .i64 0)).set0 3 (.int .i64 0)).set0 4 (.int .i64 0))
      go_wp2_with fail
      clear c0 c1 c2 c3 c4 f0 f1 f2 f3 f4
      generalize ((((w3.setCell ⟨w.heap.size, 0, none⟩ (.int .i64 0)).setCell ⟨w.heap.size, 1, none⟩ (.int .i64 0)).setCell ⟨w.heap.size, 2, none⟩ (.int .i64 0)).setCell ⟨w.heap.size, 3, none⟩ (.int .i64 0)).setCell ⟨w.heap.size, 4, none⟩ (.int .i64 0) = w9 at *
      obtain ⟨⟨c0, c1, c2, c3, c4⟩, _⟩ := (S9.out.at 0 rfl).c5
      refine bodyPost_ret (v := .agg #[.int .i64 0, .int .i64 0, .int .i64 0, .int .i64 0, .int .i64 0]) (by simp [results, Try.results29, go_sem, c0, c1, c2, c3, c4]) rfl ⟨rfl, S9.out.bel⟩
    · rw [show cod (facU 0 1 0) = whl 0 from rfl]
      go_enter Try.func29, Try.ntmps29
      go_wp2_with (first | (refine wpList_insert_own _ rfl _ _ _ 83 rfl 5 3 byte_law Try.underlying83 (plainElem Try.prog 3) (w.heap.size + 1) _ _ rfl E.out.own (by unfold maxLen; omega) _ _ _ rfl rfl (keyOf_int_mk Try.underlying5 (by decide)) _ [] (plainElem_int Try.underlying3 (by decide)) ?_; intro w1 hown1 hg1; replace E := Lib.hid (E.out.step hown1 hg1); clear hown1 hg1; obtain ⟨⟨c0, c1, c2, c3, c4⟩, f0, f1, f2, f3, f4⟩ := (E.out.bx.at 0 rfl).c5) | (at_lookup; refine wpList_lookup_own_int _ rfl _ _ 83 rfl 5 3 .i64 byte_law Try.underlying83 Try.underlying3 (zero_int _) (w.heap.size + 1) _ _ rfl E.out.own _ _ rfl (keyOf_int_mk (a := 73) Try.underlying5 (by decide)) ?_; intro c hat hwc; obtain rfl := lookL0 hat; clear hat hwc))
      clear c0 c1 c2 c3 c4 f0 f1 f2 f3 f4
      refine (impl_small_ok false _).mono ?_; rintro e2 w2 ⟨rfl, hb2⟩
      replace E := Lib.hid (E.out.call hb2)
      clear hb2
      go_wp2_with fail
      refine (impl_whole_ok 0 _).mono ?_; rintro e2 w3 ⟨rfl, hb3⟩
      replace E := Lib.hid (E.out.call hb3)
      clear hb3
      rw [show (whl 0).v = (.agg #[.int .i64 0, .int .i64 0, .int .i64 0, .int .i64 0, .int .i64 0] : Value) from rfl]
      obtain ⟨⟨c0, c1, c2, c3, c4⟩, f0, f1, f2, f3, f4⟩ := (E.out.bx.at 0 rfl).c5
      have S9 := Lib.hid (((((E.out.bx.set0 0 (.int .i64 0)).set0 1 (.int .i64 0)).set0 2 (.int .i64 0)).set0 3 (.int .i64 0)).set0 4 (.int .i64 0))
      go_wp2_with fail
      clear c0 c1 c2 c3 c4 f0 f1 f2 f3 f4
      generalize ((((w3.setCell ⟨w.heap.size, 0, none⟩ (.int .i64 0)).setCell ⟨w.heap.size, 1, none⟩ (.int .i64 0)).setCell ⟨w.heap.size, 2, none⟩ (.int .i64 0)).setCell ⟨w.heap.size, 3, none⟩ (.int .i64 0)).setCell ⟨w.heap.size, 4, none⟩ (.int .i64 0) = w9 at *
      obtain ⟨⟨c0, c1, c2, c3, c4⟩, _⟩ := (S9.out.at 0 rfl).c5
      refine bodyPost_ret (v := .agg #[.int .i64 0, .int .i64 0, .int .i64 0, .int .i64 0, .int .i64 0]) (by simp [results, Try.results29, go_sem, c0, c1, c2, c3, c4]) rfl ⟨rfl, S9.out.bel⟩
    · rw [show cod (facU 0 1 1) = whl 1 from rfl]
      go_enter Try.func29, Try.ntmps29
      go_wp2_with (first | (refine wpList_insert_own _ rfl _ _ _ 83 rfl 5 3 byte_law Try.underlying83 (plainElem Try.prog 3) (w.heap.size + 1) _ _ rfl E.out.own (by unfold maxLen; omega) _ _ _ rfl rfl (keyOf_int_mk Try.underlying5 (by decide)) _ [] (plainElem_int Try.underlying3 (by decide)) ?_; intro w1 hown1 hg1; replace E := Lib.hid (E.out.step hown1 hg1); clear hown1 hg1; obtain ⟨⟨c0, c1, c2, c3, c4⟩, f0, f1, f2, f3, f4⟩ := (E.out.bx.at 0 rfl).c5) | (at_lookup; refine wpList_lookup_own_int _ rfl _ _ 83 rfl 5 3 .i64 byte_law Try.underlying83 Try.underlying3 (zero_int _) (w.heap.size + 1) _ _ rfl E.out.own _ _ rfl (keyOf_int_mk (a := 73) Try.underlying5 (by decide)) ?_; intro c hat hwc; obtain rfl := lookL0 hat; clear hat hwc))
      clear c0 c1 c2 c3 c4 f0 f1 f2 f3 f4
      refine (impl_small_ok true _).mono ?_; rintro e2 w2 ⟨rfl, hb2⟩
      replace E := Lib.hid (E.out.call hb2)
      clear hb2
      go_wp2_with fail
      refine (impl_whole_ok 1 _).mono ?_; rintro e2 w3 ⟨rfl, hb3⟩
      replace E := Lib.hid (E.out.call hb3)
      clear hb3
      rw [show (whl 1).v = (.agg #[.int .i64 1, .int .i64 0, .int .i64 0, .int .i64 0, .int .i64 0] : Value) from rfl]
      obtain ⟨⟨c0, c1, c2, c3, c4⟩, f0, f1, f2, f3, f4⟩ := (E.out.bx.at 0 rfl).c5
      have S9 := Lib.hid (((((E.out.bx.set0 0 (.int .i64 1)).set0 1 (.int .i64 0)).set0 2 (.int .i64 0)).set0 3 (.int .i64 0)).set0 4 (.int .i64 0))
      go_wp2_with fail
      clear c0 c1 c2 c3 c4 f0 f1 f2 f3 f4
      generalize ((((w3.setCell ⟨w.heap.size, 0, none⟩ (.int .i64 1)).setCell ⟨w.heap.size, 1, none⟩ (.int .i64 0)).setCell ⟨w.heap.size, 2, none⟩ (.int .i64 0)).setCell ⟨w.heap.size, 3, none⟩ (.int .i64 0)).setCell ⟨w.heap.size, 4, none⟩ (.int .i64 0) = w9 at *
      obtain ⟨⟨c0, c1, c2, c3, c4⟩, _⟩ := (S9.out.at 0 rfl).c5
      refine bodyPost_ret (v := .agg #[.int .i64 1, .int .i64 0, .int .i64 0, .int .i64 0, .int .i64 0]) (by simp [results, Try.results29, go_sem, c0, c1, c2, c3, c4]) rfl ⟨rfl, S9.out.bel⟩
  · rw [show letB 1 = 88 from rfl]
    have hf := fac_cod ⟨1, by decide⟩ ⟨i, by omega⟩ ⟨j, by omega⟩ (by decide)
    have CE := Lib.hid (fun W => impl_entry_ok 2 i j W (by decide) (by decide) hi hj)
    rw [show entD 2 i j = cod (facU 1 i j) from hf] at CE
    clear hf
    generalize cod (facU 1 i j) = D at *
    obtain ⟨⟨da, db, dc, dd⟩, de⟩ := D
    dsimp only [Dy.v] at CE ⊢
    go_enter Try.func29, Try.ntmps29
    go_wp2_with (first | (refine wpList_insert_own _ rfl _ _ _ 83 rfl 5 3 byte_law Try.underlying83 (plainElem Try.prog 3) (w.heap.size + 1) _ _ rfl E.out.own (by unfold maxLen; omega) _ _ _ rfl rfl (keyOf_int_mk Try.underlying5 (by decide)) _ [] (plainElem_int Try.underlying3 (by decide)) ?_; intro w1 hown1 hg1; replace E := Lib.hid (E.out.step hown1 hg1); clear hown1 hg1; obtain ⟨⟨c0, c1, c2, c3, c4⟩, f0, f1, f2, f3, f4⟩ := (E.out.bx.at 0 rfl).c5) | (at_lookup; refine wpList_lookup_own_int _ rfl _ _ 83 rfl 5 3 .i64 byte_law Try.underlying83 Try.underlying3 (zero_int _) (w.heap.size + 1) _ _ rfl E.out.own _ _ rfl (keyOf_int_mk (a := 88) Try.underlying5 (by decide)) ?_; intro c hat hwc; obtain rfl := lookL1 hat; clear hat hwc))
    clear c0 c1 c2 c3 c4 f0 f1 f2 f3 f4
    refine (CE.out _).mono ?_; rintro e2 w2 ⟨rfl, hb2⟩
    replace E := Lib.hid (E.out.call hb2)
    clear hb2 CE
    obtain ⟨⟨c0, c1, c2, c3, c4⟩, f0, f1, f2, f3, f4⟩ := (E.out.bx.at 0 rfl).c5
    have S9 := Lib.hid (((((E.out.bx.set0 0 (.int .i64 da)).set0 1 (.int .i64 db)).set0 2 (.int .i64 dc)).set0 3 (.int .i64 dd)).set0 4 (.int .i64 (de : Int)))
    go_wp2_with fail
    clear c0 c1 c2 c3 c4 f0 f1 f2 f3 f4
    generalize ((((w2.setCell ⟨w.heap.size, 0, none⟩ (.int .i64 da)).setCell ⟨w.heap.size, 1, none⟩ (.int .i64 db)).setCell ⟨w.heap.size, 2, none⟩ (.int .i64 dc)).setCell ⟨w.heap.size, 3, none⟩ (.int .i64 dd)).setCell ⟨w.heap.size, 4, none⟩ (.int .i64 (de : Int)) = w9 at *
    obtain ⟨⟨c0, c1, c2, c3, c4⟩, _⟩ := (S9.out.at 0 rfl).c5
    refine bodyPost_ret (v := .agg #[.int .i64 da, .int .i64 db, .int .i64 dc, .int .i64 dd, .int .i64 (de : Int)]) (by simp [results, Try.results29, go_sem, c0, c1, c2, c3, c4]) rfl ⟨rfl, S9.out.bel⟩
  · rw [show letB 2 = 90 from rfl]
    have hf := fac_cod ⟨2, by decide⟩ ⟨i, by omega⟩ ⟨j, by omega⟩ (by decide)
    have CE := Lib.hid (fun W => impl_entry_ok 4 i j W (by decide) (by decide) hi hj)
    rw [show entD 4 i j = cod (facU 2 i j) from hf] at CE
    clear hf
    generalize cod (facU 2 i j) = D at *
    obtain ⟨⟨da, db, dc, dd⟩, de⟩ := D
    dsimp only [Dy.v] at CE ⊢
    go_enter Try.func29, Try.ntmps29
    go_wp2_with (first | (refine wpList_insert_own _ rfl _ _ _ 83 rfl 5 3 byte_law Try.underlying83 (plainElem Try.prog 3) (w.heap.size + 1) _ _ rfl E.out.own (by unfold maxLen; omega) _ _ _ rfl rfl (keyOf_int_mk Try.underlying5 (by decide)) _ [] (plainElem_int Try.underlying3 (by decide)) ?_; intro w1 hown1 hg1; replace E := Lib.hid (E.out.step hown1 hg1); clear hown1 hg1; obtain ⟨⟨c0, c1, c2, c3, c4⟩, f0, f1, f2, f3, f4⟩ := (E.out.bx.at 0 rfl).c5) | (at_lookup; refine wpList_lookup_own_int _ rfl _ _ 83 rfl 5 3 .i64 byte_law Try.underlying83 Try.underlying3 (zero_int _) (w.heap.size + 1) _ _ rfl E.out.own _ _ rfl (keyOf_int_mk (a := 90) Try.underlying5 (by decide)) ?_; intro c hat hwc; obtain rfl := lookL2 hat; clear hat hwc))
    clear c0 c1 c2 c3 c4 f0 f1 f2 f3 f4
    refine (CE.out _).mono ?_; rintro e2 w2 ⟨rfl, hb2⟩
    replace E := Lib.hid (E.out.call hb2)
    clear hb2 CE
    obtain ⟨⟨c0, c1, c2, c3, c4⟩, f0, f1, f2, f3, f4⟩ := (E.out.bx.at 0 rfl).c5
    have S9 := Lib.hid (((((E.out.bx.set0 0 (.int .i64 da)).set0 1 (.int .i64 db)).set0 2 (.int .i64 dc)).set0 3 (.int .i64 dd)).set0 4 (.int .i64 (de : Int)))
    go_wp2_with fail
    clear c0 c1 c2 c3 c4 f0 f1 f2 f3 f4
    generalize ((((w2.setCell ⟨w.heap.size, 0, none⟩ (.int .i64 da)).setCell ⟨w.heap.size, 1, none⟩ (.int .i64 db)).setCell ⟨w.heap.size, 2, none⟩ (.int .i64 dc)).setCell ⟨w.heap.size, 3, none⟩ (.int .i64 dd)).setCell ⟨w.heap.size, 4, none⟩ (.int .i64 (de : Int)) = w9 at *
    obtain ⟨⟨c0, c1, c2, c3, c4⟩, _⟩ := (S9.out.at 0 rfl).c5
    refine bodyPost_ret (v := .agg #[.int .i64 da, .int .i64 db, .int .i64 dc, .int .i64 dd, .int .i64 (de : Int)]) (by simp [results, Try.results29, go_sem, c0, c1, c2, c3, c4]) rfl ⟨rfl, S9.out.bel⟩
  · rw [show letB 3 = 89 from rfl]
    have hf := fac_cod ⟨3, by decide⟩ ⟨i, by omega⟩ ⟨j, by omega⟩ (by decide)
    have CE := Lib.hid (fun W => impl_entry_ok 3 i j W (by decide) (by decide) hi hj)
    rw [show entD 3 i j = cod (facU 3 i j) from hf] at CE
    clear hf
    generalize cod (facU 3 i j) = D at *
    obtain ⟨⟨da, db, dc, dd⟩, de⟩ := D
    dsimp only [Dy.v] at CE ⊢
    go_enter Try.func29, Try.ntmps29
    go_wp2_with (first | (refine wpList_insert_own _ rfl _ _ _ 83 rfl 5 3 byte_law Try.underlying83 (plainElem Try.prog 3) (w.heap.size + 1) _ _ rfl E.out.own (by unfold maxLen; omega) _ _ _ rfl rfl (keyOf_int_mk Try.underlying5 (by decide)) _ [] (plainElem_int Try.underlying3 (by decide)) ?_; intro w1 hown1 hg1; replace E := Lib.hid (E.out.step hown1 hg1); clear hown1 hg1; obtain ⟨⟨c0, c1, c2, c3, c4⟩, f0, f1, f2, f3, f4⟩ := (E.out.bx.at 0 rfl).c5) | (at_lookup; refine wpList_lookup_own_int _ rfl _ _ 83 rfl 5 3 .i64 byte_law Try.underlying83 Try.underlying3 (zero_int _) (w.heap.size + 1) _ _ rfl E.out.own _ _ rfl (keyOf_int_mk (a := 89) Try.underlying5 (by decide)) ?_; intro c hat hwc; obtain rfl := lookL3 hat; clear hat hwc))
    clear c0 c1 c2 c3 c4 f0 f1 f2 f3 f4
    refine (CE.out _).mono ?_; rintro e2 w2 ⟨rfl, hb2⟩
    replace E := Lib.hid (E.out.call hb2)
    clear hb2 CE
    obtain ⟨⟨c0, c1, c2, c3, c4⟩, f0, f1, f2, f3, f4⟩ := (E.out.bx.at 0 rfl).c5
    have S9 := Lib.hid (((((E.out.bx.set0 0 (.int .i64 da)).set0 1 (.int .i64 db)).set0 2 (.int .i64 dc)).set0 3 (.int .i64 dd)).set0 4 (.int .i64 (de : Int)))
    go_wp2_with fail
    clear c0 c1 c2 c3 c4 f0 f1 f2 f3 f4
    generalize ((((w2.setCell ⟨w.heap.size, 0, none⟩ (.int .i64 da)).setCell ⟨w.heap.size, 1, none⟩ (.int .i64 db)).setCell ⟨w.heap.size, 2, none⟩ (.int .i64 dc)).setCell ⟨w.heap.size, 3, none⟩ (.int .i64 dd)).setCell ⟨w.heap.size, 4, none⟩ (.int .i64 (de : Int)) = w9 at *
    obtain ⟨⟨c0, c1, c2, c3, c4⟩, _⟩ := (S9.out.at 0 rfl).c5
    refine bodyPost_ret (v := .agg #[.int .i64 da, .int .i64 db, .int .i64 dc, .int .i64 dd, .int .i64 (de : Int)]) (by simp [results, Try.results29, go_sem, c0, c1, c2, c3, c4]) rfl ⟨rfl, S9.out.bel⟩
end Go.Proofs.Yteimcfbliigjmaa
