/- The text of a Pauli operator, in the program. -/
import Derived.Test.YteimcfbliigjmaaZ41Fp6
import Derived.BigRegion
namespace Go.Proofs.Yteimcfbliigjmaa
set_option linter.unusedSimpArgs false
set_option linter.unusedVariables false
set_option linter.unnecessarySimpa false
set_option maxRecDepth 200000
open Go.ChangeShapes Go.WideShapes Go.ChangeAt Go.RowKit

def letS (l : Nat) : ByteArray := if l = 0 then ⟨#[73]⟩ else if l = 1 then ⟨#[88]⟩ else if l = 2 then ⟨#[90]⟩ else ⟨#[89]⟩
def sgnS (p : Nat) : ByteArray := if p = 0 then ⟨#[43]⟩ else if p = 1 then ⟨#[43, 105]⟩ else if p = 2 then ⟨#[45]⟩ else ⟨#[45, 105]⟩
/-- The text of an operator's first k qubits. -/
def txtP (a : PN) : Nat → ByteArray
  | 0 => sgnS a.p
  | k + 1 => txtP a k ++ letS (ltr a k)
theorem letS_size (l : Nat) : (letS l).size = 1 := by unfold letS; (repeat' split) <;> rfl
theorem sgnS_size (l : Nat) : (sgnS l).size ≤ 2 := by unfold sgnS; (repeat' split) <;> decide
theorem txtP_size (a : PN) : ∀ k, (txtP a k).size ≤ 2 + k
  | 0 => sgnS_size _
  | k + 1 => by
    have := txtP_size a k
    unfold txtP
    rw [ByteArray.size_append, letS_size]
    omega
theorem ltr_3 (a : PN) (q : Nat) : ltr a q ≤ 3 := by unfold ltr; have := bt_le a.x q; have := bt_le a.z q; omega
theorem conv_let {W : World} {g l : Nat} (hl : l ≤ 3) (hc : W.cell? ⟨g, 0, none⟩ = some (.int .u8 ((letB l : Nat) : Int))) : (Sem.run Try.prog (convert 22 9 (Value.slice (some { block := g, off := 0 }) 1 1)) W) = .ok (.string (letS l)) W := by
  have h : l = 0 ∨ l = 1 ∨ l = 2 ∨ l = 3 := by omega
  rcases h with rfl | rfl | rfl | rfl
  · exact run_convert_bytes_back (P := Try.prog) _ 22 9 5 ⟨g, 0, none⟩ 1 [73] Try.underlying22 Try.underlying5 Try.underlying9 (fun j hj => by
      have h0 : j = 0 := by simpa using hj
      subst h0; exact hc)
  · exact run_convert_bytes_back (P := Try.prog) _ 22 9 5 ⟨g, 0, none⟩ 1 [88] Try.underlying22 Try.underlying5 Try.underlying9 (fun j hj => by
      have h0 : j = 0 := by simpa using hj
      subst h0; exact hc)
  · exact run_convert_bytes_back (P := Try.prog) _ 22 9 5 ⟨g, 0, none⟩ 1 [90] Try.underlying22 Try.underlying5 Try.underlying9 (fun j hj => by
      have h0 : j = 0 := by simpa using hj
      subst h0; exact hc)
  · exact run_convert_bytes_back (P := Try.prog) _ 22 9 5 ⟨g, 0, none⟩ 1 [89] Try.underlying22 Try.underlying5 Try.underlying9 (fun j hj => by
      have h0 : j = 0 := by simpa using hj
      subst h0; exact hc)
theorem conv_new {w : World} {l : Nat} (hl : l ≤ 3) : (Sem.run Try.prog (convert 22 9 (Value.slice (some { block := w.heap.size, off := 0 }) 1 1)) (w.alloc (Obj.cells #[Value.int IntKind.u8 ((letB l : Nat) : Int)] 5))) = .ok (.string (letS l)) (w.alloc (Obj.cells #[Value.int IntKind.u8 ((letB l : Nat) : Int)] 5)) :=
  conv_let hl (by repeat (first | (refine Eq.trans (World.cell?_alloc_at _ _ _ _ ?hh) ?_; (case hh => (simp; done)); rfl) | refine cell_alloc_keep _ ?_))
set_option maxHeartbeats 8000000 in
theorem impl_FormatPauli_ok (n : Nat) (a : PN) (w : World) (hA : pauB (n : Int) a.e = true) (hn : n ≤ 5) (ha : PNok a) :
    Calls Try.prog 8 #[.int .i64 (n : Int), .agg #[.int .i64 ((a).p : Int), .int .i64 ((a).x : Int), .int .i64 ((a).z : Int)]] w fun e w' => e = .returned (.tuple #[.string (txtP a n), .bool true]) ∧ Below w.heap.size w w' := by
  have HA := Lib.hid hA
  have OA := Lib.hid ha
  have A0 := Lib.hid (PB.new w (a.p : Int) (a.x : Int) (a.z : Int))
  have B0 := Lib.hid (show Below w.heap.size w (w.alloc (.cells #[.int .i64 ((a).p : Int), .int .i64 ((a).x : Int), .int .i64 ((a).z : Int)] 24)) from (by repeat (first | exact Below.refl _ _ | assumption | refine Below.drew ?_ | refine below_drewN ?_ _ | refine Below.alloc ?_ (by first | omega | (simp <;> omega)) _ | refine Below.setCell ?_ (by first | omega | (simp <;> omega)) _ | refine Below.trans ?_ (Below.mono (by assumption) (by first | omega | (simp <;> omega))))))
  have hs : w.heap.size < (w.alloc (.cells #[.int .i64 ((a).p : Int), .int .i64 ((a).x : Int), .int .i64 ((a).z : Int)] 24)).heap.size := by simp
  have hp : a.p = 0 ∨ a.p = 1 ∨ a.p = 2 ∨ a.p = 3 := by have := ha.p; omega
  obtain ⟨T, hT⟩ : ∃ T : Nat → ByteArray, T = txtP a := ⟨_, rfl⟩
  have HT := Lib.hid hT
  have SZ := Lib.hid (show ∀ k, (T k).size ≤ 2 + k from fun k => by rw [hT]; exact txtP_size a k)
  have TS := Lib.hid (show ∀ k, T (k + 1) = T k ++ letS (ltr a k) from fun k => by rw [hT]; rfl)
  rw [← hT]
  have T0 : T 0 = sgnS a.p := by rw [hT]; rfl
  clear hA ha hT
  have hx0 : ∀ w : World, (Instr.index 51 (.agg #[.string ⟨#[43]⟩, .string ⟨#[43, 105]⟩, .string ⟨#[45]⟩, .string ⟨#[45, 105]⟩]) (.int .i64 0)).run Try.prog w = .ok (.string ⟨#[43]⟩) w := fun _ => (by kernel_rfl)
  have hx1 : ∀ w : World, (Instr.index 51 (.agg #[.string ⟨#[43]⟩, .string ⟨#[43, 105]⟩, .string ⟨#[45]⟩, .string ⟨#[45, 105]⟩]) (.int .i64 1)).run Try.prog w = .ok (.string ⟨#[43, 105]⟩) w := fun _ => (by kernel_rfl)
  have hx2 : ∀ w : World, (Instr.index 51 (.agg #[.string ⟨#[43]⟩, .string ⟨#[43, 105]⟩, .string ⟨#[45]⟩, .string ⟨#[45, 105]⟩]) (.int .i64 2)).run Try.prog w = .ok (.string ⟨#[45]⟩) w := fun _ => (by kernel_rfl)
  have hx3 : ∀ w : World, (Instr.index 51 (.agg #[.string ⟨#[43]⟩, .string ⟨#[43, 105]⟩, .string ⟨#[45]⟩, .string ⟨#[45, 105]⟩]) (.int .i64 3)).run Try.prog w = .ok (.string ⟨#[45, 105]⟩) w := fun _ => (by kernel_rfl)
  go_enter Try.func8, Try.ntmps8
  go_wp2_with fail
  generalize (w.alloc (.cells #[.int .i64 ((a).p : Int), .int .i64 ((a).x : Int), .int .i64 ((a).z : Int)] 24)) = w1 at *
  refine (impl_IsValidPauli_any n a.e _).mono ?_; rintro e w2 ⟨rfl, hb2⟩
  rw [HA.out]
  have A2 := Lib.hid (A0.out.call hb2)
  have B2 := Lib.hid (Below.trans B0.out (hb2.mono (Nat.le_of_lt hs)))
  obtain ⟨a0, a1, a2, _, _, _⟩ := A2.out
  clear hb2 A0 B0 hs
  rcases hp with h | h | h | h
  · rw [h] at a0 T0
    have TZ := Lib.hid (T0.trans (show sgnS 0 = ⟨#[43]⟩ from rfl))
    clear T0 h
    go_wp2_with fail
    clear a0 a1 a2 hx0 hx1 hx2 hx3
    go_loopw [6, 17] (fun o i wr => ∃ k : Nat, k ≤ n ∧ o = .string (T k) ∧ i = .int .i64 k ∧ PB wr w.heap.size (a.p : Int) (a.x : Int) (a.z : Int) ∧ Below w.heap.size w wr) (fun _ i _ => n - (intOf i).toNat)
    case atStart => exact ⟨0, Nat.zero_le _, by rw [TZ.out], rfl, A2.out, B2.out⟩
    case round =>
      obtain ⟨k, hk, rfl, rfl, hpb, hbel⟩ := hrel
      have PK := Lib.hid hpb
      have BK := Lib.hid hbel
      obtain ⟨a0, a1, a2, _, _, _⟩ := hpb
      clear hbel
      by_cases hlt : k < n
      · have i1 : (k : Int) < (n : Int) := by omega
        go_wp2_with fail
        refine (impl_letterOf_any a k _ OA.out (by omega)).mono ?_; rintro e w3 ⟨rfl, hb3⟩
        have P3 := Lib.hid (PK.out.call hb3)
        have B3 := Lib.hid (Below.trans BK.out (hb3.mono (Nat.le_of_lt (World.block_lt_of_cell? _ _ a0))))
        have hcv := conv_new (w := w3) (ltr_3 a k)
        have hcat := run_string_add_sum (P := Try.prog) (w := w3.alloc (Obj.cells #[Value.int IntKind.u8 ((letB (ltr a k) : Nat) : Int)] 5)) (T k) (letS (ltr a k)) (by have := SZ.out k; rw [letS_size]; omega)
        rw [← TS.out k] at hcat
        have P4 := Lib.hid (P3.out.call (show Below w3.heap.size w3 (w3.alloc (Obj.cells #[Value.int IntKind.u8 ((letB (ltr a k) : Nat) : Int)] 5)) from (by repeat (first | exact Below.refl _ _ | assumption | refine Below.drew ?_ | refine below_drewN ?_ _ | refine Below.alloc ?_ (by first | omega | (simp <;> omega)) _ | refine Below.setCell ?_ (by first | omega | (simp <;> omega)) _ | refine Below.trans ?_ (Below.mono (by assumption) (by first | omega | (simp <;> omega)))))))
        have B4 := Lib.hid (Below.trans B3.out ((show Below w3.heap.size w3 (w3.alloc (Obj.cells #[Value.int IntKind.u8 ((letB (ltr a k) : Nat) : Int)] 5)) from (by repeat (first | exact Below.refl _ _ | assumption | refine Below.drew ?_ | refine below_drewN ?_ _ | refine Below.alloc ?_ (by first | omega | (simp <;> omega)) _ | refine Below.setCell ?_ (by first | omega | (simp <;> omega)) _ | refine Below.trans ?_ (Below.mono (by assumption) (by first | omega | (simp <;> omega)))))).mono (Nat.le_of_lt (World.block_lt_of_cell? _ _ P3.out.c0))))
        clear hb3 a0 a1 a2 P3 B3 PK BK
        go_wp2_with fail
        go_roundw
        case rel => exact ⟨k + 1, by omega, rfl, by go_num, P4.out, B4.out⟩
        case measure => simp [intOf]; omega
      · have e : k = n := by omega
        subst e
        go_wp2_with fail
        go_ret2
        exact ⟨rfl, BK.out⟩
  · rw [h] at a0 T0
    have TZ := Lib.hid (T0.trans (show sgnS 1 = ⟨#[43, 105]⟩ from rfl))
    clear T0 h
    go_wp2_with fail
    clear a0 a1 a2 hx0 hx1 hx2 hx3
    go_loopw [6, 17] (fun o i wr => ∃ k : Nat, k ≤ n ∧ o = .string (T k) ∧ i = .int .i64 k ∧ PB wr w.heap.size (a.p : Int) (a.x : Int) (a.z : Int) ∧ Below w.heap.size w wr) (fun _ i _ => n - (intOf i).toNat)
    case atStart => exact ⟨0, Nat.zero_le _, by rw [TZ.out], rfl, A2.out, B2.out⟩
    case round =>
      obtain ⟨k, hk, rfl, rfl, hpb, hbel⟩ := hrel
      have PK := Lib.hid hpb
      have BK := Lib.hid hbel
      obtain ⟨a0, a1, a2, _, _, _⟩ := hpb
      clear hbel
      by_cases hlt : k < n
      · have i1 : (k : Int) < (n : Int) := by omega
        go_wp2_with fail
        refine (impl_letterOf_any a k _ OA.out (by omega)).mono ?_; rintro e w3 ⟨rfl, hb3⟩
        have P3 := Lib.hid (PK.out.call hb3)
        have B3 := Lib.hid (Below.trans BK.out (hb3.mono (Nat.le_of_lt (World.block_lt_of_cell? _ _ a0))))
        have hcv := conv_new (w := w3) (ltr_3 a k)
        have hcat := run_string_add_sum (P := Try.prog) (w := w3.alloc (Obj.cells #[Value.int IntKind.u8 ((letB (ltr a k) : Nat) : Int)] 5)) (T k) (letS (ltr a k)) (by have := SZ.out k; rw [letS_size]; omega)
        rw [← TS.out k] at hcat
        have P4 := Lib.hid (P3.out.call (show Below w3.heap.size w3 (w3.alloc (Obj.cells #[Value.int IntKind.u8 ((letB (ltr a k) : Nat) : Int)] 5)) from (by repeat (first | exact Below.refl _ _ | assumption | refine Below.drew ?_ | refine below_drewN ?_ _ | refine Below.alloc ?_ (by first | omega | (simp <;> omega)) _ | refine Below.setCell ?_ (by first | omega | (simp <;> omega)) _ | refine Below.trans ?_ (Below.mono (by assumption) (by first | omega | (simp <;> omega)))))))
        have B4 := Lib.hid (Below.trans B3.out ((show Below w3.heap.size w3 (w3.alloc (Obj.cells #[Value.int IntKind.u8 ((letB (ltr a k) : Nat) : Int)] 5)) from (by repeat (first | exact Below.refl _ _ | assumption | refine Below.drew ?_ | refine below_drewN ?_ _ | refine Below.alloc ?_ (by first | omega | (simp <;> omega)) _ | refine Below.setCell ?_ (by first | omega | (simp <;> omega)) _ | refine Below.trans ?_ (Below.mono (by assumption) (by first | omega | (simp <;> omega)))))).mono (Nat.le_of_lt (World.block_lt_of_cell? _ _ P3.out.c0))))
        clear hb3 a0 a1 a2 P3 B3 PK BK
        go_wp2_with fail
        go_roundw
        case rel => exact ⟨k + 1, by omega, rfl, by go_num, P4.out, B4.out⟩
        case measure => simp [intOf]; omega
      · have e : k = n := by omega
        subst e
        go_wp2_with fail
        go_ret2
        exact ⟨rfl, BK.out⟩
  · rw [h] at a0 T0
    have TZ := Lib.hid (T0.trans (show sgnS 2 = ⟨#[45]⟩ from rfl))
    clear T0 h
    go_wp2_with fail
    clear a0 a1 a2 hx0 hx1 hx2 hx3
    go_loopw [6, 17] (fun o i wr => ∃ k : Nat, k ≤ n ∧ o = .string (T k) ∧ i = .int .i64 k ∧ PB wr w.heap.size (a.p : Int) (a.x : Int) (a.z : Int) ∧ Below w.heap.size w wr) (fun _ i _ => n - (intOf i).toNat)
    case atStart => exact ⟨0, Nat.zero_le _, by rw [TZ.out], rfl, A2.out, B2.out⟩
    case round =>
      obtain ⟨k, hk, rfl, rfl, hpb, hbel⟩ := hrel
      have PK := Lib.hid hpb
      have BK := Lib.hid hbel
      obtain ⟨a0, a1, a2, _, _, _⟩ := hpb
      clear hbel
      by_cases hlt : k < n
      · have i1 : (k : Int) < (n : Int) := by omega
        go_wp2_with fail
        refine (impl_letterOf_any a k _ OA.out (by omega)).mono ?_; rintro e w3 ⟨rfl, hb3⟩
        have P3 := Lib.hid (PK.out.call hb3)
        have B3 := Lib.hid (Below.trans BK.out (hb3.mono (Nat.le_of_lt (World.block_lt_of_cell? _ _ a0))))
        have hcv := conv_new (w := w3) (ltr_3 a k)
        have hcat := run_string_add_sum (P := Try.prog) (w := w3.alloc (Obj.cells #[Value.int IntKind.u8 ((letB (ltr a k) : Nat) : Int)] 5)) (T k) (letS (ltr a k)) (by have := SZ.out k; rw [letS_size]; omega)
        rw [← TS.out k] at hcat
        have P4 := Lib.hid (P3.out.call (show Below w3.heap.size w3 (w3.alloc (Obj.cells #[Value.int IntKind.u8 ((letB (ltr a k) : Nat) : Int)] 5)) from (by repeat (first | exact Below.refl _ _ | assumption | refine Below.drew ?_ | refine below_drewN ?_ _ | refine Below.alloc ?_ (by first | omega | (simp <;> omega)) _ | refine Below.setCell ?_ (by first | omega | (simp <;> omega)) _ | refine Below.trans ?_ (Below.mono (by assumption) (by first | omega | (simp <;> omega)))))))
        have B4 := Lib.hid (Below.trans B3.out ((show Below w3.heap.size w3 (w3.alloc (Obj.cells #[Value.int IntKind.u8 ((letB (ltr a k) : Nat) : Int)] 5)) from (by repeat (first | exact Below.refl _ _ | assumption | refine Below.drew ?_ | refine below_drewN ?_ _ | refine Below.alloc ?_ (by first | omega | (simp <;> omega)) _ | refine Below.setCell ?_ (by first | omega | (simp <;> omega)) _ | refine Below.trans ?_ (Below.mono (by assumption) (by first | omega | (simp <;> omega)))))).mono (Nat.le_of_lt (World.block_lt_of_cell? _ _ P3.out.c0))))
        clear hb3 a0 a1 a2 P3 B3 PK BK
        go_wp2_with fail
        go_roundw
        case rel => exact ⟨k + 1, by omega, rfl, by go_num, P4.out, B4.out⟩
        case measure => simp [intOf]; omega
      · have e : k = n := by omega
        subst e
        go_wp2_with fail
        go_ret2
        exact ⟨rfl, BK.out⟩
  · rw [h] at a0 T0
    have TZ := Lib.hid (T0.trans (show sgnS 3 = ⟨#[45, 105]⟩ from rfl))
    clear T0 h
    go_wp2_with fail
    clear a0 a1 a2 hx0 hx1 hx2 hx3
    go_loopw [6, 17] (fun o i wr => ∃ k : Nat, k ≤ n ∧ o = .string (T k) ∧ i = .int .i64 k ∧ PB wr w.heap.size (a.p : Int) (a.x : Int) (a.z : Int) ∧ Below w.heap.size w wr) (fun _ i _ => n - (intOf i).toNat)
    case atStart => exact ⟨0, Nat.zero_le _, by rw [TZ.out], rfl, A2.out, B2.out⟩
    case round =>
      obtain ⟨k, hk, rfl, rfl, hpb, hbel⟩ := hrel
      have PK := Lib.hid hpb
      have BK := Lib.hid hbel
      obtain ⟨a0, a1, a2, _, _, _⟩ := hpb
      clear hbel
      by_cases hlt : k < n
      · have i1 : (k : Int) < (n : Int) := by omega
        go_wp2_with fail
        refine (impl_letterOf_any a k _ OA.out (by omega)).mono ?_; rintro e w3 ⟨rfl, hb3⟩
        have P3 := Lib.hid (PK.out.call hb3)
        have B3 := Lib.hid (Below.trans BK.out (hb3.mono (Nat.le_of_lt (World.block_lt_of_cell? _ _ a0))))
        have hcv := conv_new (w := w3) (ltr_3 a k)
        have hcat := run_string_add_sum (P := Try.prog) (w := w3.alloc (Obj.cells #[Value.int IntKind.u8 ((letB (ltr a k) : Nat) : Int)] 5)) (T k) (letS (ltr a k)) (by have := SZ.out k; rw [letS_size]; omega)
        rw [← TS.out k] at hcat
        have P4 := Lib.hid (P3.out.call (show Below w3.heap.size w3 (w3.alloc (Obj.cells #[Value.int IntKind.u8 ((letB (ltr a k) : Nat) : Int)] 5)) from (by repeat (first | exact Below.refl _ _ | assumption | refine Below.drew ?_ | refine below_drewN ?_ _ | refine Below.alloc ?_ (by first | omega | (simp <;> omega)) _ | refine Below.setCell ?_ (by first | omega | (simp <;> omega)) _ | refine Below.trans ?_ (Below.mono (by assumption) (by first | omega | (simp <;> omega)))))))
        have B4 := Lib.hid (Below.trans B3.out ((show Below w3.heap.size w3 (w3.alloc (Obj.cells #[Value.int IntKind.u8 ((letB (ltr a k) : Nat) : Int)] 5)) from (by repeat (first | exact Below.refl _ _ | assumption | refine Below.drew ?_ | refine below_drewN ?_ _ | refine Below.alloc ?_ (by first | omega | (simp <;> omega)) _ | refine Below.setCell ?_ (by first | omega | (simp <;> omega)) _ | refine Below.trans ?_ (Below.mono (by assumption) (by first | omega | (simp <;> omega)))))).mono (Nat.le_of_lt (World.block_lt_of_cell? _ _ P3.out.c0))))
        clear hb3 a0 a1 a2 P3 B3 PK BK
        go_wp2_with fail
        go_roundw
        case rel => exact ⟨k + 1, by omega, rfl, by go_num, P4.out, B4.out⟩
        case measure => simp [intOf]; omega
      · have e : k = n := by omega
        subst e
        go_wp2_with fail
        go_ret2
        exact ⟨rfl, BK.out⟩
end Go.Proofs.Yteimcfbliigjmaa
namespace Go.Proofs.Yteimcfbliigjmaa
set_option linter.unusedSimpArgs false
set_option linter.unusedVariables false
set_option linter.unnecessarySimpa false
set_option maxRecDepth 200000
open Go.ChangeShapes Go.WideShapes Go.ChangeAt Go.RowKit

/-- The text of an operator, empty where it is not valid. -/
def fmtP (n : Int) (a : E3) : ByteArray := if pauB n a then txtP (tn a) n.toNat else ⟨#[]⟩
set_option maxHeartbeats 4000000 in
theorem impl_FormatPauli_any (n : Int) (a : E3) (w : World) :
    Calls Try.prog 8 #[.int .i64 n, .agg (EC a)] w fun e w' => e = .returned (.tuple #[.string (fmtP n a), .bool (pauB n a)]) ∧ Below w.heap.size w w' := by
  cases hA : pauB n a with
  | true =>
    have h5 := (of_decide_eq_true hA).1
    obtain ⟨m, rfl⟩ : ∃ m : Nat, n = (m : Int) := ⟨n.toNat, by omega⟩
    obtain ⟨ea, oa⟩ := pauB_nat hA
    have e1 : fmtP (m : Int) a = txtP (tn a) m := by unfold fmtP; rw [hA]; rfl
    rw [e1]
    have h := impl_FormatPauli_ok m (tn a) w (by rw [← ea]; exact hA) (by omega) oa
    have e2 : Value.agg (EC a) = .agg #[.int .i64 ((tn a).p : Int), .int .i64 ((tn a).x : Int), .int .i64 ((tn a).z : Int)] := by
      have e3 : EC a = EC (tn a).e := by rw [← ea]
      rw [e3]; rfl
    rw [e2]
    exact h
  | false =>
    have e1 : fmtP n a = ⟨#[]⟩ := by unfold fmtP; rw [hA]; rfl
    rw [e1]
    have HA := Lib.hid hA
    have B0 := Lib.hid (show Below w.heap.size w (w.alloc (.cells (EC a) 24)) from (by repeat (first | exact Below.refl _ _ | assumption | refine Below.drew ?_ | refine below_drewN ?_ _ | refine Below.alloc ?_ (by first | omega | (simp <;> omega)) _ | refine Below.setCell ?_ (by first | omega | (simp <;> omega)) _ | refine Below.trans ?_ (Below.mono (by assumption) (by first | omega | (simp <;> omega))))))
    have hs : w.heap.size < (w.alloc (.cells (EC a) 24)).heap.size := by simp
    clear hA e1
    go_enter Try.func8, Try.ntmps8
    go_wp2_with fail
    generalize (w.alloc (.cells #[.int .i64 a.a, .int .i64 a.b, .int .i64 a.c] 24)) = w1 at *
    refine (impl_IsValidPauli_any n a _).mono ?_; rintro e w2 ⟨rfl, hb2⟩
    rw [HA.out]
    have B2 := Lib.hid (Below.trans B0.out (hb2.mono (Nat.le_of_lt hs)))
    clear hb2 B0
    go_wp2_with fail
    go_ret2
    exact ⟨rfl, B2.out⟩
end Go.Proofs.Yteimcfbliigjmaa
