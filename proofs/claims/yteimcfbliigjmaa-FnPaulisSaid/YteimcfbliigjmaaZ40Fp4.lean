/- Products of Pauli operators (written by genfp4.py). -/
import Derived.Test.YteimcfbliigjmaaZ39Fp0
import Derived.Test.YteimcfbliigjmaaZ20Pau5
import Derived.Test.YteimcfbliigjmaaZ21Pau6
import Derived.BigRegion
namespace Go.Proofs.Yteimcfbliigjmaa
set_option linter.unusedSimpArgs false
set_option linter.unusedVariables false
set_option linter.unnecessarySimpa false
set_option maxRecDepth 200000
open Go.ChangeShapes Go.WideShapes Go.ChangeAt Go.RowKit

abbrev EC (g : E3) : Array Value := #[.int .i64 g.a, .int .i64 g.b, .int .i64 g.c]
/-- Three boxes at a world's end: two operators, and the result's. -/
structure Tr (w0 w : World) (a b : E3) : Prop where
  bel : Below w0.heap.size w0 w
  a : PB w w0.heap.size a.a a.b a.c
  b : PB w (w0.heap.size + 1) b.a b.b b.c
  r : PB w (w0.heap.size + 2) 0 0 0
theorem Tr.new (w : World) (a b : E3) : Tr w (((w.alloc (.cells (EC a) 24)).alloc (.cells (EC b) 24)).alloc (.cells #[.int .i64 0, .int .i64 0, .int .i64 0] 24)) a b :=
  ⟨(by repeat (first | exact Below.refl _ _ | assumption | refine Below.drew ?_ | refine below_drewN ?_ _ | refine Below.alloc ?_ (by first | omega | (simp <;> omega)) _ | refine Below.setCell ?_ (by first | omega | (simp <;> omega)) _ | refine Below.trans ?_ (Below.mono (by assumption) (by first | omega | (simp <;> omega))))), ⟨(by repeat (first | (refine Eq.trans (World.cell?_alloc_at _ _ _ _ ?hh) ?_; (case hh => (simp; done)); rfl) | refine cell_alloc_keep _ ?_)), (by repeat (first | (refine Eq.trans (World.cell?_alloc_at _ _ _ _ ?hh) ?_; (case hh => (simp; done)); rfl) | refine cell_alloc_keep _ ?_)), (by repeat (first | (refine Eq.trans (World.cell?_alloc_at _ _ _ _ ?hh) ?_; (case hh => (simp; done)); rfl) | refine cell_alloc_keep _ ?_)), (by repeat (first | (refine World.frozen?_alloc_at _ _ _ _ ?hh; case hh => (simp; done)) | (refine frozen_alloc_lt _ ?hh ?_; case hh => first | omega | (simp <;> omega)))), (by repeat (first | (refine World.frozen?_alloc_at _ _ _ _ ?hh; case hh => (simp; done)) | (refine frozen_alloc_lt _ ?hh ?_; case hh => first | omega | (simp <;> omega)))), (by repeat (first | (refine World.frozen?_alloc_at _ _ _ _ ?hh; case hh => (simp; done)) | (refine frozen_alloc_lt _ ?hh ?_; case hh => first | omega | (simp <;> omega))))⟩, ⟨(by repeat (first | (refine Eq.trans (World.cell?_alloc_at _ _ _ _ ?hh) ?_; (case hh => (simp; done)); rfl) | refine cell_alloc_keep _ ?_)), (by repeat (first | (refine Eq.trans (World.cell?_alloc_at _ _ _ _ ?hh) ?_; (case hh => (simp; done)); rfl) | refine cell_alloc_keep _ ?_)), (by repeat (first | (refine Eq.trans (World.cell?_alloc_at _ _ _ _ ?hh) ?_; (case hh => (simp; done)); rfl) | refine cell_alloc_keep _ ?_)), (by repeat (first | (refine World.frozen?_alloc_at _ _ _ _ ?hh; case hh => (simp; done)) | (refine frozen_alloc_lt _ ?hh ?_; case hh => first | omega | (simp <;> omega)))), (by repeat (first | (refine World.frozen?_alloc_at _ _ _ _ ?hh; case hh => (simp; done)) | (refine frozen_alloc_lt _ ?hh ?_; case hh => first | omega | (simp <;> omega)))), (by repeat (first | (refine World.frozen?_alloc_at _ _ _ _ ?hh; case hh => (simp; done)) | (refine frozen_alloc_lt _ ?hh ?_; case hh => first | omega | (simp <;> omega))))⟩, ⟨(by repeat (first | (refine Eq.trans (World.cell?_alloc_at _ _ _ _ ?hh) ?_; (case hh => (simp; done)); rfl) | refine cell_alloc_keep _ ?_)), (by repeat (first | (refine Eq.trans (World.cell?_alloc_at _ _ _ _ ?hh) ?_; (case hh => (simp; done)); rfl) | refine cell_alloc_keep _ ?_)), (by repeat (first | (refine Eq.trans (World.cell?_alloc_at _ _ _ _ ?hh) ?_; (case hh => (simp; done)); rfl) | refine cell_alloc_keep _ ?_)), (by repeat (first | (refine World.frozen?_alloc_at _ _ _ _ ?hh; case hh => (simp; done)) | (refine frozen_alloc_lt _ ?hh ?_; case hh => first | omega | (simp <;> omega)))), (by repeat (first | (refine World.frozen?_alloc_at _ _ _ _ ?hh; case hh => (simp; done)) | (refine frozen_alloc_lt _ ?hh ?_; case hh => first | omega | (simp <;> omega)))), (by repeat (first | (refine World.frozen?_alloc_at _ _ _ _ ?hh; case hh => (simp; done)) | (refine frozen_alloc_lt _ ?hh ?_; case hh => first | omega | (simp <;> omega))))⟩⟩
theorem Tr.call {w0 w w' : World} {a b : E3} (h : Tr w0 w a b) (hb : Below w.heap.size w w') : Tr w0 w' a b :=
  ⟨Below.trans h.bel (hb.mono (Nat.le_of_lt (World.block_lt_of_cell? _ _ h.a.c0))), h.a.call hb, h.b.call hb, h.r.call hb⟩
/-- The product of two operators, zero where one is not valid. -/
def mulR (n : Int) (a b : E3) : E3 := if pauB n a && pauB n b then (mulN (tn a) (tn b)).e else ⟨0, 0, 0⟩
theorem pauB_nat {n : Int} {g : E3} (h : pauB n g = true) : g = (tn g).e ∧ PNok (tn g) := by
  have := of_decide_eq_true h
  exact this.2.nat this.1.1 this.1.2
set_option maxHeartbeats 4000000 in
theorem impl_MulPauli_any (n : Int) (a b : E3) (w : World) :
    Calls Try.prog 5 #[.int .i64 n, .agg (EC a), .agg (EC b)] w fun e w' => e = .returned (.tuple #[.agg (EC (mulR n a b)), .bool (pauB n a && pauB n b)]) ∧ Below w.heap.size w w' := by
  have T1 := Lib.hid (Tr.new w a b)
  cases hA : pauB n a with
  | false =>
    have HA := Lib.hid hA
    have e0 : mulR n a b = ⟨0, 0, 0⟩ := by unfold mulR; rw [hA]; rfl
    rw [e0]
    clear hA e0
    go_enter Try.func5, Try.ntmps5
    go_wp2_with fail
    generalize (((w.alloc (.cells #[.int .i64 a.a, .int .i64 a.b, .int .i64 a.c] 24)).alloc (.cells #[.int .i64 b.a, .int .i64 b.b, .int .i64 b.c] 24)).alloc (.cells #[.int .i64 0, .int .i64 0, .int .i64 0] 24)) = w1 at *
    refine (impl_IsValidPauli_any n a _).mono ?_; rintro e w2 ⟨rfl, hb2⟩
    rw [HA.out]
    have T2 := Lib.hid (T1.out.call hb2)
    clear hb2 T1
    obtain ⟨a0, a1, a2, _, _, _⟩ := T2.out.a
    obtain ⟨b0, b1, b2, _, _, _⟩ := T2.out.b
    obtain ⟨r0, r1, r2, f0, f1, f2⟩ := T2.out.r
    go_wp2_with fail
    have A9 : PB (((w2.setCell ⟨w.heap.size + 2, 0, none⟩ (.int .i64 0)).setCell ⟨w.heap.size + 2, 1, none⟩ (.int .i64 0)).setCell ⟨w.heap.size + 2, 2, none⟩ (.int .i64 0)) (w.heap.size + 2) 0 0 0 := T2.out.r.set 0 0 0
    have Bl : Below w.heap.size w (((w2.setCell ⟨w.heap.size + 2, 0, none⟩ (.int .i64 0)).setCell ⟨w.heap.size + 2, 1, none⟩ (.int .i64 0)).setCell ⟨w.heap.size + 2, 2, none⟩ (.int .i64 0)) := Below.setCell (p := ⟨w.heap.size + 2, 2, none⟩) (Below.setCell (p := ⟨w.heap.size + 2, 1, none⟩) (Below.setCell (p := ⟨w.heap.size + 2, 0, none⟩) T2.out.bel (Nat.le_add_right _ _) _) (Nat.le_add_right _ _) _) (Nat.le_add_right _ _) _
    clear a0 a1 a2 b0 b1 b2 r0 r1 r2 f0 f1 f2 T2
    generalize (((w2.setCell ⟨w.heap.size + 2, 0, none⟩ (.int .i64 0)).setCell ⟨w.heap.size + 2, 1, none⟩ (.int .i64 0)).setCell ⟨w.heap.size + 2, 2, none⟩ (.int .i64 0)) = w9 at *
    obtain ⟨a0, a1, a2, _, _, _⟩ := A9
    refine bodyPost_ret (v := .tuple #[.agg #[.int .i64 0, .int .i64 0, .int .i64 0], .bool false]) (by simp [results, Try.results5, go_sem, a0, a1, a2]) rfl ⟨?_, Bl⟩
    rfl
  | true =>
    cases hB : pauB n b with
    | false =>
      have HA := Lib.hid hA
      have HBB := Lib.hid hB
      have e0 : mulR n a b = ⟨0, 0, 0⟩ := by unfold mulR; rw [hA, hB]; rfl
      rw [e0]
      clear hA hB e0
      go_enter Try.func5, Try.ntmps5
      go_wp2_with fail
      generalize (((w.alloc (.cells #[.int .i64 a.a, .int .i64 a.b, .int .i64 a.c] 24)).alloc (.cells #[.int .i64 b.a, .int .i64 b.b, .int .i64 b.c] 24)).alloc (.cells #[.int .i64 0, .int .i64 0, .int .i64 0] 24)) = w1 at *
      refine (impl_IsValidPauli_any n a _).mono ?_; rintro e w2 ⟨rfl, hb2⟩
      rw [HA.out]
      have T2 := Lib.hid (T1.out.call hb2)
      clear hb2 T1
      obtain ⟨a0, a1, a2, _, _, _⟩ := T2.out.a
      obtain ⟨b0, b1, b2, _, _, _⟩ := T2.out.b
      obtain ⟨r0, r1, r2, f0, f1, f2⟩ := T2.out.r
      go_wp2_with fail
      clear a0 a1 a2 b0 b1 b2 r0 r1 r2 f0 f1 f2
      refine (impl_IsValidPauli_any n b _).mono ?_; rintro e w3 ⟨rfl, hb3⟩
      rw [HBB.out]
      have T3 := Lib.hid (T2.out.call hb3)
      clear hb3 T2
      obtain ⟨a0, a1, a2, _, _, _⟩ := T3.out.a
      obtain ⟨b0, b1, b2, _, _, _⟩ := T3.out.b
      obtain ⟨r0, r1, r2, f0, f1, f2⟩ := T3.out.r
      go_wp2_with fail
      have A9 : PB (((w3.setCell ⟨w.heap.size + 2, 0, none⟩ (.int .i64 0)).setCell ⟨w.heap.size + 2, 1, none⟩ (.int .i64 0)).setCell ⟨w.heap.size + 2, 2, none⟩ (.int .i64 0)) (w.heap.size + 2) 0 0 0 := T3.out.r.set 0 0 0
      have Bl : Below w.heap.size w (((w3.setCell ⟨w.heap.size + 2, 0, none⟩ (.int .i64 0)).setCell ⟨w.heap.size + 2, 1, none⟩ (.int .i64 0)).setCell ⟨w.heap.size + 2, 2, none⟩ (.int .i64 0)) := Below.setCell (p := ⟨w.heap.size + 2, 2, none⟩) (Below.setCell (p := ⟨w.heap.size + 2, 1, none⟩) (Below.setCell (p := ⟨w.heap.size + 2, 0, none⟩) T3.out.bel (Nat.le_add_right _ _) _) (Nat.le_add_right _ _) _) (Nat.le_add_right _ _) _
      clear a0 a1 a2 b0 b1 b2 r0 r1 r2 f0 f1 f2 T3
      generalize (((w3.setCell ⟨w.heap.size + 2, 0, none⟩ (.int .i64 0)).setCell ⟨w.heap.size + 2, 1, none⟩ (.int .i64 0)).setCell ⟨w.heap.size + 2, 2, none⟩ (.int .i64 0)) = w9 at *
      obtain ⟨a0, a1, a2, _, _, _⟩ := A9
      refine bodyPost_ret (v := .tuple #[.agg #[.int .i64 0, .int .i64 0, .int .i64 0], .bool false]) (by simp [results, Try.results5, go_sem, a0, a1, a2]) rfl ⟨?_, Bl⟩
      rfl
    | true =>
      have HA := Lib.hid hA
      have HBB := Lib.hid hB
      have e0 : mulR n a b = (mulN (tn a) (tn b)).e := by unfold mulR; rw [hA, hB]; rfl
      rw [e0]
      obtain ⟨ea, oa⟩ := pauB_nat hA
      obtain ⟨eb, ob⟩ := pauB_nat hB
      have OA := Lib.hid oa
      have OB := Lib.hid ob
      have MM := Lib.hid (fun W => impl_times_any (tn a) (tn b) W oa ob)
      have ea1 : a.a = ((tn a).p : Int) := congrArg E3.a ea
      have ea2 : a.b = ((tn a).x : Int) := congrArg E3.b ea
      have ea3 : a.c = ((tn a).z : Int) := congrArg E3.c ea
      have eb1 : b.a = ((tn b).p : Int) := congrArg E3.a eb
      have eb2 : b.b = ((tn b).x : Int) := congrArg E3.b eb
      have eb3 : b.c = ((tn b).z : Int) := congrArg E3.c eb
      have EA := Lib.hid (And.intro ea1 (And.intro ea2 ea3))
      have EB := Lib.hid (And.intro eb1 (And.intro eb2 eb3))
      clear hA hB e0 ea eb oa ob ea1 ea2 ea3 eb1 eb2 eb3
      go_enter Try.func5, Try.ntmps5
      go_wp2_with fail
      generalize (((w.alloc (.cells #[.int .i64 a.a, .int .i64 a.b, .int .i64 a.c] 24)).alloc (.cells #[.int .i64 b.a, .int .i64 b.b, .int .i64 b.c] 24)).alloc (.cells #[.int .i64 0, .int .i64 0, .int .i64 0] 24)) = w1 at *
      refine (impl_IsValidPauli_any n a _).mono ?_; rintro e w2 ⟨rfl, hb2⟩
      rw [HA.out]
      have T2 := Lib.hid (T1.out.call hb2)
      clear hb2 T1
      obtain ⟨a0, a1, a2, _, _, _⟩ := T2.out.a
      obtain ⟨b0, b1, b2, _, _, _⟩ := T2.out.b
      obtain ⟨r0, r1, r2, f0, f1, f2⟩ := T2.out.r
      go_wp2_with fail
      clear a0 a1 a2 b0 b1 b2 r0 r1 r2 f0 f1 f2
      refine (impl_IsValidPauli_any n b _).mono ?_; rintro e w3 ⟨rfl, hb3⟩
      rw [HBB.out]
      have T3 := Lib.hid (T2.out.call hb3)
      clear hb3 T2
      obtain ⟨a0, a1, a2, _, _, _⟩ := T3.out.a
      obtain ⟨b0, b1, b2, _, _, _⟩ := T3.out.b
      obtain ⟨r0, r1, r2, f0, f1, f2⟩ := T3.out.r
      go_wp2_with fail
      clear a0 a1 a2 b0 b1 b2 r0 r1 r2 f0 f1 f2
      rw [EA.out.1, EA.out.2.1, EA.out.2.2, EB.out.1, EB.out.2.1, EB.out.2.2]
      refine (MM.out _).mono ?_; rintro e w4 ⟨rfl, hb4⟩
      have T4 := Lib.hid (T3.out.call hb4)
      clear hb4 T3 MM
      obtain ⟨a0, a1, a2, _, _, _⟩ := T4.out.a
      obtain ⟨b0, b1, b2, _, _, _⟩ := T4.out.b
      obtain ⟨r0, r1, r2, f0, f1, f2⟩ := T4.out.r
      go_wp2_with fail
      have A9 : PB (((w4.setCell ⟨w.heap.size + 2, 0, none⟩ (.int .i64 ((mulN (tn a) (tn b)).p : Int))).setCell ⟨w.heap.size + 2, 1, none⟩ (.int .i64 ((mulN (tn a) (tn b)).x : Int))).setCell ⟨w.heap.size + 2, 2, none⟩ (.int .i64 ((mulN (tn a) (tn b)).z : Int))) (w.heap.size + 2) ((mulN (tn a) (tn b)).p : Int) ((mulN (tn a) (tn b)).x : Int) ((mulN (tn a) (tn b)).z : Int) := T4.out.r.set ((mulN (tn a) (tn b)).p : Int) ((mulN (tn a) (tn b)).x : Int) ((mulN (tn a) (tn b)).z : Int)
      have Bl : Below w.heap.size w (((w4.setCell ⟨w.heap.size + 2, 0, none⟩ (.int .i64 ((mulN (tn a) (tn b)).p : Int))).setCell ⟨w.heap.size + 2, 1, none⟩ (.int .i64 ((mulN (tn a) (tn b)).x : Int))).setCell ⟨w.heap.size + 2, 2, none⟩ (.int .i64 ((mulN (tn a) (tn b)).z : Int))) := Below.setCell (p := ⟨w.heap.size + 2, 2, none⟩) (Below.setCell (p := ⟨w.heap.size + 2, 1, none⟩) (Below.setCell (p := ⟨w.heap.size + 2, 0, none⟩) T4.out.bel (Nat.le_add_right _ _) _) (Nat.le_add_right _ _) _) (Nat.le_add_right _ _) _
      clear a0 a1 a2 b0 b1 b2 r0 r1 r2 f0 f1 f2 T4
      generalize (((w4.setCell ⟨w.heap.size + 2, 0, none⟩ (.int .i64 ((mulN (tn a) (tn b)).p : Int))).setCell ⟨w.heap.size + 2, 1, none⟩ (.int .i64 ((mulN (tn a) (tn b)).x : Int))).setCell ⟨w.heap.size + 2, 2, none⟩ (.int .i64 ((mulN (tn a) (tn b)).z : Int))) = w9 at *
      obtain ⟨a0, a1, a2, _, _, _⟩ := A9
      refine bodyPost_ret (v := .tuple #[.agg #[.int .i64 ((mulN (tn a) (tn b)).p : Int), .int .i64 ((mulN (tn a) (tn b)).x : Int), .int .i64 ((mulN (tn a) (tn b)).z : Int)], .bool true]) (by simp [results, Try.results5, go_sem, a0, a1, a2]) rfl ⟨?_, Bl⟩
      rfl
set_option maxHeartbeats 4000000 in
theorem spec_MulPauli_any (n : Int) (a b : E3) (w : World) :
    Calls Try.prog 6 #[.int .i64 n, .agg (EC a), .agg (EC b)] w fun e w' => e = .returned (.tuple #[.agg (EC (mulR n a b)), .bool (pauB n a && pauB n b)]) ∧ Below w.heap.size w w' := by
  have T1 := Lib.hid (Tr.new w a b)
  cases hA : pauB n a with
  | false =>
    have HA := Lib.hid hA
    have e0 : mulR n a b = ⟨0, 0, 0⟩ := by unfold mulR; rw [hA]; rfl
    rw [e0]
    clear hA e0
    go_enter Try.func6, Try.ntmps6
    go_wp2_with fail
    generalize (((w.alloc (.cells #[.int .i64 a.a, .int .i64 a.b, .int .i64 a.c] 24)).alloc (.cells #[.int .i64 b.a, .int .i64 b.b, .int .i64 b.c] 24)).alloc (.cells #[.int .i64 0, .int .i64 0, .int .i64 0] 24)) = w1 at *
    refine (spec_l7Valid_any n a _).mono ?_; rintro e w2 ⟨rfl, hb2⟩
    rw [HA.out]
    have T2 := Lib.hid (T1.out.call hb2)
    clear hb2 T1
    obtain ⟨a0, a1, a2, _, _, _⟩ := T2.out.a
    obtain ⟨b0, b1, b2, _, _, _⟩ := T2.out.b
    obtain ⟨r0, r1, r2, f0, f1, f2⟩ := T2.out.r
    go_wp2_with fail
    have A9 : PB (((w2.setCell ⟨w.heap.size + 2, 0, none⟩ (.int .i64 0)).setCell ⟨w.heap.size + 2, 1, none⟩ (.int .i64 0)).setCell ⟨w.heap.size + 2, 2, none⟩ (.int .i64 0)) (w.heap.size + 2) 0 0 0 := T2.out.r.set 0 0 0
    have Bl : Below w.heap.size w (((w2.setCell ⟨w.heap.size + 2, 0, none⟩ (.int .i64 0)).setCell ⟨w.heap.size + 2, 1, none⟩ (.int .i64 0)).setCell ⟨w.heap.size + 2, 2, none⟩ (.int .i64 0)) := Below.setCell (p := ⟨w.heap.size + 2, 2, none⟩) (Below.setCell (p := ⟨w.heap.size + 2, 1, none⟩) (Below.setCell (p := ⟨w.heap.size + 2, 0, none⟩) T2.out.bel (Nat.le_add_right _ _) _) (Nat.le_add_right _ _) _) (Nat.le_add_right _ _) _
    clear a0 a1 a2 b0 b1 b2 r0 r1 r2 f0 f1 f2 T2
    generalize (((w2.setCell ⟨w.heap.size + 2, 0, none⟩ (.int .i64 0)).setCell ⟨w.heap.size + 2, 1, none⟩ (.int .i64 0)).setCell ⟨w.heap.size + 2, 2, none⟩ (.int .i64 0)) = w9 at *
    obtain ⟨a0, a1, a2, _, _, _⟩ := A9
    refine bodyPost_ret (v := .tuple #[.agg #[.int .i64 0, .int .i64 0, .int .i64 0], .bool false]) (by simp [results, Try.results6, go_sem, a0, a1, a2]) rfl ⟨?_, Bl⟩
    rfl
  | true =>
    cases hB : pauB n b with
    | false =>
      have HA := Lib.hid hA
      have HBB := Lib.hid hB
      have e0 : mulR n a b = ⟨0, 0, 0⟩ := by unfold mulR; rw [hA, hB]; rfl
      rw [e0]
      clear hA hB e0
      go_enter Try.func6, Try.ntmps6
      go_wp2_with fail
      generalize (((w.alloc (.cells #[.int .i64 a.a, .int .i64 a.b, .int .i64 a.c] 24)).alloc (.cells #[.int .i64 b.a, .int .i64 b.b, .int .i64 b.c] 24)).alloc (.cells #[.int .i64 0, .int .i64 0, .int .i64 0] 24)) = w1 at *
      refine (spec_l7Valid_any n a _).mono ?_; rintro e w2 ⟨rfl, hb2⟩
      rw [HA.out]
      have T2 := Lib.hid (T1.out.call hb2)
      clear hb2 T1
      obtain ⟨a0, a1, a2, _, _, _⟩ := T2.out.a
      obtain ⟨b0, b1, b2, _, _, _⟩ := T2.out.b
      obtain ⟨r0, r1, r2, f0, f1, f2⟩ := T2.out.r
      go_wp2_with fail
      clear a0 a1 a2 b0 b1 b2 r0 r1 r2 f0 f1 f2
      refine (spec_l7Valid_any n b _).mono ?_; rintro e w3 ⟨rfl, hb3⟩
      rw [HBB.out]
      have T3 := Lib.hid (T2.out.call hb3)
      clear hb3 T2
      obtain ⟨a0, a1, a2, _, _, _⟩ := T3.out.a
      obtain ⟨b0, b1, b2, _, _, _⟩ := T3.out.b
      obtain ⟨r0, r1, r2, f0, f1, f2⟩ := T3.out.r
      go_wp2_with fail
      have A9 : PB (((w3.setCell ⟨w.heap.size + 2, 0, none⟩ (.int .i64 0)).setCell ⟨w.heap.size + 2, 1, none⟩ (.int .i64 0)).setCell ⟨w.heap.size + 2, 2, none⟩ (.int .i64 0)) (w.heap.size + 2) 0 0 0 := T3.out.r.set 0 0 0
      have Bl : Below w.heap.size w (((w3.setCell ⟨w.heap.size + 2, 0, none⟩ (.int .i64 0)).setCell ⟨w.heap.size + 2, 1, none⟩ (.int .i64 0)).setCell ⟨w.heap.size + 2, 2, none⟩ (.int .i64 0)) := Below.setCell (p := ⟨w.heap.size + 2, 2, none⟩) (Below.setCell (p := ⟨w.heap.size + 2, 1, none⟩) (Below.setCell (p := ⟨w.heap.size + 2, 0, none⟩) T3.out.bel (Nat.le_add_right _ _) _) (Nat.le_add_right _ _) _) (Nat.le_add_right _ _) _
      clear a0 a1 a2 b0 b1 b2 r0 r1 r2 f0 f1 f2 T3
      generalize (((w3.setCell ⟨w.heap.size + 2, 0, none⟩ (.int .i64 0)).setCell ⟨w.heap.size + 2, 1, none⟩ (.int .i64 0)).setCell ⟨w.heap.size + 2, 2, none⟩ (.int .i64 0)) = w9 at *
      obtain ⟨a0, a1, a2, _, _, _⟩ := A9
      refine bodyPost_ret (v := .tuple #[.agg #[.int .i64 0, .int .i64 0, .int .i64 0], .bool false]) (by simp [results, Try.results6, go_sem, a0, a1, a2]) rfl ⟨?_, Bl⟩
      rfl
    | true =>
      have HA := Lib.hid hA
      have HBB := Lib.hid hB
      have e0 : mulR n a b = (mulN (tn a) (tn b)).e := by unfold mulR; rw [hA, hB]; rfl
      rw [e0]
      obtain ⟨ea, oa⟩ := pauB_nat hA
      obtain ⟨eb, ob⟩ := pauB_nat hB
      have OA := Lib.hid oa
      have OB := Lib.hid ob
      have MM := Lib.hid (fun W => spec_l7Mul_any (tn a) (tn b) W oa ob)
      have ea1 : a.a = ((tn a).p : Int) := congrArg E3.a ea
      have ea2 : a.b = ((tn a).x : Int) := congrArg E3.b ea
      have ea3 : a.c = ((tn a).z : Int) := congrArg E3.c ea
      have eb1 : b.a = ((tn b).p : Int) := congrArg E3.a eb
      have eb2 : b.b = ((tn b).x : Int) := congrArg E3.b eb
      have eb3 : b.c = ((tn b).z : Int) := congrArg E3.c eb
      have EA := Lib.hid (And.intro ea1 (And.intro ea2 ea3))
      have EB := Lib.hid (And.intro eb1 (And.intro eb2 eb3))
      clear hA hB e0 ea eb oa ob ea1 ea2 ea3 eb1 eb2 eb3
      go_enter Try.func6, Try.ntmps6
      go_wp2_with fail
      generalize (((w.alloc (.cells #[.int .i64 a.a, .int .i64 a.b, .int .i64 a.c] 24)).alloc (.cells #[.int .i64 b.a, .int .i64 b.b, .int .i64 b.c] 24)).alloc (.cells #[.int .i64 0, .int .i64 0, .int .i64 0] 24)) = w1 at *
      refine (spec_l7Valid_any n a _).mono ?_; rintro e w2 ⟨rfl, hb2⟩
      rw [HA.out]
      have T2 := Lib.hid (T1.out.call hb2)
      clear hb2 T1
      obtain ⟨a0, a1, a2, _, _, _⟩ := T2.out.a
      obtain ⟨b0, b1, b2, _, _, _⟩ := T2.out.b
      obtain ⟨r0, r1, r2, f0, f1, f2⟩ := T2.out.r
      go_wp2_with fail
      clear a0 a1 a2 b0 b1 b2 r0 r1 r2 f0 f1 f2
      refine (spec_l7Valid_any n b _).mono ?_; rintro e w3 ⟨rfl, hb3⟩
      rw [HBB.out]
      have T3 := Lib.hid (T2.out.call hb3)
      clear hb3 T2
      obtain ⟨a0, a1, a2, _, _, _⟩ := T3.out.a
      obtain ⟨b0, b1, b2, _, _, _⟩ := T3.out.b
      obtain ⟨r0, r1, r2, f0, f1, f2⟩ := T3.out.r
      go_wp2_with fail
      clear a0 a1 a2 b0 b1 b2 r0 r1 r2 f0 f1 f2
      rw [EA.out.1, EA.out.2.1, EA.out.2.2, EB.out.1, EB.out.2.1, EB.out.2.2]
      refine (MM.out _).mono ?_; rintro e w4 ⟨rfl, hb4⟩
      have T4 := Lib.hid (T3.out.call hb4)
      clear hb4 T3 MM
      obtain ⟨a0, a1, a2, _, _, _⟩ := T4.out.a
      obtain ⟨b0, b1, b2, _, _, _⟩ := T4.out.b
      obtain ⟨r0, r1, r2, f0, f1, f2⟩ := T4.out.r
      go_wp2_with fail
      have A9 : PB (((w4.setCell ⟨w.heap.size + 2, 0, none⟩ (.int .i64 ((mulN (tn a) (tn b)).p : Int))).setCell ⟨w.heap.size + 2, 1, none⟩ (.int .i64 ((mulN (tn a) (tn b)).x : Int))).setCell ⟨w.heap.size + 2, 2, none⟩ (.int .i64 ((mulN (tn a) (tn b)).z : Int))) (w.heap.size + 2) ((mulN (tn a) (tn b)).p : Int) ((mulN (tn a) (tn b)).x : Int) ((mulN (tn a) (tn b)).z : Int) := T4.out.r.set ((mulN (tn a) (tn b)).p : Int) ((mulN (tn a) (tn b)).x : Int) ((mulN (tn a) (tn b)).z : Int)
      have Bl : Below w.heap.size w (((w4.setCell ⟨w.heap.size + 2, 0, none⟩ (.int .i64 ((mulN (tn a) (tn b)).p : Int))).setCell ⟨w.heap.size + 2, 1, none⟩ (.int .i64 ((mulN (tn a) (tn b)).x : Int))).setCell ⟨w.heap.size + 2, 2, none⟩ (.int .i64 ((mulN (tn a) (tn b)).z : Int))) := Below.setCell (p := ⟨w.heap.size + 2, 2, none⟩) (Below.setCell (p := ⟨w.heap.size + 2, 1, none⟩) (Below.setCell (p := ⟨w.heap.size + 2, 0, none⟩) T4.out.bel (Nat.le_add_right _ _) _) (Nat.le_add_right _ _) _) (Nat.le_add_right _ _) _
      clear a0 a1 a2 b0 b1 b2 r0 r1 r2 f0 f1 f2 T4
      generalize (((w4.setCell ⟨w.heap.size + 2, 0, none⟩ (.int .i64 ((mulN (tn a) (tn b)).p : Int))).setCell ⟨w.heap.size + 2, 1, none⟩ (.int .i64 ((mulN (tn a) (tn b)).x : Int))).setCell ⟨w.heap.size + 2, 2, none⟩ (.int .i64 ((mulN (tn a) (tn b)).z : Int))) = w9 at *
      obtain ⟨a0, a1, a2, _, _, _⟩ := A9
      refine bodyPost_ret (v := .tuple #[.agg #[.int .i64 ((mulN (tn a) (tn b)).p : Int), .int .i64 ((mulN (tn a) (tn b)).x : Int), .int .i64 ((mulN (tn a) (tn b)).z : Int)], .bool true]) (by simp [results, Try.results6, go_sem, a0, a1, a2]) rfl ⟨?_, Bl⟩
      rfl
end Go.Proofs.Yteimcfbliigjmaa
