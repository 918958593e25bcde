/- The reference's draws for products of Pauli operators. -/
import Derived.Test.YteimcfbliigjmaaZ39Fp0
import Derived.BigRegion
import Derived.Deep.RegionWith
import Derived.Test.YteimcfbliigjmaaZ40Fp4
namespace Go.Proofs.Yteimcfbliigjmaa
set_option linter.unusedSimpArgs false
set_option linter.unusedVariables false
set_option linter.unnecessarySimpa false
set_option maxRecDepth 200000
open Go.ChangeShapes Go.WideShapes Go.ChangeAt Go.RowKit

abbrev st3 (w : World) (g : Nat) (x y z : Int) : World := ((w.setCell ⟨g, 0, none⟩ (.int .i64 x)).setCell ⟨g, 1, none⟩ (.int .i64 y)).setCell ⟨g, 2, none⟩ (.int .i64 z)
theorem Cur.put3 {w0 w : World} {b N0 N : Nat} {zs : List Int} {cv : Value} {g : Nat} {x y z : Int} (h0 : Cur w0 b zs cv N0) (h : Cur w b zs cv N) (ha : w0.heap.size ≤ g) : Cur (st3 w g x y z) b zs cv N :=
  Cur.put h0 (Cur.put h0 (Cur.put h0 h (a := ⟨g, 0, none⟩) ha rfl _) (a := ⟨g, 1, none⟩) ha rfl _) (a := ⟨g, 2, none⟩) ha rfl _
theorem PB.other3 {w : World} {g g2 : Nat} {a b c x y z : Int} (h : PB w g a b c) (hne : g ≠ g2) : PB (st3 w g2 x y z) g a b c :=
  ((h.other hne).other hne).other hne
/-- The state of a draw: two result boxes, the cursor's box behind them. -/
structure Dp (w0 w : World) (zs : List Int) (cv : Value) (N : Nat) : Prop where
  bel : Below w0.heap.size w0 w
  a : PB w w0.heap.size 0 0 0
  b : PB w (w0.heap.size + 1) 0 0 0
  cur : Cur w (w0.heap.size + 2) zs cv N
theorem Dp.step {w0 w w' : World} {zs : List Int} {cv : Value} {N M : Nat} (h : Dp w0 w zs cv N) (hc : Cur w' (w0.heap.size + 2) zs cv M) (hg : w.grownBy w' (some (w0.heap.size + 2))) : Dp w0 w' zs cv M :=
  ⟨below_box h.bel hg (by omega) (by have := World.block_lt_of_cell? _ _ h.a.c0; exact Nat.le_of_lt this), h.a.kept hg (by omega), h.b.kept hg (by omega), hc⟩
theorem Dp.call {w0 w w' : World} {zs : List Int} {cv : Value} {N : Nat} (h : Dp w0 w zs cv N) (hb : Below w.heap.size w w') : Dp w0 w' zs cv N :=
  ⟨Below.trans h.bel (hb.mono (Nat.le_of_lt (World.block_lt_of_cell? _ _ h.a.c0))), h.a.call hb, h.b.call hb, h.cur.call hb⟩
theorem Dp.new {w : World} {v : Value} {zs : List Int} (h : RdB w v zs) :
    Dp w (((w.alloc (.cells #[.int .i64 0, .int .i64 0, .int .i64 0] 24)).alloc (.cells #[.int .i64 0, .int .i64 0, .int .i64 0] 24)).alloc (.cells #[v, .int .i64 0, .int .u64 0] 47)) zs v 0 := by
  refine ⟨(by repeat (first | exact Below.refl _ _ | assumption | refine Below.drew ?_ | refine below_drewN ?_ _ | refine Below.alloc ?_ (by first | omega | (simp <;> omega)) _ | refine Below.setCell ?_ (by first | omega | (simp <;> omega)) _ | refine Below.trans ?_ (Below.mono (by assumption) (by first | omega | (simp <;> omega))))), ⟨(by repeat (first | (refine Eq.trans (World.cell?_alloc_at _ _ _ _ ?hh) ?_; (case hh => (simp; done)); rfl) | refine cell_alloc_keep _ ?_)), (by repeat (first | (refine Eq.trans (World.cell?_alloc_at _ _ _ _ ?hh) ?_; (case hh => (simp; done)); rfl) | refine cell_alloc_keep _ ?_)), (by repeat (first | (refine Eq.trans (World.cell?_alloc_at _ _ _ _ ?hh) ?_; (case hh => (simp; done)); rfl) | refine cell_alloc_keep _ ?_)), (by repeat (first | (refine World.frozen?_alloc_at _ _ _ _ ?hh; case hh => (simp; done)) | (refine frozen_alloc_lt _ ?hh ?_; case hh => first | omega | (simp <;> omega)))), (by repeat (first | (refine World.frozen?_alloc_at _ _ _ _ ?hh; case hh => (simp; done)) | (refine frozen_alloc_lt _ ?hh ?_; case hh => first | omega | (simp <;> omega)))), (by repeat (first | (refine World.frozen?_alloc_at _ _ _ _ ?hh; case hh => (simp; done)) | (refine frozen_alloc_lt _ ?hh ?_; case hh => first | omega | (simp <;> omega))))⟩, ⟨(by repeat (first | (refine Eq.trans (World.cell?_alloc_at _ _ _ _ ?hh) ?_; (case hh => (simp; done)); rfl) | refine cell_alloc_keep _ ?_)), (by repeat (first | (refine Eq.trans (World.cell?_alloc_at _ _ _ _ ?hh) ?_; (case hh => (simp; done)); rfl) | refine cell_alloc_keep _ ?_)), (by repeat (first | (refine Eq.trans (World.cell?_alloc_at _ _ _ _ ?hh) ?_; (case hh => (simp; done)); rfl) | refine cell_alloc_keep _ ?_)), (by repeat (first | (refine World.frozen?_alloc_at _ _ _ _ ?hh; case hh => (simp; done)) | (refine frozen_alloc_lt _ ?hh ?_; case hh => first | omega | (simp <;> omega)))), (by repeat (first | (refine World.frozen?_alloc_at _ _ _ _ ?hh; case hh => (simp; done)) | (refine frozen_alloc_lt _ ?hh ?_; case hh => first | omega | (simp <;> omega)))), (by repeat (first | (refine World.frozen?_alloc_at _ _ _ _ ?hh; case hh => (simp; done)) | (refine frozen_alloc_lt _ ?hh ?_; case hh => first | omega | (simp <;> omega))))⟩, ?_⟩
  have := cur_new (w := (w.alloc (.cells #[.int .i64 0, .int .i64 0, .int .i64 0] 24)).alloc (.cells #[.int .i64 0, .int .i64 0, .int .i64 0] 24)) (Rd.below h (show Below w.heap.size w _ from (by repeat (first | exact Below.refl _ _ | assumption | refine Below.drew ?_ | refine below_drewN ?_ _ | refine Below.alloc ?_ (by first | omega | (simp <;> omega)) _ | refine Below.setCell ?_ (by first | omega | (simp <;> omega)) _ | refine Below.trans ?_ (Below.mono (by assumption) (by first | omega | (simp <;> omega)))))) rfl)
  simpa using this
set_option maxHeartbeats 8000000 in
theorem spec_DrawMulPauli_any (v : Value) (zs : List Int) (w : World) (h : RdB w v zs) (hr : ∀ z ∈ zs, 0 ≤ z ∧ z ≤ 255) :
    Calls Try.prog 4 #[v] w fun e w' => ∃ (n : Nat) (p x z p2 x2 z2 : Int), e = .returned (.tuple #[.int .i64 (n : Int), .agg #[.int .i64 p, .int .i64 x, .int .i64 z], .agg #[.int .i64 p2, .int .i64 x2, .int .i64 z2]]) ∧ 1 ≤ n ∧ n ≤ 4 ∧ Below w.heap.size w w' := by
  have HR := Lib.hid hr
  obtain ⟨A, c, rfl⟩ : ∃ a c, v = .slice a zs.length c := h.form_any
  have D0 := Lib.hid (Dp.new h)
  clear h hr
  go_enter Try.func4, Try.ntmps4
  go_wp2_with fail
  generalize (((w.alloc (.cells #[.int .i64 0, .int .i64 0, .int .i64 0] 24)).alloc (.cells #[.int .i64 0, .int .i64 0, .int .i64 0] 24)).alloc (.cells #[.slice A zs.length c, .int .i64 0, .int .u64 0] 47)) = w1 at *
  refine (cur_pick_any (w.heap.size + 2) 0 4 zs _ _ D0.out.cur (by omega) (by omega) HR.out).mono ?_; rintro e w2 ⟨n1, rfl, hn1, _, hc2, hg2⟩
  have D2 := Lib.hid (D0.out.step hc2 hg2)
  have hn4 := hn1 (by omega)
  clear hc2 hg2 D0 hn1
  clear w1
  have e1 : IntKind.i64.wrap (1 + (n1 : Int)) = 1 + (n1 : Int) := IntWalk.i64_in _ (by omega)
  go_wp2_with fail
  rw [show (1 + (n1 : Int)) = ((1 + n1 : Nat) : Int) by push_cast; rfl]
  clear e1
  have N1 : 1 ≤ 1 + n1 := by omega
  have N4 : 1 + n1 ≤ 4 := by omega
  clear hn4
  generalize 1 + n1 = n at *
  refine (cur_anyPauli_any (w.heap.size + 2) 2 n zs _ _ D2.out.cur N1 N4 (by omega) HR.out).mono ?_; rintro e w3 ⟨p, x, z, rfl, hc3, hg3⟩
  have D3 := Lib.hid (D2.out.step hc3 hg3)
  clear hc3 hg3 D2
  clear w2
  go_wp2_with fail
  have hs3 : w.heap.size + 1 < w3.heap.size := World.block_lt_of_cell? _ _ D3.out.b.c0
  have hsc : w.heap.size + 2 < w3.heap.size := D3.out.cur.lt
  obtain ⟨g, hg⟩ : ∃ g, g = w3.heap.size := ⟨_, rfl⟩
  have P4 := Lib.hid (show PB (w3.alloc (.cells #[.int .i64 p, .int .i64 x, .int .i64 z] 24)) g p x z from by rw [hg]; exact PB.new w3 _ _ _)
  have D4 := Lib.hid (D3.out.call (show Below w3.heap.size w3 (w3.alloc (.cells #[.int .i64 p, .int .i64 x, .int .i64 z] 24)) from (by repeat (first | exact Below.refl _ _ | assumption | refine Below.drew ?_ | refine below_drewN ?_ _ | refine Below.alloc ?_ (by first | omega | (simp <;> omega)) _ | refine Below.setCell ?_ (by first | omega | (simp <;> omega)) _ | refine Below.trans ?_ (Below.mono (by assumption) (by first | omega | (simp <;> omega)))))))
  rw [← hg]
  generalize (w3.alloc (.cells #[.int .i64 p, .int .i64 x, .int .i64 z] 24)) = w4 at *
  rw [← hg] at hs3 hsc
  clear hg D3
  clear w3
  have P5 := Lib.hid (P4.out.call (show Below w4.heap.size w4 w4.drew from (by repeat (first | exact Below.refl _ _ | assumption | refine Below.drew ?_ | refine below_drewN ?_ _ | refine Below.alloc ?_ (by first | omega | (simp <;> omega)) _ | refine Below.setCell ?_ (by first | omega | (simp <;> omega)) _ | refine Below.trans ?_ (Below.mono (by assumption) (by first | omega | (simp <;> omega)))))))
  have D5 := Lib.hid (D4.out.call (show Below w4.heap.size w4 w4.drew from (by repeat (first | exact Below.refl _ _ | assumption | refine Below.drew ?_ | refine below_drewN ?_ _ | refine Below.alloc ?_ (by first | omega | (simp <;> omega)) _ | refine Below.setCell ?_ (by first | omega | (simp <;> omega)) _ | refine Below.trans ?_ (Below.mono (by assumption) (by first | omega | (simp <;> omega)))))))
  obtain ⟨b0, b1, b2, _, _, _⟩ := P4.out
  go_region_with (go_at_call 16; refine (cur_anyPauli_any (w.heap.size + 2) 14 n zs _ _ D5.out.cur N1 N4 (by omega) HR.out).mono ?_; rintro e w5 ⟨p2, x2, z2, rfl, hc5, hg5⟩; replace D5 := Lib.hid (D5.out.step hc5 hg5); replace P5 := Lib.hid (P5.out.kept hg5 (by omega)); clear hc5 hg5; obtain ⟨b0, b1, b2, _, _, _⟩ := P5.out; obtain ⟨⟨a0, a1, a2, f0, f1, f2⟩, ⟨c0, c1, c2, q0, q1, q2⟩⟩ := And.intro D5.out.a D5.out.b)
  all_goals (clear b0 b1 b2 a0 a1 a2 f0 f1 f2 c0 c1 c2 q0 q1 q2; have n1 : w.heap.size ≠ w.heap.size + 1 := by omega)
  all_goals go_wp2_with fail
  all_goals
    have A9 : PB ((((((w5.setCell ⟨w.heap.size, 0, none⟩ (.int .i64 p)).setCell ⟨w.heap.size, 1, none⟩ (.int .i64 x)).setCell ⟨w.heap.size, 2, none⟩ (.int .i64 z)).setCell ⟨w.heap.size + 1, 0, none⟩ (.int .i64 p2)).setCell ⟨w.heap.size + 1, 1, none⟩ (.int .i64 x2)).setCell ⟨w.heap.size + 1, 2, none⟩ (.int .i64 z2)) w.heap.size p x z := (D5.out.a.set p x z).other3 n1
    have B9 : PB ((((((w5.setCell ⟨w.heap.size, 0, none⟩ (.int .i64 p)).setCell ⟨w.heap.size, 1, none⟩ (.int .i64 x)).setCell ⟨w.heap.size, 2, none⟩ (.int .i64 z)).setCell ⟨w.heap.size + 1, 0, none⟩ (.int .i64 p2)).setCell ⟨w.heap.size + 1, 1, none⟩ (.int .i64 x2)).setCell ⟨w.heap.size + 1, 2, none⟩ (.int .i64 z2)) (w.heap.size + 1) p2 x2 z2 := (D5.out.b.other3 (Ne.symm n1)).set p2 x2 z2
    have hl : w.heap.size < w5.heap.size := World.block_lt_of_cell? _ _ D5.out.a.c0
    have Bl : Below w.heap.size w ((((((w5.setCell ⟨w.heap.size, 0, none⟩ (.int .i64 p)).setCell ⟨w.heap.size, 1, none⟩ (.int .i64 x)).setCell ⟨w.heap.size, 2, none⟩ (.int .i64 z)).setCell ⟨w.heap.size + 1, 0, none⟩ (.int .i64 p2)).setCell ⟨w.heap.size + 1, 1, none⟩ (.int .i64 x2)).setCell ⟨w.heap.size + 1, 2, none⟩ (.int .i64 z2)) := (Below.setCell (p := ⟨w.heap.size + 1, 2, none⟩) (Below.setCell (p := ⟨w.heap.size + 1, 1, none⟩) (Below.setCell (p := ⟨w.heap.size + 1, 0, none⟩) (Below.setCell (p := ⟨w.heap.size, 2, none⟩) (Below.setCell (p := ⟨w.heap.size, 1, none⟩) (Below.setCell (p := ⟨w.heap.size, 0, none⟩) D5.out.bel (Nat.le_refl _) _) (Nat.le_refl _) _) (Nat.le_refl _) _) (Nat.le_succ _) _) (Nat.le_succ _) _) (Nat.le_succ _) _)
    clear D5 P5 P4 D4
    generalize ((((((w5.setCell ⟨w.heap.size, 0, none⟩ (.int .i64 p)).setCell ⟨w.heap.size, 1, none⟩ (.int .i64 x)).setCell ⟨w.heap.size, 2, none⟩ (.int .i64 z)).setCell ⟨w.heap.size + 1, 0, none⟩ (.int .i64 p2)).setCell ⟨w.heap.size + 1, 1, none⟩ (.int .i64 x2)).setCell ⟨w.heap.size + 1, 2, none⟩ (.int .i64 z2)) = w9 at *
    obtain ⟨a0, a1, a2, _, _, _⟩ := A9
    obtain ⟨c0, c1, c2, _, _, _⟩ := B9
    refine bodyPost_ret (v := .tuple #[.int .i64 (n : Int), .agg #[.int .i64 p, .int .i64 x, .int .i64 z], .agg #[.int .i64 p2, .int .i64 x2, .int .i64 z2]]) (by simp [results, Try.results4, go_sem, a0, a1, a2, c0, c1, c2]) rfl ⟨n, p, x, z, p2, x2, z2, rfl, N1, N4, Bl⟩
end Go.Proofs.Yteimcfbliigjmaa
namespace Go.Proofs.Yteimcfbliigjmaa
set_option linter.unusedSimpArgs false
set_option linter.unusedVariables false
set_option linter.unnecessarySimpa false
set_option maxRecDepth 200000
open Go.ChangeShapes Go.WideShapes Go.ChangeAt Go.RowKit

/-- The state of a draw: one result box, the cursor's box behind it. -/
structure Dq (w0 w : World) (zs : List Int) (cv : Value) (N : Nat) : Prop where
  bel : Below w0.heap.size w0 w
  a : PB w w0.heap.size 0 0 0
  cur : Cur w (w0.heap.size + 1) zs cv N
theorem Dq.step {w0 w w' : World} {zs : List Int} {cv : Value} {N M : Nat} (h : Dq w0 w zs cv N) (hc : Cur w' (w0.heap.size + 1) zs cv M) (hg : w.grownBy w' (some (w0.heap.size + 1))) : Dq w0 w' zs cv M :=
  ⟨below_box h.bel hg (by omega) (by have := World.block_lt_of_cell? _ _ h.a.c0; exact Nat.le_of_lt this), h.a.kept hg (by omega), hc⟩
theorem Dq.call {w0 w w' : World} {zs : List Int} {cv : Value} {N : Nat} (h : Dq w0 w zs cv N) (hb : Below w.heap.size w w') : Dq w0 w' zs cv N :=
  ⟨Below.trans h.bel (hb.mono (Nat.le_of_lt (World.block_lt_of_cell? _ _ h.a.c0))), h.a.call hb, h.cur.call hb⟩
theorem Dq.new {w : World} {v : Value} {zs : List Int} (h : RdB w v zs) :
    Dq w ((w.alloc (.cells #[.int .i64 0, .int .i64 0, .int .i64 0] 24)).alloc (.cells #[v, .int .i64 0, .int .u64 0] 47)) zs v 0 := by
  refine ⟨(by repeat (first | exact Below.refl _ _ | assumption | refine Below.drew ?_ | refine below_drewN ?_ _ | refine Below.alloc ?_ (by first | omega | (simp <;> omega)) _ | refine Below.setCell ?_ (by first | omega | (simp <;> omega)) _ | refine Below.trans ?_ (Below.mono (by assumption) (by first | omega | (simp <;> omega))))), ⟨(by repeat (first | (refine Eq.trans (World.cell?_alloc_at _ _ _ _ ?hh) ?_; (case hh => (simp; done)); rfl) | refine cell_alloc_keep _ ?_)), (by repeat (first | (refine Eq.trans (World.cell?_alloc_at _ _ _ _ ?hh) ?_; (case hh => (simp; done)); rfl) | refine cell_alloc_keep _ ?_)), (by repeat (first | (refine Eq.trans (World.cell?_alloc_at _ _ _ _ ?hh) ?_; (case hh => (simp; done)); rfl) | refine cell_alloc_keep _ ?_)), (by repeat (first | (refine World.frozen?_alloc_at _ _ _ _ ?hh; case hh => (simp; done)) | (refine frozen_alloc_lt _ ?hh ?_; case hh => first | omega | (simp <;> omega)))), (by repeat (first | (refine World.frozen?_alloc_at _ _ _ _ ?hh; case hh => (simp; done)) | (refine frozen_alloc_lt _ ?hh ?_; case hh => first | omega | (simp <;> omega)))), (by repeat (first | (refine World.frozen?_alloc_at _ _ _ _ ?hh; case hh => (simp; done)) | (refine frozen_alloc_lt _ ?hh ?_; case hh => first | omega | (simp <;> omega))))⟩, ?_⟩
  have := cur_new (w := w.alloc (.cells #[.int .i64 0, .int .i64 0, .int .i64 0] 24)) (Rd.below h (show Below w.heap.size w _ from (by repeat (first | exact Below.refl _ _ | assumption | refine Below.drew ?_ | refine below_drewN ?_ _ | refine Below.alloc ?_ (by first | omega | (simp <;> omega)) _ | refine Below.setCell ?_ (by first | omega | (simp <;> omega)) _ | refine Below.trans ?_ (Below.mono (by assumption) (by first | omega | (simp <;> omega)))))) rfl)
  simpa using this
set_option maxHeartbeats 8000000 in
theorem spec_DrawIsValidPauli_any (v : Value) (zs : List Int) (w : World) (h : RdB w v zs) (hr : ∀ z ∈ zs, 0 ≤ z ∧ z ≤ 255) :
    Calls Try.prog 20 #[v] w fun e w' => ∃ (n p x z : Int), e = .returned (.tuple #[.int .i64 n, .agg #[.int .i64 p, .int .i64 x, .int .i64 z]]) ∧ Below w.heap.size w w' := by
  have HR := Lib.hid hr
  obtain ⟨A, c, rfl⟩ : ∃ a c, v = .slice a zs.length c := h.form_any
  have D0 := Lib.hid (Dq.new h)
  clear h hr
  go_enter Try.func20, Try.ntmps20
  go_wp2_with fail
  generalize ((w.alloc (.cells #[.int .i64 0, .int .i64 0, .int .i64 0] 24)).alloc (.cells #[.slice A zs.length c, .int .i64 0, .int .u64 0] 47)) = w1 at *
  refine (cur_pick_any (w.heap.size + 1) 0 4 zs _ _ D0.out.cur (by omega) (by omega) HR.out).mono ?_; rintro e w2 ⟨n1, rfl, hn1, _, hc2, hg2⟩
  have D2 := Lib.hid (D0.out.step hc2 hg2)
  have hn4 := hn1 (by omega)
  clear hc2 hg2 D0 hn1
  clear w1
  have e1 : IntKind.i64.wrap (1 + (n1 : Int)) = 1 + (n1 : Int) := IntWalk.i64_in _ (by omega)
  go_wp2_with fail
  rw [show (1 + (n1 : Int)) = ((1 + n1 : Nat) : Int) by push_cast; rfl]
  clear e1
  have N1 : 1 ≤ 1 + n1 := by omega
  have N4 : 1 + n1 ≤ 4 := by omega
  clear hn4
  generalize 1 + n1 = n at *
  refine (cur_anyPauli_any (w.heap.size + 1) 2 n zs _ _ D2.out.cur N1 N4 (by omega) HR.out).mono ?_; rintro e w3 ⟨p, x, z, rfl, hc3, hg3⟩
  have D3 := Lib.hid (D2.out.step hc3 hg3)
  clear hc3 hg3 D2
  clear w2
  go_wp2_with fail
  have hs3 : w.heap.size < w3.heap.size := World.block_lt_of_cell? _ _ D3.out.a.c0
  have hsc : w.heap.size + 1 < w3.heap.size := D3.out.cur.lt
  obtain ⟨g, hg⟩ : ∃ g, g = w3.heap.size := ⟨_, rfl⟩
  have P4 := Lib.hid (show PB (w3.alloc (.cells #[.int .i64 p, .int .i64 x, .int .i64 z] 24)) g p x z from by rw [hg]; exact PB.new w3 _ _ _)
  have D4 := Lib.hid (D3.out.call (show Below w3.heap.size w3 (w3.alloc (.cells #[.int .i64 p, .int .i64 x, .int .i64 z] 24)) from (by repeat (first | exact Below.refl _ _ | assumption | refine Below.drew ?_ | refine below_drewN ?_ _ | refine Below.alloc ?_ (by first | omega | (simp <;> omega)) _ | refine Below.setCell ?_ (by first | omega | (simp <;> omega)) _ | refine Below.trans ?_ (Below.mono (by assumption) (by first | omega | (simp <;> omega)))))))
  rw [← hg]
  generalize (w3.alloc (.cells #[.int .i64 p, .int .i64 x, .int .i64 z] 24)) = w4 at *
  rw [← hg] at hs3 hsc
  clear hg D3
  clear w3
  refine (cur_one_any (w.heap.size + 1) 14 10 zs _ _ D4.out.cur (by omega) (by omega) HR.out).mono ?_; rintro e w5 ⟨q, rfl, hc5, hg5⟩
  have D5 := Lib.hid (D4.out.step hc5 hg5)
  have P5 := Lib.hid (P4.out.kept hg5 (by omega))
  clear hc5 hg5 D4 P4
  clear w4
  cases q with
  | true =>
    go_wp2_with fail
    have L4 := Lib.hid (lit_num w5 [0, 5, 6] (by decide))
    have D6 := Lib.hid (D5.out.call (show Below w5.heap.size w5 (w5.alloc (.cells #[.int .i64 0, .int .i64 5, .int .i64 6] 3)) from (by repeat (first | exact Below.refl _ _ | assumption | refine Below.drew ?_ | refine below_drewN ?_ _ | refine Below.alloc ?_ (by first | omega | (simp <;> omega)) _ | refine Below.setCell ?_ (by first | omega | (simp <;> omega)) _ | refine Below.trans ?_ (Below.mono (by assumption) (by first | omega | (simp <;> omega)))))))
    have P6 := Lib.hid (P5.out.call (show Below w5.heap.size w5 (w5.alloc (.cells #[.int .i64 0, .int .i64 5, .int .i64 6] 3)) from (by repeat (first | exact Below.refl _ _ | assumption | refine Below.drew ?_ | refine below_drewN ?_ _ | refine Below.alloc ?_ (by first | omega | (simp <;> omega)) _ | refine Below.setCell ?_ (by first | omega | (simp <;> omega)) _ | refine Below.trans ?_ (Below.mono (by assumption) (by first | omega | (simp <;> omega)))))))
    have hlc : w.heap.size + 1 < w5.heap.size := D5.out.cur.lt
    have O4 : Hid (∀ g, (Value.slice (some ⟨w5.heap.size, 0, none⟩) 3 3).ownBlock = some g → g ≠ w.heap.size + 1) := fun g e => by
      have e3 : w5.heap.size = g := by injection e
      omega
    refine (cur_among_any (w.heap.size + 1) (14 + 2) _ [0, 5, 6] zs _ _ D6.out.cur L4.out (by decide) (by decide) O4.out (by omega) HR.out).mono ?_; rintro e w7 ⟨m, rfl, _, hc7, hg7⟩
    have D7 := Lib.hid (D6.out.step hc7 hg7)
    have P7 := Lib.hid (P6.out.kept hg7 (by omega))
    clear hc7 hg7 D6 P6 L4 O4 D5 P5
    obtain ⟨b0, b1, b2, _, _, _⟩ := P7.out
    obtain ⟨a0, a1, a2, f0, f1, f2⟩ := D7.out.a
    go_wp2_with fail
    go_region_with fail
    all_goals go_wp2_with fail
    all_goals
      have A9 : PB (((w7.setCell ⟨w.heap.size, 0, none⟩ (.int .i64 p)).setCell ⟨w.heap.size, 1, none⟩ (.int .i64 x)).setCell ⟨w.heap.size, 2, none⟩ (.int .i64 z)) w.heap.size p x z := D7.out.a.set p x z
      have Bl : Below w.heap.size w (((w7.setCell ⟨w.heap.size, 0, none⟩ (.int .i64 p)).setCell ⟨w.heap.size, 1, none⟩ (.int .i64 x)).setCell ⟨w.heap.size, 2, none⟩ (.int .i64 z)) := (Below.setCell (p := ⟨w.heap.size, 2, none⟩) (Below.setCell (p := ⟨w.heap.size, 1, none⟩) (Below.setCell (p := ⟨w.heap.size, 0, none⟩) D7.out.bel (Nat.le_refl _) _) (Nat.le_refl _) _) (Nat.le_refl _) _)
      clear D7 b0 b1 b2 a0 a1 a2 f0 f1 f2
      generalize (((w7.setCell ⟨w.heap.size, 0, none⟩ (.int .i64 p)).setCell ⟨w.heap.size, 1, none⟩ (.int .i64 x)).setCell ⟨w.heap.size, 2, none⟩ (.int .i64 z)) = w9 at *
      obtain ⟨a0, a1, a2, _, _, _⟩ := A9
      refine bodyPost_ret (v := .tuple #[.int .i64 m, .agg #[.int .i64 p, .int .i64 x, .int .i64 z]]) (by simp [results, Try.results20, go_sem, a0, a1, a2]) rfl ⟨m, p, x, z, rfl, ⟨Bl.os, Bl.tape, Bl.output, Bl.size, Bl.block⟩⟩
  | false =>
    obtain ⟨b0, b1, b2, _, _, _⟩ := P5.out
    obtain ⟨a0, a1, a2, f0, f1, f2⟩ := D5.out.a
    go_wp2_with fail
    go_region_with fail
    all_goals go_wp2_with fail
    all_goals
      have A9 : PB (((w5.setCell ⟨w.heap.size, 0, none⟩ (.int .i64 p)).setCell ⟨w.heap.size, 1, none⟩ (.int .i64 x)).setCell ⟨w.heap.size, 2, none⟩ (.int .i64 z)) w.heap.size p x z := D5.out.a.set p x z
      have Bl : Below w.heap.size w (((w5.setCell ⟨w.heap.size, 0, none⟩ (.int .i64 p)).setCell ⟨w.heap.size, 1, none⟩ (.int .i64 x)).setCell ⟨w.heap.size, 2, none⟩ (.int .i64 z)) := (Below.setCell (p := ⟨w.heap.size, 2, none⟩) (Below.setCell (p := ⟨w.heap.size, 1, none⟩) (Below.setCell (p := ⟨w.heap.size, 0, none⟩) D5.out.bel (Nat.le_refl _) _) (Nat.le_refl _) _) (Nat.le_refl _) _)
      clear D5 b0 b1 b2 a0 a1 a2 f0 f1 f2
      generalize (((w5.setCell ⟨w.heap.size, 0, none⟩ (.int .i64 p)).setCell ⟨w.heap.size, 1, none⟩ (.int .i64 x)).setCell ⟨w.heap.size, 2, none⟩ (.int .i64 z)) = w9 at *
      obtain ⟨a0, a1, a2, _, _, _⟩ := A9
      refine bodyPost_ret (v := .tuple #[.int .i64 (n : Int), .agg #[.int .i64 p, .int .i64 x, .int .i64 z]]) (by simp [results, Try.results20, go_sem, a0, a1, a2]) rfl ⟨(n : Int), p, x, z, rfl, ⟨Bl.os, Bl.tape, Bl.output, Bl.size, Bl.block⟩⟩
set_option maxHeartbeats 2000000 in
theorem spec_DrawFormatPauli_any (v : Value) (zs : List Int) (w : World) (h : RdB w v zs) (hr : ∀ z ∈ zs, 0 ≤ z ∧ z ≤ 255) :
    Calls Try.prog 7 #[v] w fun e w' => ∃ (n p x z : Int), e = .returned (.tuple #[.int .i64 n, .agg #[.int .i64 p, .int .i64 x, .int .i64 z]]) ∧ Below w.heap.size w w' := by
  have H1 := Lib.hid (Rd.below h (show Below w.heap.size w (w.alloc (.cells #[.int .i64 0, .int .i64 0, .int .i64 0] 24)) from (by repeat (first | exact Below.refl _ _ | assumption | refine Below.drew ?_ | refine below_drewN ?_ _ | refine Below.alloc ?_ (by first | omega | (simp <;> omega)) _ | refine Below.setCell ?_ (by first | omega | (simp <;> omega)) _ | refine Below.trans ?_ (Below.mono (by assumption) (by first | omega | (simp <;> omega)))))) rfl)
  obtain ⟨A, c, rfl⟩ : ∃ a c, v = .slice a zs.length c := h.form_any
  have HR := Lib.hid hr
  have A0 := Lib.hid (PB.new w 0 0 0)
  have B0 := Lib.hid (show Below w.heap.size w (w.alloc (.cells #[.int .i64 0, .int .i64 0, .int .i64 0] 24)) from (by repeat (first | exact Below.refl _ _ | assumption | refine Below.drew ?_ | refine below_drewN ?_ _ | refine Below.alloc ?_ (by first | omega | (simp <;> omega)) _ | refine Below.setCell ?_ (by first | omega | (simp <;> omega)) _ | refine Below.trans ?_ (Below.mono (by assumption) (by first | omega | (simp <;> omega))))))
  have hs : w.heap.size < (w.alloc (.cells #[.int .i64 0, .int .i64 0, .int .i64 0] 24)).heap.size := by simp
  clear h hr
  go_enter Try.func7, Try.ntmps7
  go_wp2_with fail
  generalize (w.alloc (.cells #[.int .i64 0, .int .i64 0, .int .i64 0] 24)) = w1 at *
  refine (spec_DrawIsValidPauli_any _ zs _ H1.out HR.out).mono ?_; rintro e w2 ⟨n, p, x, z, rfl, hb2⟩
  have A2 := Lib.hid (A0.out.call hb2)
  have B2 := Lib.hid (Below.trans B0.out (hb2.mono (Nat.le_of_lt hs)))
  obtain ⟨a0, a1, a2, f0, f1, f2⟩ := A2.out
  clear hb2 A0 B0 H1
  go_wp2_with fail
  have A9 : PB (((w2.setCell ⟨w.heap.size, 0, none⟩ (.int .i64 p)).setCell ⟨w.heap.size, 1, none⟩ (.int .i64 x)).setCell ⟨w.heap.size, 2, none⟩ (.int .i64 z)) w.heap.size p x z := A2.out.set p x z
  have Bl : Below w.heap.size w (((w2.setCell ⟨w.heap.size, 0, none⟩ (.int .i64 p)).setCell ⟨w.heap.size, 1, none⟩ (.int .i64 x)).setCell ⟨w.heap.size, 2, none⟩ (.int .i64 z)) := (Below.setCell (p := ⟨w.heap.size, 2, none⟩) (Below.setCell (p := ⟨w.heap.size, 1, none⟩) (Below.setCell (p := ⟨w.heap.size, 0, none⟩) B2.out (Nat.le_refl _) _) (Nat.le_refl _) _) (Nat.le_refl _) _)
  clear A2 B2 a0 a1 a2 f0 f1 f2
  generalize (((w2.setCell ⟨w.heap.size, 0, none⟩ (.int .i64 p)).setCell ⟨w.heap.size, 1, none⟩ (.int .i64 x)).setCell ⟨w.heap.size, 2, none⟩ (.int .i64 z)) = w9 at *
  obtain ⟨a0, a1, a2, _, _, _⟩ := A9
  refine bodyPost_ret (v := .tuple #[.int .i64 n, .agg #[.int .i64 p, .int .i64 x, .int .i64 z]]) (by simp [results, Try.results7, go_sem, a0, a1, a2]) rfl ⟨n, p, x, z, rfl, Bl⟩
end Go.Proofs.Yteimcfbliigjmaa
namespace Go.Proofs.Yteimcfbliigjmaa
set_option linter.unusedSimpArgs false
set_option linter.unusedVariables false
set_option linter.unnecessarySimpa false
set_option maxRecDepth 200000
open Go.ChangeShapes Go.WideShapes Go.ChangeAt Go.RowKit

/-- Two boxes at a world's end. -/
structure Tr2 (w0 w : World) (a b : E3) : Prop where
  bel : Below w0.heap.size w0 w
  a : PB w w0.heap.size a.a a.b a.c
  b : PB w (w0.heap.size + 1) b.a b.b b.c
theorem Tr2.new (w : World) (a b : E3) : Tr2 w ((w.alloc (.cells (EC a) 24)).alloc (.cells (EC b) 24)) a b :=
  ⟨(by repeat (first | exact Below.refl _ _ | assumption | refine Below.drew ?_ | refine below_drewN ?_ _ | refine Below.alloc ?_ (by first | omega | (simp <;> omega)) _ | refine Below.setCell ?_ (by first | omega | (simp <;> omega)) _ | refine Below.trans ?_ (Below.mono (by assumption) (by first | omega | (simp <;> omega))))), ⟨(by repeat (first | (refine Eq.trans (World.cell?_alloc_at _ _ _ _ ?hh) ?_; (case hh => (simp; done)); rfl) | refine cell_alloc_keep _ ?_)), (by repeat (first | (refine Eq.trans (World.cell?_alloc_at _ _ _ _ ?hh) ?_; (case hh => (simp; done)); rfl) | refine cell_alloc_keep _ ?_)), (by repeat (first | (refine Eq.trans (World.cell?_alloc_at _ _ _ _ ?hh) ?_; (case hh => (simp; done)); rfl) | refine cell_alloc_keep _ ?_)), (by repeat (first | (refine World.frozen?_alloc_at _ _ _ _ ?hh; case hh => (simp; done)) | (refine frozen_alloc_lt _ ?hh ?_; case hh => first | omega | (simp <;> omega)))), (by repeat (first | (refine World.frozen?_alloc_at _ _ _ _ ?hh; case hh => (simp; done)) | (refine frozen_alloc_lt _ ?hh ?_; case hh => first | omega | (simp <;> omega)))), (by repeat (first | (refine World.frozen?_alloc_at _ _ _ _ ?hh; case hh => (simp; done)) | (refine frozen_alloc_lt _ ?hh ?_; case hh => first | omega | (simp <;> omega))))⟩, ⟨(by repeat (first | (refine Eq.trans (World.cell?_alloc_at _ _ _ _ ?hh) ?_; (case hh => (simp; done)); rfl) | refine cell_alloc_keep _ ?_)), (by repeat (first | (refine Eq.trans (World.cell?_alloc_at _ _ _ _ ?hh) ?_; (case hh => (simp; done)); rfl) | refine cell_alloc_keep _ ?_)), (by repeat (first | (refine Eq.trans (World.cell?_alloc_at _ _ _ _ ?hh) ?_; (case hh => (simp; done)); rfl) | refine cell_alloc_keep _ ?_)), (by repeat (first | (refine World.frozen?_alloc_at _ _ _ _ ?hh; case hh => (simp; done)) | (refine frozen_alloc_lt _ ?hh ?_; case hh => first | omega | (simp <;> omega)))), (by repeat (first | (refine World.frozen?_alloc_at _ _ _ _ ?hh; case hh => (simp; done)) | (refine frozen_alloc_lt _ ?hh ?_; case hh => first | omega | (simp <;> omega)))), (by repeat (first | (refine World.frozen?_alloc_at _ _ _ _ ?hh; case hh => (simp; done)) | (refine frozen_alloc_lt _ ?hh ?_; case hh => first | omega | (simp <;> omega))))⟩⟩
theorem Tr2.call {w0 w w' : World} {a b : E3} (h : Tr2 w0 w a b) (hb : Below w.heap.size w w') : Tr2 w0 w' a b :=
  ⟨Below.trans h.bel (hb.mono (Nat.le_of_lt (World.block_lt_of_cell? _ _ h.a.c0))), h.a.call hb, h.b.call hb⟩
set_option maxHeartbeats 4000000 in
theorem impl_Commute_ok (n : Int) (a b : E3) (w : World) (hA : pauB n a = true) (hB : pauB n b = true) :
    Calls Try.prog 11 #[.int .i64 n, .agg (EC a), .agg (EC b)] w fun e w' => e = .returned (.tuple #[.bool (commN (tn a) (tn b)), .bool true]) ∧ Below w.heap.size w w' := by
  have T1 := Lib.hid (Tr2.new w a b)
  have HA := Lib.hid hA
  have HBB := Lib.hid hB
  obtain ⟨ea, oa⟩ := pauB_nat hA
  obtain ⟨eb, ob⟩ := pauB_nat hB
  have MM := Lib.hid (fun W => impl_commute_any (tn a) (tn b) W oa ob)
  have ea1 : a.a = ((tn a).p : Int) := congrArg E3.a ea
  have ea2 : a.b = ((tn a).x : Int) := congrArg E3.b ea
  have ea3 : a.c = ((tn a).z : Int) := congrArg E3.c ea
  have eb1 : b.a = ((tn b).p : Int) := congrArg E3.a eb
  have eb2 : b.b = ((tn b).x : Int) := congrArg E3.b eb
  have eb3 : b.c = ((tn b).z : Int) := congrArg E3.c eb
  have EA := Lib.hid (And.intro ea1 (And.intro ea2 ea3))
  have EB := Lib.hid (And.intro eb1 (And.intro eb2 eb3))
  clear hA hB ea eb oa ob ea1 ea2 ea3 eb1 eb2 eb3
  go_enter Try.func11, Try.ntmps11
  go_wp2_with fail
  generalize ((w.alloc (.cells #[.int .i64 a.a, .int .i64 a.b, .int .i64 a.c] 24)).alloc (.cells #[.int .i64 b.a, .int .i64 b.b, .int .i64 b.c] 24)) = w1 at *
  refine (impl_IsValidPauli_any n a _).mono ?_; rintro e w2 ⟨rfl, hb2⟩
  rw [HA.out]
  have T2 := Lib.hid (T1.out.call hb2)
  clear hb2 T1
  obtain ⟨a0, a1, a2, _, _, _⟩ := T2.out.a
  obtain ⟨b0, b1, b2, _, _, _⟩ := T2.out.b
  go_wp2_with fail
  refine (impl_IsValidPauli_any n b _).mono ?_; rintro e w3 ⟨rfl, hb3⟩
  rw [HBB.out]
  have T3 := Lib.hid (T2.out.call hb3)
  clear a0 a1 a2 b0 b1 b2
  clear hb3 T2
  obtain ⟨a0, a1, a2, _, _, _⟩ := T3.out.a
  obtain ⟨b0, b1, b2, _, _, _⟩ := T3.out.b
  go_wp2_with fail
  clear a0 a1 a2 b0 b1 b2
  rw [EA.out.1, EA.out.2.1, EA.out.2.2, EB.out.1, EB.out.2.1, EB.out.2.2]
  refine (MM.out _).mono ?_; rintro e w4 ⟨rfl, hb4⟩
  have T4 := Lib.hid (T3.out.call hb4)
  clear hb4 T3 MM
  go_wp2_with fail
  go_ret2
  exact ⟨rfl, T4.out.bel⟩
end Go.Proofs.Yteimcfbliigjmaa
