/- SameClifford in the program and in the reference. -/
import Derived.Test.YtdkfoleippncnaaTofs
import Derived.Test.YtdkfoleippncnaaBrk
namespace Go.Proofs.Ytdkfoleippncnaa
set_option linter.unusedSimpArgs false
set_option linter.unusedVariables false
set_option linter.unnecessarySimpa false
set_option maxRecDepth 200000
open Go.ChangeShapes Go.WideShapes Go.ChangeAt Go.RowKit

/-- Are both circuits without T gates, over as many qubits? -/
def sameOk (a b : Circ) : Bool := clifB a && clifB b && !(a.n != b.n)
/-- And have they the same tableau? -/
def sameR (a b : Circ) : Bool := sameOk a b && decide (pes (tofX a.n.toNat a.gs a.gs.length) = pes (tofX a.n.toNat b.gs b.gs.length) ∧ pes (tofZ a.n.toNat a.gs a.gs.length) = pes (tofZ a.n.toNat b.gs b.gs.length))
theorem same_no {a b : Circ} (h : clifB a = false ∨ clifB b = false ∨ (a.n != b.n) = true) : sameOk a b = false ∧ sameR a b = false := by
  have h1 : sameOk a b = false := by
    unfold sameOk
    rcases h with h | h | h
    · rw [h]; simp
    · rw [h]; simp
    · rw [h]; simp
  exact ⟨h1, by unfold sameR; rw [h1]; rfl⟩
theorem same_yes {a b : Circ} {n : Nat} (h1 : clifB a = true) (h2 : clifB b = true) (h3 : (a.n != b.n) = false) (hn : a.n = (n : Int)) : sameOk a b = true ∧ sameR a b = decide (pes (tofX n a.gs a.gs.length) = pes (tofX n b.gs b.gs.length) ∧ pes (tofZ n a.gs a.gs.length) = pes (tofZ n b.gs b.gs.length)) := by
  have h4 : sameOk a b = true := by unfold sameOk; rw [h1, h2, h3]; rfl
  refine ⟨h4, ?_⟩
  unfold sameR
  rw [h4, hn, Int.toNat_natCast, Bool.true_and]
theorem ret_two {a b c d : Bool} (h : a = c) (k : b = d) : Ending.returned (.tuple #[.bool a, .bool b]) = .returned (.tuple #[.bool c, .bool d]) := by rw [h, k]
theorem n_eq {a b : Circ} {n : Nat} (h : (a.n != b.n) = false) (hn : a.n = (n : Int)) : b.n = (n : Int) := by
  have h1 : a.n = b.n := by simpa using h
  rw [← h1]; exact hn
set_option maxHeartbeats 8000000 in
theorem spec_SameClifford_any (v u : Value) (a b : Circ) (w : World) (h : RdE w v E3.cs 3 a.gs) (k : RdE w u E3.cs 3 b.gs) (hl : a.gs.length ≤ 1048576) (hm : b.gs.length ≤ 1048576) :
    Calls Try.prog 9 #[.agg #[.int .i64 a.n, v], .agg #[.int .i64 b.n, u]] w fun e w' => e = .returned (.tuple #[.bool (sameR a b), .bool (sameOk a b)]) ∧ Below w.heap.size w w' := by
  have HA := Lib.hid h; have HB := Lib.hid k
  obtain ⟨A, cA, rfl, _⟩ := h.form
  obtain ⟨B, cB, rfl, _⟩ := k.form
  clear h k
  cases ha : clifB a with
  | false =>
    have HR := Lib.hid (same_no (b := b) (.inl ha))
    have CA := Lib.hid ha; clear ha
    go_enter Try.func9, Try.ntmps9
    go_wp2_with fail
    refine (spec_l7Clifford_any _ a _ (Rd.below HA.out (show Below w.heap.size w _ from (by repeat (first | exact Below.refl _ _ | assumption | refine Below.drew ?_ | refine below_drewN ?_ _ | refine Below.alloc ?_ (by first | omega | (simp <;> omega)) _ | refine Below.setCell ?_ (by first | omega | (simp <;> omega)) _ | refine Below.trans ?_ (Below.mono (by assumption) (by first | omega | (simp <;> omega)))))) rfl) hl).mono ?_; rintro e w1 ⟨rfl, hb1⟩; rw [CA.out]
    have bw := Lib.hid (show Below w.heap.size w w1 from (by repeat (first | exact Below.refl _ _ | assumption | refine Below.drew ?_ | refine below_drewN ?_ _ | refine Below.alloc ?_ (by first | omega | (simp <;> omega)) _ | refine Below.setCell ?_ (by first | omega | (simp <;> omega)) _ | refine Below.trans ?_ (Below.mono (by assumption) (by first | omega | (simp <;> omega))))))
    clear hb1
    go_wp2_with fail
    go_ret2
    exact ⟨ret_two HR.out.2.symm HR.out.1.symm, bw.out⟩
  | true =>
    cases hb : clifB b with
    | false =>
      have HR := Lib.hid (same_no (a := a) (.inr (.inl hb)))
      have CA := Lib.hid ha; have CB := Lib.hid hb; clear ha hb
      go_enter Try.func9, Try.ntmps9
      go_wp2_with fail
      refine (spec_l7Clifford_any _ a _ (Rd.below HA.out (show Below w.heap.size w _ from (by repeat (first | exact Below.refl _ _ | assumption | refine Below.drew ?_ | refine below_drewN ?_ _ | refine Below.alloc ?_ (by first | omega | (simp <;> omega)) _ | refine Below.setCell ?_ (by first | omega | (simp <;> omega)) _ | refine Below.trans ?_ (Below.mono (by assumption) (by first | omega | (simp <;> omega)))))) rfl) hl).mono ?_; rintro e w1 ⟨rfl, hb1⟩; rw [CA.out]
      have t0 := below_cell hb1 rfl (show ((w.alloc (.cells #[.int .i64 a.n, .slice A a.gs.length cA] 30)).alloc (.cells #[.int .i64 b.n, .slice B b.gs.length cB] 30)).cell? ⟨w.heap.size, 0, none⟩ = some (.int .i64 a.n) from (by repeat (first | (refine Eq.trans (World.cell?_alloc_at _ _ _ _ ?hh) ?_; (case hh => (simp; done)); rfl) | refine cell_alloc_keep _ ?_)))
      have t1 := below_cell hb1 rfl (show ((w.alloc (.cells #[.int .i64 a.n, .slice A a.gs.length cA] 30)).alloc (.cells #[.int .i64 b.n, .slice B b.gs.length cB] 30)).cell? ⟨w.heap.size, 1, none⟩ = some (.slice A a.gs.length cA) from (by repeat (first | (refine Eq.trans (World.cell?_alloc_at _ _ _ _ ?hh) ?_; (case hh => (simp; done)); rfl) | refine cell_alloc_keep _ ?_)))
      have s0 := below_cell hb1 rfl (show ((w.alloc (.cells #[.int .i64 a.n, .slice A a.gs.length cA] 30)).alloc (.cells #[.int .i64 b.n, .slice B b.gs.length cB] 30)).cell? ⟨w.heap.size + 1, 0, none⟩ = some (.int .i64 b.n) from (by repeat (first | (refine Eq.trans (World.cell?_alloc_at _ _ _ _ ?hh) ?_; (case hh => (simp; done)); rfl) | refine cell_alloc_keep _ ?_)))
      have s1 := below_cell hb1 rfl (show ((w.alloc (.cells #[.int .i64 a.n, .slice A a.gs.length cA] 30)).alloc (.cells #[.int .i64 b.n, .slice B b.gs.length cB] 30)).cell? ⟨w.heap.size + 1, 1, none⟩ = some (.slice B b.gs.length cB) from (by repeat (first | (refine Eq.trans (World.cell?_alloc_at _ _ _ _ ?hh) ?_; (case hh => (simp; done)); rfl) | refine cell_alloc_keep _ ?_)))
      have z1 := hb1.size; (simp at z1)
      have bw := Lib.hid (show Below w.heap.size w w1 from (by repeat (first | exact Below.refl _ _ | assumption | refine Below.drew ?_ | refine below_drewN ?_ _ | refine Below.alloc ?_ (by first | omega | (simp <;> omega)) _ | refine Below.setCell ?_ (by first | omega | (simp <;> omega)) _ | refine Below.trans ?_ (Below.mono (by assumption) (by first | omega | (simp <;> omega))))))
      clear hb1
      go_wp2_with fail
      refine (spec_l7Clifford_any _ b _ (Rd.below HB.out (show Below w.heap.size w _ from bw.out) rfl) hm).mono ?_; rintro e w2 ⟨rfl, hb2⟩; rw [CB.out]
      replace t0 := below_cell hb2 rfl t0
      replace t1 := below_cell hb2 rfl t1
      replace s0 := below_cell hb2 rfl s0
      replace s1 := below_cell hb2 rfl s1
      have z2 := hb2.size
      replace bw := Lib.hid (show Below w.heap.size w w2 from Below.trans bw.out (hb2.mono (by omega)))
      clear hb2
      go_wp2_with fail
      go_ret2
      exact ⟨ret_two HR.out.2.symm HR.out.1.symm, bw.out⟩
    | true =>
      cases hne : (a.n != b.n) with
      | true =>
        have HR := Lib.hid (same_no (.inr (.inr hne)))
        have CA := Lib.hid ha; have CB := Lib.hid hb; clear ha hb
        go_enter Try.func9, Try.ntmps9
        go_wp2_with fail
        refine (spec_l7Clifford_any _ a _ (Rd.below HA.out (show Below w.heap.size w _ from (by repeat (first | exact Below.refl _ _ | assumption | refine Below.drew ?_ | refine below_drewN ?_ _ | refine Below.alloc ?_ (by first | omega | (simp <;> omega)) _ | refine Below.setCell ?_ (by first | omega | (simp <;> omega)) _ | refine Below.trans ?_ (Below.mono (by assumption) (by first | omega | (simp <;> omega)))))) rfl) hl).mono ?_; rintro e w1 ⟨rfl, hb1⟩; rw [CA.out]
        have t0 := below_cell hb1 rfl (show ((w.alloc (.cells #[.int .i64 a.n, .slice A a.gs.length cA] 30)).alloc (.cells #[.int .i64 b.n, .slice B b.gs.length cB] 30)).cell? ⟨w.heap.size, 0, none⟩ = some (.int .i64 a.n) from (by repeat (first | (refine Eq.trans (World.cell?_alloc_at _ _ _ _ ?hh) ?_; (case hh => (simp; done)); rfl) | refine cell_alloc_keep _ ?_)))
        have t1 := below_cell hb1 rfl (show ((w.alloc (.cells #[.int .i64 a.n, .slice A a.gs.length cA] 30)).alloc (.cells #[.int .i64 b.n, .slice B b.gs.length cB] 30)).cell? ⟨w.heap.size, 1, none⟩ = some (.slice A a.gs.length cA) from (by repeat (first | (refine Eq.trans (World.cell?_alloc_at _ _ _ _ ?hh) ?_; (case hh => (simp; done)); rfl) | refine cell_alloc_keep _ ?_)))
        have s0 := below_cell hb1 rfl (show ((w.alloc (.cells #[.int .i64 a.n, .slice A a.gs.length cA] 30)).alloc (.cells #[.int .i64 b.n, .slice B b.gs.length cB] 30)).cell? ⟨w.heap.size + 1, 0, none⟩ = some (.int .i64 b.n) from (by repeat (first | (refine Eq.trans (World.cell?_alloc_at _ _ _ _ ?hh) ?_; (case hh => (simp; done)); rfl) | refine cell_alloc_keep _ ?_)))
        have s1 := below_cell hb1 rfl (show ((w.alloc (.cells #[.int .i64 a.n, .slice A a.gs.length cA] 30)).alloc (.cells #[.int .i64 b.n, .slice B b.gs.length cB] 30)).cell? ⟨w.heap.size + 1, 1, none⟩ = some (.slice B b.gs.length cB) from (by repeat (first | (refine Eq.trans (World.cell?_alloc_at _ _ _ _ ?hh) ?_; (case hh => (simp; done)); rfl) | refine cell_alloc_keep _ ?_)))
        have z1 := hb1.size; (simp at z1)
        have bw := Lib.hid (show Below w.heap.size w w1 from (by repeat (first | exact Below.refl _ _ | assumption | refine Below.drew ?_ | refine below_drewN ?_ _ | refine Below.alloc ?_ (by first | omega | (simp <;> omega)) _ | refine Below.setCell ?_ (by first | omega | (simp <;> omega)) _ | refine Below.trans ?_ (Below.mono (by assumption) (by first | omega | (simp <;> omega))))))
        clear hb1
        go_wp2_with fail
        refine (spec_l7Clifford_any _ b _ (Rd.below HB.out (show Below w.heap.size w _ from bw.out) rfl) hm).mono ?_; rintro e w2 ⟨rfl, hb2⟩; rw [CB.out]
        replace t0 := below_cell hb2 rfl t0
        replace t1 := below_cell hb2 rfl t1
        replace s0 := below_cell hb2 rfl s0
        replace s1 := below_cell hb2 rfl s1
        have z2 := hb2.size
        replace bw := Lib.hid (show Below w.heap.size w w2 from Below.trans bw.out (hb2.mono (by omega)))
        clear hb2
        go_wp2_with fail
        go_ret2
        exact ⟨ret_two HR.out.2.symm HR.out.1.symm, bw.out⟩
      | false =>
        obtain ⟨n, hn, n1, n5⟩ := clif_nat ha
        have HR := Lib.hid (same_yes ha hb hne hn)
        have CA := Lib.hid ha; have CB := Lib.hid hb; have NA := Lib.hid hn; have NB := Lib.hid (n_eq hne hn); clear ha hb hn
        go_enter Try.func9, Try.ntmps9
        go_wp2_with fail
        refine (spec_l7Clifford_any _ a _ (Rd.below HA.out (show Below w.heap.size w _ from (by repeat (first | exact Below.refl _ _ | assumption | refine Below.drew ?_ | refine below_drewN ?_ _ | refine Below.alloc ?_ (by first | omega | (simp <;> omega)) _ | refine Below.setCell ?_ (by first | omega | (simp <;> omega)) _ | refine Below.trans ?_ (Below.mono (by assumption) (by first | omega | (simp <;> omega)))))) rfl) hl).mono ?_; rintro e w1 ⟨rfl, hb1⟩; rw [CA.out]
        have t0 := below_cell hb1 rfl (show ((w.alloc (.cells #[.int .i64 a.n, .slice A a.gs.length cA] 30)).alloc (.cells #[.int .i64 b.n, .slice B b.gs.length cB] 30)).cell? ⟨w.heap.size, 0, none⟩ = some (.int .i64 a.n) from (by repeat (first | (refine Eq.trans (World.cell?_alloc_at _ _ _ _ ?hh) ?_; (case hh => (simp; done)); rfl) | refine cell_alloc_keep _ ?_)))
        have t1 := below_cell hb1 rfl (show ((w.alloc (.cells #[.int .i64 a.n, .slice A a.gs.length cA] 30)).alloc (.cells #[.int .i64 b.n, .slice B b.gs.length cB] 30)).cell? ⟨w.heap.size, 1, none⟩ = some (.slice A a.gs.length cA) from (by repeat (first | (refine Eq.trans (World.cell?_alloc_at _ _ _ _ ?hh) ?_; (case hh => (simp; done)); rfl) | refine cell_alloc_keep _ ?_)))
        have s0 := below_cell hb1 rfl (show ((w.alloc (.cells #[.int .i64 a.n, .slice A a.gs.length cA] 30)).alloc (.cells #[.int .i64 b.n, .slice B b.gs.length cB] 30)).cell? ⟨w.heap.size + 1, 0, none⟩ = some (.int .i64 b.n) from (by repeat (first | (refine Eq.trans (World.cell?_alloc_at _ _ _ _ ?hh) ?_; (case hh => (simp; done)); rfl) | refine cell_alloc_keep _ ?_)))
        have s1 := below_cell hb1 rfl (show ((w.alloc (.cells #[.int .i64 a.n, .slice A a.gs.length cA] 30)).alloc (.cells #[.int .i64 b.n, .slice B b.gs.length cB] 30)).cell? ⟨w.heap.size + 1, 1, none⟩ = some (.slice B b.gs.length cB) from (by repeat (first | (refine Eq.trans (World.cell?_alloc_at _ _ _ _ ?hh) ?_; (case hh => (simp; done)); rfl) | refine cell_alloc_keep _ ?_)))
        have z1 := hb1.size; (simp at z1)
        have bw := Lib.hid (show Below w.heap.size w w1 from (by repeat (first | exact Below.refl _ _ | assumption | refine Below.drew ?_ | refine below_drewN ?_ _ | refine Below.alloc ?_ (by first | omega | (simp <;> omega)) _ | refine Below.setCell ?_ (by first | omega | (simp <;> omega)) _ | refine Below.trans ?_ (Below.mono (by assumption) (by first | omega | (simp <;> omega))))))
        clear hb1
        go_wp2_with fail
        refine (spec_l7Clifford_any _ b _ (Rd.below HB.out (show Below w.heap.size w _ from bw.out) rfl) hm).mono ?_; rintro e w2 ⟨rfl, hb2⟩; rw [CB.out]
        replace t0 := below_cell hb2 rfl t0
        replace t1 := below_cell hb2 rfl t1
        replace s0 := below_cell hb2 rfl s0
        replace s1 := below_cell hb2 rfl s1
        have z2 := hb2.size
        replace bw := Lib.hid (show Below w.heap.size w w2 from Below.trans bw.out (hb2.mono (by omega)))
        clear hb2
        go_wp2_with fail
        have bw0 := bw.out
        replace bw := Lib.hid (show Below w.heap.size w w2.drew from Below.drew bw0)
        clear bw0
        replace t0 : w2.drew.cell? _ = _ := t0
        replace t1 : w2.drew.cell? _ = _ := t1
        replace s0 : w2.drew.cell? _ = _ := s0
        replace s1 : w2.drew.cell? _ = _ := s1
        refine AnyB.begin (S := (fun w' => w'.cell? ⟨w.heap.size, 0, none⟩ = some (.int .i64 a.n) ∧ w'.cell? ⟨w.heap.size, 1, none⟩ = some (.slice A a.gs.length cA) ∧ w'.cell? ⟨w.heap.size + 1, 0, none⟩ = some (.int .i64 b.n) ∧ w'.cell? ⟨w.heap.size + 1, 1, none⟩ = some (.slice B b.gs.length cB))) [] (by kernel_rfl) ?_ (fun hHeld0 => ?_)
        · ((try dsimp only); (first | exact ⟨t0, t1, s0, s1⟩))
        refine AnyB.take (i := 0) (oi := _) (v := ?_) (by simp only [List.getElem?_toArray, List.getElem?_cons_zero, List.getElem?_cons_succ]; rfl) (by kernel_rfl) (by kernel_rfl) (by kernel_rfl) (by kernel_rfl) (by kernel_rfl) (by intro _ _ _ h; exact h) (Or.inl ⟨by rfl, ?_⟩) (by assumption) ?_
        rotate_left
        · (intro w hSw; (try dsimp only at hSw); go_simp; (try (with_reducible rfl)))
        try simp only [Act.put, List.setIfInBounds_toArray, List.set_cons_zero, List.set_cons_succ]
        refine AnyB.take (i := 2) (oi := _) (v := ?_) (by simp only [List.getElem?_toArray, List.getElem?_cons_zero, List.getElem?_cons_succ]; rfl) (by kernel_rfl) (by kernel_rfl) (by kernel_rfl) (by kernel_rfl) (by kernel_rfl) (by intro _ _ _ h; exact h) (Or.inl ⟨by rfl, ?_⟩) (by assumption) ?_
        rotate_left
        · (intro w hSw; (try dsimp only at hSw); go_simp; (try (with_reducible rfl)))
        try simp only [Act.put, List.setIfInBounds_toArray, List.set_cons_zero, List.set_cons_succ]
        refine AnyB.each (rs := [1]) (by kernel_rfl) (by simp) ?_
        refine EachB.cons rfl (fun K hK hB => ?_) ?_
        · skip
          (go_simp; go_at_call 42; refine (spec_l7Of_any _ a n _ (Rd.below HA.out bw.out rfl) NA.out CA.out).mono ?_; rintro e w3 ⟨Pa, Pb, rfl, ho0, ho1, hap, hb3⟩; have P0 := Lib.hid (OwnE.rd ho0); have P1 := Lib.hid (OwnE.rd ho1); clear ho0 ho1 hap; (try replace Q0 := Lib.hid (Rd.below Q0.out hb3 rfl)); (try replace Q1 := Lib.hid (Rd.below Q1.out hb3 rfl)); replace t0 := below_cell hb3 rfl t0; replace t1 := below_cell hb3 rfl t1; replace s0 := below_cell hb3 rfl s0; replace s1 := below_cell hb3 rfl s1; have y3 := hb3.size; (try simp at y3); replace bw := Lib.hid (show Below w.heap.size w w3 from Below.trans bw.out (hb3.mono (by first | omega | (simp; omega)))); clear hb3; dsimp only)
          refine hK.out _ _ ?_ (fun hHeld1 => ?_)
          · ((try dsimp only); (first | exact ⟨t0, t1, s0, s1⟩))
          clear hB hK K hHeld0
          refine AnyB.each (rs := [3]) (by kernel_rfl) (by simp) ?_
          refine EachB.cons rfl (fun K hK hB => ?_) ?_
          · skip
            (go_simp; go_at_call 42; refine (spec_l7Of_any _ b n _ (Rd.below HB.out bw.out rfl) NB.out CB.out).mono ?_; rintro e w4 ⟨Qa, Qb, rfl, ho0, ho1, hap, hb4⟩; have Q0 := Lib.hid (OwnE.rd ho0); have Q1 := Lib.hid (OwnE.rd ho1); clear ho0 ho1 hap; (try replace P0 := Lib.hid (Rd.below P0.out hb4 rfl)); (try replace P1 := Lib.hid (Rd.below P1.out hb4 rfl)); replace t0 := below_cell hb4 rfl t0; replace t1 := below_cell hb4 rfl t1; replace s0 := below_cell hb4 rfl s0; replace s1 := below_cell hb4 rfl s1; have y4 := hb4.size; (try simp at y4); replace bw := Lib.hid (show Below w.heap.size w w4 from Below.trans bw.out (hb4.mono (by first | omega | (simp; omega)))); clear hb4; dsimp only)
            refine hK.out _ _ ?_ (fun hHeld2 => ?_)
            · ((try dsimp only); (first | exact ⟨t0, t1, s0, s1⟩))
            clear hB hK K hHeld1
            refine AnyB.each (rs := [4]) (by kernel_rfl) (by simp) ?_
            refine EachB.cons rfl (fun K hK hB => ?_) ?_
            · skip
              (go_simp; go_at_call 41; refine (spec_l8Same_any n _ _ _ _ Pa Pb Qa Qb _ n5 ((pes_len _).trans (tofX_len n a.gs _)) ((pes_len _).trans (tofZ_len n a.gs _)) ((pes_len _).trans (tofX_len n b.gs _)) ((pes_len _).trans (tofZ_len n b.gs _)) P0.out P1.out Q0.out Q1.out).mono ?_; rw [← HR.out.2]; obtain ⟨R, hR⟩ : ∃ R, R = sameR a b := ⟨_, rfl⟩; have HRR := Lib.hid hR; rw [← hR]; clear hR; rintro e w5 ⟨rfl, hb5⟩; replace t0 := below_cell hb5 rfl t0; replace t1 := below_cell hb5 rfl t1; replace s0 := below_cell hb5 rfl s0; replace s1 := below_cell hb5 rfl s1; have y5 := hb5.size; replace bw := Lib.hid (show Below w.heap.size w w5 from Below.trans bw.out (hb5.mono (by omega))); clear hb5; dsimp only)
              refine hK.out _ _ ?_ (fun hHeld3 => ?_)
              · ((try dsimp only); (first | exact ⟨t0, t1, s0, s1⟩))
              clear hB hK K hHeld2
              refine AnyB.takeQ (i := 5) (oi := _) (v := ?_) (by simp only [List.getElem?_toArray, List.getElem?_cons_zero, List.getElem?_cons_succ]; rfl) (by kernel_rfl) (by kernel_rfl) (by kernel_rfl) (by intro _ _ _ h; exact h) (Or.inl ⟨by rfl, ?_⟩) ?_
              rotate_left
              · (intro w hSw; (try dsimp only at hSw); go_simp; (try (with_reducible rfl)))
              try simp only [Act.put, List.setIfInBounds_toArray, List.set_cons_zero, List.set_cons_succ]
              refine AnyB.takeQ (i := 6) (oi := _) (v := ?_) (by simp only [List.getElem?_toArray, List.getElem?_cons_zero, List.getElem?_cons_succ]; rfl) (by kernel_rfl) (by kernel_rfl) (by kernel_rfl) (by intro _ _ _ h; exact h) (Or.inl ⟨by rfl, ?_⟩) ?_
              rotate_left
              · (intro w hSw; (try dsimp only at hSw); go_simp; (try (with_reducible rfl)))
              try simp only [Act.put, List.setIfInBounds_toArray, List.set_cons_zero, List.set_cons_succ]
              refine AnyB.none (by kernel_rfl) ?_ _
              go_wp2_with fail
              go_ret2
              exact ⟨ret_two HRR.out HR.out.1.symm, bw.out⟩
            exact EachB.nil
          exact EachB.nil
        exact EachB.nil
set_option maxHeartbeats 8000000 in
theorem impl_SameClifford_any (v u : Value) (a b : Circ) (w : World) (h : RdE w v E3.cs 3 a.gs) (k : RdE w u E3.cs 3 b.gs) (hl : a.gs.length ≤ 1048576) (hm : b.gs.length ≤ 1048576) :
    Calls Try.prog 11 #[.agg #[.int .i64 a.n, v], .agg #[.int .i64 b.n, u]] w fun e w' => e = .returned (.tuple #[.bool (sameR a b), .bool (sameOk a b)]) ∧ Below w.heap.size w w' := by
  have HA := Lib.hid h; have HB := Lib.hid k
  obtain ⟨A, cA, rfl, _⟩ := h.form
  obtain ⟨B, cB, rfl, _⟩ := k.form
  clear h k
  obtain ⟨TA, hTA⟩ : ∃ t, t = (tofG a).getD Tab.zero := ⟨_, rfl⟩
  obtain ⟨TB, hTB⟩ : ∃ t, t = (tofG b).getD Tab.zero := ⟨_, rfl⟩
  have iA : (tofG a).isSome = clifB a := by unfold tofG; cases clifB a <;> rfl
  have iB : (tofG b).isSome = clifB b := by unfold tofG; cases clifB b <;> rfl
  have HTA := Lib.hid hTA; have HTB := Lib.hid hTB; have IA := Lib.hid iA; have IB := Lib.hid iB; clear hTA hTB iA iB
  cases ha : clifB a with
  | false =>
    cases hb : clifB b
    all_goals
      have HR := Lib.hid (same_no (b := b) (.inl ha))
      have CA := Lib.hid ha; have CB := Lib.hid hb; clear ha hb
      go_enter Try.func11, Try.ntmps11
      go_wp2_with fail
      refine (impl_TableauOf_any _ a _ (Rd.below HA.out (show Below w.heap.size w _ from (by repeat (first | exact Below.refl _ _ | assumption | refine Below.drew ?_ | refine below_drewN ?_ _ | refine Below.alloc ?_ (by first | omega | (simp <;> omega)) _ | refine Below.setCell ?_ (by first | omega | (simp <;> omega)) _ | refine Below.trans ?_ (Below.mono (by assumption) (by first | omega | (simp <;> omega)))))) rfl) hl).mono ?_; rintro e w1 ⟨u0, u1, rfl, ho0, ho1, hap, hb1⟩
      rw [← HTA.out] at ho0 ho1 ⊢; rw [IA.out, CA.out]
      obtain ⟨a0, c0, rfl⟩ := own_form ho0; obtain ⟨a1, c1, rfl⟩ := own_form ho1
      have t0 := below_cell hb1 rfl (show ((w.alloc (.cells #[.int .i64 a.n, .slice A a.gs.length cA] 30)).alloc (.cells #[.int .i64 b.n, .slice B b.gs.length cB] 30)).cell? ⟨w.heap.size, 0, none⟩ = some (.int .i64 a.n) from (by repeat (first | (refine Eq.trans (World.cell?_alloc_at _ _ _ _ ?hh) ?_; (case hh => (simp; done)); rfl) | refine cell_alloc_keep _ ?_)))
      have t1 := below_cell hb1 rfl (show ((w.alloc (.cells #[.int .i64 a.n, .slice A a.gs.length cA] 30)).alloc (.cells #[.int .i64 b.n, .slice B b.gs.length cB] 30)).cell? ⟨w.heap.size, 1, none⟩ = some (.slice A a.gs.length cA) from (by repeat (first | (refine Eq.trans (World.cell?_alloc_at _ _ _ _ ?hh) ?_; (case hh => (simp; done)); rfl) | refine cell_alloc_keep _ ?_)))
      have s0 := below_cell hb1 rfl (show ((w.alloc (.cells #[.int .i64 a.n, .slice A a.gs.length cA] 30)).alloc (.cells #[.int .i64 b.n, .slice B b.gs.length cB] 30)).cell? ⟨w.heap.size + 1, 0, none⟩ = some (.int .i64 b.n) from (by repeat (first | (refine Eq.trans (World.cell?_alloc_at _ _ _ _ ?hh) ?_; (case hh => (simp; done)); rfl) | refine cell_alloc_keep _ ?_)))
      have s1 := below_cell hb1 rfl (show ((w.alloc (.cells #[.int .i64 a.n, .slice A a.gs.length cA] 30)).alloc (.cells #[.int .i64 b.n, .slice B b.gs.length cB] 30)).cell? ⟨w.heap.size + 1, 1, none⟩ = some (.slice B b.gs.length cB) from (by repeat (first | (refine Eq.trans (World.cell?_alloc_at _ _ _ _ ?hh) ?_; (case hh => (simp; done)); rfl) | refine cell_alloc_keep _ ?_)))
      have P0 := Lib.hid (OwnE.rd ho0); have P1 := Lib.hid (OwnE.rd ho1); clear ho0 ho1 hap
      have z1 := hb1.size; (simp at z1)
      have bw := Lib.hid (show Below w.heap.size w w1 from (by repeat (first | exact Below.refl _ _ | assumption | refine Below.drew ?_ | refine below_drewN ?_ _ | refine Below.alloc ?_ (by first | omega | (simp <;> omega)) _ | refine Below.setCell ?_ (by first | omega | (simp <;> omega)) _ | refine Below.trans ?_ (Below.mono (by assumption) (by first | omega | (simp <;> omega))))))
      clear hb1
      have t0x := cell_alloc_keep (.cells #[.int .i64 TA.n, .slice a0 TA.xs.length c0, .slice a1 TA.zs.length c1] 79) t0
      have t1x := cell_alloc_keep (.cells #[.int .i64 TA.n, .slice a0 TA.xs.length c0, .slice a1 TA.zs.length c1] 79) t1
      have s0x := cell_alloc_keep (.cells #[.int .i64 TA.n, .slice a0 TA.xs.length c0, .slice a1 TA.zs.length c1] 79) s0
      have s1x := cell_alloc_keep (.cells #[.int .i64 TA.n, .slice a0 TA.xs.length c0, .slice a1 TA.zs.length c1] 79) s1
      have q0 : (w1.alloc (.cells #[.int .i64 TA.n, .slice a0 TA.xs.length c0, .slice a1 TA.zs.length c1] 79)).cell? ⟨w1.heap.size, 0, none⟩ = some (.int .i64 TA.n) := (by repeat (first | (refine Eq.trans (World.cell?_alloc_at _ _ _ _ ?hh) ?_; (case hh => (simp; done)); rfl) | refine cell_alloc_keep _ ?_))
      have q1 : (w1.alloc (.cells #[.int .i64 TA.n, .slice a0 TA.xs.length c0, .slice a1 TA.zs.length c1] 79)).cell? ⟨w1.heap.size, 1, none⟩ = some (.slice a0 TA.xs.length c0) := (by repeat (first | (refine Eq.trans (World.cell?_alloc_at _ _ _ _ ?hh) ?_; (case hh => (simp; done)); rfl) | refine cell_alloc_keep _ ?_))
      have q2 : (w1.alloc (.cells #[.int .i64 TA.n, .slice a0 TA.xs.length c0, .slice a1 TA.zs.length c1] 79)).cell? ⟨w1.heap.size, 2, none⟩ = some (.slice a1 TA.zs.length c1) := (by repeat (first | (refine Eq.trans (World.cell?_alloc_at _ _ _ _ ?hh) ?_; (case hh => (simp; done)); rfl) | refine cell_alloc_keep _ ?_))
      replace P0 := Lib.hid (Rd.below P0.out (show Below w1.heap.size w1 (w1.alloc (.cells #[.int .i64 TA.n, .slice a0 TA.xs.length c0, .slice a1 TA.zs.length c1] 79)) from (by repeat (first | exact Below.refl _ _ | assumption | refine Below.drew ?_ | refine below_drewN ?_ _ | refine Below.alloc ?_ (by first | omega | (simp <;> omega)) _ | refine Below.setCell ?_ (by first | omega | (simp <;> omega)) _ | refine Below.trans ?_ (Below.mono (by assumption) (by first | omega | (simp <;> omega)))))) rfl); replace P1 := Lib.hid (Rd.below P1.out (show Below w1.heap.size w1 (w1.alloc (.cells #[.int .i64 TA.n, .slice a0 TA.xs.length c0, .slice a1 TA.zs.length c1] 79)) from (by repeat (first | exact Below.refl _ _ | assumption | refine Below.drew ?_ | refine below_drewN ?_ _ | refine Below.alloc ?_ (by first | omega | (simp <;> omega)) _ | refine Below.setCell ?_ (by first | omega | (simp <;> omega)) _ | refine Below.trans ?_ (Below.mono (by assumption) (by first | omega | (simp <;> omega)))))) rfl)
      replace bw := Lib.hid (show Below w.heap.size w (w1.alloc (.cells #[.int .i64 TA.n, .slice a0 TA.xs.length c0, .slice a1 TA.zs.length c1] 79)) from Below.alloc bw.out (by omega) _)
      have z2 : w1.heap.size < (w1.alloc (.cells #[.int .i64 TA.n, .slice a0 TA.xs.length c0, .slice a1 TA.zs.length c1] 79)).heap.size := by simp
      go_wp2_with fail
      clear t0 t1 s0 s1
      generalize w1.alloc (.cells #[.int .i64 TA.n, .slice a0 TA.xs.length c0, .slice a1 TA.zs.length c1] 79) = W at *
      refine (impl_TableauOf_any _ b _ (Rd.below HB.out bw.out rfl) hm).mono ?_; rintro e w3 ⟨u2, u3, rfl, ho2, ho3, hap, hb3⟩
      rw [← HTB.out] at ho2 ho3 ⊢; rw [IB.out, CB.out]
      obtain ⟨a2, c2, rfl⟩ := own_form ho2; obtain ⟨a3, c3, rfl⟩ := own_form ho3
      replace t0x := below_cell hb3 rfl t0x
      replace t1x := below_cell hb3 rfl t1x
      replace s0x := below_cell hb3 rfl s0x
      replace s1x := below_cell hb3 rfl s1x
      replace q0 := below_cell hb3 rfl q0
      replace q1 := below_cell hb3 rfl q1
      replace q2 := below_cell hb3 rfl q2
      have Q0 := Lib.hid (OwnE.rd ho2); have Q1 := Lib.hid (OwnE.rd ho3); clear ho2 ho3 hap
      replace P0 := Lib.hid (Rd.below P0.out hb3 rfl); replace P1 := Lib.hid (Rd.below P1.out hb3 rfl)
      have z3 := hb3.size
      replace bw := Lib.hid (show Below w.heap.size w w3 from Below.trans bw.out (hb3.mono (by omega)))
      clear hb3
      replace t0x := cell_alloc_keep (.cells #[.int .i64 TB.n, .slice a2 TB.xs.length c2, .slice a3 TB.zs.length c3] 79) t0x
      replace t1x := cell_alloc_keep (.cells #[.int .i64 TB.n, .slice a2 TB.xs.length c2, .slice a3 TB.zs.length c3] 79) t1x
      replace s0x := cell_alloc_keep (.cells #[.int .i64 TB.n, .slice a2 TB.xs.length c2, .slice a3 TB.zs.length c3] 79) s0x
      replace s1x := cell_alloc_keep (.cells #[.int .i64 TB.n, .slice a2 TB.xs.length c2, .slice a3 TB.zs.length c3] 79) s1x
      replace q0 := cell_alloc_keep (.cells #[.int .i64 TB.n, .slice a2 TB.xs.length c2, .slice a3 TB.zs.length c3] 79) q0
      replace q1 := cell_alloc_keep (.cells #[.int .i64 TB.n, .slice a2 TB.xs.length c2, .slice a3 TB.zs.length c3] 79) q1
      replace q2 := cell_alloc_keep (.cells #[.int .i64 TB.n, .slice a2 TB.xs.length c2, .slice a3 TB.zs.length c3] 79) q2
      have p0 : (w3.alloc (.cells #[.int .i64 TB.n, .slice a2 TB.xs.length c2, .slice a3 TB.zs.length c3] 79)).cell? ⟨w3.heap.size, 0, none⟩ = some (.int .i64 TB.n) := (by repeat (first | (refine Eq.trans (World.cell?_alloc_at _ _ _ _ ?hh) ?_; (case hh => (simp; done)); rfl) | refine cell_alloc_keep _ ?_))
      have p1 : (w3.alloc (.cells #[.int .i64 TB.n, .slice a2 TB.xs.length c2, .slice a3 TB.zs.length c3] 79)).cell? ⟨w3.heap.size, 1, none⟩ = some (.slice a2 TB.xs.length c2) := (by repeat (first | (refine Eq.trans (World.cell?_alloc_at _ _ _ _ ?hh) ?_; (case hh => (simp; done)); rfl) | refine cell_alloc_keep _ ?_))
      have p2 : (w3.alloc (.cells #[.int .i64 TB.n, .slice a2 TB.xs.length c2, .slice a3 TB.zs.length c3] 79)).cell? ⟨w3.heap.size, 2, none⟩ = some (.slice a3 TB.zs.length c3) := (by repeat (first | (refine Eq.trans (World.cell?_alloc_at _ _ _ _ ?hh) ?_; (case hh => (simp; done)); rfl) | refine cell_alloc_keep _ ?_))
      replace P0 := Lib.hid (Rd.below P0.out (show Below w3.heap.size w3 (w3.alloc (.cells #[.int .i64 TB.n, .slice a2 TB.xs.length c2, .slice a3 TB.zs.length c3] 79)) from (by repeat (first | exact Below.refl _ _ | assumption | refine Below.drew ?_ | refine below_drewN ?_ _ | refine Below.alloc ?_ (by first | omega | (simp <;> omega)) _ | refine Below.setCell ?_ (by first | omega | (simp <;> omega)) _ | refine Below.trans ?_ (Below.mono (by assumption) (by first | omega | (simp <;> omega)))))) rfl)
      replace P1 := Lib.hid (Rd.below P1.out (show Below w3.heap.size w3 (w3.alloc (.cells #[.int .i64 TB.n, .slice a2 TB.xs.length c2, .slice a3 TB.zs.length c3] 79)) from (by repeat (first | exact Below.refl _ _ | assumption | refine Below.drew ?_ | refine below_drewN ?_ _ | refine Below.alloc ?_ (by first | omega | (simp <;> omega)) _ | refine Below.setCell ?_ (by first | omega | (simp <;> omega)) _ | refine Below.trans ?_ (Below.mono (by assumption) (by first | omega | (simp <;> omega)))))) rfl)
      replace Q0 := Lib.hid (Rd.below Q0.out (show Below w3.heap.size w3 (w3.alloc (.cells #[.int .i64 TB.n, .slice a2 TB.xs.length c2, .slice a3 TB.zs.length c3] 79)) from (by repeat (first | exact Below.refl _ _ | assumption | refine Below.drew ?_ | refine below_drewN ?_ _ | refine Below.alloc ?_ (by first | omega | (simp <;> omega)) _ | refine Below.setCell ?_ (by first | omega | (simp <;> omega)) _ | refine Below.trans ?_ (Below.mono (by assumption) (by first | omega | (simp <;> omega)))))) rfl)
      replace Q1 := Lib.hid (Rd.below Q1.out (show Below w3.heap.size w3 (w3.alloc (.cells #[.int .i64 TB.n, .slice a2 TB.xs.length c2, .slice a3 TB.zs.length c3] 79)) from (by repeat (first | exact Below.refl _ _ | assumption | refine Below.drew ?_ | refine below_drewN ?_ _ | refine Below.alloc ?_ (by first | omega | (simp <;> omega)) _ | refine Below.setCell ?_ (by first | omega | (simp <;> omega)) _ | refine Below.trans ?_ (Below.mono (by assumption) (by first | omega | (simp <;> omega)))))) rfl)
      replace bw := Lib.hid (show Below w.heap.size w (w3.alloc (.cells #[.int .i64 TB.n, .slice a2 TB.xs.length c2, .slice a3 TB.zs.length c3] 79)) from Below.alloc bw.out (by omega) _)
      go_wp2_with fail
      go_ret2
      exact ⟨ret_two HR.out.2.symm HR.out.1.symm, bw.out⟩
  | true =>
    cases hb : clifB b with
    | false =>
      have HR := Lib.hid (same_no (a := a) (.inr (.inl hb)))
      have CA := Lib.hid ha; have CB := Lib.hid hb; clear ha hb
      go_enter Try.func11, Try.ntmps11
      go_wp2_with fail
      refine (impl_TableauOf_any _ a _ (Rd.below HA.out (show Below w.heap.size w _ from (by repeat (first | exact Below.refl _ _ | assumption | refine Below.drew ?_ | refine below_drewN ?_ _ | refine Below.alloc ?_ (by first | omega | (simp <;> omega)) _ | refine Below.setCell ?_ (by first | omega | (simp <;> omega)) _ | refine Below.trans ?_ (Below.mono (by assumption) (by first | omega | (simp <;> omega)))))) rfl) hl).mono ?_; rintro e w1 ⟨u0, u1, rfl, ho0, ho1, hap, hb1⟩
      rw [← HTA.out] at ho0 ho1 ⊢; rw [IA.out, CA.out]
      obtain ⟨a0, c0, rfl⟩ := own_form ho0; obtain ⟨a1, c1, rfl⟩ := own_form ho1
      have t0 := below_cell hb1 rfl (show ((w.alloc (.cells #[.int .i64 a.n, .slice A a.gs.length cA] 30)).alloc (.cells #[.int .i64 b.n, .slice B b.gs.length cB] 30)).cell? ⟨w.heap.size, 0, none⟩ = some (.int .i64 a.n) from (by repeat (first | (refine Eq.trans (World.cell?_alloc_at _ _ _ _ ?hh) ?_; (case hh => (simp; done)); rfl) | refine cell_alloc_keep _ ?_)))
      have t1 := below_cell hb1 rfl (show ((w.alloc (.cells #[.int .i64 a.n, .slice A a.gs.length cA] 30)).alloc (.cells #[.int .i64 b.n, .slice B b.gs.length cB] 30)).cell? ⟨w.heap.size, 1, none⟩ = some (.slice A a.gs.length cA) from (by repeat (first | (refine Eq.trans (World.cell?_alloc_at _ _ _ _ ?hh) ?_; (case hh => (simp; done)); rfl) | refine cell_alloc_keep _ ?_)))
      have s0 := below_cell hb1 rfl (show ((w.alloc (.cells #[.int .i64 a.n, .slice A a.gs.length cA] 30)).alloc (.cells #[.int .i64 b.n, .slice B b.gs.length cB] 30)).cell? ⟨w.heap.size + 1, 0, none⟩ = some (.int .i64 b.n) from (by repeat (first | (refine Eq.trans (World.cell?_alloc_at _ _ _ _ ?hh) ?_; (case hh => (simp; done)); rfl) | refine cell_alloc_keep _ ?_)))
      have s1 := below_cell hb1 rfl (show ((w.alloc (.cells #[.int .i64 a.n, .slice A a.gs.length cA] 30)).alloc (.cells #[.int .i64 b.n, .slice B b.gs.length cB] 30)).cell? ⟨w.heap.size + 1, 1, none⟩ = some (.slice B b.gs.length cB) from (by repeat (first | (refine Eq.trans (World.cell?_alloc_at _ _ _ _ ?hh) ?_; (case hh => (simp; done)); rfl) | refine cell_alloc_keep _ ?_)))
      have P0 := Lib.hid (OwnE.rd ho0); have P1 := Lib.hid (OwnE.rd ho1); clear ho0 ho1 hap
      have z1 := hb1.size; (simp at z1)
      have bw := Lib.hid (show Below w.heap.size w w1 from (by repeat (first | exact Below.refl _ _ | assumption | refine Below.drew ?_ | refine below_drewN ?_ _ | refine Below.alloc ?_ (by first | omega | (simp <;> omega)) _ | refine Below.setCell ?_ (by first | omega | (simp <;> omega)) _ | refine Below.trans ?_ (Below.mono (by assumption) (by first | omega | (simp <;> omega))))))
      clear hb1
      have t0x := cell_alloc_keep (.cells #[.int .i64 TA.n, .slice a0 TA.xs.length c0, .slice a1 TA.zs.length c1] 79) t0
      have t1x := cell_alloc_keep (.cells #[.int .i64 TA.n, .slice a0 TA.xs.length c0, .slice a1 TA.zs.length c1] 79) t1
      have s0x := cell_alloc_keep (.cells #[.int .i64 TA.n, .slice a0 TA.xs.length c0, .slice a1 TA.zs.length c1] 79) s0
      have s1x := cell_alloc_keep (.cells #[.int .i64 TA.n, .slice a0 TA.xs.length c0, .slice a1 TA.zs.length c1] 79) s1
      have q0 : (w1.alloc (.cells #[.int .i64 TA.n, .slice a0 TA.xs.length c0, .slice a1 TA.zs.length c1] 79)).cell? ⟨w1.heap.size, 0, none⟩ = some (.int .i64 TA.n) := (by repeat (first | (refine Eq.trans (World.cell?_alloc_at _ _ _ _ ?hh) ?_; (case hh => (simp; done)); rfl) | refine cell_alloc_keep _ ?_))
      have q1 : (w1.alloc (.cells #[.int .i64 TA.n, .slice a0 TA.xs.length c0, .slice a1 TA.zs.length c1] 79)).cell? ⟨w1.heap.size, 1, none⟩ = some (.slice a0 TA.xs.length c0) := (by repeat (first | (refine Eq.trans (World.cell?_alloc_at _ _ _ _ ?hh) ?_; (case hh => (simp; done)); rfl) | refine cell_alloc_keep _ ?_))
      have q2 : (w1.alloc (.cells #[.int .i64 TA.n, .slice a0 TA.xs.length c0, .slice a1 TA.zs.length c1] 79)).cell? ⟨w1.heap.size, 2, none⟩ = some (.slice a1 TA.zs.length c1) := (by repeat (first | (refine Eq.trans (World.cell?_alloc_at _ _ _ _ ?hh) ?_; (case hh => (simp; done)); rfl) | refine cell_alloc_keep _ ?_))
      replace P0 := Lib.hid (Rd.below P0.out (show Below w1.heap.size w1 (w1.alloc (.cells #[.int .i64 TA.n, .slice a0 TA.xs.length c0, .slice a1 TA.zs.length c1] 79)) from (by repeat (first | exact Below.refl _ _ | assumption | refine Below.drew ?_ | refine below_drewN ?_ _ | refine Below.alloc ?_ (by first | omega | (simp <;> omega)) _ | refine Below.setCell ?_ (by first | omega | (simp <;> omega)) _ | refine Below.trans ?_ (Below.mono (by assumption) (by first | omega | (simp <;> omega)))))) rfl); replace P1 := Lib.hid (Rd.below P1.out (show Below w1.heap.size w1 (w1.alloc (.cells #[.int .i64 TA.n, .slice a0 TA.xs.length c0, .slice a1 TA.zs.length c1] 79)) from (by repeat (first | exact Below.refl _ _ | assumption | refine Below.drew ?_ | refine below_drewN ?_ _ | refine Below.alloc ?_ (by first | omega | (simp <;> omega)) _ | refine Below.setCell ?_ (by first | omega | (simp <;> omega)) _ | refine Below.trans ?_ (Below.mono (by assumption) (by first | omega | (simp <;> omega)))))) rfl)
      replace bw := Lib.hid (show Below w.heap.size w (w1.alloc (.cells #[.int .i64 TA.n, .slice a0 TA.xs.length c0, .slice a1 TA.zs.length c1] 79)) from Below.alloc bw.out (by omega) _)
      have z2 : w1.heap.size < (w1.alloc (.cells #[.int .i64 TA.n, .slice a0 TA.xs.length c0, .slice a1 TA.zs.length c1] 79)).heap.size := by simp
      go_wp2_with fail
      clear t0 t1 s0 s1
      generalize w1.alloc (.cells #[.int .i64 TA.n, .slice a0 TA.xs.length c0, .slice a1 TA.zs.length c1] 79) = W at *
      refine (impl_TableauOf_any _ b _ (Rd.below HB.out bw.out rfl) hm).mono ?_; rintro e w3 ⟨u2, u3, rfl, ho2, ho3, hap, hb3⟩
      rw [← HTB.out] at ho2 ho3 ⊢; rw [IB.out, CB.out]
      obtain ⟨a2, c2, rfl⟩ := own_form ho2; obtain ⟨a3, c3, rfl⟩ := own_form ho3
      replace t0x := below_cell hb3 rfl t0x
      replace t1x := below_cell hb3 rfl t1x
      replace s0x := below_cell hb3 rfl s0x
      replace s1x := below_cell hb3 rfl s1x
      replace q0 := below_cell hb3 rfl q0
      replace q1 := below_cell hb3 rfl q1
      replace q2 := below_cell hb3 rfl q2
      have Q0 := Lib.hid (OwnE.rd ho2); have Q1 := Lib.hid (OwnE.rd ho3); clear ho2 ho3 hap
      replace P0 := Lib.hid (Rd.below P0.out hb3 rfl); replace P1 := Lib.hid (Rd.below P1.out hb3 rfl)
      have z3 := hb3.size
      replace bw := Lib.hid (show Below w.heap.size w w3 from Below.trans bw.out (hb3.mono (by omega)))
      clear hb3
      replace t0x := cell_alloc_keep (.cells #[.int .i64 TB.n, .slice a2 TB.xs.length c2, .slice a3 TB.zs.length c3] 79) t0x
      replace t1x := cell_alloc_keep (.cells #[.int .i64 TB.n, .slice a2 TB.xs.length c2, .slice a3 TB.zs.length c3] 79) t1x
      replace s0x := cell_alloc_keep (.cells #[.int .i64 TB.n, .slice a2 TB.xs.length c2, .slice a3 TB.zs.length c3] 79) s0x
      replace s1x := cell_alloc_keep (.cells #[.int .i64 TB.n, .slice a2 TB.xs.length c2, .slice a3 TB.zs.length c3] 79) s1x
      replace q0 := cell_alloc_keep (.cells #[.int .i64 TB.n, .slice a2 TB.xs.length c2, .slice a3 TB.zs.length c3] 79) q0
      replace q1 := cell_alloc_keep (.cells #[.int .i64 TB.n, .slice a2 TB.xs.length c2, .slice a3 TB.zs.length c3] 79) q1
      replace q2 := cell_alloc_keep (.cells #[.int .i64 TB.n, .slice a2 TB.xs.length c2, .slice a3 TB.zs.length c3] 79) q2
      have p0 : (w3.alloc (.cells #[.int .i64 TB.n, .slice a2 TB.xs.length c2, .slice a3 TB.zs.length c3] 79)).cell? ⟨w3.heap.size, 0, none⟩ = some (.int .i64 TB.n) := (by repeat (first | (refine Eq.trans (World.cell?_alloc_at _ _ _ _ ?hh) ?_; (case hh => (simp; done)); rfl) | refine cell_alloc_keep _ ?_))
      have p1 : (w3.alloc (.cells #[.int .i64 TB.n, .slice a2 TB.xs.length c2, .slice a3 TB.zs.length c3] 79)).cell? ⟨w3.heap.size, 1, none⟩ = some (.slice a2 TB.xs.length c2) := (by repeat (first | (refine Eq.trans (World.cell?_alloc_at _ _ _ _ ?hh) ?_; (case hh => (simp; done)); rfl) | refine cell_alloc_keep _ ?_))
      have p2 : (w3.alloc (.cells #[.int .i64 TB.n, .slice a2 TB.xs.length c2, .slice a3 TB.zs.length c3] 79)).cell? ⟨w3.heap.size, 2, none⟩ = some (.slice a3 TB.zs.length c3) := (by repeat (first | (refine Eq.trans (World.cell?_alloc_at _ _ _ _ ?hh) ?_; (case hh => (simp; done)); rfl) | refine cell_alloc_keep _ ?_))
      replace P0 := Lib.hid (Rd.below P0.out (show Below w3.heap.size w3 (w3.alloc (.cells #[.int .i64 TB.n, .slice a2 TB.xs.length c2, .slice a3 TB.zs.length c3] 79)) from (by repeat (first | exact Below.refl _ _ | assumption | refine Below.drew ?_ | refine below_drewN ?_ _ | refine Below.alloc ?_ (by first | omega | (simp <;> omega)) _ | refine Below.setCell ?_ (by first | omega | (simp <;> omega)) _ | refine Below.trans ?_ (Below.mono (by assumption) (by first | omega | (simp <;> omega)))))) rfl)
      replace P1 := Lib.hid (Rd.below P1.out (show Below w3.heap.size w3 (w3.alloc (.cells #[.int .i64 TB.n, .slice a2 TB.xs.length c2, .slice a3 TB.zs.length c3] 79)) from (by repeat (first | exact Below.refl _ _ | assumption | refine Below.drew ?_ | refine below_drewN ?_ _ | refine Below.alloc ?_ (by first | omega | (simp <;> omega)) _ | refine Below.setCell ?_ (by first | omega | (simp <;> omega)) _ | refine Below.trans ?_ (Below.mono (by assumption) (by first | omega | (simp <;> omega)))))) rfl)
      replace Q0 := Lib.hid (Rd.below Q0.out (show Below w3.heap.size w3 (w3.alloc (.cells #[.int .i64 TB.n, .slice a2 TB.xs.length c2, .slice a3 TB.zs.length c3] 79)) from (by repeat (first | exact Below.refl _ _ | assumption | refine Below.drew ?_ | refine below_drewN ?_ _ | refine Below.alloc ?_ (by first | omega | (simp <;> omega)) _ | refine Below.setCell ?_ (by first | omega | (simp <;> omega)) _ | refine Below.trans ?_ (Below.mono (by assumption) (by first | omega | (simp <;> omega)))))) rfl)
      replace Q1 := Lib.hid (Rd.below Q1.out (show Below w3.heap.size w3 (w3.alloc (.cells #[.int .i64 TB.n, .slice a2 TB.xs.length c2, .slice a3 TB.zs.length c3] 79)) from (by repeat (first | exact Below.refl _ _ | assumption | refine Below.drew ?_ | refine below_drewN ?_ _ | refine Below.alloc ?_ (by first | omega | (simp <;> omega)) _ | refine Below.setCell ?_ (by first | omega | (simp <;> omega)) _ | refine Below.trans ?_ (Below.mono (by assumption) (by first | omega | (simp <;> omega)))))) rfl)
      replace bw := Lib.hid (show Below w.heap.size w (w3.alloc (.cells #[.int .i64 TB.n, .slice a2 TB.xs.length c2, .slice a3 TB.zs.length c3] 79)) from Below.alloc bw.out (by omega) _)
      go_wp2_with fail
      go_ret2
      exact ⟨ret_two HR.out.2.symm HR.out.1.symm, bw.out⟩
    | true =>
      cases hne : (a.n != b.n) with
      | true =>
        have HR := Lib.hid (same_no (.inr (.inr hne)))
        have CA := Lib.hid ha; have CB := Lib.hid hb; clear ha hb
        go_enter Try.func11, Try.ntmps11
        go_wp2_with fail
        refine (impl_TableauOf_any _ a _ (Rd.below HA.out (show Below w.heap.size w _ from (by repeat (first | exact Below.refl _ _ | assumption | refine Below.drew ?_ | refine below_drewN ?_ _ | refine Below.alloc ?_ (by first | omega | (simp <;> omega)) _ | refine Below.setCell ?_ (by first | omega | (simp <;> omega)) _ | refine Below.trans ?_ (Below.mono (by assumption) (by first | omega | (simp <;> omega)))))) rfl) hl).mono ?_; rintro e w1 ⟨u0, u1, rfl, ho0, ho1, hap, hb1⟩
        rw [← HTA.out] at ho0 ho1 ⊢; rw [IA.out, CA.out]
        obtain ⟨a0, c0, rfl⟩ := own_form ho0; obtain ⟨a1, c1, rfl⟩ := own_form ho1
        have t0 := below_cell hb1 rfl (show ((w.alloc (.cells #[.int .i64 a.n, .slice A a.gs.length cA] 30)).alloc (.cells #[.int .i64 b.n, .slice B b.gs.length cB] 30)).cell? ⟨w.heap.size, 0, none⟩ = some (.int .i64 a.n) from (by repeat (first | (refine Eq.trans (World.cell?_alloc_at _ _ _ _ ?hh) ?_; (case hh => (simp; done)); rfl) | refine cell_alloc_keep _ ?_)))
        have t1 := below_cell hb1 rfl (show ((w.alloc (.cells #[.int .i64 a.n, .slice A a.gs.length cA] 30)).alloc (.cells #[.int .i64 b.n, .slice B b.gs.length cB] 30)).cell? ⟨w.heap.size, 1, none⟩ = some (.slice A a.gs.length cA) from (by repeat (first | (refine Eq.trans (World.cell?_alloc_at _ _ _ _ ?hh) ?_; (case hh => (simp; done)); rfl) | refine cell_alloc_keep _ ?_)))
        have s0 := below_cell hb1 rfl (show ((w.alloc (.cells #[.int .i64 a.n, .slice A a.gs.length cA] 30)).alloc (.cells #[.int .i64 b.n, .slice B b.gs.length cB] 30)).cell? ⟨w.heap.size + 1, 0, none⟩ = some (.int .i64 b.n) from (by repeat (first | (refine Eq.trans (World.cell?_alloc_at _ _ _ _ ?hh) ?_; (case hh => (simp; done)); rfl) | refine cell_alloc_keep _ ?_)))
        have s1 := below_cell hb1 rfl (show ((w.alloc (.cells #[.int .i64 a.n, .slice A a.gs.length cA] 30)).alloc (.cells #[.int .i64 b.n, .slice B b.gs.length cB] 30)).cell? ⟨w.heap.size + 1, 1, none⟩ = some (.slice B b.gs.length cB) from (by repeat (first | (refine Eq.trans (World.cell?_alloc_at _ _ _ _ ?hh) ?_; (case hh => (simp; done)); rfl) | refine cell_alloc_keep _ ?_)))
        have P0 := Lib.hid (OwnE.rd ho0); have P1 := Lib.hid (OwnE.rd ho1); clear ho0 ho1 hap
        have z1 := hb1.size; (simp at z1)
        have bw := Lib.hid (show Below w.heap.size w w1 from (by repeat (first | exact Below.refl _ _ | assumption | refine Below.drew ?_ | refine below_drewN ?_ _ | refine Below.alloc ?_ (by first | omega | (simp <;> omega)) _ | refine Below.setCell ?_ (by first | omega | (simp <;> omega)) _ | refine Below.trans ?_ (Below.mono (by assumption) (by first | omega | (simp <;> omega))))))
        clear hb1
        have t0x := cell_alloc_keep (.cells #[.int .i64 TA.n, .slice a0 TA.xs.length c0, .slice a1 TA.zs.length c1] 79) t0
        have t1x := cell_alloc_keep (.cells #[.int .i64 TA.n, .slice a0 TA.xs.length c0, .slice a1 TA.zs.length c1] 79) t1
        have s0x := cell_alloc_keep (.cells #[.int .i64 TA.n, .slice a0 TA.xs.length c0, .slice a1 TA.zs.length c1] 79) s0
        have s1x := cell_alloc_keep (.cells #[.int .i64 TA.n, .slice a0 TA.xs.length c0, .slice a1 TA.zs.length c1] 79) s1
        have q0 : (w1.alloc (.cells #[.int .i64 TA.n, .slice a0 TA.xs.length c0, .slice a1 TA.zs.length c1] 79)).cell? ⟨w1.heap.size, 0, none⟩ = some (.int .i64 TA.n) := (by repeat (first | (refine Eq.trans (World.cell?_alloc_at _ _ _ _ ?hh) ?_; (case hh => (simp; done)); rfl) | refine cell_alloc_keep _ ?_))
        have q1 : (w1.alloc (.cells #[.int .i64 TA.n, .slice a0 TA.xs.length c0, .slice a1 TA.zs.length c1] 79)).cell? ⟨w1.heap.size, 1, none⟩ = some (.slice a0 TA.xs.length c0) := (by repeat (first | (refine Eq.trans (World.cell?_alloc_at _ _ _ _ ?hh) ?_; (case hh => (simp; done)); rfl) | refine cell_alloc_keep _ ?_))
        have q2 : (w1.alloc (.cells #[.int .i64 TA.n, .slice a0 TA.xs.length c0, .slice a1 TA.zs.length c1] 79)).cell? ⟨w1.heap.size, 2, none⟩ = some (.slice a1 TA.zs.length c1) := (by repeat (first | (refine Eq.trans (World.cell?_alloc_at _ _ _ _ ?hh) ?_; (case hh => (simp; done)); rfl) | refine cell_alloc_keep _ ?_))
        replace P0 := Lib.hid (Rd.below P0.out (show Below w1.heap.size w1 (w1.alloc (.cells #[.int .i64 TA.n, .slice a0 TA.xs.length c0, .slice a1 TA.zs.length c1] 79)) from (by repeat (first | exact Below.refl _ _ | assumption | refine Below.drew ?_ | refine below_drewN ?_ _ | refine Below.alloc ?_ (by first | omega | (simp <;> omega)) _ | refine Below.setCell ?_ (by first | omega | (simp <;> omega)) _ | refine Below.trans ?_ (Below.mono (by assumption) (by first | omega | (simp <;> omega)))))) rfl); replace P1 := Lib.hid (Rd.below P1.out (show Below w1.heap.size w1 (w1.alloc (.cells #[.int .i64 TA.n, .slice a0 TA.xs.length c0, .slice a1 TA.zs.length c1] 79)) from (by repeat (first | exact Below.refl _ _ | assumption | refine Below.drew ?_ | refine below_drewN ?_ _ | refine Below.alloc ?_ (by first | omega | (simp <;> omega)) _ | refine Below.setCell ?_ (by first | omega | (simp <;> omega)) _ | refine Below.trans ?_ (Below.mono (by assumption) (by first | omega | (simp <;> omega)))))) rfl)
        replace bw := Lib.hid (show Below w.heap.size w (w1.alloc (.cells #[.int .i64 TA.n, .slice a0 TA.xs.length c0, .slice a1 TA.zs.length c1] 79)) from Below.alloc bw.out (by omega) _)
        have z2 : w1.heap.size < (w1.alloc (.cells #[.int .i64 TA.n, .slice a0 TA.xs.length c0, .slice a1 TA.zs.length c1] 79)).heap.size := by simp
        go_wp2_with fail
        clear t0 t1 s0 s1
        generalize w1.alloc (.cells #[.int .i64 TA.n, .slice a0 TA.xs.length c0, .slice a1 TA.zs.length c1] 79) = W at *
        refine (impl_TableauOf_any _ b _ (Rd.below HB.out bw.out rfl) hm).mono ?_; rintro e w3 ⟨u2, u3, rfl, ho2, ho3, hap, hb3⟩
        rw [← HTB.out] at ho2 ho3 ⊢; rw [IB.out, CB.out]
        obtain ⟨a2, c2, rfl⟩ := own_form ho2; obtain ⟨a3, c3, rfl⟩ := own_form ho3
        replace t0x := below_cell hb3 rfl t0x
        replace t1x := below_cell hb3 rfl t1x
        replace s0x := below_cell hb3 rfl s0x
        replace s1x := below_cell hb3 rfl s1x
        replace q0 := below_cell hb3 rfl q0
        replace q1 := below_cell hb3 rfl q1
        replace q2 := below_cell hb3 rfl q2
        have Q0 := Lib.hid (OwnE.rd ho2); have Q1 := Lib.hid (OwnE.rd ho3); clear ho2 ho3 hap
        replace P0 := Lib.hid (Rd.below P0.out hb3 rfl); replace P1 := Lib.hid (Rd.below P1.out hb3 rfl)
        have z3 := hb3.size
        replace bw := Lib.hid (show Below w.heap.size w w3 from Below.trans bw.out (hb3.mono (by omega)))
        clear hb3
        replace t0x := cell_alloc_keep (.cells #[.int .i64 TB.n, .slice a2 TB.xs.length c2, .slice a3 TB.zs.length c3] 79) t0x
        replace t1x := cell_alloc_keep (.cells #[.int .i64 TB.n, .slice a2 TB.xs.length c2, .slice a3 TB.zs.length c3] 79) t1x
        replace s0x := cell_alloc_keep (.cells #[.int .i64 TB.n, .slice a2 TB.xs.length c2, .slice a3 TB.zs.length c3] 79) s0x
        replace s1x := cell_alloc_keep (.cells #[.int .i64 TB.n, .slice a2 TB.xs.length c2, .slice a3 TB.zs.length c3] 79) s1x
        replace q0 := cell_alloc_keep (.cells #[.int .i64 TB.n, .slice a2 TB.xs.length c2, .slice a3 TB.zs.length c3] 79) q0
        replace q1 := cell_alloc_keep (.cells #[.int .i64 TB.n, .slice a2 TB.xs.length c2, .slice a3 TB.zs.length c3] 79) q1
        replace q2 := cell_alloc_keep (.cells #[.int .i64 TB.n, .slice a2 TB.xs.length c2, .slice a3 TB.zs.length c3] 79) q2
        have p0 : (w3.alloc (.cells #[.int .i64 TB.n, .slice a2 TB.xs.length c2, .slice a3 TB.zs.length c3] 79)).cell? ⟨w3.heap.size, 0, none⟩ = some (.int .i64 TB.n) := (by repeat (first | (refine Eq.trans (World.cell?_alloc_at _ _ _ _ ?hh) ?_; (case hh => (simp; done)); rfl) | refine cell_alloc_keep _ ?_))
        have p1 : (w3.alloc (.cells #[.int .i64 TB.n, .slice a2 TB.xs.length c2, .slice a3 TB.zs.length c3] 79)).cell? ⟨w3.heap.size, 1, none⟩ = some (.slice a2 TB.xs.length c2) := (by repeat (first | (refine Eq.trans (World.cell?_alloc_at _ _ _ _ ?hh) ?_; (case hh => (simp; done)); rfl) | refine cell_alloc_keep _ ?_))
        have p2 : (w3.alloc (.cells #[.int .i64 TB.n, .slice a2 TB.xs.length c2, .slice a3 TB.zs.length c3] 79)).cell? ⟨w3.heap.size, 2, none⟩ = some (.slice a3 TB.zs.length c3) := (by repeat (first | (refine Eq.trans (World.cell?_alloc_at _ _ _ _ ?hh) ?_; (case hh => (simp; done)); rfl) | refine cell_alloc_keep _ ?_))
        replace P0 := Lib.hid (Rd.below P0.out (show Below w3.heap.size w3 (w3.alloc (.cells #[.int .i64 TB.n, .slice a2 TB.xs.length c2, .slice a3 TB.zs.length c3] 79)) from (by repeat (first | exact Below.refl _ _ | assumption | refine Below.drew ?_ | refine below_drewN ?_ _ | refine Below.alloc ?_ (by first | omega | (simp <;> omega)) _ | refine Below.setCell ?_ (by first | omega | (simp <;> omega)) _ | refine Below.trans ?_ (Below.mono (by assumption) (by first | omega | (simp <;> omega)))))) rfl)
        replace P1 := Lib.hid (Rd.below P1.out (show Below w3.heap.size w3 (w3.alloc (.cells #[.int .i64 TB.n, .slice a2 TB.xs.length c2, .slice a3 TB.zs.length c3] 79)) from (by repeat (first | exact Below.refl _ _ | assumption | refine Below.drew ?_ | refine below_drewN ?_ _ | refine Below.alloc ?_ (by first | omega | (simp <;> omega)) _ | refine Below.setCell ?_ (by first | omega | (simp <;> omega)) _ | refine Below.trans ?_ (Below.mono (by assumption) (by first | omega | (simp <;> omega)))))) rfl)
        replace Q0 := Lib.hid (Rd.below Q0.out (show Below w3.heap.size w3 (w3.alloc (.cells #[.int .i64 TB.n, .slice a2 TB.xs.length c2, .slice a3 TB.zs.length c3] 79)) from (by repeat (first | exact Below.refl _ _ | assumption | refine Below.drew ?_ | refine below_drewN ?_ _ | refine Below.alloc ?_ (by first | omega | (simp <;> omega)) _ | refine Below.setCell ?_ (by first | omega | (simp <;> omega)) _ | refine Below.trans ?_ (Below.mono (by assumption) (by first | omega | (simp <;> omega)))))) rfl)
        replace Q1 := Lib.hid (Rd.below Q1.out (show Below w3.heap.size w3 (w3.alloc (.cells #[.int .i64 TB.n, .slice a2 TB.xs.length c2, .slice a3 TB.zs.length c3] 79)) from (by repeat (first | exact Below.refl _ _ | assumption | refine Below.drew ?_ | refine below_drewN ?_ _ | refine Below.alloc ?_ (by first | omega | (simp <;> omega)) _ | refine Below.setCell ?_ (by first | omega | (simp <;> omega)) _ | refine Below.trans ?_ (Below.mono (by assumption) (by first | omega | (simp <;> omega)))))) rfl)
        replace bw := Lib.hid (show Below w.heap.size w (w3.alloc (.cells #[.int .i64 TB.n, .slice a2 TB.xs.length c2, .slice a3 TB.zs.length c3] 79)) from Below.alloc bw.out (by omega) _)
        go_wp2_with fail
        go_ret2
        exact ⟨ret_two HR.out.2.symm HR.out.1.symm, bw.out⟩
      | false =>
        obtain ⟨n, hn, n1, n5⟩ := clif_nat ha
        have HR := Lib.hid (same_yes ha hb hne hn)
        have hnb := n_eq hne hn
        have eA : TA = ⟨(n : Int), pes (tofX n a.gs a.gs.length), pes (tofZ n a.gs a.gs.length)⟩ := by rw [HTA.out]; unfold tofG; rw [ha, hn]; rfl
        have eB : TB = ⟨(n : Int), pes (tofX n b.gs b.gs.length), pes (tofZ n b.gs b.gs.length)⟩ := by rw [HTB.out]; unfold tofG; rw [hb, hnb]; rfl
        have eN := Lib.hid (show TA.n = (n : Int) ∧ TB.n = (n : Int) from ⟨by rw [eA], by rw [eB]⟩)
        have RR := Lib.hid (show sameR a b = decide (TA.xs = TB.xs ∧ TA.zs = TB.zs) from by rw [HR.out.2, eA, eB])
        clear eA eB hnb hn
        have CA := Lib.hid ha; have CB := Lib.hid hb; clear ha hb
        go_enter Try.func11, Try.ntmps11
        go_wp2_with fail
        refine (impl_TableauOf_any _ a _ (Rd.below HA.out (show Below w.heap.size w _ from (by repeat (first | exact Below.refl _ _ | assumption | refine Below.drew ?_ | refine below_drewN ?_ _ | refine Below.alloc ?_ (by first | omega | (simp <;> omega)) _ | refine Below.setCell ?_ (by first | omega | (simp <;> omega)) _ | refine Below.trans ?_ (Below.mono (by assumption) (by first | omega | (simp <;> omega)))))) rfl) hl).mono ?_; rintro e w1 ⟨u0, u1, rfl, ho0, ho1, hap, hb1⟩
        rw [← HTA.out] at ho0 ho1 ⊢; rw [IA.out, CA.out]
        obtain ⟨a0, c0, rfl⟩ := own_form ho0; obtain ⟨a1, c1, rfl⟩ := own_form ho1
        have t0 := below_cell hb1 rfl (show ((w.alloc (.cells #[.int .i64 a.n, .slice A a.gs.length cA] 30)).alloc (.cells #[.int .i64 b.n, .slice B b.gs.length cB] 30)).cell? ⟨w.heap.size, 0, none⟩ = some (.int .i64 a.n) from (by repeat (first | (refine Eq.trans (World.cell?_alloc_at _ _ _ _ ?hh) ?_; (case hh => (simp; done)); rfl) | refine cell_alloc_keep _ ?_)))
        have t1 := below_cell hb1 rfl (show ((w.alloc (.cells #[.int .i64 a.n, .slice A a.gs.length cA] 30)).alloc (.cells #[.int .i64 b.n, .slice B b.gs.length cB] 30)).cell? ⟨w.heap.size, 1, none⟩ = some (.slice A a.gs.length cA) from (by repeat (first | (refine Eq.trans (World.cell?_alloc_at _ _ _ _ ?hh) ?_; (case hh => (simp; done)); rfl) | refine cell_alloc_keep _ ?_)))
        have s0 := below_cell hb1 rfl (show ((w.alloc (.cells #[.int .i64 a.n, .slice A a.gs.length cA] 30)).alloc (.cells #[.int .i64 b.n, .slice B b.gs.length cB] 30)).cell? ⟨w.heap.size + 1, 0, none⟩ = some (.int .i64 b.n) from (by repeat (first | (refine Eq.trans (World.cell?_alloc_at _ _ _ _ ?hh) ?_; (case hh => (simp; done)); rfl) | refine cell_alloc_keep _ ?_)))
        have s1 := below_cell hb1 rfl (show ((w.alloc (.cells #[.int .i64 a.n, .slice A a.gs.length cA] 30)).alloc (.cells #[.int .i64 b.n, .slice B b.gs.length cB] 30)).cell? ⟨w.heap.size + 1, 1, none⟩ = some (.slice B b.gs.length cB) from (by repeat (first | (refine Eq.trans (World.cell?_alloc_at _ _ _ _ ?hh) ?_; (case hh => (simp; done)); rfl) | refine cell_alloc_keep _ ?_)))
        have P0 := Lib.hid (OwnE.rd ho0); have P1 := Lib.hid (OwnE.rd ho1); clear ho0 ho1 hap
        have z1 := hb1.size; (simp at z1)
        have bw := Lib.hid (show Below w.heap.size w w1 from (by repeat (first | exact Below.refl _ _ | assumption | refine Below.drew ?_ | refine below_drewN ?_ _ | refine Below.alloc ?_ (by first | omega | (simp <;> omega)) _ | refine Below.setCell ?_ (by first | omega | (simp <;> omega)) _ | refine Below.trans ?_ (Below.mono (by assumption) (by first | omega | (simp <;> omega))))))
        clear hb1
        have t0x := cell_alloc_keep (.cells #[.int .i64 TA.n, .slice a0 TA.xs.length c0, .slice a1 TA.zs.length c1] 79) t0
        have t1x := cell_alloc_keep (.cells #[.int .i64 TA.n, .slice a0 TA.xs.length c0, .slice a1 TA.zs.length c1] 79) t1
        have s0x := cell_alloc_keep (.cells #[.int .i64 TA.n, .slice a0 TA.xs.length c0, .slice a1 TA.zs.length c1] 79) s0
        have s1x := cell_alloc_keep (.cells #[.int .i64 TA.n, .slice a0 TA.xs.length c0, .slice a1 TA.zs.length c1] 79) s1
        have q0 : (w1.alloc (.cells #[.int .i64 TA.n, .slice a0 TA.xs.length c0, .slice a1 TA.zs.length c1] 79)).cell? ⟨w1.heap.size, 0, none⟩ = some (.int .i64 (n : Int)) := by rw [← eN.out.1]; exact (by repeat (first | (refine Eq.trans (World.cell?_alloc_at _ _ _ _ ?hh) ?_; (case hh => (simp; done)); rfl) | refine cell_alloc_keep _ ?_))
        have q1 : (w1.alloc (.cells #[.int .i64 TA.n, .slice a0 TA.xs.length c0, .slice a1 TA.zs.length c1] 79)).cell? ⟨w1.heap.size, 1, none⟩ = some (.slice a0 TA.xs.length c0) := (by repeat (first | (refine Eq.trans (World.cell?_alloc_at _ _ _ _ ?hh) ?_; (case hh => (simp; done)); rfl) | refine cell_alloc_keep _ ?_))
        have q2 : (w1.alloc (.cells #[.int .i64 TA.n, .slice a0 TA.xs.length c0, .slice a1 TA.zs.length c1] 79)).cell? ⟨w1.heap.size, 2, none⟩ = some (.slice a1 TA.zs.length c1) := (by repeat (first | (refine Eq.trans (World.cell?_alloc_at _ _ _ _ ?hh) ?_; (case hh => (simp; done)); rfl) | refine cell_alloc_keep _ ?_))
        replace P0 := Lib.hid (Rd.below P0.out (show Below w1.heap.size w1 (w1.alloc (.cells #[.int .i64 TA.n, .slice a0 TA.xs.length c0, .slice a1 TA.zs.length c1] 79)) from (by repeat (first | exact Below.refl _ _ | assumption | refine Below.drew ?_ | refine below_drewN ?_ _ | refine Below.alloc ?_ (by first | omega | (simp <;> omega)) _ | refine Below.setCell ?_ (by first | omega | (simp <;> omega)) _ | refine Below.trans ?_ (Below.mono (by assumption) (by first | omega | (simp <;> omega)))))) rfl); replace P1 := Lib.hid (Rd.below P1.out (show Below w1.heap.size w1 (w1.alloc (.cells #[.int .i64 TA.n, .slice a0 TA.xs.length c0, .slice a1 TA.zs.length c1] 79)) from (by repeat (first | exact Below.refl _ _ | assumption | refine Below.drew ?_ | refine below_drewN ?_ _ | refine Below.alloc ?_ (by first | omega | (simp <;> omega)) _ | refine Below.setCell ?_ (by first | omega | (simp <;> omega)) _ | refine Below.trans ?_ (Below.mono (by assumption) (by first | omega | (simp <;> omega)))))) rfl)
        replace bw := Lib.hid (show Below w.heap.size w (w1.alloc (.cells #[.int .i64 TA.n, .slice a0 TA.xs.length c0, .slice a1 TA.zs.length c1] 79)) from Below.alloc bw.out (by omega) _)
        have z2 : w1.heap.size < (w1.alloc (.cells #[.int .i64 TA.n, .slice a0 TA.xs.length c0, .slice a1 TA.zs.length c1] 79)).heap.size := by simp
        go_wp2_with fail
        clear t0 t1 s0 s1
        generalize w1.alloc (.cells #[.int .i64 TA.n, .slice a0 TA.xs.length c0, .slice a1 TA.zs.length c1] 79) = W at *
        refine (impl_TableauOf_any _ b _ (Rd.below HB.out bw.out rfl) hm).mono ?_; rintro e w3 ⟨u2, u3, rfl, ho2, ho3, hap, hb3⟩
        rw [← HTB.out] at ho2 ho3 ⊢; rw [IB.out, CB.out]
        obtain ⟨a2, c2, rfl⟩ := own_form ho2; obtain ⟨a3, c3, rfl⟩ := own_form ho3
        replace t0x := below_cell hb3 rfl t0x
        replace t1x := below_cell hb3 rfl t1x
        replace s0x := below_cell hb3 rfl s0x
        replace s1x := below_cell hb3 rfl s1x
        replace q0 := below_cell hb3 rfl q0
        replace q1 := below_cell hb3 rfl q1
        replace q2 := below_cell hb3 rfl q2
        have Q0 := Lib.hid (OwnE.rd ho2); have Q1 := Lib.hid (OwnE.rd ho3); clear ho2 ho3 hap
        replace P0 := Lib.hid (Rd.below P0.out hb3 rfl); replace P1 := Lib.hid (Rd.below P1.out hb3 rfl)
        have z3 := hb3.size
        replace bw := Lib.hid (show Below w.heap.size w w3 from Below.trans bw.out (hb3.mono (by omega)))
        clear hb3
        replace t0x := cell_alloc_keep (.cells #[.int .i64 TB.n, .slice a2 TB.xs.length c2, .slice a3 TB.zs.length c3] 79) t0x
        replace t1x := cell_alloc_keep (.cells #[.int .i64 TB.n, .slice a2 TB.xs.length c2, .slice a3 TB.zs.length c3] 79) t1x
        replace s0x := cell_alloc_keep (.cells #[.int .i64 TB.n, .slice a2 TB.xs.length c2, .slice a3 TB.zs.length c3] 79) s0x
        replace s1x := cell_alloc_keep (.cells #[.int .i64 TB.n, .slice a2 TB.xs.length c2, .slice a3 TB.zs.length c3] 79) s1x
        replace q0 := cell_alloc_keep (.cells #[.int .i64 TB.n, .slice a2 TB.xs.length c2, .slice a3 TB.zs.length c3] 79) q0
        replace q1 := cell_alloc_keep (.cells #[.int .i64 TB.n, .slice a2 TB.xs.length c2, .slice a3 TB.zs.length c3] 79) q1
        replace q2 := cell_alloc_keep (.cells #[.int .i64 TB.n, .slice a2 TB.xs.length c2, .slice a3 TB.zs.length c3] 79) q2
        have p0 : (w3.alloc (.cells #[.int .i64 TB.n, .slice a2 TB.xs.length c2, .slice a3 TB.zs.length c3] 79)).cell? ⟨w3.heap.size, 0, none⟩ = some (.int .i64 (n : Int)) := by rw [← eN.out.2]; exact (by repeat (first | (refine Eq.trans (World.cell?_alloc_at _ _ _ _ ?hh) ?_; (case hh => (simp; done)); rfl) | refine cell_alloc_keep _ ?_))
        have p1 : (w3.alloc (.cells #[.int .i64 TB.n, .slice a2 TB.xs.length c2, .slice a3 TB.zs.length c3] 79)).cell? ⟨w3.heap.size, 1, none⟩ = some (.slice a2 TB.xs.length c2) := (by repeat (first | (refine Eq.trans (World.cell?_alloc_at _ _ _ _ ?hh) ?_; (case hh => (simp; done)); rfl) | refine cell_alloc_keep _ ?_))
        have p2 : (w3.alloc (.cells #[.int .i64 TB.n, .slice a2 TB.xs.length c2, .slice a3 TB.zs.length c3] 79)).cell? ⟨w3.heap.size, 2, none⟩ = some (.slice a3 TB.zs.length c3) := (by repeat (first | (refine Eq.trans (World.cell?_alloc_at _ _ _ _ ?hh) ?_; (case hh => (simp; done)); rfl) | refine cell_alloc_keep _ ?_))
        replace P0 := Lib.hid (Rd.below P0.out (show Below w3.heap.size w3 (w3.alloc (.cells #[.int .i64 TB.n, .slice a2 TB.xs.length c2, .slice a3 TB.zs.length c3] 79)) from (by repeat (first | exact Below.refl _ _ | assumption | refine Below.drew ?_ | refine below_drewN ?_ _ | refine Below.alloc ?_ (by first | omega | (simp <;> omega)) _ | refine Below.setCell ?_ (by first | omega | (simp <;> omega)) _ | refine Below.trans ?_ (Below.mono (by assumption) (by first | omega | (simp <;> omega)))))) rfl)
        replace P1 := Lib.hid (Rd.below P1.out (show Below w3.heap.size w3 (w3.alloc (.cells #[.int .i64 TB.n, .slice a2 TB.xs.length c2, .slice a3 TB.zs.length c3] 79)) from (by repeat (first | exact Below.refl _ _ | assumption | refine Below.drew ?_ | refine below_drewN ?_ _ | refine Below.alloc ?_ (by first | omega | (simp <;> omega)) _ | refine Below.setCell ?_ (by first | omega | (simp <;> omega)) _ | refine Below.trans ?_ (Below.mono (by assumption) (by first | omega | (simp <;> omega)))))) rfl)
        replace Q0 := Lib.hid (Rd.below Q0.out (show Below w3.heap.size w3 (w3.alloc (.cells #[.int .i64 TB.n, .slice a2 TB.xs.length c2, .slice a3 TB.zs.length c3] 79)) from (by repeat (first | exact Below.refl _ _ | assumption | refine Below.drew ?_ | refine below_drewN ?_ _ | refine Below.alloc ?_ (by first | omega | (simp <;> omega)) _ | refine Below.setCell ?_ (by first | omega | (simp <;> omega)) _ | refine Below.trans ?_ (Below.mono (by assumption) (by first | omega | (simp <;> omega)))))) rfl)
        replace Q1 := Lib.hid (Rd.below Q1.out (show Below w3.heap.size w3 (w3.alloc (.cells #[.int .i64 TB.n, .slice a2 TB.xs.length c2, .slice a3 TB.zs.length c3] 79)) from (by repeat (first | exact Below.refl _ _ | assumption | refine Below.drew ?_ | refine below_drewN ?_ _ | refine Below.alloc ?_ (by first | omega | (simp <;> omega)) _ | refine Below.setCell ?_ (by first | omega | (simp <;> omega)) _ | refine Below.trans ?_ (Below.mono (by assumption) (by first | omega | (simp <;> omega)))))) rfl)
        replace bw := Lib.hid (show Below w.heap.size w (w3.alloc (.cells #[.int .i64 TB.n, .slice a2 TB.xs.length c2, .slice a3 TB.zs.length c3] 79)) from Below.alloc bw.out (by omega) _)
        go_wp2_with fail
        refine (impl_equalTableaux_any (n : Int) TA.xs TA.zs TB.xs TB.zs _ _ _ _ _ P0.out P1.out Q0.out Q1.out).mono ?_; rw [← RR.out]; obtain ⟨R, hR⟩ : ∃ R, R = sameR a b := ⟨_, rfl⟩; have HRR := Lib.hid hR; rw [← hR]; clear hR; rintro e w5 ⟨rfl, hb5⟩
        have bw5 := Lib.hid (show Below w.heap.size w w5 from Below.trans bw.out (hb5.mono (by have := bw.out.size; simpa using this)))
        go_wp2_with fail
        go_ret2
        exact ⟨ret_two HRR.out HR.out.1.symm, bw5.out⟩
end Go.Proofs.Ytdkfoleippncnaa
