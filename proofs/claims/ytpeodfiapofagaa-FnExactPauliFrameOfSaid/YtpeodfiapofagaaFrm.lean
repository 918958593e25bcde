/- Sgn1, Sgn2, Sgn3, Frm1, Frm2 in one text. -/
import Derived.Test.YtpeodfiapofagaaComp3
import Derived.Test.YtpeodfiapofagaaBrk
import Derived.Test.YtpeodfiapofagaaTab1
import Derived.Test.YtpeodfiapofagaaNet1
import Derived.BigQuiet
import Derived.Deep.QuietTactic
namespace Go.Proofs.Ytpeodfiapofagaa
set_option linter.unusedSimpArgs false
set_option linter.unusedVariables false
set_option linter.unnecessarySimpa false
set_option maxRecDepth 200000
open Go.ChangeShapes Go.WideShapes Go.ChangeAt Go.RowKit

/-- The images of a qubit are the generators, up to sign. -/
def sgnQ (X Z : List PN) (q : Nat) : Bool :=
  ((X.getD q ⟨0, 0, 0⟩).x == 2 ^ q && (X.getD q ⟨0, 0, 0⟩).z == 0) && ((Z.getD q ⟨0, 0, 0⟩).x == 0 && (Z.getD q ⟨0, 0, 0⟩).z == 2 ^ q)
def sgnAll (X Z : List PN) (n : Nat) : Bool := (List.range n).all (sgnQ X Z)
def SgnTo (X Z : List PN) (k : Nat) : Prop := ∀ q, q < k → sgnQ X Z q = true
theorem sgn_yes {X Z : List PN} {n k : Nat} (h : SgnTo X Z k) (hk : n ≤ k) : true = sgnAll X Z n := by
  symm; unfold sgnAll; rw [List.all_eq_true]
  intro q hq
  exact h q (by have := List.mem_range.1 hq; omega)
theorem sgn_no {X Z : List PN} {n k : Nat} (hk : k < n) (h : sgnQ X Z k = false) : false = sgnAll X Z n := by
  symm; unfold sgnAll; rw [List.all_eq_false]
  exact ⟨k, List.mem_range.2 hk, by simp [h]⟩
theorem SgnTo.next {X Z : List PN} {k : Nat} (h : SgnTo X Z k) (h2 : sgnQ X Z k = true) : SgnTo X Z (k + 1) := by
  intro q hq
  by_cases e : q = k
  · subst e; exact h2
  · exact h q (by omega)
noncomputable def sgnG (d : Tab) : Option Bool := if TabOk d then some (sgnAll (d.xs.map tn) (d.zs.map tn) d.n.toNat) else none
theorem ne_pow (x k : Nat) : ((x : Int) != (2 : Int) ^ k) = !(x == 2 ^ k) := by
  rw [show (2 : Int) ^ k = ((2 ^ k : Nat) : Int) from by simp]
  generalize 2 ^ k = y
  rw [Bool.eq_iff_iff]
  simp
  omega
theorem ne_zero (x : Nat) : ((x : Int) != 0) = !(x == 0) := by
  rw [Bool.eq_iff_iff]; simp
theorem quad (a b c d : Bool) : a = false ∨ (a = true ∧ b = false) ∨ (a = true ∧ b = true ∧ c = false) ∨ (a = true ∧ b = true ∧ c = true ∧ d = false) ∨ (a = true ∧ b = true ∧ c = true ∧ d = true) := by
  cases a <;> cases b <;> cases c <;> cases d <;> simp
theorem ret_two {a b : Bool} (h : a = b) : Ending.returned (.tuple #[.bool a, .bool true]) = .returned (.tuple #[.bool ((some b).getD false), .bool (some b).isSome]) := by rw [h]; rfl
set_option maxHeartbeats 16000000 in
theorem impl_SignOnly_any (d : Tab) (v0 v1 : Value) (w : World) (h0 : RdE w v0 E3.cs 3 d.xs) (h1 : RdE w v1 E3.cs 3 d.zs) (n0 : d.xs.length ≤ 1048576) (n1 : d.zs.length ≤ 1048576) :
    Calls Try.prog 37 #[.agg #[.int .i64 d.n, v0, v1]] w fun e w' => e = .returned (.tuple #[.bool ((sgnG d).getD false), .bool (sgnG d).isSome]) ∧ Below w.heap.size w w' := by
  have H0 := Lib.hid h0; have H1 := Lib.hid h1
  obtain ⟨A, c, rfl, _⟩ := h0.form
  obtain ⟨A2, c2, rfl, _⟩ := h1.form
  clear h0 h1
  by_cases ht : TabOk d
  · have HT := Lib.hid (show tabB d = true from decide_eq_true ht)
    have HG := Lib.hid (show sgnG d = some (sgnAll (d.xs.map tn) (d.zs.map tn) d.n.toNat) from if_pos ht)
    obtain ⟨m, hm, m1, m5, ex, ez, lx, lz, okx, okz⟩ := ht.parts
    have RX := Lib.hid (show RdE w (.slice A d.xs.length c) E3.cs 3 (pes (d.xs.map tn)) from by rw [← ex]; exact H0.out)
    have RZ := Lib.hid (show RdE w (.slice A2 d.zs.length c2) E3.cs 3 (pes (d.zs.map tn)) from by rw [← ez]; exact H1.out)
    have hlx : d.xs.length = m := by simpa using lx
    have hlz : d.zs.length = m := by simpa using lz
    rw [hm, Int.toNat_natCast] at HG
    have HM := Lib.hid hm
    generalize d.xs.map tn = X at *
    generalize d.zs.map tn = Z at *
    obtain ⟨A3, c3, e3, HA⟩ := pes_at RX.out
    obtain ⟨A4, c4, e4, HB⟩ := pes_at RZ.out
    injection e3 with e3 e6 e5; subst e3; subst e5; clear e6
    injection e4 with e4 e6 e5; subst e4; subst e5; clear e6
    rw [lx] at HA; rw [lz] at HB
    have HLX := Lib.hid hlx; have HLZ := Lib.hid hlz
    have OX := Lib.hid okx; have OZ := Lib.hid okz
    clear ht hm ex ez lx lz okx okz hlx hlz
    go_enter Try.func37, Try.ntmps37
    go_wp2_with fail
    refine (impl_IsValidTableau_any d _ _ _ (Rd.below H0.out (show Below w.heap.size w _ from (by repeat (first | exact Below.refl _ _ | assumption | refine Below.drew ?_ | refine below_drewN ?_ _ | refine Below.alloc ?_ (by first | omega | (simp <;> omega)) _ | refine Below.setCell ?_ (by first | omega | (simp <;> omega)) _ | refine Below.trans ?_ (Below.mono (by assumption) (by first | omega | (simp <;> omega)))))) rfl) (Rd.below H1.out (show Below w.heap.size w _ from (by repeat (first | exact Below.refl _ _ | assumption | refine Below.drew ?_ | refine below_drewN ?_ _ | refine Below.alloc ?_ (by first | omega | (simp <;> omega)) _ | refine Below.setCell ?_ (by first | omega | (simp <;> omega)) _ | refine Below.trans ?_ (Below.mono (by assumption) (by first | omega | (simp <;> omega)))))) rfl) n0 n1).mono ?_; rintro e w1 ⟨rfl, hb1⟩; rw [HT.out]
    have t0 := below_cell hb1 rfl (show (w.alloc (.cells #[.int .i64 d.n, .slice A d.xs.length c, .slice A2 d.zs.length c2] 24)).cell? ⟨w.heap.size, 0, none⟩ = some (.int .i64 d.n) from (by repeat (first | (refine Eq.trans (World.cell?_alloc_at _ _ _ _ ?hh) ?_; (case hh => (simp; done)); rfl) | refine cell_alloc_keep _ ?_)))
    have t1 := below_cell hb1 rfl (show (w.alloc (.cells #[.int .i64 d.n, .slice A d.xs.length c, .slice A2 d.zs.length c2] 24)).cell? ⟨w.heap.size, 1, none⟩ = some (.slice A d.xs.length c) from (by repeat (first | (refine Eq.trans (World.cell?_alloc_at _ _ _ _ ?hh) ?_; (case hh => (simp; done)); rfl) | refine cell_alloc_keep _ ?_)))
    have t2 := below_cell hb1 rfl (show (w.alloc (.cells #[.int .i64 d.n, .slice A d.xs.length c, .slice A2 d.zs.length c2] 24)).cell? ⟨w.heap.size, 2, none⟩ = some (.slice A2 d.zs.length c2) from (by repeat (first | (refine Eq.trans (World.cell?_alloc_at _ _ _ _ ?hh) ?_; (case hh => (simp; done)); rfl) | refine cell_alloc_keep _ ?_)))
    have z1 := hb1.size; (simp at z1)
    have bw1 := Lib.hid (show Below w.heap.size w w1 from (by repeat (first | exact Below.refl _ _ | assumption | refine Below.drew ?_ | refine below_drewN ?_ _ | refine Below.alloc ?_ (by first | omega | (simp <;> omega)) _ | refine Below.setCell ?_ (by first | omega | (simp <;> omega)) _ | refine Below.trans ?_ (Below.mono (by assumption) (by first | omega | (simp <;> omega)))))); clear hb1
    rw [HM.out] at t0; rw [HLX.out] at t1; rw [HLZ.out] at t2
    have T0 := Lib.hid t0; have T1 := Lib.hid t1; have T2 := Lib.hid t2
    have L0 := World.block_lt_of_cell? _ _ t0
    rw [HM.out, HLX.out, HLZ.out]
    go_wp2_with fail
    clear t0 t1 t2
    go_loopw [12] (fun i wr => ∃ k : Nat, k ≤ m ∧ i = .int .i64 k ∧ Hid (SgnTo X Z k) ∧ Hid (Below w1.heap.size w1 wr)) (fun i _ => m - (intOf i).toNat)
    case atStart => exact ⟨0, Nat.zero_le _, rfl, (show SgnTo _ _ _ from fun q hq => absurd hq (Nat.not_lt_zero _)), (show Below _ _ _ from Below.refl _ _)⟩
    case round =>
      obtain ⟨k, hk, rfl, hsg, hbel⟩ := hrel
      by_cases hlt : k < m
      · have i1 : (k : Int) < (m : Int) := by omega
        have i2 : (0 : Int) ≤ (k : Int) := by omega
        have bw := Lib.hid (show Below w.heap.size w wr from Below.trans bw1.out (hbel.out.mono bw1.out.size))
        have t1 := below_cell hbel.out rfl T1.out
        have t2 := below_cell hbel.out rfl T2.out
        obtain ⟨ga, offa, rfl, hga, a0, a1, a2⟩ := HA.out k hlt
        obtain ⟨gb, offb, rfl, hgb, b0, b1, b2⟩ := HB.out k hlt
        replace a0 := (bw.out.cell hga).trans a0; replace a1 := (bw.out.cell hga).trans a1; replace a2 := (bw.out.cell hga).trans a2
        replace b0 := (bw.out.cell hgb).trans b0; replace b1 := (bw.out.cell hgb).trans b1; replace b2 := (bw.out.cell hgb).trans b2
        have HQ : Hid (sgnQ X Z k = (((X.getD k ⟨0, 0, 0⟩).x == 2 ^ k && (X.getD k ⟨0, 0, 0⟩).z == 0) && ((Z.getD k ⟨0, 0, 0⟩).x == 0 && (Z.getD k ⟨0, 0, 0⟩).z == 2 ^ k))) := rfl
        obtain ⟨P, hP⟩ : ∃ P, P = X.getD k ⟨0, 0, 0⟩ := ⟨_, rfl⟩
        obtain ⟨R, hR⟩ : ∃ R, R = Z.getD k ⟨0, 0, 0⟩ := ⟨_, rfl⟩
        rw [← hP] at a0 a1 a2 HQ; rw [← hR] at b0 b1 b2 HQ
        clear hP hR
        obtain ⟨p1, p2⟩ := pow_small5 (show k ≤ 5 by omega)
        have hw : IntKind.i64.wrap ((2 : Int) ^ k) = (2 : Int) ^ k := IntWalk.i64_in _ (by omega)
        have zr := hbel.out.size
        have y1 := World.block_lt_of_cell? _ _ t1; have y2 := World.block_lt_of_cell? _ _ a0; have y3 := World.block_lt_of_cell? _ _ b0
        go_wp2_with fail
        refine AnyB.begin (S := (fun w' => w'.cell? ⟨w.heap.size, 1, none⟩ = some (.slice (some ⟨ga, offa, none⟩) m c) ∧ w'.cell? ⟨w.heap.size, 2, none⟩ = some (.slice (some ⟨gb, offb, none⟩) m c2) ∧ w'.cell? ⟨ga, offa + k * 3, none⟩ = some (.int .i64 (P.p : Int)) ∧ w'.cell? ⟨ga, offa + k * 3 + 1, none⟩ = some (.int .i64 (P.x : Int)) ∧ w'.cell? ⟨ga, offa + k * 3 + 2, none⟩ = some (.int .i64 (P.z : Int)) ∧ w'.cell? ⟨gb, offb + k * 3, none⟩ = some (.int .i64 (R.p : Int)) ∧ w'.cell? ⟨gb, offb + k * 3 + 1, none⟩ = some (.int .i64 (R.x : Int)) ∧ w'.cell? ⟨gb, offb + k * 3 + 2, none⟩ = some (.int .i64 (R.z : Int)))) [] (by kernel_rfl) ?_ (fun hHeld0 => ?_)
        · ((try dsimp only); (first | exact ⟨t1, t2, a0, a1, a2, b0, b1, b2⟩ | (go_split_ands; refine ⟨?_, ?_, ?_, ?_, ?_, ?_, ?_, ?_⟩ <;> (repeat (first | assumption | refine cell_alloc_keep _ ?_ | refine cell_set_far (by omega) ?_)))))
        refine AnyB.takeQ (i := 0) (oi := _) (v := ?_) (by simp only [List.getElem?_toArray, List.getElem?_cons_zero, List.getElem?_cons_succ]; rfl) (by kernel_rfl) (by kernel_rfl) (by kernel_rfl) (by intro _ _ _ h; exact h) (Or.inl ⟨by rfl, ?_⟩) ?_
        rotate_left
        · (intro w hSw; (try dsimp only at hSw); go_simp; (try (with_reducible rfl)))
        try simp only [Act.put, List.setIfInBounds_toArray, List.set_cons_zero, List.set_cons_succ]
        refine AnyB.take (i := 1) (oi := _) (v := ?_) (by simp only [List.getElem?_toArray, List.getElem?_cons_zero, List.getElem?_cons_succ]; rfl) (by kernel_rfl) (by kernel_rfl) (by kernel_rfl) (by kernel_rfl) (by kernel_rfl) (by intro _ _ _ h; exact h) (Or.inl ⟨by rfl, ?_⟩) (by assumption) ?_
        rotate_left
        · (intro w hSw; (try dsimp only at hSw); go_simp; (try (with_reducible rfl)))
        try simp only [Act.put, List.setIfInBounds_toArray, List.set_cons_zero, List.set_cons_succ]
        refine AnyB.takeQ (i := 2) (oi := _) (v := ?_) (by simp only [List.getElem?_toArray, List.getElem?_cons_zero, List.getElem?_cons_succ]; rfl) (by kernel_rfl) (by kernel_rfl) (by kernel_rfl) (by intro _ _ _ h; exact h) (Or.inl ⟨by rfl, ?_⟩) ?_
        rotate_left
        · (intro w hSw; (try dsimp only at hSw); go_simp; (try (with_reducible rfl)))
        try simp only [Act.put, List.setIfInBounds_toArray, List.set_cons_zero, List.set_cons_succ]
        refine AnyB.takeQ (i := 3) (oi := _) (v := ?_) (by simp only [List.getElem?_toArray, List.getElem?_cons_zero, List.getElem?_cons_succ]; rfl) (by kernel_rfl) (by kernel_rfl) (by kernel_rfl) (by intro _ _ _ h; exact h) (Or.inl ⟨by rfl, ?_⟩) ?_
        rotate_left
        · (intro w hSw; (try dsimp only at hSw); go_simp; (try (with_reducible rfl)))
        try simp only [Act.put, List.setIfInBounds_toArray, List.set_cons_zero, List.set_cons_succ]
        refine AnyB.take (i := 4) (oi := _) (v := ?_) (by simp only [List.getElem?_toArray, List.getElem?_cons_zero, List.getElem?_cons_succ]; rfl) (by kernel_rfl) (by kernel_rfl) (by kernel_rfl) (by kernel_rfl) (by kernel_rfl) (by intro _ _ _ h; exact h) (Or.inl ⟨by rfl, ?_⟩) (by assumption) ?_
        rotate_left
        · (intro w hSw; (try dsimp only at hSw); go_simp; (try (with_reducible rfl)))
        try simp only [Act.put, List.setIfInBounds_toArray, List.set_cons_zero, List.set_cons_succ]
        refine AnyB.takeQ (i := 5) (oi := _) (v := ?_) (by simp only [List.getElem?_toArray, List.getElem?_cons_zero, List.getElem?_cons_succ]; rfl) (by kernel_rfl) (by kernel_rfl) (by kernel_rfl) (by intro _ _ _ h; exact h) (Or.inl ⟨by rfl, ?_⟩) ?_
        rotate_left
        · (intro w hSw; (try dsimp only at hSw); go_simp; (try (with_reducible rfl)))
        try simp only [Act.put, List.setIfInBounds_toArray, List.set_cons_zero, List.set_cons_succ]
        refine AnyB.take (i := 6) (oi := _) (v := ?_) (by simp only [List.getElem?_toArray, List.getElem?_cons_zero, List.getElem?_cons_succ]; rfl) (by kernel_rfl) (by kernel_rfl) (by kernel_rfl) (by kernel_rfl) (by kernel_rfl) (by intro _ _ _ h; exact h) (Or.inl ⟨by rfl, ?_⟩) (by assumption) ?_
        rotate_left
        · (intro w hSw; (try dsimp only at hSw); go_simp; (try (with_reducible rfl)))
        try simp only [Act.put, List.setIfInBounds_toArray, List.set_cons_zero, List.set_cons_succ]
        refine AnyB.takeQ (i := 7) (oi := _) (v := ?_) (by simp only [List.getElem?_toArray, List.getElem?_cons_zero, List.getElem?_cons_succ]; rfl) (by kernel_rfl) (by kernel_rfl) (by kernel_rfl) (by intro _ _ _ h; exact h) (Or.inl ⟨by rfl, ?_⟩) ?_
        rotate_left
        · (intro w hSw; (try dsimp only at hSw); go_simp; (try (with_reducible rfl)))
        try simp only [Act.put, List.setIfInBounds_toArray, List.set_cons_zero, List.set_cons_succ]
        refine AnyB.takeQ (i := 8) (oi := _) (v := ?_) (by simp only [List.getElem?_toArray, List.getElem?_cons_zero, List.getElem?_cons_succ]; rfl) (by kernel_rfl) (by kernel_rfl) (by kernel_rfl) (by intro _ _ _ h; exact h) (Or.inl ⟨by rfl, ?_⟩) ?_
        rotate_left
        · (intro w hSw; (try dsimp only at hSw); go_simp; (try (with_reducible rfl)))
        try simp only [Act.put, List.setIfInBounds_toArray, List.set_cons_zero, List.set_cons_succ]
        refine AnyB.take (i := 9) (oi := _) (v := ?_) (by simp only [List.getElem?_toArray, List.getElem?_cons_zero, List.getElem?_cons_succ]; rfl) (by kernel_rfl) (by kernel_rfl) (by kernel_rfl) (by kernel_rfl) (by kernel_rfl) (by intro _ _ _ h; exact h) (Or.inl ⟨by rfl, ?_⟩) (by assumption) ?_
        rotate_left
        · (intro w hSw; (try dsimp only at hSw); go_simp; (try (with_reducible rfl)))
        try simp only [Act.put, List.setIfInBounds_toArray, List.set_cons_zero, List.set_cons_succ]
        refine AnyB.each (rs := [10, 11]) (by kernel_rfl) (by simp) ?_
        refine EachB.cons rfl (fun K hK hB => ?_) ?_
        · skip
          go_simp
          refine hK.out _ _ ?_ (fun hHeld1 => ?_)
          · ((try dsimp only); (first | exact ⟨t1, t2, a0, a1, a2, b0, b1, b2⟩ | (go_split_ands; refine ⟨?_, ?_, ?_, ?_, ?_, ?_, ?_, ?_⟩ <;> (repeat (first | assumption | refine cell_alloc_keep _ ?_ | refine cell_set_far (by omega) ?_)))))
          clear hB hK K hHeld0
          refine AnyB.each (rs := [11]) (by kernel_rfl) (by simp) ?_
          refine EachB.cons rfl (fun K hK hB => ?_) ?_
          · skip
            go_simp
            refine hK.out _ _ ?_ (fun hHeld2 => ?_)
            · ((try dsimp only); (first | exact ⟨t1, t2, a0, a1, a2, b0, b1, b2⟩ | (go_split_ands; refine ⟨?_, ?_, ?_, ?_, ?_, ?_, ?_, ?_⟩ <;> (repeat (first | assumption | refine cell_alloc_keep _ ?_ | refine cell_set_far (by omega) ?_)))))
            clear hB hK K hHeld1
            refine AnyB.each (rs := [12]) (by kernel_rfl) (by simp) ?_
            refine EachB.cons rfl (fun K hK hB => ?_) ?_
            · skip
              go_simp
              refine hK.out _ _ ?_ (fun hHeld3 => ?_)
              · ((try dsimp only); (first | exact ⟨t1, t2, a0, a1, a2, b0, b1, b2⟩ | (go_split_ands; refine ⟨?_, ?_, ?_, ?_, ?_, ?_, ?_, ?_⟩ <;> (repeat (first | assumption | refine cell_alloc_keep _ ?_ | refine cell_set_far (by omega) ?_)))))
              clear hB hK K hHeld2
              refine AnyB.each (rs := [13]) (by kernel_rfl) (by simp) ?_
              refine EachB.cons rfl (fun K hK hB => ?_) ?_
              · skip
                go_simp
                refine hK.out _ _ ?_ (fun hHeld4 => ?_)
                · ((try dsimp only); (first | exact ⟨t1, t2, a0, a1, a2, b0, b1, b2⟩ | (go_split_ands; refine ⟨?_, ?_, ?_, ?_, ?_, ?_, ?_, ?_⟩ <;> (repeat (first | assumption | refine cell_alloc_keep _ ?_ | refine cell_set_far (by omega) ?_)))))
                clear hB hK K hHeld3
                refine AnyB.none (by kernel_rfl) ?_ _
                have e1 := ne_pow P.x k; have e2 := ne_zero P.z; have e3 := ne_zero R.x; have e4 := ne_pow R.z k
                rcases quad (P.x == 2 ^ k) (P.z == 0) (R.x == 0) (R.z == 2 ^ k) with h | ⟨h, h2⟩ | ⟨h, h2, h3⟩ | ⟨h, h2, h3, h4⟩ | ⟨h, h2, h3, h4⟩
                all_goals
                  rw [h] at e1 HQ
                  (try rw [h2] at e2 HQ)
                  (try rw [h3] at e3 HQ)
                  (try rw [h4] at e4 HQ)
                  clear h
                  (try clear h2)
                  (try clear h3)
                  (try clear h4)
                  simp only [Bool.not_true, Bool.not_false] at e1 e2 e3 e4
                  go_wp2_with fail
                  go_quiet (fail)
                  go_wp2_with fail
                  first
                    | (go_roundw
                       case rel => exact ⟨k + 1, by omega, by go_num, SgnTo.next hsg.out HQ.out, (show Below _ _ _ from Below.trans hbel.out (show Below w1.heap.size wr _ from (by repeat (first | exact Below.refl _ _ | assumption | refine Below.drew ?_ | refine below_drewN ?_ _ | refine Below.alloc ?_ (by first | omega | (simp <;> omega)) _ | refine Below.setCell ?_ (by first | omega | (simp <;> omega)) _ | refine Below.trans ?_ (Below.mono (by assumption) (by first | omega | (simp <;> omega)))))))⟩
                       case measure => simp [intOf]; omega)
                    | (go_ret2
                       exact ⟨by rw [HG.out]; exact ret_two (sgn_no hlt (by rw [HQ.out]; simp)), Below.trans bw1.out ((show Below w1.heap.size w1 _ from Below.trans hbel.out (show Below w1.heap.size wr _ from (by repeat (first | exact Below.refl _ _ | assumption | refine Below.drew ?_ | refine below_drewN ?_ _ | refine Below.alloc ?_ (by first | omega | (simp <;> omega)) _ | refine Below.setCell ?_ (by first | omega | (simp <;> omega)) _ | refine Below.trans ?_ (Below.mono (by assumption) (by first | omega | (simp <;> omega))))))).mono bw1.out.size)⟩)
              exact EachB.nil
            exact EachB.nil
          exact EachB.nil
        refine EachB.cons rfl (fun K hK hB => ?_) ?_
        · skip
          go_simp
          refine hK.out _ _ ?_ (fun hHeld5 => ?_)
          · ((try dsimp only); (first | exact ⟨t1, t2, a0, a1, a2, b0, b1, b2⟩ | (go_split_ands; refine ⟨?_, ?_, ?_, ?_, ?_, ?_, ?_, ?_⟩ <;> (repeat (first | assumption | refine cell_alloc_keep _ ?_ | refine cell_set_far (by omega) ?_)))))
          clear hB hK K hHeld0
          refine AnyB.each (rs := [10]) (by kernel_rfl) (by simp) ?_
          refine EachB.cons rfl (fun K hK hB => ?_) ?_
          · skip
            go_simp
            refine hK.out _ _ ?_ (fun hHeld6 => ?_)
            · ((try dsimp only); (first | exact ⟨t1, t2, a0, a1, a2, b0, b1, b2⟩ | (go_split_ands; refine ⟨?_, ?_, ?_, ?_, ?_, ?_, ?_, ?_⟩ <;> (repeat (first | assumption | refine cell_alloc_keep _ ?_ | refine cell_set_far (by omega) ?_)))))
            clear hB hK K hHeld5
            refine AnyB.each (rs := [12]) (by kernel_rfl) (by simp) ?_
            refine EachB.cons rfl (fun K hK hB => ?_) ?_
            · skip
              go_simp
              refine hK.out _ _ ?_ (fun hHeld7 => ?_)
              · ((try dsimp only); (first | exact ⟨t1, t2, a0, a1, a2, b0, b1, b2⟩ | (go_split_ands; refine ⟨?_, ?_, ?_, ?_, ?_, ?_, ?_, ?_⟩ <;> (repeat (first | assumption | refine cell_alloc_keep _ ?_ | refine cell_set_far (by omega) ?_)))))
              clear hB hK K hHeld6
              refine AnyB.each (rs := [13]) (by kernel_rfl) (by simp) ?_
              refine EachB.cons rfl (fun K hK hB => ?_) ?_
              · skip
                go_simp
                refine hK.out _ _ ?_ (fun hHeld8 => ?_)
                · ((try dsimp only); (first | exact ⟨t1, t2, a0, a1, a2, b0, b1, b2⟩ | (go_split_ands; refine ⟨?_, ?_, ?_, ?_, ?_, ?_, ?_, ?_⟩ <;> (repeat (first | assumption | refine cell_alloc_keep _ ?_ | refine cell_set_far (by omega) ?_)))))
                clear hB hK K hHeld7
                refine AnyB.none (by kernel_rfl) ?_ _
                have e1 := ne_pow P.x k; have e2 := ne_zero P.z; have e3 := ne_zero R.x; have e4 := ne_pow R.z k
                rcases quad (P.x == 2 ^ k) (P.z == 0) (R.x == 0) (R.z == 2 ^ k) with h | ⟨h, h2⟩ | ⟨h, h2, h3⟩ | ⟨h, h2, h3, h4⟩ | ⟨h, h2, h3, h4⟩
                all_goals
                  rw [h] at e1 HQ
                  (try rw [h2] at e2 HQ)
                  (try rw [h3] at e3 HQ)
                  (try rw [h4] at e4 HQ)
                  clear h
                  (try clear h2)
                  (try clear h3)
                  (try clear h4)
                  simp only [Bool.not_true, Bool.not_false] at e1 e2 e3 e4
                  go_wp2_with fail
                  go_quiet (fail)
                  go_wp2_with fail
                  first
                    | (go_roundw
                       case rel => exact ⟨k + 1, by omega, by go_num, SgnTo.next hsg.out HQ.out, (show Below _ _ _ from Below.trans hbel.out (show Below w1.heap.size wr _ from (by repeat (first | exact Below.refl _ _ | assumption | refine Below.drew ?_ | refine below_drewN ?_ _ | refine Below.alloc ?_ (by first | omega | (simp <;> omega)) _ | refine Below.setCell ?_ (by first | omega | (simp <;> omega)) _ | refine Below.trans ?_ (Below.mono (by assumption) (by first | omega | (simp <;> omega)))))))⟩
                       case measure => simp [intOf]; omega)
                    | (go_ret2
                       exact ⟨by rw [HG.out]; exact ret_two (sgn_no hlt (by rw [HQ.out]; simp)), Below.trans bw1.out ((show Below w1.heap.size w1 _ from Below.trans hbel.out (show Below w1.heap.size wr _ from (by repeat (first | exact Below.refl _ _ | assumption | refine Below.drew ?_ | refine below_drewN ?_ _ | refine Below.alloc ?_ (by first | omega | (simp <;> omega)) _ | refine Below.setCell ?_ (by first | omega | (simp <;> omega)) _ | refine Below.trans ?_ (Below.mono (by assumption) (by first | omega | (simp <;> omega))))))).mono bw1.out.size)⟩)
              exact EachB.nil
            exact EachB.nil
          exact EachB.nil
        exact EachB.nil
      · go_wp2_with fail
        go_ret2
        exact ⟨by rw [HG.out]; exact ret_two (sgn_yes hsg.out (by omega)), Below.trans bw1.out (hbel.out.mono bw1.out.size)⟩
  · have HT := Lib.hid (show tabB d = false from decide_eq_false ht)
    have HG := Lib.hid (show sgnG d = none from if_neg ht)
    clear ht
    go_enter Try.func37, Try.ntmps37
    go_wp2_with fail
    refine (impl_IsValidTableau_any d _ _ _ (Rd.below H0.out (show Below w.heap.size w _ from (by repeat (first | exact Below.refl _ _ | assumption | refine Below.drew ?_ | refine below_drewN ?_ _ | refine Below.alloc ?_ (by first | omega | (simp <;> omega)) _ | refine Below.setCell ?_ (by first | omega | (simp <;> omega)) _ | refine Below.trans ?_ (Below.mono (by assumption) (by first | omega | (simp <;> omega)))))) rfl) (Rd.below H1.out (show Below w.heap.size w _ from (by repeat (first | exact Below.refl _ _ | assumption | refine Below.drew ?_ | refine below_drewN ?_ _ | refine Below.alloc ?_ (by first | omega | (simp <;> omega)) _ | refine Below.setCell ?_ (by first | omega | (simp <;> omega)) _ | refine Below.trans ?_ (Below.mono (by assumption) (by first | omega | (simp <;> omega)))))) rfl) n0 n1).mono ?_; rintro e w1 ⟨rfl, hb1⟩; rw [HT.out]
    go_wp2_with fail
    go_ret2
    exact ⟨by rw [HG.out]; rfl, (by repeat (first | exact Below.refl _ _ | assumption | refine Below.drew ?_ | refine below_drewN ?_ _ | refine Below.alloc ?_ (by first | omega | (simp <;> omega)) _ | refine Below.setCell ?_ (by first | omega | (simp <;> omega)) _ | refine Below.trans ?_ (Below.mono (by assumption) (by first | omega | (simp <;> omega)))))⟩
end Go.Proofs.Ytpeodfiapofagaa
namespace Go.Proofs.Ytpeodfiapofagaa
set_option linter.unusedSimpArgs false
set_option linter.unusedVariables false
set_option linter.unnecessarySimpa false
set_option maxRecDepth 200000
open Go.ChangeShapes Go.WideShapes Go.ChangeAt Go.RowKit

theorem eq_pow (x k : Nat) : ((x : Int) == (2 : Int) ^ k) = (x == 2 ^ k) := by
  rw [show (2 : Int) ^ k = ((2 ^ k : Nat) : Int) from by simp]
  generalize 2 ^ k = y
  rw [Bool.eq_iff_iff]
  simp
  omega
theorem eq_zero (x : Nat) : ((x : Int) == 0) = (x == 0) := by
  rw [Bool.eq_iff_iff]; simp
theorem idX_get {m k : Nat} (h : k < m) : (idX m).getD k ⟨0, 0, 0⟩ = ⟨0, (2 : Int) ^ k, 0⟩ := by simp [idX, List.getD, h]
theorem idZ_get {m k : Nat} (h : k < m) : (idZ m).getD k ⟨0, 0, 0⟩ = ⟨0, 0, (2 : Int) ^ k⟩ := by simp [idZ, List.getD, h]
set_option maxHeartbeats 16000000 in
theorem spec_l8SignOnly_any (m : Nat) (X Z : List PN) (v0 v1 : Value) (w : World) (m5 : m ≤ 5) (lx : X.length = m) (lz : Z.length = m) (okx : PLok X) (okz : PLok Z) (h0 : RdE w v0 E3.cs 3 (pes X)) (h1 : RdE w v1 E3.cs 3 (pes Z)) :
    Calls Try.prog 75 #[.agg #[.int .i64 (m : Int), v0, v1]] w fun e w' => e = .returned (.bool (sgnAll X Z m)) ∧ Below w.heap.size w w' := by
  obtain ⟨A, c, rfl, HA⟩ := pes_at h0
  obtain ⟨A2, c2, rfl, HB⟩ := pes_at h1
  rw [lx] at HA ⊢; rw [lz] at HB ⊢
  clear h0 h1 lx lz okx okz
  go_enter Try.func75, Try.ntmps75
  go_wp2_with fail
  refine (spec_l7Identity_any (m : Int) _ (by omega) (by omega)).mono ?_; rintro e w1 ⟨u0, u1, rfl, ho0, ho1, hap, hb1⟩
  rw [Int.toNat_natCast] at ho0 ho1
  obtain ⟨ux, cx, rfl, HX⟩ := gate_at ho0.rd
  obtain ⟨uz, cz, rfl, HZ⟩ := gate_at ho1.rd
  rw [idX_len] at *; rw [idZ_len] at *
  have t0 := cell_alloc_keep (.cells #[.int .i64 (m : Int), .slice ux m cx, .slice uz m cz] 24) (below_cell hb1 rfl (show (w.alloc (.cells #[.int .i64 (m : Int), .slice A m c, .slice A2 m c2] 24)).cell? ⟨w.heap.size, 0, none⟩ = some (.int .i64 (m : Int)) from (by repeat (first | (refine Eq.trans (World.cell?_alloc_at _ _ _ _ ?hh) ?_; (case hh => (simp; done)); rfl) | refine cell_alloc_keep _ ?_))))
  have t1 := cell_alloc_keep (.cells #[.int .i64 (m : Int), .slice ux m cx, .slice uz m cz] 24) (below_cell hb1 rfl (show (w.alloc (.cells #[.int .i64 (m : Int), .slice A m c, .slice A2 m c2] 24)).cell? ⟨w.heap.size, 1, none⟩ = some (.slice A m c) from (by repeat (first | (refine Eq.trans (World.cell?_alloc_at _ _ _ _ ?hh) ?_; (case hh => (simp; done)); rfl) | refine cell_alloc_keep _ ?_))))
  have t2 := cell_alloc_keep (.cells #[.int .i64 (m : Int), .slice ux m cx, .slice uz m cz] 24) (below_cell hb1 rfl (show (w.alloc (.cells #[.int .i64 (m : Int), .slice A m c, .slice A2 m c2] 24)).cell? ⟨w.heap.size, 2, none⟩ = some (.slice A2 m c2) from (by repeat (first | (refine Eq.trans (World.cell?_alloc_at _ _ _ _ ?hh) ?_; (case hh => (simp; done)); rfl) | refine cell_alloc_keep _ ?_))))
  have E1 := Lib.hid (show (w1.alloc (.cells #[.int .i64 (m : Int), .slice ux m cx, .slice uz m cz] 24)).cell? ⟨w1.heap.size, 1, none⟩ = some (.slice ux m cx) from (by repeat (first | (refine Eq.trans (World.cell?_alloc_at _ _ _ _ ?hh) ?_; (case hh => (simp; done)); rfl) | refine cell_alloc_keep _ ?_)))
  have E2 := Lib.hid (show (w1.alloc (.cells #[.int .i64 (m : Int), .slice ux m cx, .slice uz m cz] 24)).cell? ⟨w1.heap.size, 2, none⟩ = some (.slice uz m cz) from (by repeat (first | (refine Eq.trans (World.cell?_alloc_at _ _ _ _ ?hh) ?_; (case hh => (simp; done)); rfl) | refine cell_alloc_keep _ ?_)))
  have z1 := hb1.size; (simp at z1)
  have bw1 := Lib.hid (show Below w.heap.size w (w1.alloc (.cells #[.int .i64 (m : Int), .slice ux m cx, .slice uz m cz] 24)) from (by repeat (first | exact Below.refl _ _ | assumption | refine Below.drew ?_ | refine below_drewN ?_ _ | refine Below.alloc ?_ (by first | omega | (simp <;> omega)) _ | refine Below.setCell ?_ (by first | omega | (simp <;> omega)) _ | refine Below.trans ?_ (Below.mono (by assumption) (by first | omega | (simp <;> omega))))))
  have be1 := Lib.hid (show Below w1.heap.size w1 (w1.alloc (.cells #[.int .i64 (m : Int), .slice ux m cx, .slice uz m cz] 24)) from (by repeat (first | exact Below.refl _ _ | assumption | refine Below.drew ?_ | refine below_drewN ?_ _ | refine Below.alloc ?_ (by first | omega | (simp <;> omega)) _ | refine Below.setCell ?_ (by first | omega | (simp <;> omega)) _ | refine Below.trans ?_ (Below.mono (by assumption) (by first | omega | (simp <;> omega))))))
  have T0 := Lib.hid t0; have T1 := Lib.hid t1; have T2 := Lib.hid t2
  clear hb1 ho0 ho1 hap t0 t1 t2
  go_wp2_with fail
  obtain ⟨WE, hWE⟩ : ∃ W, W = w1.alloc (.cells #[.int .i64 (m : Int), .slice ux m cx, .slice uz m cz] 24) := ⟨_, rfl⟩
  have sWE : w1.heap.size < WE.heap.size := by rw [hWE]; simp
  rw [← hWE] at T0 T1 T2 E1 E2 bw1 be1 ⊢
  have HWE := Lib.hid hWE; clear hWE
  go_loopw [4] (fun i wr => ∃ k : Nat, k ≤ m ∧ i = .int .i64 k ∧ Hid (SgnTo X Z k) ∧ Hid (Below WE.heap.size WE wr)) (fun i _ => m - (intOf i).toNat)
  case atStart => exact ⟨0, Nat.zero_le _, rfl, (show SgnTo _ _ _ from fun q hq => absurd hq (Nat.not_lt_zero _)), (show Below _ _ _ from Below.refl _ _)⟩
  case round =>
    obtain ⟨k, hk, rfl, hsg, hbel⟩ := hrel
    have t0 := below_cell hbel.out rfl T0.out
    by_cases hlt : k < m
    · have i1 : (k : Int) < (m : Int) := by omega
      have i2 : (0 : Int) ≤ (k : Int) := by omega
      have bw := Lib.hid (show Below w.heap.size w wr from Below.trans bw1.out (hbel.out.mono bw1.out.size))
      have be := Lib.hid (show Below w1.heap.size w1 wr from Below.trans be1.out (hbel.out.mono be1.out.size))
      have t1 := below_cell hbel.out rfl T1.out
      have t2 := below_cell hbel.out rfl T2.out
      have g1 := below_cell hbel.out rfl E1.out
      have g2 := below_cell hbel.out rfl E2.out
      obtain ⟨ga, offa, rfl, hga, a0, a1, a2⟩ := HA.out k hlt
      obtain ⟨gb, offb, rfl, hgb, b0, b1, b2⟩ := HB.out k hlt
      obtain ⟨gc, offc, rfl, hgc, x0, x1, x2⟩ := HX.out k hlt
      obtain ⟨gd, offd, rfl, hgd, y0, y1, y2⟩ := HZ.out k hlt
      rw [idX_get hlt] at x0 x1 x2; rw [idZ_get hlt] at y0 y1 y2
      dsimp only at x0 x1 x2 y0 y1 y2
      replace a0 := (bw.out.cell hga).trans a0
      replace a1 := (bw.out.cell hga).trans a1
      replace a2 := (bw.out.cell hga).trans a2
      replace b0 := (bw.out.cell hgb).trans b0
      replace b1 := (bw.out.cell hgb).trans b1
      replace b2 := (bw.out.cell hgb).trans b2
      replace x0 := (be.out.cell hgc).trans x0
      replace x1 := (be.out.cell hgc).trans x1
      replace x2 := (be.out.cell hgc).trans x2
      replace y0 := (be.out.cell hgd).trans y0
      replace y1 := (be.out.cell hgd).trans y1
      replace y2 := (be.out.cell hgd).trans y2
      have HQ : Hid (sgnQ X Z k = (((X.getD k ⟨0, 0, 0⟩).x == 2 ^ k && (X.getD k ⟨0, 0, 0⟩).z == 0) && ((Z.getD k ⟨0, 0, 0⟩).x == 0 && (Z.getD k ⟨0, 0, 0⟩).z == 2 ^ k))) := rfl
      obtain ⟨P, hP⟩ : ∃ P, P = X.getD k ⟨0, 0, 0⟩ := ⟨_, rfl⟩
      obtain ⟨R, hR⟩ : ∃ R, R = Z.getD k ⟨0, 0, 0⟩ := ⟨_, rfl⟩
      rw [← hP] at a0 a1 a2 HQ; rw [← hR] at b0 b1 b2 HQ
      clear hP hR
      have zr := hbel.out.size
      have l1 := World.block_lt_of_cell? _ _ t1; have l2 := World.block_lt_of_cell? _ _ a0; have l3 := World.block_lt_of_cell? _ _ b0; have l4 := World.block_lt_of_cell? _ _ g1; have l5 := World.block_lt_of_cell? _ _ x0; have l6 := World.block_lt_of_cell? _ _ y0
      go_wp2_with fail
      refine AnyB.begin (S := (fun w' => w'.cell? ⟨w.heap.size, 1, none⟩ = some (.slice (some ⟨ga, offa, none⟩) m c) ∧ w'.cell? ⟨w.heap.size, 2, none⟩ = some (.slice (some ⟨gb, offb, none⟩) m c2) ∧ w'.cell? ⟨ga, offa + k * 3, none⟩ = some (.int .i64 (P.p : Int)) ∧ w'.cell? ⟨ga, offa + k * 3 + 1, none⟩ = some (.int .i64 (P.x : Int)) ∧ w'.cell? ⟨ga, offa + k * 3 + 2, none⟩ = some (.int .i64 (P.z : Int)) ∧ w'.cell? ⟨gb, offb + k * 3, none⟩ = some (.int .i64 (R.p : Int)) ∧ w'.cell? ⟨gb, offb + k * 3 + 1, none⟩ = some (.int .i64 (R.x : Int)) ∧ w'.cell? ⟨gb, offb + k * 3 + 2, none⟩ = some (.int .i64 (R.z : Int)))) [] (by kernel_rfl) ?_ (fun hHeld0 => ?_)
      · ((try dsimp only); (first | exact ⟨t1, t2, a0, a1, a2, b0, b1, b2⟩ | (go_split_ands; refine ⟨?_, ?_, ?_, ?_, ?_, ?_, ?_, ?_⟩ <;> (repeat (first | assumption | refine cell_alloc_keep _ ?_ | refine cell_set_far (by omega) ?_)))))
      refine AnyB.takeQ (i := 0) (oi := _) (v := ?_) (by simp only [List.getElem?_toArray, List.getElem?_cons_zero, List.getElem?_cons_succ]; rfl) (by kernel_rfl) (by kernel_rfl) (by kernel_rfl) (by intro _ _ _ h; exact h) (Or.inl ⟨by rfl, ?_⟩) ?_
      rotate_left
      · (intro w hSw; (try dsimp only at hSw); go_simp; (try (with_reducible rfl)))
      try simp only [Act.put, List.setIfInBounds_toArray, List.set_cons_zero, List.set_cons_succ]
      refine AnyB.take (i := 1) (oi := _) (v := ?_) (by simp only [List.getElem?_toArray, List.getElem?_cons_zero, List.getElem?_cons_succ]; rfl) (by kernel_rfl) (by kernel_rfl) (by kernel_rfl) (by kernel_rfl) (by kernel_rfl) (by intro _ _ _ h; exact h) (Or.inl ⟨by rfl, ?_⟩) (by assumption) ?_
      rotate_left
      · (intro w hSw; (try dsimp only at hSw); go_simp; (try (with_reducible rfl)))
      try simp only [Act.put, List.setIfInBounds_toArray, List.set_cons_zero, List.set_cons_succ]
      refine AnyB.takeQ (i := 2) (oi := _) (v := ?_) (by simp only [List.getElem?_toArray, List.getElem?_cons_zero, List.getElem?_cons_succ]; rfl) (by kernel_rfl) (by kernel_rfl) (by kernel_rfl) (by intro _ _ _ h; exact h) (Or.inl ⟨by rfl, ?_⟩) ?_
      rotate_left
      · (intro w hSw; (try dsimp only at hSw); go_simp; (try (with_reducible rfl)))
      try simp only [Act.put, List.setIfInBounds_toArray, List.set_cons_zero, List.set_cons_succ]
      refine AnyB.takeQ (i := 3) (oi := _) (v := ?_) (by simp only [List.getElem?_toArray, List.getElem?_cons_zero, List.getElem?_cons_succ]; rfl) (by kernel_rfl) (by kernel_rfl) (by kernel_rfl) (by intro _ _ _ h; exact h) (Or.inl ⟨by rfl, ?_⟩) ?_
      rotate_left
      · (intro w hSw; (try dsimp only at hSw); go_simp; (try (with_reducible rfl)))
      try simp only [Act.put, List.setIfInBounds_toArray, List.set_cons_zero, List.set_cons_succ]
      refine AnyB.take (i := 4) (oi := _) (v := ?_) (by simp only [List.getElem?_toArray, List.getElem?_cons_zero, List.getElem?_cons_succ]; rfl) (by kernel_rfl) (by kernel_rfl) (by kernel_rfl) (by kernel_rfl) (by kernel_rfl) (by intro _ _ _ h; exact h) (Or.inl ⟨by rfl, ?_⟩) (by assumption) ?_
      rotate_left
      · (intro w hSw; (try dsimp only at hSw); go_simp; (try (with_reducible rfl)))
      try simp only [Act.put, List.setIfInBounds_toArray, List.set_cons_zero, List.set_cons_succ]
      refine AnyB.takeQ (i := 5) (oi := _) (v := ?_) (by simp only [List.getElem?_toArray, List.getElem?_cons_zero, List.getElem?_cons_succ]; rfl) (by kernel_rfl) (by kernel_rfl) (by kernel_rfl) (by intro _ _ _ h; exact h) (Or.inl ⟨by rfl, ?_⟩) ?_
      rotate_left
      · (intro w hSw; (try dsimp only at hSw); go_simp; (try (with_reducible rfl)))
      try simp only [Act.put, List.setIfInBounds_toArray, List.set_cons_zero, List.set_cons_succ]
      refine AnyB.take (i := 6) (oi := _) (v := ?_) (by simp only [List.getElem?_toArray, List.getElem?_cons_zero, List.getElem?_cons_succ]; rfl) (by kernel_rfl) (by kernel_rfl) (by kernel_rfl) (by kernel_rfl) (by kernel_rfl) (by intro _ _ _ h; exact h) (Or.inl ⟨by rfl, ?_⟩) (by assumption) ?_
      rotate_left
      · (intro w hSw; (try dsimp only at hSw); go_simp; (try (with_reducible rfl)))
      try simp only [Act.put, List.setIfInBounds_toArray, List.set_cons_zero, List.set_cons_succ]
      refine AnyB.takeQ (i := 7) (oi := _) (v := ?_) (by simp only [List.getElem?_toArray, List.getElem?_cons_zero, List.getElem?_cons_succ]; rfl) (by kernel_rfl) (by kernel_rfl) (by kernel_rfl) (by intro _ _ _ h; exact h) (Or.inl ⟨by rfl, ?_⟩) ?_
      rotate_left
      · (intro w hSw; (try dsimp only at hSw); go_simp; (try (with_reducible rfl)))
      try simp only [Act.put, List.setIfInBounds_toArray, List.set_cons_zero, List.set_cons_succ]
      refine AnyB.takeQ (i := 8) (oi := _) (v := ?_) (by simp only [List.getElem?_toArray, List.getElem?_cons_zero, List.getElem?_cons_succ]; rfl) (by kernel_rfl) (by kernel_rfl) (by kernel_rfl) (by intro _ _ _ h; exact h) (Or.inl ⟨by rfl, ?_⟩) ?_
      rotate_left
      · (intro w hSw; (try dsimp only at hSw); go_simp; (try (with_reducible rfl)))
      try simp only [Act.put, List.setIfInBounds_toArray, List.set_cons_zero, List.set_cons_succ]
      refine AnyB.take (i := 9) (oi := _) (v := ?_) (by simp only [List.getElem?_toArray, List.getElem?_cons_zero, List.getElem?_cons_succ]; rfl) (by kernel_rfl) (by kernel_rfl) (by kernel_rfl) (by kernel_rfl) (by kernel_rfl) (by intro _ _ _ h; exact h) (Or.inl ⟨by rfl, ?_⟩) (by assumption) ?_
      rotate_left
      · (intro w hSw; (try dsimp only at hSw); go_simp; (try (with_reducible rfl)))
      try simp only [Act.put, List.setIfInBounds_toArray, List.set_cons_zero, List.set_cons_succ]
      refine AnyB.each (rs := [10, 11]) (by kernel_rfl) (by simp) ?_
      refine EachB.cons rfl (fun K hK hB => ?_) ?_
      · skip
        go_simp
        refine hK.out _ _ ?_ (fun hHeld1 => ?_)
        · ((try dsimp only); (first | exact ⟨t1, t2, a0, a1, a2, b0, b1, b2⟩ | (go_split_ands; refine ⟨?_, ?_, ?_, ?_, ?_, ?_, ?_, ?_⟩ <;> (repeat (first | assumption | refine cell_alloc_keep _ ?_ | refine cell_set_far (by omega) ?_)))))
        clear hB hK K hHeld0
        refine AnyB.each (rs := [11]) (by kernel_rfl) (by simp) ?_
        refine EachB.cons rfl (fun K hK hB => ?_) ?_
        · skip
          go_simp
          refine hK.out _ _ ?_ (fun hHeld2 => ?_)
          · ((try dsimp only); (first | exact ⟨t1, t2, a0, a1, a2, b0, b1, b2⟩ | (go_split_ands; refine ⟨?_, ?_, ?_, ?_, ?_, ?_, ?_, ?_⟩ <;> (repeat (first | assumption | refine cell_alloc_keep _ ?_ | refine cell_set_far (by omega) ?_)))))
          clear hB hK K hHeld1
          refine AnyB.each (rs := [12]) (by kernel_rfl) (by simp) ?_
          refine EachB.cons rfl (fun K hK hB => ?_) ?_
          · skip
            go_simp
            refine hK.out _ _ ?_ (fun hHeld3 => ?_)
            · ((try dsimp only); (first | exact ⟨t1, t2, a0, a1, a2, b0, b1, b2⟩ | (go_split_ands; refine ⟨?_, ?_, ?_, ?_, ?_, ?_, ?_, ?_⟩ <;> (repeat (first | assumption | refine cell_alloc_keep _ ?_ | refine cell_set_far (by omega) ?_)))))
            clear hB hK K hHeld2
            refine AnyB.each (rs := [13]) (by kernel_rfl) (by simp) ?_
            refine EachB.cons rfl (fun K hK hB => ?_) ?_
            · skip
              go_simp
              refine hK.out _ _ ?_ (fun hHeld4 => ?_)
              · ((try dsimp only); (first | exact ⟨t1, t2, a0, a1, a2, b0, b1, b2⟩ | (go_split_ands; refine ⟨?_, ?_, ?_, ?_, ?_, ?_, ?_, ?_⟩ <;> (repeat (first | assumption | refine cell_alloc_keep _ ?_ | refine cell_set_far (by omega) ?_)))))
              clear hB hK K hHeld3
              refine AnyB.none (by kernel_rfl) ?_ _
              have e1 := eq_pow P.x k; have e2 := eq_zero P.z; have e3 := eq_zero R.x; have e4 := eq_pow R.z k
              rcases quad (P.x == 2 ^ k) (P.z == 0) (R.x == 0) (R.z == 2 ^ k) with h | ⟨h, h2⟩ | ⟨h, h2, h3⟩ | ⟨h, h2, h3, h4⟩ | ⟨h, h2, h3, h4⟩
              all_goals
                rw [h] at e1 HQ
                (try rw [h2] at e2 HQ)
                (try rw [h3] at e3 HQ)
                (try rw [h4] at e4 HQ)
                clear h
                (try clear h2)
                (try clear h3)
                (try clear h4)
                go_wp2_with fail
                go_quiet (fail)
                go_wp2_with fail
                first
                  | (go_roundw
                     case rel => exact ⟨k + 1, by omega, by go_num, SgnTo.next hsg.out HQ.out, (show Below _ _ _ from Below.trans hbel.out (show Below WE.heap.size wr _ from (by repeat (first | exact Below.refl _ _ | assumption | refine Below.drew ?_ | refine below_drewN ?_ _ | refine Below.alloc ?_ (by first | omega | (simp <;> omega)) _ | refine Below.setCell ?_ (by first | omega | (simp <;> omega)) _ | refine Below.trans ?_ (Below.mono (by assumption) (by first | omega | (simp <;> omega)))))))⟩
                     case measure => simp [intOf]; omega)
                  | (go_ret
                     exact ⟨ret_bool (sgn_no hlt (by rw [HQ.out]; simp)), Below.trans bw1.out ((show Below WE.heap.size WE _ from Below.trans hbel.out (show Below WE.heap.size wr _ from (by repeat (first | exact Below.refl _ _ | assumption | refine Below.drew ?_ | refine below_drewN ?_ _ | refine Below.alloc ?_ (by first | omega | (simp <;> omega)) _ | refine Below.setCell ?_ (by first | omega | (simp <;> omega)) _ | refine Below.trans ?_ (Below.mono (by assumption) (by first | omega | (simp <;> omega))))))).mono bw1.out.size)⟩)
            exact EachB.nil
          exact EachB.nil
        exact EachB.nil
      refine EachB.cons rfl (fun K hK hB => ?_) ?_
      · skip
        go_simp
        refine hK.out _ _ ?_ (fun hHeld5 => ?_)
        · ((try dsimp only); (first | exact ⟨t1, t2, a0, a1, a2, b0, b1, b2⟩ | (go_split_ands; refine ⟨?_, ?_, ?_, ?_, ?_, ?_, ?_, ?_⟩ <;> (repeat (first | assumption | refine cell_alloc_keep _ ?_ | refine cell_set_far (by omega) ?_)))))
        clear hB hK K hHeld0
        refine AnyB.each (rs := [10]) (by kernel_rfl) (by simp) ?_
        refine EachB.cons rfl (fun K hK hB => ?_) ?_
        · skip
          go_simp
          refine hK.out _ _ ?_ (fun hHeld6 => ?_)
          · ((try dsimp only); (first | exact ⟨t1, t2, a0, a1, a2, b0, b1, b2⟩ | (go_split_ands; refine ⟨?_, ?_, ?_, ?_, ?_, ?_, ?_, ?_⟩ <;> (repeat (first | assumption | refine cell_alloc_keep _ ?_ | refine cell_set_far (by omega) ?_)))))
          clear hB hK K hHeld5
          refine AnyB.each (rs := [12]) (by kernel_rfl) (by simp) ?_
          refine EachB.cons rfl (fun K hK hB => ?_) ?_
          · skip
            go_simp
            refine hK.out _ _ ?_ (fun hHeld7 => ?_)
            · ((try dsimp only); (first | exact ⟨t1, t2, a0, a1, a2, b0, b1, b2⟩ | (go_split_ands; refine ⟨?_, ?_, ?_, ?_, ?_, ?_, ?_, ?_⟩ <;> (repeat (first | assumption | refine cell_alloc_keep _ ?_ | refine cell_set_far (by omega) ?_)))))
            clear hB hK K hHeld6
            refine AnyB.each (rs := [13]) (by kernel_rfl) (by simp) ?_
            refine EachB.cons rfl (fun K hK hB => ?_) ?_
            · skip
              go_simp
              refine hK.out _ _ ?_ (fun hHeld8 => ?_)
              · ((try dsimp only); (first | exact ⟨t1, t2, a0, a1, a2, b0, b1, b2⟩ | (go_split_ands; refine ⟨?_, ?_, ?_, ?_, ?_, ?_, ?_, ?_⟩ <;> (repeat (first | assumption | refine cell_alloc_keep _ ?_ | refine cell_set_far (by omega) ?_)))))
              clear hB hK K hHeld7
              refine AnyB.none (by kernel_rfl) ?_ _
              have e1 := eq_pow P.x k; have e2 := eq_zero P.z; have e3 := eq_zero R.x; have e4 := eq_pow R.z k
              rcases quad (P.x == 2 ^ k) (P.z == 0) (R.x == 0) (R.z == 2 ^ k) with h | ⟨h, h2⟩ | ⟨h, h2, h3⟩ | ⟨h, h2, h3, h4⟩ | ⟨h, h2, h3, h4⟩
              all_goals
                rw [h] at e1 HQ
                (try rw [h2] at e2 HQ)
                (try rw [h3] at e3 HQ)
                (try rw [h4] at e4 HQ)
                clear h
                (try clear h2)
                (try clear h3)
                (try clear h4)
                go_wp2_with fail
                go_quiet (fail)
                go_wp2_with fail
                first
                  | (go_roundw
                     case rel => exact ⟨k + 1, by omega, by go_num, SgnTo.next hsg.out HQ.out, (show Below _ _ _ from Below.trans hbel.out (show Below WE.heap.size wr _ from (by repeat (first | exact Below.refl _ _ | assumption | refine Below.drew ?_ | refine below_drewN ?_ _ | refine Below.alloc ?_ (by first | omega | (simp <;> omega)) _ | refine Below.setCell ?_ (by first | omega | (simp <;> omega)) _ | refine Below.trans ?_ (Below.mono (by assumption) (by first | omega | (simp <;> omega)))))))⟩
                     case measure => simp [intOf]; omega)
                  | (go_ret
                     exact ⟨ret_bool (sgn_no hlt (by rw [HQ.out]; simp)), Below.trans bw1.out ((show Below WE.heap.size WE _ from Below.trans hbel.out (show Below WE.heap.size wr _ from (by repeat (first | exact Below.refl _ _ | assumption | refine Below.drew ?_ | refine below_drewN ?_ _ | refine Below.alloc ?_ (by first | omega | (simp <;> omega)) _ | refine Below.setCell ?_ (by first | omega | (simp <;> omega)) _ | refine Below.trans ?_ (Below.mono (by assumption) (by first | omega | (simp <;> omega))))))).mono bw1.out.size)⟩)
            exact EachB.nil
          exact EachB.nil
        exact EachB.nil
      exact EachB.nil
    · go_wp2_with fail
      go_ret
      exact ⟨ret_bool (sgn_yes hsg.out (by omega)), Below.trans bw1.out (hbel.out.mono bw1.out.size)⟩
end Go.Proofs.Ytpeodfiapofagaa
namespace Go.Proofs.Ytpeodfiapofagaa
set_option linter.unusedSimpArgs false
set_option linter.unusedVariables false
set_option linter.unnecessarySimpa false
set_option maxRecDepth 200000
open Go.ChangeShapes Go.WideShapes Go.ChangeAt Go.RowKit

set_option maxHeartbeats 2000000 in
theorem spec_SignOnly_any (d : Tab) (v0 v1 : Value) (w : World) (h0 : RdE w v0 E3.cs 3 d.xs) (h1 : RdE w v1 E3.cs 3 d.zs) (n0 : d.xs.length ≤ 1048576) (n1 : d.zs.length ≤ 1048576) :
    Calls Try.prog 36 #[.agg #[.int .i64 d.n, v0, v1]] w fun e w' => e = .returned (.tuple #[.bool ((sgnG d).getD false), .bool (sgnG d).isSome]) ∧ Below w.heap.size w w' := by
  have H0 := Lib.hid h0; have H1 := Lib.hid h1
  obtain ⟨A, c, rfl, _⟩ := h0.form
  obtain ⟨A2, c2, rfl, _⟩ := h1.form
  clear h0 h1
  by_cases ht : TabOk d
  · have HT := Lib.hid (show tabB d = true from decide_eq_true ht)
    have HG := Lib.hid (show sgnG d = some (sgnAll (d.xs.map tn) (d.zs.map tn) d.n.toNat) from if_pos ht)
    obtain ⟨m, hm, m1, m5, ex, ez, lx, lz, okx, okz⟩ := ht.parts
    have RX := Lib.hid (show RdE w (.slice A d.xs.length c) E3.cs 3 (pes (d.xs.map tn)) from by rw [← ex]; exact H0.out)
    have RZ := Lib.hid (show RdE w (.slice A2 d.zs.length c2) E3.cs 3 (pes (d.zs.map tn)) from by rw [← ez]; exact H1.out)
    have HLX := Lib.hid lx; have HLZ := Lib.hid lz; have HOX := Lib.hid okx; have HOZ := Lib.hid okz
    rw [hm, Int.toNat_natCast] at HG
    have HM := Lib.hid hm
    clear ht hm ex ez lx lz okx okz
    go_enter Try.func36, Try.ntmps36
    go_wp2_with fail
    refine (spec_l7Good_any d _ _ _ (Rd.below H0.out (show Below w.heap.size w _ from (by repeat (first | exact Below.refl _ _ | assumption | refine Below.drew ?_ | refine below_drewN ?_ _ | refine Below.alloc ?_ (by first | omega | (simp <;> omega)) _ | refine Below.setCell ?_ (by first | omega | (simp <;> omega)) _ | refine Below.trans ?_ (Below.mono (by assumption) (by first | omega | (simp <;> omega)))))) rfl) (Rd.below H1.out (show Below w.heap.size w _ from (by repeat (first | exact Below.refl _ _ | assumption | refine Below.drew ?_ | refine below_drewN ?_ _ | refine Below.alloc ?_ (by first | omega | (simp <;> omega)) _ | refine Below.setCell ?_ (by first | omega | (simp <;> omega)) _ | refine Below.trans ?_ (Below.mono (by assumption) (by first | omega | (simp <;> omega)))))) rfl) n0 n1).mono ?_; rintro e w1 ⟨rfl, hb1⟩; rw [HT.out]
    obtain ⟨hc_hb1, hf_hb1⟩ := bcell hb1; have hz_hb1 := hb1.size; (try simp at hz_hb1); have hs0_hb1 : w.heap.size < w1.heap.size := (by omega)
    go_wp2_with fail
    rw [HM.out]
    refine (spec_l8SignOnly_any m (d.xs.map tn) (d.zs.map tn) _ _ _ m5 HLX.out HLZ.out HOX.out HOZ.out (Rd.below RX.out (show Below w.heap.size w w1 from (by repeat (first | exact Below.refl _ _ | assumption | refine Below.drew ?_ | refine below_drewN ?_ _ | refine Below.alloc ?_ (by first | omega | (simp <;> omega)) _ | refine Below.setCell ?_ (by first | omega | (simp <;> omega)) _ | refine Below.trans ?_ (Below.mono (by assumption) (by first | omega | (simp <;> omega)))))) rfl) (Rd.below RZ.out (show Below w.heap.size w w1 from (by repeat (first | exact Below.refl _ _ | assumption | refine Below.drew ?_ | refine below_drewN ?_ _ | refine Below.alloc ?_ (by first | omega | (simp <;> omega)) _ | refine Below.setCell ?_ (by first | omega | (simp <;> omega)) _ | refine Below.trans ?_ (Below.mono (by assumption) (by first | omega | (simp <;> omega)))))) rfl)).mono ?_; rintro e w2 ⟨rfl, hb2⟩
    go_wp2_with fail
    go_ret2
    exact ⟨by rw [HG.out]; exact ret_two rfl, (by repeat (first | exact Below.refl _ _ | assumption | refine Below.drew ?_ | refine below_drewN ?_ _ | refine Below.alloc ?_ (by first | omega | (simp <;> omega)) _ | refine Below.setCell ?_ (by first | omega | (simp <;> omega)) _ | refine Below.trans ?_ (Below.mono (by assumption) (by first | omega | (simp <;> omega)))))⟩
  · have HT := Lib.hid (show tabB d = false from decide_eq_false ht)
    have HG := Lib.hid (show sgnG d = none from if_neg ht)
    clear ht
    go_enter Try.func36, Try.ntmps36
    go_wp2_with fail
    refine (spec_l7Good_any d _ _ _ (Rd.below H0.out (show Below w.heap.size w _ from (by repeat (first | exact Below.refl _ _ | assumption | refine Below.drew ?_ | refine below_drewN ?_ _ | refine Below.alloc ?_ (by first | omega | (simp <;> omega)) _ | refine Below.setCell ?_ (by first | omega | (simp <;> omega)) _ | refine Below.trans ?_ (Below.mono (by assumption) (by first | omega | (simp <;> omega)))))) rfl) (Rd.below H1.out (show Below w.heap.size w _ from (by repeat (first | exact Below.refl _ _ | assumption | refine Below.drew ?_ | refine below_drewN ?_ _ | refine Below.alloc ?_ (by first | omega | (simp <;> omega)) _ | refine Below.setCell ?_ (by first | omega | (simp <;> omega)) _ | refine Below.trans ?_ (Below.mono (by assumption) (by first | omega | (simp <;> omega)))))) rfl) n0 n1).mono ?_; rintro e w1 ⟨rfl, hb1⟩; rw [HT.out]
    go_wp2_with fail
    go_ret2
    exact ⟨by rw [HG.out]; rfl, (by repeat (first | exact Below.refl _ _ | assumption | refine Below.drew ?_ | refine below_drewN ?_ _ | refine Below.alloc ?_ (by first | omega | (simp <;> omega)) _ | refine Below.setCell ?_ (by first | omega | (simp <;> omega)) _ | refine Below.trans ?_ (Below.mono (by assumption) (by first | omega | (simp <;> omega)))))⟩
end Go.Proofs.Ytpeodfiapofagaa
namespace Go.Proofs.Ytpeodfiapofagaa
set_option linter.unusedSimpArgs false
set_option linter.unusedVariables false
set_option linter.unnecessarySimpa false
set_option maxRecDepth 200000
open Go.ChangeShapes Go.WideShapes Go.ChangeAt Go.RowKit

/-- The mask of the first k operators whose phase is 2. -/
def fz (L : List PN) : Nat → Nat
  | 0 => 0
  | k + 1 => fz L k ||| (if (L.getD k ⟨0, 0, 0⟩).p = 2 then 2 ^ k else 0)
theorem fz_lt (L : List PN) : ∀ k, fz L k < 2 ^ k
  | 0 => by show 0 < 1; omega
  | k + 1 => by
    have ih := fz_lt L k
    unfold fz
    refine Nat.or_lt_two_pow (Nat.lt_of_lt_of_le ih (Nat.pow_le_pow_right (by omega) (by omega))) ?_
    split
    · exact Nat.pow_lt_pow_right (by omega) (by omega)
    · exact Nat.pow_pos (by omega)
theorem fz_31 (L : List PN) {k : Nat} (h : k ≤ 5) : fz L k ≤ 31 := by
  have h1 := fz_lt L k
  have h2 : 2 ^ k ≤ 2 ^ 5 := Nat.pow_le_pow_right (by omega) h
  omega
noncomputable def frmG (d : Tab) : Option E3 := if TabOk d then (if sgnAll (d.xs.map tn) (d.zs.map tn) d.n.toNat = true then some ⟨0, (fz (d.zs.map tn) d.n.toNat : Int), (fz (d.xs.map tn) d.n.toNat : Int)⟩ else none) else none
theorem frm_even {d : Tab} (h : TabOk d) : ∀ k, k < d.xs.length → (((d.xs.map tn).getD k ⟨0, 0, 0⟩).p = 0 ∨ ((d.xs.map tn).getD k ⟨0, 0, 0⟩).p = 2) ∧ (((d.zs.map tn).getD k ⟨0, 0, 0⟩).p = 0 ∨ ((d.zs.map tn).getD k ⟨0, 0, 0⟩).p = 2) := by
  intro k hk
  obtain ⟨⟨h1, h2⟩, h3, h4, h5, _⟩ := h
  have key : ∀ g : E3, ImOk d.n g → (tn g).p = 0 ∨ (tn g).p = 2 := by
    intro g hg
    have a := hg.1.1; have b := hg.2
    unfold tn; dsimp only
    omega
  have hk2 : k < d.zs.length := by omega
  have hx := key _ (h5 k (by omega))
  have hz := key _ (h5 (d.xs.length + k) (by omega))
  have e1 : (d.xs ++ d.zs).getD k ⟨0, 0, 0⟩ = d.xs[k] := by simp [List.getD, List.getElem?_append_left hk, hk]
  have e2 : (d.xs ++ d.zs).getD (d.xs.length + k) ⟨0, 0, 0⟩ = d.zs[k] := by simp [List.getD, List.getElem?_append_right, hk2]
  have f1 : (d.xs.map tn).getD k ⟨0, 0, 0⟩ = tn d.xs[k] := by simp [List.getD, hk]
  have f2 : (d.zs.map tn).getD k ⟨0, 0, 0⟩ = tn d.zs[k] := by simp [List.getD, hk2]
  rw [e1] at hx; rw [e2] at hz; rw [f1, f2]
  exact ⟨hx, hz⟩
set_option maxHeartbeats 16000000 in
theorem impl_PauliFrameOf_any (d : Tab) (v0 v1 : Value) (w : World) (h0 : RdE w v0 E3.cs 3 d.xs) (h1 : RdE w v1 E3.cs 3 d.zs) (n0 : d.xs.length ≤ 1048576) (n1 : d.zs.length ≤ 1048576) :
    Calls Try.prog 39 #[.agg #[.int .i64 d.n, v0, v1]] w fun e w' => e = .returned (.tuple #[.agg #[.int .i64 ((frmG d).getD ⟨0, 0, 0⟩).a, .int .i64 ((frmG d).getD ⟨0, 0, 0⟩).b, .int .i64 ((frmG d).getD ⟨0, 0, 0⟩).c], .bool (frmG d).isSome]) ∧ Below w.heap.size w w' := by
  have H0 := Lib.hid h0; have H1 := Lib.hid h1
  obtain ⟨A, cA, rfl, _⟩ := h0.form
  obtain ⟨A2, cB, rfl, _⟩ := h1.form
  clear h0 h1
  by_cases ht : TabOk d
  · have HT := Lib.hid (show tabB d = true from decide_eq_true ht)
    have HEV := Lib.hid (frm_even ht)
    obtain ⟨m, hm, m1, m5, ex, ez, lx, lz, okx, okz⟩ := ht.parts
    have RX := Lib.hid (show RdE w (.slice A d.xs.length cA) E3.cs 3 (pes (d.xs.map tn)) from by rw [← ex]; exact H0.out)
    have RZ := Lib.hid (show RdE w (.slice A2 d.zs.length cB) E3.cs 3 (pes (d.zs.map tn)) from by rw [← ez]; exact H1.out)
    have HLX := Lib.hid lx; have HLZ := Lib.hid lz; have HOX := Lib.hid okx; have HOZ := Lib.hid okz
    have HLX2 := Lib.hid (show d.xs.length = m by simpa using lx); have HLZ2 := Lib.hid (show d.zs.length = m by simpa using lz)
    have HM := Lib.hid hm
    have HF := Lib.hid (show frmG d = if sgnAll (d.xs.map tn) (d.zs.map tn) d.n.toNat = true then some ⟨0, (fz (d.zs.map tn) m : Int), (fz (d.xs.map tn) m : Int)⟩ else none from by unfold frmG; rw [if_pos ht, hm, Int.toNat_natCast])
    have HSN := Lib.hid (show sgnG d = some (sgnAll (d.xs.map tn) (d.zs.map tn) d.n.toNat) from if_pos ht)
    rw [hm, Int.toNat_natCast] at HF HSN
    clear ht hm ex ez lx lz okx okz
    cases hsg : sgnAll (d.xs.map tn) (d.zs.map tn) m with
    | false =>
      have HG := Lib.hid (show frmG d = none from by rw [HF.out, hsg]; rfl)
      have HS := Lib.hid (show sgnG d = some false from by rw [HSN.out, hsg])
      have HSG := Lib.hid hsg
      clear hsg
      go_enter Try.func39, Try.ntmps39
      go_wp2_with fail
      refine (impl_SignOnly_any d _ _ _ (Rd.below H0.out (show Below w.heap.size w _ from (by repeat (first | exact Below.refl _ _ | assumption | refine Below.drew ?_ | refine below_drewN ?_ _ | refine Below.alloc ?_ (by first | omega | (simp <;> omega)) _ | refine Below.setCell ?_ (by first | omega | (simp <;> omega)) _ | refine Below.trans ?_ (Below.mono (by assumption) (by first | omega | (simp <;> omega)))))) rfl) (Rd.below H1.out (show Below w.heap.size w _ from (by repeat (first | exact Below.refl _ _ | assumption | refine Below.drew ?_ | refine below_drewN ?_ _ | refine Below.alloc ?_ (by first | omega | (simp <;> omega)) _ | refine Below.setCell ?_ (by first | omega | (simp <;> omega)) _ | refine Below.trans ?_ (Below.mono (by assumption) (by first | omega | (simp <;> omega)))))) rfl) n0 n1).mono ?_; rw [HS.out]; rintro e w2 ⟨he, hb1⟩; replace he : e = .returned (.tuple #[.bool false, .bool true]) := he; subst he
      have t0 := below_cell hb1 rfl (show ((w.alloc (.cells #[.int .i64 d.n, .slice A d.xs.length cA, .slice A2 d.zs.length cB] 24)).alloc (.cells #[.int .i64 0, .int .i64 0, .int .i64 0] 54)).cell? ⟨w.heap.size, 0, none⟩ = some (.int .i64 d.n) from (by repeat (first | (refine Eq.trans (World.cell?_alloc_at _ _ _ _ ?hh) ?_; (case hh => (simp; done)); rfl) | refine cell_alloc_keep _ ?_)))
      have t1 := below_cell hb1 rfl (show ((w.alloc (.cells #[.int .i64 d.n, .slice A d.xs.length cA, .slice A2 d.zs.length cB] 24)).alloc (.cells #[.int .i64 0, .int .i64 0, .int .i64 0] 54)).cell? ⟨w.heap.size, 1, none⟩ = some (.slice A d.xs.length cA) from (by repeat (first | (refine Eq.trans (World.cell?_alloc_at _ _ _ _ ?hh) ?_; (case hh => (simp; done)); rfl) | refine cell_alloc_keep _ ?_)))
      have t2 := below_cell hb1 rfl (show ((w.alloc (.cells #[.int .i64 d.n, .slice A d.xs.length cA, .slice A2 d.zs.length cB] 24)).alloc (.cells #[.int .i64 0, .int .i64 0, .int .i64 0] 54)).cell? ⟨w.heap.size, 2, none⟩ = some (.slice A2 d.zs.length cB) from (by repeat (first | (refine Eq.trans (World.cell?_alloc_at _ _ _ _ ?hh) ?_; (case hh => (simp; done)); rfl) | refine cell_alloc_keep _ ?_)))
      have r0 := below_cell hb1 rfl (show ((w.alloc (.cells #[.int .i64 d.n, .slice A d.xs.length cA, .slice A2 d.zs.length cB] 24)).alloc (.cells #[.int .i64 0, .int .i64 0, .int .i64 0] 54)).cell? ⟨w.heap.size + 1, 0, none⟩ = some (.int .i64 0) from (by repeat (first | (refine Eq.trans (World.cell?_alloc_at _ _ _ _ ?hh) ?_; (case hh => (simp; done)); rfl) | refine cell_alloc_keep _ ?_)))
      have r1 := below_cell hb1 rfl (show ((w.alloc (.cells #[.int .i64 d.n, .slice A d.xs.length cA, .slice A2 d.zs.length cB] 24)).alloc (.cells #[.int .i64 0, .int .i64 0, .int .i64 0] 54)).cell? ⟨w.heap.size + 1, 1, none⟩ = some (.int .i64 0) from (by repeat (first | (refine Eq.trans (World.cell?_alloc_at _ _ _ _ ?hh) ?_; (case hh => (simp; done)); rfl) | refine cell_alloc_keep _ ?_)))
      have r2 := below_cell hb1 rfl (show ((w.alloc (.cells #[.int .i64 d.n, .slice A d.xs.length cA, .slice A2 d.zs.length cB] 24)).alloc (.cells #[.int .i64 0, .int .i64 0, .int .i64 0] 54)).cell? ⟨w.heap.size + 1, 2, none⟩ = some (.int .i64 0) from (by repeat (first | (refine Eq.trans (World.cell?_alloc_at _ _ _ _ ?hh) ?_; (case hh => (simp; done)); rfl) | refine cell_alloc_keep _ ?_)))
      have q0 := below_frz hb1 rfl (by simp) (show ((w.alloc (.cells #[.int .i64 d.n, .slice A d.xs.length cA, .slice A2 d.zs.length cB] 24)).alloc (.cells #[.int .i64 0, .int .i64 0, .int .i64 0] 54)).frozen? ⟨w.heap.size + 1, 0, none⟩ = false from (by repeat (first | (refine World.frozen?_alloc_at _ _ _ _ ?hh; case hh => (simp; done)) | (refine frozen_alloc_lt _ ?hh ?_; case hh => first | omega | (simp <;> omega)))))
      have q1 := below_frz hb1 rfl (by simp) (show ((w.alloc (.cells #[.int .i64 d.n, .slice A d.xs.length cA, .slice A2 d.zs.length cB] 24)).alloc (.cells #[.int .i64 0, .int .i64 0, .int .i64 0] 54)).frozen? ⟨w.heap.size + 1, 1, none⟩ = false from (by repeat (first | (refine World.frozen?_alloc_at _ _ _ _ ?hh; case hh => (simp; done)) | (refine frozen_alloc_lt _ ?hh ?_; case hh => first | omega | (simp <;> omega)))))
      have q2 := below_frz hb1 rfl (by simp) (show ((w.alloc (.cells #[.int .i64 d.n, .slice A d.xs.length cA, .slice A2 d.zs.length cB] 24)).alloc (.cells #[.int .i64 0, .int .i64 0, .int .i64 0] 54)).frozen? ⟨w.heap.size + 1, 2, none⟩ = false from (by repeat (first | (refine World.frozen?_alloc_at _ _ _ _ ?hh; case hh => (simp; done)) | (refine frozen_alloc_lt _ ?hh ?_; case hh => first | omega | (simp <;> omega)))))
      have z2 := hb1.size; (simp at z2)
      have bw2 := Lib.hid (show Below w.heap.size w w2 from (by repeat (first | exact Below.refl _ _ | assumption | refine Below.drew ?_ | refine below_drewN ?_ _ | refine Below.alloc ?_ (by first | omega | (simp <;> omega)) _ | refine Below.setCell ?_ (by first | omega | (simp <;> omega)) _ | refine Below.trans ?_ (Below.mono (by assumption) (by first | omega | (simp <;> omega)))))); clear hb1
      go_wp2_with fail
      have hZ := box_set3 (nb := w.heap.size + 1) (.int .i64 0) (.int .i64 0) (.int .i64 0) r0 r1 r2
      have bq := bw2.out
      exact bodyPost_ret (v := .tuple #[.agg #[.int .i64 0, .int .i64 0, .int .i64 0], .bool false]) (by simp [results, Try.results39, go_sem, hZ]) rfl ⟨by rw [HG.out]; rfl, (by repeat (first | exact Below.refl _ _ | assumption | refine Below.drew ?_ | refine below_drewN ?_ _ | refine Below.alloc ?_ (by first | omega | (simp <;> omega)) _ | refine Below.setCell ?_ (by first | omega | (simp <;> omega)) _ | refine Below.trans ?_ (Below.mono (by assumption) (by first | omega | (simp <;> omega)))))⟩
    | true =>
      have HG := Lib.hid (show frmG d = some ⟨0, (fz (d.zs.map tn) m : Int), (fz (d.xs.map tn) m : Int)⟩ from by rw [HF.out, hsg]; rfl)
      have HS := Lib.hid (show sgnG d = some true from by rw [HSN.out, hsg])
      have HSG := Lib.hid hsg
      clear hsg
      go_enter Try.func39, Try.ntmps39
      go_wp2_with fail
      refine (impl_SignOnly_any d _ _ _ (Rd.below H0.out (show Below w.heap.size w _ from (by repeat (first | exact Below.refl _ _ | assumption | refine Below.drew ?_ | refine below_drewN ?_ _ | refine Below.alloc ?_ (by first | omega | (simp <;> omega)) _ | refine Below.setCell ?_ (by first | omega | (simp <;> omega)) _ | refine Below.trans ?_ (Below.mono (by assumption) (by first | omega | (simp <;> omega)))))) rfl) (Rd.below H1.out (show Below w.heap.size w _ from (by repeat (first | exact Below.refl _ _ | assumption | refine Below.drew ?_ | refine below_drewN ?_ _ | refine Below.alloc ?_ (by first | omega | (simp <;> omega)) _ | refine Below.setCell ?_ (by first | omega | (simp <;> omega)) _ | refine Below.trans ?_ (Below.mono (by assumption) (by first | omega | (simp <;> omega)))))) rfl) n0 n1).mono ?_; rw [HS.out]; rintro e w2 ⟨he, hb1⟩; replace he : e = .returned (.tuple #[.bool true, .bool true]) := he; subst he
      have t0 := below_cell hb1 rfl (show ((w.alloc (.cells #[.int .i64 d.n, .slice A d.xs.length cA, .slice A2 d.zs.length cB] 24)).alloc (.cells #[.int .i64 0, .int .i64 0, .int .i64 0] 54)).cell? ⟨w.heap.size, 0, none⟩ = some (.int .i64 d.n) from (by repeat (first | (refine Eq.trans (World.cell?_alloc_at _ _ _ _ ?hh) ?_; (case hh => (simp; done)); rfl) | refine cell_alloc_keep _ ?_)))
      have t1 := below_cell hb1 rfl (show ((w.alloc (.cells #[.int .i64 d.n, .slice A d.xs.length cA, .slice A2 d.zs.length cB] 24)).alloc (.cells #[.int .i64 0, .int .i64 0, .int .i64 0] 54)).cell? ⟨w.heap.size, 1, none⟩ = some (.slice A d.xs.length cA) from (by repeat (first | (refine Eq.trans (World.cell?_alloc_at _ _ _ _ ?hh) ?_; (case hh => (simp; done)); rfl) | refine cell_alloc_keep _ ?_)))
      have t2 := below_cell hb1 rfl (show ((w.alloc (.cells #[.int .i64 d.n, .slice A d.xs.length cA, .slice A2 d.zs.length cB] 24)).alloc (.cells #[.int .i64 0, .int .i64 0, .int .i64 0] 54)).cell? ⟨w.heap.size, 2, none⟩ = some (.slice A2 d.zs.length cB) from (by repeat (first | (refine Eq.trans (World.cell?_alloc_at _ _ _ _ ?hh) ?_; (case hh => (simp; done)); rfl) | refine cell_alloc_keep _ ?_)))
      have r0 := below_cell hb1 rfl (show ((w.alloc (.cells #[.int .i64 d.n, .slice A d.xs.length cA, .slice A2 d.zs.length cB] 24)).alloc (.cells #[.int .i64 0, .int .i64 0, .int .i64 0] 54)).cell? ⟨w.heap.size + 1, 0, none⟩ = some (.int .i64 0) from (by repeat (first | (refine Eq.trans (World.cell?_alloc_at _ _ _ _ ?hh) ?_; (case hh => (simp; done)); rfl) | refine cell_alloc_keep _ ?_)))
      have r1 := below_cell hb1 rfl (show ((w.alloc (.cells #[.int .i64 d.n, .slice A d.xs.length cA, .slice A2 d.zs.length cB] 24)).alloc (.cells #[.int .i64 0, .int .i64 0, .int .i64 0] 54)).cell? ⟨w.heap.size + 1, 1, none⟩ = some (.int .i64 0) from (by repeat (first | (refine Eq.trans (World.cell?_alloc_at _ _ _ _ ?hh) ?_; (case hh => (simp; done)); rfl) | refine cell_alloc_keep _ ?_)))
      have r2 := below_cell hb1 rfl (show ((w.alloc (.cells #[.int .i64 d.n, .slice A d.xs.length cA, .slice A2 d.zs.length cB] 24)).alloc (.cells #[.int .i64 0, .int .i64 0, .int .i64 0] 54)).cell? ⟨w.heap.size + 1, 2, none⟩ = some (.int .i64 0) from (by repeat (first | (refine Eq.trans (World.cell?_alloc_at _ _ _ _ ?hh) ?_; (case hh => (simp; done)); rfl) | refine cell_alloc_keep _ ?_)))
      have q0 := below_frz hb1 rfl (by simp) (show ((w.alloc (.cells #[.int .i64 d.n, .slice A d.xs.length cA, .slice A2 d.zs.length cB] 24)).alloc (.cells #[.int .i64 0, .int .i64 0, .int .i64 0] 54)).frozen? ⟨w.heap.size + 1, 0, none⟩ = false from (by repeat (first | (refine World.frozen?_alloc_at _ _ _ _ ?hh; case hh => (simp; done)) | (refine frozen_alloc_lt _ ?hh ?_; case hh => first | omega | (simp <;> omega)))))
      have q1 := below_frz hb1 rfl (by simp) (show ((w.alloc (.cells #[.int .i64 d.n, .slice A d.xs.length cA, .slice A2 d.zs.length cB] 24)).alloc (.cells #[.int .i64 0, .int .i64 0, .int .i64 0] 54)).frozen? ⟨w.heap.size + 1, 1, none⟩ = false from (by repeat (first | (refine World.frozen?_alloc_at _ _ _ _ ?hh; case hh => (simp; done)) | (refine frozen_alloc_lt _ ?hh ?_; case hh => first | omega | (simp <;> omega)))))
      have q2 := below_frz hb1 rfl (by simp) (show ((w.alloc (.cells #[.int .i64 d.n, .slice A d.xs.length cA, .slice A2 d.zs.length cB] 24)).alloc (.cells #[.int .i64 0, .int .i64 0, .int .i64 0] 54)).frozen? ⟨w.heap.size + 1, 2, none⟩ = false from (by repeat (first | (refine World.frozen?_alloc_at _ _ _ _ ?hh; case hh => (simp; done)) | (refine frozen_alloc_lt _ ?hh ?_; case hh => first | omega | (simp <;> omega)))))
      have z2 := hb1.size; (simp at z2)
      have bw2 := Lib.hid (show Below w.heap.size w w2 from (by repeat (first | exact Below.refl _ _ | assumption | refine Below.drew ?_ | refine below_drewN ?_ _ | refine Below.alloc ?_ (by first | omega | (simp <;> omega)) _ | refine Below.setCell ?_ (by first | omega | (simp <;> omega)) _ | refine Below.trans ?_ (Below.mono (by assumption) (by first | omega | (simp <;> omega)))))); clear hb1
      rw [HM.out] at t0; rw [HLX2.out] at t1; rw [HLZ2.out] at t2
      obtain ⟨A8, c8, e8, HA⟩ := pes_at RX.out
      obtain ⟨A9, c9, e9, HB⟩ := pes_at RZ.out
      injection e8 with e8 e7 e6; subst e8; subst e6; clear e7
      injection e9 with e9 e7 e6; subst e9; subst e6; clear e7
      rw [HLX.out] at HA; rw [HLZ.out] at HB
      have hev := HEV.out
      rw [HLX2.out] at hev
      have HE := Lib.hid hev; clear hev HEV
      generalize d.xs.map tn = X at *
      generalize d.zs.map tn = Z at *
      have T0 := Lib.hid t0; have T1 := Lib.hid t1; have T2 := Lib.hid t2; have R0 := Lib.hid r0; have R1 := Lib.hid r1; have R2 := Lib.hid r2; have Q0 := Lib.hid q0; have Q1 := Lib.hid q1; have Q2 := Lib.hid q2
      have K0 := World.block_lt_of_cell? _ _ t0; have K1 := World.block_lt_of_cell? _ _ r0
      replace t0 := cell_alloc_keep (.cells #[.int .i64 0, .int .i64 0, .int .i64 0] 54) t0
      have c0 := new_cell w2 #[.int .i64 0, .int .i64 0, .int .i64 0] 54 0 (.int .i64 0) rfl; have c1 := new_cell w2 #[.int .i64 0, .int .i64 0, .int .i64 0] 54 1 (.int .i64 0) rfl; have c2 := new_cell w2 #[.int .i64 0, .int .i64 0, .int .i64 0] 54 2 (.int .i64 0) rfl
      have d1 := new_frz w2 #[.int .i64 0, .int .i64 0, .int .i64 0] 54 1; have d2 := new_frz w2 #[.int .i64 0, .int .i64 0, .int .i64 0] 54 2
      clear r0 r1 r2 q0 q1 q2 t1 t2
      go_wp2_with fail
      clear t0
      go_loopw [23] (fun i wr => ∃ k : Nat, k ≤ m ∧ i = .int .i64 k ∧ wr.cell? ⟨w2.heap.size, 0, none⟩ = some (.int .i64 0) ∧ wr.cell? ⟨w2.heap.size, 1, none⟩ = some (.int .i64 (fz Z k : Int)) ∧ wr.cell? ⟨w2.heap.size, 2, none⟩ = some (.int .i64 (fz X k : Int)) ∧ wr.frozen? ⟨w2.heap.size, 1, none⟩ = false ∧ wr.frozen? ⟨w2.heap.size, 2, none⟩ = false ∧ Hid (Below w2.heap.size w2 wr)) (fun i _ => m - (intOf i).toNat)
      case atStart => exact ⟨0, Nat.zero_le _, rfl, c0, c1, c2, d1, d2, (show Below _ _ _ from (by repeat (first | exact Below.refl _ _ | assumption | refine Below.drew ?_ | refine below_drewN ?_ _ | refine Below.alloc ?_ (by first | omega | (simp <;> omega)) _ | refine Below.setCell ?_ (by first | omega | (simp <;> omega)) _ | refine Below.trans ?_ (Below.mono (by assumption) (by first | omega | (simp <;> omega))))))⟩
      case round =>
        clear c0 c1 c2 d1 d2
        obtain ⟨k, hk, rfl, c0, c1, c2, d1, d2, hbel⟩ := hrel
        have L0 := World.block_lt_of_cell? _ _ c0
        skip
        by_cases hlt : k < m
        · have i1 : (k : Int) < (m : Int) := by omega
          have i2 : (0 : Int) ≤ (k : Int) := by omega
          have bw := Lib.hid (show Below w.heap.size w wr from Below.trans bw2.out (hbel.out.mono bw2.out.size))
          have t1 := below_cell hbel.out rfl T1.out
          have t2 := below_cell hbel.out rfl T2.out
          obtain ⟨ga, offa, rfl, hga, a0, _, _⟩ := HA.out k hlt
          obtain ⟨gb, offb, rfl, hgb, b0, _, _⟩ := HB.out k hlt
          replace a0 := (bw.out.cell hga).trans a0
          replace b0 := (bw.out.cell hgb).trans b0
          have la := bw2.out.size
          have HX : Hid (fz X (k + 1) = fz X k ||| (if (X.getD k ⟨0, 0, 0⟩).p = 2 then 2 ^ k else 0)) := rfl
          have HZ : Hid (fz Z (k + 1) = fz Z k ||| (if (Z.getD k ⟨0, 0, 0⟩).p = 2 then 2 ^ k else 0)) := rfl
          obtain ⟨hPx, hPz⟩ := HE.out k hlt
          have fx := fz_31 X (show k ≤ 5 by omega); have fzz := fz_31 Z (show k ≤ 5 by omega)
          have p5 : 2 ^ k ≤ 2 ^ 5 := Nat.pow_le_pow_right (by omega) (by omega)
          have ox := bits_or (fz X k) (2 ^ k) (by omega) (by omega)
          have oz := bits_or (fz Z k) (2 ^ k) (by omega) (by omega)
          have ox0 := bits_or (fz X k) 0 (by omega) (by omega)
          have oz0 := bits_or (fz Z k) 0 (by omega) (by omega)
          rw [show ((2 ^ k : Nat) : Int) = (2 : Int) ^ k from by simp] at ox oz
          rw [show ((0 : Nat) : Int) = 0 from rfl] at ox0 oz0
          obtain ⟨q1, q2⟩ := pow_small5 (show k ≤ 5 by omega)
          have hw : IntKind.i64.wrap ((2 : Int) ^ k) = (2 : Int) ^ k := IntWalk.i64_in _ (by omega)
          have hw1 : IntKind.i64.wrap 1 = 1 := IntWalk.i64_in _ (by omega)
          have hw0 : IntKind.i64.wrap 0 = 0 := IntWalk.i64_in _ (by omega)
          clear p5
          rcases hPx with hPx | hPx <;> rcases hPz with hPz | hPz
          all_goals
            rw [hPx] at a0 HX; rw [hPz] at b0 HZ
            (try rw [if_pos rfl] at HX)
            (try rw [if_pos rfl] at HZ)
            (try rw [if_neg (by omega)] at HX)
            (try rw [if_neg (by omega)] at HZ)
            (first | (rw [← HX.out] at ox; clear ox0) | (rw [← HX.out] at ox0; clear ox))
            (first | (rw [← HZ.out] at oz; clear oz0) | (rw [← HZ.out] at oz0; clear oz))
            clear hPx hPz
            have n1 : w.heap.size ≠ w2.heap.size := by omega
            have n2 : gb ≠ w2.heap.size := by omega
            have t2b := cell_drew (cell_set_far (nb := w2.heap.size) (o2 := 2) (v := (.int .i64 (fz X (k + 1) : Int))) n1 t2)
            have b0b := cell_drew (cell_set_far (nb := w2.heap.size) (o2 := 2) (v := (.int .i64 (fz X (k + 1) : Int))) n2 b0)
            have c1b := cell_drew (cell_set_other (o2 := 2) (v := (.int .i64 (fz X (k + 1) : Int))) c1)
            have d1b : ((wr.setCell ⟨w2.heap.size, 2, none⟩ (.int .i64 (fz X (k + 1) : Int))).drew).frozen? ⟨w2.heap.size, 1, none⟩ = false := frz_drew (by rw [World.frozen?_setCell]; exact d1)
            go_wp2_with fail
            refine AnyB.begin (S := (fun w' => w'.cell? ⟨w.heap.size, 1, none⟩ = some (.slice (some ⟨ga, offa, none⟩) m cA) ∧ w'.cell? ⟨w2.heap.size, 2, none⟩ = some (.int .i64 (fz X k : Int)))) [13] (by kernel_rfl) ?_ (fun hHeld0 => ?_)
            · ((try dsimp only); (exact ⟨cell_drew t1, cell_drew c2⟩))
            refine AnyB.takeQ (i := 0) (oi := _) (v := ?_) (by simp only [List.getElem?_toArray, List.getElem?_cons_zero, List.getElem?_cons_succ]; rfl) (by kernel_rfl) (by kernel_rfl) (by kernel_rfl) (by intro _ _ _ h; exact h) (Or.inl ⟨by rfl, ?_⟩) ?_
            rotate_left
            · (intro w hSw; (try dsimp only at hSw); go_simp; (try (with_reducible rfl)))
            try simp only [Act.put, List.setIfInBounds_toArray, List.set_cons_zero, List.set_cons_succ]
            refine AnyB.take (i := 1) (oi := _) (v := ?_) (by simp only [List.getElem?_toArray, List.getElem?_cons_zero, List.getElem?_cons_succ]; rfl) (by kernel_rfl) (by kernel_rfl) (by kernel_rfl) (by kernel_rfl) (by kernel_rfl) (by intro _ _ _ h; exact h) (Or.inl ⟨by rfl, ?_⟩) (by assumption) ?_
            rotate_left
            · (intro w hSw; (try dsimp only at hSw); go_simp; (try (with_reducible rfl)))
            try simp only [Act.put, List.setIfInBounds_toArray, List.set_cons_zero, List.set_cons_succ]
            refine AnyB.takeQ (i := 2) (oi := _) (v := ?_) (by simp only [List.getElem?_toArray, List.getElem?_cons_zero, List.getElem?_cons_succ]; rfl) (by kernel_rfl) (by kernel_rfl) (by kernel_rfl) (by intro _ _ _ h; exact h) (Or.inl ⟨by rfl, ?_⟩) ?_
            rotate_left
            · (intro w hSw; (try dsimp only at hSw); go_simp; (try (with_reducible rfl)))
            try simp only [Act.put, List.setIfInBounds_toArray, List.set_cons_zero, List.set_cons_succ]
            refine AnyB.take (i := 3) (oi := _) (v := ?_) (by simp only [List.getElem?_toArray, List.getElem?_cons_zero, List.getElem?_cons_succ]; rfl) (by kernel_rfl) (by kernel_rfl) (by kernel_rfl) (by kernel_rfl) (by kernel_rfl) (by intro _ _ _ h; exact h) (Or.inl ⟨by rfl, ?_⟩) (by assumption) ?_
            rotate_left
            · (intro w hSw; (try dsimp only at hSw); go_simp; (try (with_reducible rfl)))
            try simp only [Act.put, List.setIfInBounds_toArray, List.set_cons_zero, List.set_cons_succ]
            refine AnyB.takeQ (i := 4) (oi := _) (v := ?_) (by simp only [List.getElem?_toArray, List.getElem?_cons_zero, List.getElem?_cons_succ]; rfl) (by kernel_rfl) (by kernel_rfl) (by kernel_rfl) (by intro _ _ _ h; exact h) (Or.inl ⟨by rfl, ?_⟩) ?_
            rotate_left
            · (intro w hSw; (try dsimp only at hSw); go_simp; (try (with_reducible rfl)))
            try simp only [Act.put, List.setIfInBounds_toArray, List.set_cons_zero, List.set_cons_succ]
            refine AnyB.takeQ (i := 5) (oi := _) (v := ?_) (by simp only [List.getElem?_toArray, List.getElem?_cons_zero, List.getElem?_cons_succ]; rfl) (by kernel_rfl) (by kernel_rfl) (by kernel_rfl) (by intro _ _ _ h; exact h) (Or.inl ⟨by rfl, ?_⟩) ?_
            rotate_left
            · (intro w hSw; (try dsimp only at hSw); go_simp; (try (with_reducible rfl)))
            try simp only [Act.put, List.setIfInBounds_toArray, List.set_cons_zero, List.set_cons_succ]
            refine AnyB.takeQ (i := 6) (oi := _) (v := ?_) (by simp only [List.getElem?_toArray, List.getElem?_cons_zero, List.getElem?_cons_succ]; rfl) (by kernel_rfl) (by kernel_rfl) (by kernel_rfl) (by intro _ _ _ h; exact h) (Or.inl ⟨by rfl, ?_⟩) ?_
            rotate_left
            · (intro w hSw; (try dsimp only at hSw); go_simp; (try (with_reducible rfl)))
            try simp only [Act.put, List.setIfInBounds_toArray, List.set_cons_zero, List.set_cons_succ]
            refine AnyB.takeQ (i := 9) (oi := _) (v := ?_) (by simp only [List.getElem?_toArray, List.getElem?_cons_zero, List.getElem?_cons_succ]; rfl) (by kernel_rfl) (by kernel_rfl) (by kernel_rfl) (by intro _ _ _ h; exact h) (Or.inl ⟨by rfl, ?_⟩) ?_
            rotate_left
            · (intro w hSw; (try dsimp only at hSw); go_simp; (try (with_reducible rfl)))
            try simp only [Act.put, List.setIfInBounds_toArray, List.set_cons_zero, List.set_cons_succ]
            refine AnyB.each (rs := [7]) (by kernel_rfl) (by simp) ?_
            refine EachB.cons rfl (fun K hK hB => ?_) ?_
            · skip
              go_simp
              refine hK.out _ _ ?_ (fun hHeld1 => ?_)
              · ((try dsimp only); (exact ⟨cell_drew t1, cell_drew c2⟩))
              clear hB hK K hHeld0
              refine AnyB.takeQ (i := 8) (oi := _) (v := ?_) (by simp only [List.getElem?_toArray, List.getElem?_cons_zero, List.getElem?_cons_succ]; rfl) (by kernel_rfl) (by kernel_rfl) (by kernel_rfl) (by intro _ _ _ h; exact h) (Or.inl ⟨by rfl, ?_⟩) ?_
              rotate_left
              · (intro w hSw; (try dsimp only at hSw); go_simp; (try (with_reducible rfl)))
              try simp only [Act.put, List.setIfInBounds_toArray, List.set_cons_zero, List.set_cons_succ]
              refine AnyB.takeQ (i := 10) (oi := _) (v := ?_) (by simp only [List.getElem?_toArray, List.getElem?_cons_zero, List.getElem?_cons_succ]; rfl) (by kernel_rfl) (by kernel_rfl) (by kernel_rfl) (by intro _ _ _ h; exact h) (Or.inl ⟨by rfl, ?_⟩) ?_
              rotate_left
              · (intro w hSw; (try dsimp only at hSw); go_simp; (try (with_reducible rfl)))
              try simp only [Act.put, List.setIfInBounds_toArray, List.set_cons_zero, List.set_cons_succ]
              refine AnyB.takeQ (i := 11) (oi := _) (v := ?_) (by simp only [List.getElem?_toArray, List.getElem?_cons_zero, List.getElem?_cons_succ]; rfl) (by kernel_rfl) (by kernel_rfl) (by kernel_rfl) (by intro _ _ _ h; exact h) (Or.inl ⟨by rfl, ?_⟩) ?_
              rotate_left
              · (intro w hSw; (try dsimp only at hSw); go_simp; (try (with_reducible rfl)))
              try simp only [Act.put, List.setIfInBounds_toArray, List.set_cons_zero, List.set_cons_succ]
              refine AnyB.takeQ (i := 12) (oi := _) (v := ?_) (by simp only [List.getElem?_toArray, List.getElem?_cons_zero, List.getElem?_cons_succ]; rfl) (by kernel_rfl) (by kernel_rfl) (by kernel_rfl) (by intro _ _ _ h; exact h) (Or.inl ⟨by rfl, ?_⟩) ?_
              rotate_left
              · (intro w hSw; (try dsimp only at hSw); go_simp; (try (with_reducible rfl)))
              try simp only [Act.put, List.setIfInBounds_toArray, List.set_cons_zero, List.set_cons_succ]
              refine AnyB.each (rs := [13]) (by kernel_rfl) (by simp) ?_
              refine EachB.cons rfl (fun K hK hB => ?_) ?_
              · skip
                go_simp
                refine hB.out _ _ rfl ?_
                clear hB hK K
                refine AnyB.none (by kernel_rfl) ?_ _
                go_wp2_with fail
                refine AnyB.begin (S := (fun w' => w'.cell? ⟨w.heap.size, 2, none⟩ = some (.slice (some ⟨gb, offb, none⟩) m cB) ∧ w'.cell? ⟨w2.heap.size, 1, none⟩ = some (.int .i64 (fz Z k : Int)))) [13] (by kernel_rfl) ?_ (fun hHeld0 => ?_)
                · ((try dsimp only); (exact ⟨cell_drew t2b, cell_drew c1b⟩))
                refine AnyB.takeQ (i := 0) (oi := _) (v := ?_) (by simp only [List.getElem?_toArray, List.getElem?_cons_zero, List.getElem?_cons_succ]; rfl) (by kernel_rfl) (by kernel_rfl) (by kernel_rfl) (by intro _ _ _ h; exact h) (Or.inl ⟨by rfl, ?_⟩) ?_
                rotate_left
                · (intro w hSw; (try dsimp only at hSw); go_simp; (try (with_reducible rfl)))
                try simp only [Act.put, List.setIfInBounds_toArray, List.set_cons_zero, List.set_cons_succ]
                refine AnyB.take (i := 1) (oi := _) (v := ?_) (by simp only [List.getElem?_toArray, List.getElem?_cons_zero, List.getElem?_cons_succ]; rfl) (by kernel_rfl) (by kernel_rfl) (by kernel_rfl) (by kernel_rfl) (by kernel_rfl) (by intro _ _ _ h; exact h) (Or.inl ⟨by rfl, ?_⟩) (by assumption) ?_
                rotate_left
                · (intro w hSw; (try dsimp only at hSw); go_simp; (try (with_reducible rfl)))
                try simp only [Act.put, List.setIfInBounds_toArray, List.set_cons_zero, List.set_cons_succ]
                refine AnyB.takeQ (i := 2) (oi := _) (v := ?_) (by simp only [List.getElem?_toArray, List.getElem?_cons_zero, List.getElem?_cons_succ]; rfl) (by kernel_rfl) (by kernel_rfl) (by kernel_rfl) (by intro _ _ _ h; exact h) (Or.inl ⟨by rfl, ?_⟩) ?_
                rotate_left
                · (intro w hSw; (try dsimp only at hSw); go_simp; (try (with_reducible rfl)))
                try simp only [Act.put, List.setIfInBounds_toArray, List.set_cons_zero, List.set_cons_succ]
                refine AnyB.take (i := 3) (oi := _) (v := ?_) (by simp only [List.getElem?_toArray, List.getElem?_cons_zero, List.getElem?_cons_succ]; rfl) (by kernel_rfl) (by kernel_rfl) (by kernel_rfl) (by kernel_rfl) (by kernel_rfl) (by intro _ _ _ h; exact h) (Or.inl ⟨by rfl, ?_⟩) (by assumption) ?_
                rotate_left
                · (intro w hSw; (try dsimp only at hSw); go_simp; (try (with_reducible rfl)))
                try simp only [Act.put, List.setIfInBounds_toArray, List.set_cons_zero, List.set_cons_succ]
                refine AnyB.takeQ (i := 4) (oi := _) (v := ?_) (by simp only [List.getElem?_toArray, List.getElem?_cons_zero, List.getElem?_cons_succ]; rfl) (by kernel_rfl) (by kernel_rfl) (by kernel_rfl) (by intro _ _ _ h; exact h) (Or.inl ⟨by rfl, ?_⟩) ?_
                rotate_left
                · (intro w hSw; (try dsimp only at hSw); go_simp; (try (with_reducible rfl)))
                try simp only [Act.put, List.setIfInBounds_toArray, List.set_cons_zero, List.set_cons_succ]
                refine AnyB.takeQ (i := 5) (oi := _) (v := ?_) (by simp only [List.getElem?_toArray, List.getElem?_cons_zero, List.getElem?_cons_succ]; rfl) (by kernel_rfl) (by kernel_rfl) (by kernel_rfl) (by intro _ _ _ h; exact h) (Or.inl ⟨by rfl, ?_⟩) ?_
                rotate_left
                · (intro w hSw; (try dsimp only at hSw); go_simp; (try (with_reducible rfl)))
                try simp only [Act.put, List.setIfInBounds_toArray, List.set_cons_zero, List.set_cons_succ]
                refine AnyB.takeQ (i := 6) (oi := _) (v := ?_) (by simp only [List.getElem?_toArray, List.getElem?_cons_zero, List.getElem?_cons_succ]; rfl) (by kernel_rfl) (by kernel_rfl) (by kernel_rfl) (by intro _ _ _ h; exact h) (Or.inl ⟨by rfl, ?_⟩) ?_
                rotate_left
                · (intro w hSw; (try dsimp only at hSw); go_simp; (try (with_reducible rfl)))
                try simp only [Act.put, List.setIfInBounds_toArray, List.set_cons_zero, List.set_cons_succ]
                refine AnyB.takeQ (i := 9) (oi := _) (v := ?_) (by simp only [List.getElem?_toArray, List.getElem?_cons_zero, List.getElem?_cons_succ]; rfl) (by kernel_rfl) (by kernel_rfl) (by kernel_rfl) (by intro _ _ _ h; exact h) (Or.inl ⟨by rfl, ?_⟩) ?_
                rotate_left
                · (intro w hSw; (try dsimp only at hSw); go_simp; (try (with_reducible rfl)))
                try simp only [Act.put, List.setIfInBounds_toArray, List.set_cons_zero, List.set_cons_succ]
                refine AnyB.each (rs := [7]) (by kernel_rfl) (by simp) ?_
                refine EachB.cons rfl (fun K hK hB => ?_) ?_
                · skip
                  go_simp
                  refine hK.out _ _ ?_ (fun hHeld1 => ?_)
                  · ((try dsimp only); (exact ⟨cell_drew t2b, cell_drew c1b⟩))
                  clear hB hK K hHeld0
                  refine AnyB.takeQ (i := 8) (oi := _) (v := ?_) (by simp only [List.getElem?_toArray, List.getElem?_cons_zero, List.getElem?_cons_succ]; rfl) (by kernel_rfl) (by kernel_rfl) (by kernel_rfl) (by intro _ _ _ h; exact h) (Or.inl ⟨by rfl, ?_⟩) ?_
                  rotate_left
                  · (intro w hSw; (try dsimp only at hSw); go_simp; (try (with_reducible rfl)))
                  try simp only [Act.put, List.setIfInBounds_toArray, List.set_cons_zero, List.set_cons_succ]
                  refine AnyB.takeQ (i := 10) (oi := _) (v := ?_) (by simp only [List.getElem?_toArray, List.getElem?_cons_zero, List.getElem?_cons_succ]; rfl) (by kernel_rfl) (by kernel_rfl) (by kernel_rfl) (by intro _ _ _ h; exact h) (Or.inl ⟨by rfl, ?_⟩) ?_
                  rotate_left
                  · (intro w hSw; (try dsimp only at hSw); go_simp; (try (with_reducible rfl)))
                  try simp only [Act.put, List.setIfInBounds_toArray, List.set_cons_zero, List.set_cons_succ]
                  refine AnyB.takeQ (i := 11) (oi := _) (v := ?_) (by simp only [List.getElem?_toArray, List.getElem?_cons_zero, List.getElem?_cons_succ]; rfl) (by kernel_rfl) (by kernel_rfl) (by kernel_rfl) (by intro _ _ _ h; exact h) (Or.inl ⟨by rfl, ?_⟩) ?_
                  rotate_left
                  · (intro w hSw; (try dsimp only at hSw); go_simp; (try (with_reducible rfl)))
                  try simp only [Act.put, List.setIfInBounds_toArray, List.set_cons_zero, List.set_cons_succ]
                  refine AnyB.takeQ (i := 12) (oi := _) (v := ?_) (by simp only [List.getElem?_toArray, List.getElem?_cons_zero, List.getElem?_cons_succ]; rfl) (by kernel_rfl) (by kernel_rfl) (by kernel_rfl) (by intro _ _ _ h; exact h) (Or.inl ⟨by rfl, ?_⟩) ?_
                  rotate_left
                  · (intro w hSw; (try dsimp only at hSw); go_simp; (try (with_reducible rfl)))
                  try simp only [Act.put, List.setIfInBounds_toArray, List.set_cons_zero, List.set_cons_succ]
                  refine AnyB.each (rs := [13]) (by kernel_rfl) (by simp) ?_
                  refine EachB.cons rfl (fun K hK hB => ?_) ?_
                  · skip
                    go_simp
                    refine hB.out _ _ rfl ?_
                    clear hB hK K
                    refine AnyB.none (by kernel_rfl) ?_ _
                    go_wp2_with fail
                    go_roundw
                    case rel => exact ⟨k + 1, by omega, by go_num, cell_drew (cell_drew (cell_set_other (cell_set_other c0))), cell_drew (cell_drew (World.cell?_setCell_same _ _ _ (cell_set_other c1))), cell_drew (cell_drew (cell_set_other (World.cell?_setCell_same _ _ _ c2))), frz_drew (frz_drew (by rw [World.frozen?_setCell, World.frozen?_setCell]; exact d1)), frz_drew (frz_drew (by rw [World.frozen?_setCell, World.frozen?_setCell]; exact d2)), (show Below _ _ _ from Below.drew (Below.drew (Below.setCell (Below.setCell hbel.out (Nat.le_refl _) _) (Nat.le_refl _) _)))⟩
                    case measure => simp [intOf]; omega
                  exact EachB.nil
                exact EachB.nil
              exact EachB.nil
            exact EachB.nil
        · have e9 : k = m := by omega
          subst e9
          have r0 := below_cell hbel.out rfl R0.out; have r1 := below_cell hbel.out rfl R1.out; have r2 := below_cell hbel.out rfl R2.out
          have q0 := below_frz hbel.out rfl K1 Q0.out; have q1 := below_frz hbel.out rfl K1 Q1.out; have q2 := below_frz hbel.out rfl K1 Q2.out
          have bw := Lib.hid (show Below w.heap.size w wr from Below.trans bw2.out (hbel.out.mono bw2.out.size))
          have hZ := box_set3 (nb := w.heap.size + 1) (.int .i64 0) (.int .i64 (fz Z k : Int)) (.int .i64 (fz X k : Int)) r0 r1 r2
          go_wp2_with fail
          have bq := bw.out
          exact bodyPost_ret (v := .tuple #[.agg #[.int .i64 0, .int .i64 (fz Z k : Int), .int .i64 (fz X k : Int)], .bool true]) (by simp [results, Try.results39, go_sem, hZ]) rfl ⟨by rw [HG.out]; rfl, (by repeat (first | exact Below.refl _ _ | assumption | refine Below.drew ?_ | refine below_drewN ?_ _ | refine Below.alloc ?_ (by first | omega | (simp <;> omega)) _ | refine Below.setCell ?_ (by first | omega | (simp <;> omega)) _ | refine Below.trans ?_ (Below.mono (by assumption) (by first | omega | (simp <;> omega)))))⟩
  · have HT := Lib.hid (show tabB d = false from decide_eq_false ht)
    have HG := Lib.hid (show frmG d = none from by unfold frmG; rw [if_neg ht])
    have HS := Lib.hid (show sgnG d = none from if_neg ht)
    clear ht
    go_enter Try.func39, Try.ntmps39
    go_wp2_with fail
    refine (impl_SignOnly_any d _ _ _ (Rd.below H0.out (show Below w.heap.size w _ from (by repeat (first | exact Below.refl _ _ | assumption | refine Below.drew ?_ | refine below_drewN ?_ _ | refine Below.alloc ?_ (by first | omega | (simp <;> omega)) _ | refine Below.setCell ?_ (by first | omega | (simp <;> omega)) _ | refine Below.trans ?_ (Below.mono (by assumption) (by first | omega | (simp <;> omega)))))) rfl) (Rd.below H1.out (show Below w.heap.size w _ from (by repeat (first | exact Below.refl _ _ | assumption | refine Below.drew ?_ | refine below_drewN ?_ _ | refine Below.alloc ?_ (by first | omega | (simp <;> omega)) _ | refine Below.setCell ?_ (by first | omega | (simp <;> omega)) _ | refine Below.trans ?_ (Below.mono (by assumption) (by first | omega | (simp <;> omega)))))) rfl) n0 n1).mono ?_; rw [HS.out]; rintro e w2 ⟨he, hb1⟩; replace he : e = .returned (.tuple #[.bool false, .bool false]) := he; subst he
    have t0 := below_cell hb1 rfl (show ((w.alloc (.cells #[.int .i64 d.n, .slice A d.xs.length cA, .slice A2 d.zs.length cB] 24)).alloc (.cells #[.int .i64 0, .int .i64 0, .int .i64 0] 54)).cell? ⟨w.heap.size, 0, none⟩ = some (.int .i64 d.n) from (by repeat (first | (refine Eq.trans (World.cell?_alloc_at _ _ _ _ ?hh) ?_; (case hh => (simp; done)); rfl) | refine cell_alloc_keep _ ?_)))
    have t1 := below_cell hb1 rfl (show ((w.alloc (.cells #[.int .i64 d.n, .slice A d.xs.length cA, .slice A2 d.zs.length cB] 24)).alloc (.cells #[.int .i64 0, .int .i64 0, .int .i64 0] 54)).cell? ⟨w.heap.size, 1, none⟩ = some (.slice A d.xs.length cA) from (by repeat (first | (refine Eq.trans (World.cell?_alloc_at _ _ _ _ ?hh) ?_; (case hh => (simp; done)); rfl) | refine cell_alloc_keep _ ?_)))
    have t2 := below_cell hb1 rfl (show ((w.alloc (.cells #[.int .i64 d.n, .slice A d.xs.length cA, .slice A2 d.zs.length cB] 24)).alloc (.cells #[.int .i64 0, .int .i64 0, .int .i64 0] 54)).cell? ⟨w.heap.size, 2, none⟩ = some (.slice A2 d.zs.length cB) from (by repeat (first | (refine Eq.trans (World.cell?_alloc_at _ _ _ _ ?hh) ?_; (case hh => (simp; done)); rfl) | refine cell_alloc_keep _ ?_)))
    have r0 := below_cell hb1 rfl (show ((w.alloc (.cells #[.int .i64 d.n, .slice A d.xs.length cA, .slice A2 d.zs.length cB] 24)).alloc (.cells #[.int .i64 0, .int .i64 0, .int .i64 0] 54)).cell? ⟨w.heap.size + 1, 0, none⟩ = some (.int .i64 0) from (by repeat (first | (refine Eq.trans (World.cell?_alloc_at _ _ _ _ ?hh) ?_; (case hh => (simp; done)); rfl) | refine cell_alloc_keep _ ?_)))
    have r1 := below_cell hb1 rfl (show ((w.alloc (.cells #[.int .i64 d.n, .slice A d.xs.length cA, .slice A2 d.zs.length cB] 24)).alloc (.cells #[.int .i64 0, .int .i64 0, .int .i64 0] 54)).cell? ⟨w.heap.size + 1, 1, none⟩ = some (.int .i64 0) from (by repeat (first | (refine Eq.trans (World.cell?_alloc_at _ _ _ _ ?hh) ?_; (case hh => (simp; done)); rfl) | refine cell_alloc_keep _ ?_)))
    have r2 := below_cell hb1 rfl (show ((w.alloc (.cells #[.int .i64 d.n, .slice A d.xs.length cA, .slice A2 d.zs.length cB] 24)).alloc (.cells #[.int .i64 0, .int .i64 0, .int .i64 0] 54)).cell? ⟨w.heap.size + 1, 2, none⟩ = some (.int .i64 0) from (by repeat (first | (refine Eq.trans (World.cell?_alloc_at _ _ _ _ ?hh) ?_; (case hh => (simp; done)); rfl) | refine cell_alloc_keep _ ?_)))
    have q0 := below_frz hb1 rfl (by simp) (show ((w.alloc (.cells #[.int .i64 d.n, .slice A d.xs.length cA, .slice A2 d.zs.length cB] 24)).alloc (.cells #[.int .i64 0, .int .i64 0, .int .i64 0] 54)).frozen? ⟨w.heap.size + 1, 0, none⟩ = false from (by repeat (first | (refine World.frozen?_alloc_at _ _ _ _ ?hh; case hh => (simp; done)) | (refine frozen_alloc_lt _ ?hh ?_; case hh => first | omega | (simp <;> omega)))))
    have q1 := below_frz hb1 rfl (by simp) (show ((w.alloc (.cells #[.int .i64 d.n, .slice A d.xs.length cA, .slice A2 d.zs.length cB] 24)).alloc (.cells #[.int .i64 0, .int .i64 0, .int .i64 0] 54)).frozen? ⟨w.heap.size + 1, 1, none⟩ = false from (by repeat (first | (refine World.frozen?_alloc_at _ _ _ _ ?hh; case hh => (simp; done)) | (refine frozen_alloc_lt _ ?hh ?_; case hh => first | omega | (simp <;> omega)))))
    have q2 := below_frz hb1 rfl (by simp) (show ((w.alloc (.cells #[.int .i64 d.n, .slice A d.xs.length cA, .slice A2 d.zs.length cB] 24)).alloc (.cells #[.int .i64 0, .int .i64 0, .int .i64 0] 54)).frozen? ⟨w.heap.size + 1, 2, none⟩ = false from (by repeat (first | (refine World.frozen?_alloc_at _ _ _ _ ?hh; case hh => (simp; done)) | (refine frozen_alloc_lt _ ?hh ?_; case hh => first | omega | (simp <;> omega)))))
    have z2 := hb1.size; (simp at z2)
    have bw2 := Lib.hid (show Below w.heap.size w w2 from (by repeat (first | exact Below.refl _ _ | assumption | refine Below.drew ?_ | refine below_drewN ?_ _ | refine Below.alloc ?_ (by first | omega | (simp <;> omega)) _ | refine Below.setCell ?_ (by first | omega | (simp <;> omega)) _ | refine Below.trans ?_ (Below.mono (by assumption) (by first | omega | (simp <;> omega)))))); clear hb1
    go_wp2_with fail
    have hZ := box_set3 (nb := w.heap.size + 1) (.int .i64 0) (.int .i64 0) (.int .i64 0) r0 r1 r2
    have bq := bw2.out
    exact bodyPost_ret (v := .tuple #[.agg #[.int .i64 0, .int .i64 0, .int .i64 0], .bool false]) (by simp [results, Try.results39, go_sem, hZ]) rfl ⟨by rw [HG.out]; rfl, (by repeat (first | exact Below.refl _ _ | assumption | refine Below.drew ?_ | refine below_drewN ?_ _ | refine Below.alloc ?_ (by first | omega | (simp <;> omega)) _ | refine Below.setCell ?_ (by first | omega | (simp <;> omega)) _ | refine Below.trans ?_ (Below.mono (by assumption) (by first | omega | (simp <;> omega)))))⟩
end Go.Proofs.Ytpeodfiapofagaa
namespace Go.Proofs.Ytpeodfiapofagaa
set_option linter.unusedSimpArgs false
set_option linter.unusedVariables false
set_option linter.unnecessarySimpa false
set_option maxRecDepth 200000
open Go.ChangeShapes Go.WideShapes Go.ChangeAt Go.RowKit

set_option maxHeartbeats 16000000 in
theorem spec_PauliFrameOf_any (d : Tab) (v0 v1 : Value) (w : World) (h0 : RdE w v0 E3.cs 3 d.xs) (h1 : RdE w v1 E3.cs 3 d.zs) (n0 : d.xs.length ≤ 1048576) (n1 : d.zs.length ≤ 1048576) :
    Calls Try.prog 38 #[.agg #[.int .i64 d.n, v0, v1]] w fun e w' => e = .returned (.tuple #[.agg #[.int .i64 ((frmG d).getD ⟨0, 0, 0⟩).a, .int .i64 ((frmG d).getD ⟨0, 0, 0⟩).b, .int .i64 ((frmG d).getD ⟨0, 0, 0⟩).c], .bool (frmG d).isSome]) ∧ Below w.heap.size w w' := by
  have H0 := Lib.hid h0; have H1 := Lib.hid h1
  obtain ⟨A, cA, rfl, _⟩ := h0.form
  obtain ⟨A2, cB, rfl, _⟩ := h1.form
  clear h0 h1
  by_cases ht : TabOk d
  · have HT := Lib.hid (show tabB d = true from decide_eq_true ht)
    have HEV := Lib.hid (frm_even ht)
    obtain ⟨m, hm, m1, m5, ex, ez, lx, lz, okx, okz⟩ := ht.parts
    have RX := Lib.hid (show RdE w (.slice A d.xs.length cA) E3.cs 3 (pes (d.xs.map tn)) from by rw [← ex]; exact H0.out)
    have RZ := Lib.hid (show RdE w (.slice A2 d.zs.length cB) E3.cs 3 (pes (d.zs.map tn)) from by rw [← ez]; exact H1.out)
    have HLX := Lib.hid lx; have HLZ := Lib.hid lz; have HOX := Lib.hid okx; have HOZ := Lib.hid okz
    have HLX2 := Lib.hid (show d.xs.length = m by simpa using lx); have HLZ2 := Lib.hid (show d.zs.length = m by simpa using lz)
    have HM := Lib.hid hm
    have HF := Lib.hid (show frmG d = if sgnAll (d.xs.map tn) (d.zs.map tn) d.n.toNat = true then some ⟨0, (fz (d.zs.map tn) m : Int), (fz (d.xs.map tn) m : Int)⟩ else none from by unfold frmG; rw [if_pos ht, hm, Int.toNat_natCast])
    have HSN := Lib.hid (show sgnG d = some (sgnAll (d.xs.map tn) (d.zs.map tn) d.n.toNat) from if_pos ht)
    rw [hm, Int.toNat_natCast] at HF HSN
    clear ht hm ex ez lx lz okx okz
    cases hsg : sgnAll (d.xs.map tn) (d.zs.map tn) m with
    | false =>
      have HG := Lib.hid (show frmG d = none from by rw [HF.out, hsg]; rfl)
      have HS := Lib.hid (show sgnG d = some false from by rw [HSN.out, hsg])
      have HSG := Lib.hid hsg
      clear hsg
      go_enter Try.func38, Try.ntmps38
      go_wp2_with fail
      refine (spec_l7Good_any d _ _ _ (Rd.below H0.out (show Below w.heap.size w _ from (by repeat (first | exact Below.refl _ _ | assumption | refine Below.drew ?_ | refine below_drewN ?_ _ | refine Below.alloc ?_ (by first | omega | (simp <;> omega)) _ | refine Below.setCell ?_ (by first | omega | (simp <;> omega)) _ | refine Below.trans ?_ (Below.mono (by assumption) (by first | omega | (simp <;> omega)))))) rfl) (Rd.below H1.out (show Below w.heap.size w _ from (by repeat (first | exact Below.refl _ _ | assumption | refine Below.drew ?_ | refine below_drewN ?_ _ | refine Below.alloc ?_ (by first | omega | (simp <;> omega)) _ | refine Below.setCell ?_ (by first | omega | (simp <;> omega)) _ | refine Below.trans ?_ (Below.mono (by assumption) (by first | omega | (simp <;> omega)))))) rfl) n0 n1).mono ?_; rintro e w1 ⟨rfl, hb1⟩; rw [HT.out]
      have t0 := below_cell hb1 rfl (show ((w.alloc (.cells #[.int .i64 d.n, .slice A d.xs.length cA, .slice A2 d.zs.length cB] 24)).alloc (.cells #[.int .i64 0, .int .i64 0, .int .i64 0] 54)).cell? ⟨w.heap.size, 0, none⟩ = some (.int .i64 d.n) from (by repeat (first | (refine Eq.trans (World.cell?_alloc_at _ _ _ _ ?hh) ?_; (case hh => (simp; done)); rfl) | refine cell_alloc_keep _ ?_)))
      have t1 := below_cell hb1 rfl (show ((w.alloc (.cells #[.int .i64 d.n, .slice A d.xs.length cA, .slice A2 d.zs.length cB] 24)).alloc (.cells #[.int .i64 0, .int .i64 0, .int .i64 0] 54)).cell? ⟨w.heap.size, 1, none⟩ = some (.slice A d.xs.length cA) from (by repeat (first | (refine Eq.trans (World.cell?_alloc_at _ _ _ _ ?hh) ?_; (case hh => (simp; done)); rfl) | refine cell_alloc_keep _ ?_)))
      have t2 := below_cell hb1 rfl (show ((w.alloc (.cells #[.int .i64 d.n, .slice A d.xs.length cA, .slice A2 d.zs.length cB] 24)).alloc (.cells #[.int .i64 0, .int .i64 0, .int .i64 0] 54)).cell? ⟨w.heap.size, 2, none⟩ = some (.slice A2 d.zs.length cB) from (by repeat (first | (refine Eq.trans (World.cell?_alloc_at _ _ _ _ ?hh) ?_; (case hh => (simp; done)); rfl) | refine cell_alloc_keep _ ?_)))
      have r0 := below_cell hb1 rfl (show ((w.alloc (.cells #[.int .i64 d.n, .slice A d.xs.length cA, .slice A2 d.zs.length cB] 24)).alloc (.cells #[.int .i64 0, .int .i64 0, .int .i64 0] 54)).cell? ⟨w.heap.size + 1, 0, none⟩ = some (.int .i64 0) from (by repeat (first | (refine Eq.trans (World.cell?_alloc_at _ _ _ _ ?hh) ?_; (case hh => (simp; done)); rfl) | refine cell_alloc_keep _ ?_)))
      have r1 := below_cell hb1 rfl (show ((w.alloc (.cells #[.int .i64 d.n, .slice A d.xs.length cA, .slice A2 d.zs.length cB] 24)).alloc (.cells #[.int .i64 0, .int .i64 0, .int .i64 0] 54)).cell? ⟨w.heap.size + 1, 1, none⟩ = some (.int .i64 0) from (by repeat (first | (refine Eq.trans (World.cell?_alloc_at _ _ _ _ ?hh) ?_; (case hh => (simp; done)); rfl) | refine cell_alloc_keep _ ?_)))
      have r2 := below_cell hb1 rfl (show ((w.alloc (.cells #[.int .i64 d.n, .slice A d.xs.length cA, .slice A2 d.zs.length cB] 24)).alloc (.cells #[.int .i64 0, .int .i64 0, .int .i64 0] 54)).cell? ⟨w.heap.size + 1, 2, none⟩ = some (.int .i64 0) from (by repeat (first | (refine Eq.trans (World.cell?_alloc_at _ _ _ _ ?hh) ?_; (case hh => (simp; done)); rfl) | refine cell_alloc_keep _ ?_)))
      have q0 := below_frz hb1 rfl (by simp) (show ((w.alloc (.cells #[.int .i64 d.n, .slice A d.xs.length cA, .slice A2 d.zs.length cB] 24)).alloc (.cells #[.int .i64 0, .int .i64 0, .int .i64 0] 54)).frozen? ⟨w.heap.size + 1, 0, none⟩ = false from (by repeat (first | (refine World.frozen?_alloc_at _ _ _ _ ?hh; case hh => (simp; done)) | (refine frozen_alloc_lt _ ?hh ?_; case hh => first | omega | (simp <;> omega)))))
      have q1 := below_frz hb1 rfl (by simp) (show ((w.alloc (.cells #[.int .i64 d.n, .slice A d.xs.length cA, .slice A2 d.zs.length cB] 24)).alloc (.cells #[.int .i64 0, .int .i64 0, .int .i64 0] 54)).frozen? ⟨w.heap.size + 1, 1, none⟩ = false from (by repeat (first | (refine World.frozen?_alloc_at _ _ _ _ ?hh; case hh => (simp; done)) | (refine frozen_alloc_lt _ ?hh ?_; case hh => first | omega | (simp <;> omega)))))
      have q2 := below_frz hb1 rfl (by simp) (show ((w.alloc (.cells #[.int .i64 d.n, .slice A d.xs.length cA, .slice A2 d.zs.length cB] 24)).alloc (.cells #[.int .i64 0, .int .i64 0, .int .i64 0] 54)).frozen? ⟨w.heap.size + 1, 2, none⟩ = false from (by repeat (first | (refine World.frozen?_alloc_at _ _ _ _ ?hh; case hh => (simp; done)) | (refine frozen_alloc_lt _ ?hh ?_; case hh => first | omega | (simp <;> omega)))))
      have z1 := hb1.size; (simp at z1)
      have bw1 := Lib.hid (show Below w.heap.size w w1 from (by repeat (first | exact Below.refl _ _ | assumption | refine Below.drew ?_ | refine below_drewN ?_ _ | refine Below.alloc ?_ (by first | omega | (simp <;> omega)) _ | refine Below.setCell ?_ (by first | omega | (simp <;> omega)) _ | refine Below.trans ?_ (Below.mono (by assumption) (by first | omega | (simp <;> omega)))))); clear hb1
      go_wp2_with fail
      rw [HM.out] at t0 ⊢; rw [HLX2.out] at t1 ⊢; rw [HLZ2.out] at t2 ⊢
      have RX2 := Lib.hid (show RdE w (.slice A m cA) E3.cs 3 (pes (d.xs.map tn)) from by have h9 := RX.out; rw [HLX2.out] at h9; exact h9); have RZ2 := Lib.hid (show RdE w (.slice A2 m cB) E3.cs 3 (pes (d.zs.map tn)) from by have h9 := RZ.out; rw [HLZ2.out] at h9; exact h9)
      refine (spec_l8SignOnly_any m (d.xs.map tn) (d.zs.map tn) _ _ _ m5 HLX.out HLZ.out HOX.out HOZ.out (Rd.below RX2.out bw1.out rfl) (Rd.below RZ2.out bw1.out rfl)).mono ?_; rintro e w2 ⟨rfl, hb2⟩; rw [HSG.out]
      replace t0 := below_cell hb2 rfl t0
      replace t1 := below_cell hb2 rfl t1
      replace t2 := below_cell hb2 rfl t2
      replace r0 := below_cell hb2 rfl r0
      replace r1 := below_cell hb2 rfl r1
      replace r2 := below_cell hb2 rfl r2
      replace q0 := below_frz hb2 rfl (by omega) q0
      replace q1 := below_frz hb2 rfl (by omega) q1
      replace q2 := below_frz hb2 rfl (by omega) q2
      have z2 := hb2.size
      have bw2 := Lib.hid (below_step bw1.out hb2); clear hb2 bw1
      go_wp2_with fail
      have hZ := box_set3 (nb := w.heap.size + 1) (.int .i64 0) (.int .i64 0) (.int .i64 0) r0 r1 r2
      have bq := bw2.out
      exact bodyPost_ret (v := .tuple #[.agg #[.int .i64 0, .int .i64 0, .int .i64 0], .bool false]) (by simp [results, Try.results38, go_sem, hZ]) rfl ⟨by rw [HG.out]; rfl, (by repeat (first | exact Below.refl _ _ | assumption | refine Below.drew ?_ | refine below_drewN ?_ _ | refine Below.alloc ?_ (by first | omega | (simp <;> omega)) _ | refine Below.setCell ?_ (by first | omega | (simp <;> omega)) _ | refine Below.trans ?_ (Below.mono (by assumption) (by first | omega | (simp <;> omega)))))⟩
    | true =>
      have HG := Lib.hid (show frmG d = some ⟨0, (fz (d.zs.map tn) m : Int), (fz (d.xs.map tn) m : Int)⟩ from by rw [HF.out, hsg]; rfl)
      have HS := Lib.hid (show sgnG d = some true from by rw [HSN.out, hsg])
      have HSG := Lib.hid hsg
      clear hsg
      go_enter Try.func38, Try.ntmps38
      go_wp2_with fail
      refine (spec_l7Good_any d _ _ _ (Rd.below H0.out (show Below w.heap.size w _ from (by repeat (first | exact Below.refl _ _ | assumption | refine Below.drew ?_ | refine below_drewN ?_ _ | refine Below.alloc ?_ (by first | omega | (simp <;> omega)) _ | refine Below.setCell ?_ (by first | omega | (simp <;> omega)) _ | refine Below.trans ?_ (Below.mono (by assumption) (by first | omega | (simp <;> omega)))))) rfl) (Rd.below H1.out (show Below w.heap.size w _ from (by repeat (first | exact Below.refl _ _ | assumption | refine Below.drew ?_ | refine below_drewN ?_ _ | refine Below.alloc ?_ (by first | omega | (simp <;> omega)) _ | refine Below.setCell ?_ (by first | omega | (simp <;> omega)) _ | refine Below.trans ?_ (Below.mono (by assumption) (by first | omega | (simp <;> omega)))))) rfl) n0 n1).mono ?_; rintro e w1 ⟨rfl, hb1⟩; rw [HT.out]
      have t0 := below_cell hb1 rfl (show ((w.alloc (.cells #[.int .i64 d.n, .slice A d.xs.length cA, .slice A2 d.zs.length cB] 24)).alloc (.cells #[.int .i64 0, .int .i64 0, .int .i64 0] 54)).cell? ⟨w.heap.size, 0, none⟩ = some (.int .i64 d.n) from (by repeat (first | (refine Eq.trans (World.cell?_alloc_at _ _ _ _ ?hh) ?_; (case hh => (simp; done)); rfl) | refine cell_alloc_keep _ ?_)))
      have t1 := below_cell hb1 rfl (show ((w.alloc (.cells #[.int .i64 d.n, .slice A d.xs.length cA, .slice A2 d.zs.length cB] 24)).alloc (.cells #[.int .i64 0, .int .i64 0, .int .i64 0] 54)).cell? ⟨w.heap.size, 1, none⟩ = some (.slice A d.xs.length cA) from (by repeat (first | (refine Eq.trans (World.cell?_alloc_at _ _ _ _ ?hh) ?_; (case hh => (simp; done)); rfl) | refine cell_alloc_keep _ ?_)))
      have t2 := below_cell hb1 rfl (show ((w.alloc (.cells #[.int .i64 d.n, .slice A d.xs.length cA, .slice A2 d.zs.length cB] 24)).alloc (.cells #[.int .i64 0, .int .i64 0, .int .i64 0] 54)).cell? ⟨w.heap.size, 2, none⟩ = some (.slice A2 d.zs.length cB) from (by repeat (first | (refine Eq.trans (World.cell?_alloc_at _ _ _ _ ?hh) ?_; (case hh => (simp; done)); rfl) | refine cell_alloc_keep _ ?_)))
      have r0 := below_cell hb1 rfl (show ((w.alloc (.cells #[.int .i64 d.n, .slice A d.xs.length cA, .slice A2 d.zs.length cB] 24)).alloc (.cells #[.int .i64 0, .int .i64 0, .int .i64 0] 54)).cell? ⟨w.heap.size + 1, 0, none⟩ = some (.int .i64 0) from (by repeat (first | (refine Eq.trans (World.cell?_alloc_at _ _ _ _ ?hh) ?_; (case hh => (simp; done)); rfl) | refine cell_alloc_keep _ ?_)))
      have r1 := below_cell hb1 rfl (show ((w.alloc (.cells #[.int .i64 d.n, .slice A d.xs.length cA, .slice A2 d.zs.length cB] 24)).alloc (.cells #[.int .i64 0, .int .i64 0, .int .i64 0] 54)).cell? ⟨w.heap.size + 1, 1, none⟩ = some (.int .i64 0) from (by repeat (first | (refine Eq.trans (World.cell?_alloc_at _ _ _ _ ?hh) ?_; (case hh => (simp; done)); rfl) | refine cell_alloc_keep _ ?_)))
      have r2 := below_cell hb1 rfl (show ((w.alloc (.cells #[.int .i64 d.n, .slice A d.xs.length cA, .slice A2 d.zs.length cB] 24)).alloc (.cells #[.int .i64 0, .int .i64 0, .int .i64 0] 54)).cell? ⟨w.heap.size + 1, 2, none⟩ = some (.int .i64 0) from (by repeat (first | (refine Eq.trans (World.cell?_alloc_at _ _ _ _ ?hh) ?_; (case hh => (simp; done)); rfl) | refine cell_alloc_keep _ ?_)))
      have q0 := below_frz hb1 rfl (by simp) (show ((w.alloc (.cells #[.int .i64 d.n, .slice A d.xs.length cA, .slice A2 d.zs.length cB] 24)).alloc (.cells #[.int .i64 0, .int .i64 0, .int .i64 0] 54)).frozen? ⟨w.heap.size + 1, 0, none⟩ = false from (by repeat (first | (refine World.frozen?_alloc_at _ _ _ _ ?hh; case hh => (simp; done)) | (refine frozen_alloc_lt _ ?hh ?_; case hh => first | omega | (simp <;> omega)))))
      have q1 := below_frz hb1 rfl (by simp) (show ((w.alloc (.cells #[.int .i64 d.n, .slice A d.xs.length cA, .slice A2 d.zs.length cB] 24)).alloc (.cells #[.int .i64 0, .int .i64 0, .int .i64 0] 54)).frozen? ⟨w.heap.size + 1, 1, none⟩ = false from (by repeat (first | (refine World.frozen?_alloc_at _ _ _ _ ?hh; case hh => (simp; done)) | (refine frozen_alloc_lt _ ?hh ?_; case hh => first | omega | (simp <;> omega)))))
      have q2 := below_frz hb1 rfl (by simp) (show ((w.alloc (.cells #[.int .i64 d.n, .slice A d.xs.length cA, .slice A2 d.zs.length cB] 24)).alloc (.cells #[.int .i64 0, .int .i64 0, .int .i64 0] 54)).frozen? ⟨w.heap.size + 1, 2, none⟩ = false from (by repeat (first | (refine World.frozen?_alloc_at _ _ _ _ ?hh; case hh => (simp; done)) | (refine frozen_alloc_lt _ ?hh ?_; case hh => first | omega | (simp <;> omega)))))
      have z1 := hb1.size; (simp at z1)
      have bw1 := Lib.hid (show Below w.heap.size w w1 from (by repeat (first | exact Below.refl _ _ | assumption | refine Below.drew ?_ | refine below_drewN ?_ _ | refine Below.alloc ?_ (by first | omega | (simp <;> omega)) _ | refine Below.setCell ?_ (by first | omega | (simp <;> omega)) _ | refine Below.trans ?_ (Below.mono (by assumption) (by first | omega | (simp <;> omega)))))); clear hb1
      go_wp2_with fail
      rw [HM.out] at t0 ⊢; rw [HLX2.out] at t1 ⊢; rw [HLZ2.out] at t2 ⊢
      have RX2 := Lib.hid (show RdE w (.slice A m cA) E3.cs 3 (pes (d.xs.map tn)) from by have h9 := RX.out; rw [HLX2.out] at h9; exact h9); have RZ2 := Lib.hid (show RdE w (.slice A2 m cB) E3.cs 3 (pes (d.zs.map tn)) from by have h9 := RZ.out; rw [HLZ2.out] at h9; exact h9)
      refine (spec_l8SignOnly_any m (d.xs.map tn) (d.zs.map tn) _ _ _ m5 HLX.out HLZ.out HOX.out HOZ.out (Rd.below RX2.out bw1.out rfl) (Rd.below RZ2.out bw1.out rfl)).mono ?_; rintro e w2 ⟨rfl, hb2⟩; rw [HSG.out]
      replace t0 := below_cell hb2 rfl t0
      replace t1 := below_cell hb2 rfl t1
      replace t2 := below_cell hb2 rfl t2
      replace r0 := below_cell hb2 rfl r0
      replace r1 := below_cell hb2 rfl r1
      replace r2 := below_cell hb2 rfl r2
      replace q0 := below_frz hb2 rfl (by omega) q0
      replace q1 := below_frz hb2 rfl (by omega) q1
      replace q2 := below_frz hb2 rfl (by omega) q2
      have z2 := hb2.size
      have bw2 := Lib.hid (below_step bw1.out hb2); clear hb2 bw1
      obtain ⟨A8, c8, e8, HA⟩ := pes_at RX.out
      obtain ⟨A9, c9, e9, HB⟩ := pes_at RZ.out
      injection e8 with e8 e7 e6; subst e8; subst e6; clear e7
      injection e9 with e9 e7 e6; subst e9; subst e6; clear e7
      rw [HLX.out] at HA; rw [HLZ.out] at HB
      have hev := HEV.out
      rw [HLX2.out] at hev
      have HE := Lib.hid hev; clear hev HEV
      generalize d.xs.map tn = X at *
      generalize d.zs.map tn = Z at *
      have T0 := Lib.hid t0; have T1 := Lib.hid t1; have T2 := Lib.hid t2; have R0 := Lib.hid r0; have R1 := Lib.hid r1; have R2 := Lib.hid r2; have Q0 := Lib.hid q0; have Q1 := Lib.hid q1; have Q2 := Lib.hid q2
      have K0 := World.block_lt_of_cell? _ _ t0; have K1 := World.block_lt_of_cell? _ _ r0
      replace t0 := cell_alloc_keep (.cells #[.int .i64 0, .int .i64 0, .int .i64 0] 54) t0
      have c0 := new_cell w2 #[.int .i64 0, .int .i64 0, .int .i64 0] 54 0 (.int .i64 0) rfl; have c1 := new_cell w2 #[.int .i64 0, .int .i64 0, .int .i64 0] 54 1 (.int .i64 0) rfl; have c2 := new_cell w2 #[.int .i64 0, .int .i64 0, .int .i64 0] 54 2 (.int .i64 0) rfl
      have d1 := new_frz w2 #[.int .i64 0, .int .i64 0, .int .i64 0] 54 1; have d2 := new_frz w2 #[.int .i64 0, .int .i64 0, .int .i64 0] 54 2
      clear r0 r1 r2 q0 q1 q2 t1 t2
      go_wp2_with fail
      clear t0
      go_loopw [5] (fun i wr => ∃ k : Nat, k ≤ m ∧ i = .int .i64 k ∧ wr.cell? ⟨w2.heap.size, 0, none⟩ = some (.int .i64 0) ∧ wr.cell? ⟨w2.heap.size, 1, none⟩ = some (.int .i64 (fz Z k : Int)) ∧ wr.cell? ⟨w2.heap.size, 2, none⟩ = some (.int .i64 (fz X k : Int)) ∧ wr.frozen? ⟨w2.heap.size, 1, none⟩ = false ∧ wr.frozen? ⟨w2.heap.size, 2, none⟩ = false ∧ Hid (Below w2.heap.size w2 wr)) (fun i _ => m - (intOf i).toNat)
      case atStart => exact ⟨0, Nat.zero_le _, rfl, c0, c1, c2, d1, d2, (show Below _ _ _ from (by repeat (first | exact Below.refl _ _ | assumption | refine Below.drew ?_ | refine below_drewN ?_ _ | refine Below.alloc ?_ (by first | omega | (simp <;> omega)) _ | refine Below.setCell ?_ (by first | omega | (simp <;> omega)) _ | refine Below.trans ?_ (Below.mono (by assumption) (by first | omega | (simp <;> omega))))))⟩
      case round =>
        clear c0 c1 c2 d1 d2
        obtain ⟨k, hk, rfl, c0, c1, c2, d1, d2, hbel⟩ := hrel
        have L0 := World.block_lt_of_cell? _ _ c0
        have t0 := below_cell hbel.out rfl T0.out
        by_cases hlt : k < m
        · have i1 : (k : Int) < (m : Int) := by omega
          have i2 : (0 : Int) ≤ (k : Int) := by omega
          have bw := Lib.hid (show Below w.heap.size w wr from Below.trans bw2.out (hbel.out.mono bw2.out.size))
          have t1 := below_cell hbel.out rfl T1.out
          have t2 := below_cell hbel.out rfl T2.out
          obtain ⟨ga, offa, rfl, hga, a0, _, _⟩ := HA.out k hlt
          obtain ⟨gb, offb, rfl, hgb, b0, _, _⟩ := HB.out k hlt
          replace a0 := (bw.out.cell hga).trans a0
          replace b0 := (bw.out.cell hgb).trans b0
          have la := bw2.out.size
          have HX : Hid (fz X (k + 1) = fz X k ||| (if (X.getD k ⟨0, 0, 0⟩).p = 2 then 2 ^ k else 0)) := rfl
          have HZ : Hid (fz Z (k + 1) = fz Z k ||| (if (Z.getD k ⟨0, 0, 0⟩).p = 2 then 2 ^ k else 0)) := rfl
          obtain ⟨hPx, hPz⟩ := HE.out k hlt
          have fx := fz_31 X (show k ≤ 5 by omega); have fzz := fz_31 Z (show k ≤ 5 by omega)
          have p5 : 2 ^ k ≤ 2 ^ 5 := Nat.pow_le_pow_right (by omega) (by omega)
          have ox := bits_or (fz X k) (2 ^ k) (by omega) (by omega)
          have oz := bits_or (fz Z k) (2 ^ k) (by omega) (by omega)
          have ox0 := bits_or (fz X k) 0 (by omega) (by omega)
          have oz0 := bits_or (fz Z k) 0 (by omega) (by omega)
          rw [show ((2 ^ k : Nat) : Int) = (2 : Int) ^ k from by simp] at ox oz
          rw [show ((0 : Nat) : Int) = 0 from rfl] at ox0 oz0
          obtain ⟨q1, q2⟩ := pow_small5 (show k ≤ 5 by omega)
          have hw : IntKind.i64.wrap ((2 : Int) ^ k) = (2 : Int) ^ k := IntWalk.i64_in _ (by omega)
          have hw1 : IntKind.i64.wrap 1 = 1 := IntWalk.i64_in _ (by omega)
          have hw0 : IntKind.i64.wrap 0 = 0 := IntWalk.i64_in _ (by omega)
          clear p5
          rcases hPx with hPx | hPx <;> rcases hPz with hPz | hPz
          all_goals
            rw [hPx] at a0 HX; rw [hPz] at b0 HZ
            (try rw [if_pos rfl] at HX)
            (try rw [if_pos rfl] at HZ)
            (try rw [if_neg (by omega)] at HX)
            (try rw [if_neg (by omega)] at HZ)
            (first | (rw [← HX.out] at ox; clear ox0) | (rw [← HX.out] at ox0; clear ox))
            (first | (rw [← HZ.out] at oz; clear oz0) | (rw [← HZ.out] at oz0; clear oz))
            clear hPx hPz
            go_wp2_with fail
            go_roundw
            case rel =>
              refine ⟨k + 1, by omega, by go_num, ?_, ?_, ?_, ?_, ?_, ?_⟩
              · first | (with_reducible exact c0) | (with_reducible exact cell_set_other c0) | (with_reducible exact cell_set_other (cell_set_other c0))
              · first | (rw [show fz Z (k + 1) = fz Z k from by rw [HZ.out, Nat.or_zero]]; first | (with_reducible exact c1) | (with_reducible exact cell_set_other c1)) | (with_reducible exact World.cell?_setCell_same _ _ _ c1) | (with_reducible exact World.cell?_setCell_same _ _ _ (cell_set_other c1))
              · first | (rw [show fz X (k + 1) = fz X k from by rw [HX.out, Nat.or_zero]]; first | (with_reducible exact c2) | (with_reducible exact cell_set_other c2)) | (with_reducible exact World.cell?_setCell_same _ _ _ c2) | (with_reducible exact cell_set_other (World.cell?_setCell_same _ _ _ c2))
              · (repeat rw [World.frozen?_setCell]); exact d1
              · (repeat rw [World.frozen?_setCell]); exact d2
              · show Below _ _ _
                have h9 := hbel.out
                first | (with_reducible exact h9) | (with_reducible exact Below.setCell h9 (Nat.le_refl _) _) | (with_reducible exact Below.setCell (Below.setCell h9 (Nat.le_refl _) _) (Nat.le_refl _) _)
            case measure => simp [intOf]; omega
        · have e9 : k = m := by omega
          subst e9
          have r0 := below_cell hbel.out rfl R0.out; have r1 := below_cell hbel.out rfl R1.out; have r2 := below_cell hbel.out rfl R2.out
          have q0 := below_frz hbel.out rfl K1 Q0.out; have q1 := below_frz hbel.out rfl K1 Q1.out; have q2 := below_frz hbel.out rfl K1 Q2.out
          have bw := Lib.hid (show Below w.heap.size w wr from Below.trans bw2.out (hbel.out.mono bw2.out.size))
          have hZ := box_set3 (nb := w.heap.size + 1) (.int .i64 0) (.int .i64 (fz Z k : Int)) (.int .i64 (fz X k : Int)) r0 r1 r2
          go_wp2_with fail
          have bq := bw.out
          exact bodyPost_ret (v := .tuple #[.agg #[.int .i64 0, .int .i64 (fz Z k : Int), .int .i64 (fz X k : Int)], .bool true]) (by simp [results, Try.results38, go_sem, hZ]) rfl ⟨by rw [HG.out]; rfl, (by repeat (first | exact Below.refl _ _ | assumption | refine Below.drew ?_ | refine below_drewN ?_ _ | refine Below.alloc ?_ (by first | omega | (simp <;> omega)) _ | refine Below.setCell ?_ (by first | omega | (simp <;> omega)) _ | refine Below.trans ?_ (Below.mono (by assumption) (by first | omega | (simp <;> omega)))))⟩
  · have HT := Lib.hid (show tabB d = false from decide_eq_false ht)
    have HG := Lib.hid (show frmG d = none from by unfold frmG; rw [if_neg ht])
    have HS := Lib.hid (show sgnG d = none from if_neg ht)
    clear ht
    go_enter Try.func38, Try.ntmps38
    go_wp2_with fail
    refine (spec_l7Good_any d _ _ _ (Rd.below H0.out (show Below w.heap.size w _ from (by repeat (first | exact Below.refl _ _ | assumption | refine Below.drew ?_ | refine below_drewN ?_ _ | refine Below.alloc ?_ (by first | omega | (simp <;> omega)) _ | refine Below.setCell ?_ (by first | omega | (simp <;> omega)) _ | refine Below.trans ?_ (Below.mono (by assumption) (by first | omega | (simp <;> omega)))))) rfl) (Rd.below H1.out (show Below w.heap.size w _ from (by repeat (first | exact Below.refl _ _ | assumption | refine Below.drew ?_ | refine below_drewN ?_ _ | refine Below.alloc ?_ (by first | omega | (simp <;> omega)) _ | refine Below.setCell ?_ (by first | omega | (simp <;> omega)) _ | refine Below.trans ?_ (Below.mono (by assumption) (by first | omega | (simp <;> omega)))))) rfl) n0 n1).mono ?_; rintro e w1 ⟨rfl, hb1⟩; rw [HT.out]
    have t0 := below_cell hb1 rfl (show ((w.alloc (.cells #[.int .i64 d.n, .slice A d.xs.length cA, .slice A2 d.zs.length cB] 24)).alloc (.cells #[.int .i64 0, .int .i64 0, .int .i64 0] 54)).cell? ⟨w.heap.size, 0, none⟩ = some (.int .i64 d.n) from (by repeat (first | (refine Eq.trans (World.cell?_alloc_at _ _ _ _ ?hh) ?_; (case hh => (simp; done)); rfl) | refine cell_alloc_keep _ ?_)))
    have t1 := below_cell hb1 rfl (show ((w.alloc (.cells #[.int .i64 d.n, .slice A d.xs.length cA, .slice A2 d.zs.length cB] 24)).alloc (.cells #[.int .i64 0, .int .i64 0, .int .i64 0] 54)).cell? ⟨w.heap.size, 1, none⟩ = some (.slice A d.xs.length cA) from (by repeat (first | (refine Eq.trans (World.cell?_alloc_at _ _ _ _ ?hh) ?_; (case hh => (simp; done)); rfl) | refine cell_alloc_keep _ ?_)))
    have t2 := below_cell hb1 rfl (show ((w.alloc (.cells #[.int .i64 d.n, .slice A d.xs.length cA, .slice A2 d.zs.length cB] 24)).alloc (.cells #[.int .i64 0, .int .i64 0, .int .i64 0] 54)).cell? ⟨w.heap.size, 2, none⟩ = some (.slice A2 d.zs.length cB) from (by repeat (first | (refine Eq.trans (World.cell?_alloc_at _ _ _ _ ?hh) ?_; (case hh => (simp; done)); rfl) | refine cell_alloc_keep _ ?_)))
    have r0 := below_cell hb1 rfl (show ((w.alloc (.cells #[.int .i64 d.n, .slice A d.xs.length cA, .slice A2 d.zs.length cB] 24)).alloc (.cells #[.int .i64 0, .int .i64 0, .int .i64 0] 54)).cell? ⟨w.heap.size + 1, 0, none⟩ = some (.int .i64 0) from (by repeat (first | (refine Eq.trans (World.cell?_alloc_at _ _ _ _ ?hh) ?_; (case hh => (simp; done)); rfl) | refine cell_alloc_keep _ ?_)))
    have r1 := below_cell hb1 rfl (show ((w.alloc (.cells #[.int .i64 d.n, .slice A d.xs.length cA, .slice A2 d.zs.length cB] 24)).alloc (.cells #[.int .i64 0, .int .i64 0, .int .i64 0] 54)).cell? ⟨w.heap.size + 1, 1, none⟩ = some (.int .i64 0) from (by repeat (first | (refine Eq.trans (World.cell?_alloc_at _ _ _ _ ?hh) ?_; (case hh => (simp; done)); rfl) | refine cell_alloc_keep _ ?_)))
    have r2 := below_cell hb1 rfl (show ((w.alloc (.cells #[.int .i64 d.n, .slice A d.xs.length cA, .slice A2 d.zs.length cB] 24)).alloc (.cells #[.int .i64 0, .int .i64 0, .int .i64 0] 54)).cell? ⟨w.heap.size + 1, 2, none⟩ = some (.int .i64 0) from (by repeat (first | (refine Eq.trans (World.cell?_alloc_at _ _ _ _ ?hh) ?_; (case hh => (simp; done)); rfl) | refine cell_alloc_keep _ ?_)))
    have q0 := below_frz hb1 rfl (by simp) (show ((w.alloc (.cells #[.int .i64 d.n, .slice A d.xs.length cA, .slice A2 d.zs.length cB] 24)).alloc (.cells #[.int .i64 0, .int .i64 0, .int .i64 0] 54)).frozen? ⟨w.heap.size + 1, 0, none⟩ = false from (by repeat (first | (refine World.frozen?_alloc_at _ _ _ _ ?hh; case hh => (simp; done)) | (refine frozen_alloc_lt _ ?hh ?_; case hh => first | omega | (simp <;> omega)))))
    have q1 := below_frz hb1 rfl (by simp) (show ((w.alloc (.cells #[.int .i64 d.n, .slice A d.xs.length cA, .slice A2 d.zs.length cB] 24)).alloc (.cells #[.int .i64 0, .int .i64 0, .int .i64 0] 54)).frozen? ⟨w.heap.size + 1, 1, none⟩ = false from (by repeat (first | (refine World.frozen?_alloc_at _ _ _ _ ?hh; case hh => (simp; done)) | (refine frozen_alloc_lt _ ?hh ?_; case hh => first | omega | (simp <;> omega)))))
    have q2 := below_frz hb1 rfl (by simp) (show ((w.alloc (.cells #[.int .i64 d.n, .slice A d.xs.length cA, .slice A2 d.zs.length cB] 24)).alloc (.cells #[.int .i64 0, .int .i64 0, .int .i64 0] 54)).frozen? ⟨w.heap.size + 1, 2, none⟩ = false from (by repeat (first | (refine World.frozen?_alloc_at _ _ _ _ ?hh; case hh => (simp; done)) | (refine frozen_alloc_lt _ ?hh ?_; case hh => first | omega | (simp <;> omega)))))
    have z1 := hb1.size; (simp at z1)
    have bw1 := Lib.hid (show Below w.heap.size w w1 from (by repeat (first | exact Below.refl _ _ | assumption | refine Below.drew ?_ | refine below_drewN ?_ _ | refine Below.alloc ?_ (by first | omega | (simp <;> omega)) _ | refine Below.setCell ?_ (by first | omega | (simp <;> omega)) _ | refine Below.trans ?_ (Below.mono (by assumption) (by first | omega | (simp <;> omega)))))); clear hb1
    go_wp2_with fail
    have hZ := box_set3 (nb := w.heap.size + 1) (.int .i64 0) (.int .i64 0) (.int .i64 0) r0 r1 r2
    have bq := bw1.out
    exact bodyPost_ret (v := .tuple #[.agg #[.int .i64 0, .int .i64 0, .int .i64 0], .bool false]) (by simp [results, Try.results38, go_sem, hZ]) rfl ⟨by rw [HG.out]; rfl, (by repeat (first | exact Below.refl _ _ | assumption | refine Below.drew ?_ | refine below_drewN ?_ _ | refine Below.alloc ?_ (by first | omega | (simp <;> omega)) _ | refine Below.setCell ?_ (by first | omega | (simp <;> omega)) _ | refine Below.trans ?_ (Below.mono (by assumption) (by first | omega | (simp <;> omega)))))⟩
end Go.Proofs.Ytpeodfiapofagaa
