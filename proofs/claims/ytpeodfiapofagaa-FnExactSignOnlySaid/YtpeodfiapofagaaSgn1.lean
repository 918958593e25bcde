/- SignOnly in the program. -/
import Derived.Test.YtpeodfiapofagaaComp3
import Derived.Test.YtpeodfiapofagaaBrk
import Derived.BigQuiet
import Derived.Deep.QuietTactic
namespace Go.Proofs.Ytpeodfiapofagaa
set_option linter.unusedSimpArgs false
set_option linter.unusedVariables false
set_option linter.unnecessarySimpa false
set_option maxRecDepth 200000
open Go.ChangeShapes Go.WideShapes Go.ChangeAt Go.RowKit

/-- The images of a qubit are the generators, up to sign. -/
def sgnQ (X Z : List PN) (q : Nat) : Bool :=
  ((X.getD q ⟨0, 0, 0⟩).x == 2 ^ q && (X.getD q ⟨0, 0, 0⟩).z == 0) && ((Z.getD q ⟨0, 0, 0⟩).x == 0 && (Z.getD q ⟨0, 0, 0⟩).z == 2 ^ q)
def sgnAll (X Z : List PN) (n : Nat) : Bool := (List.range n).all (sgnQ X Z)
def SgnTo (X Z : List PN) (k : Nat) : Prop := ∀ q, q < k → sgnQ X Z q = true
theorem sgn_yes {X Z : List PN} {n k : Nat} (h : SgnTo X Z k) (hk : n ≤ k) : true = sgnAll X Z n := by
  symm; unfold sgnAll; rw [List.all_eq_true]
  intro q hq
  exact h q (by have := List.mem_range.1 hq; omega)
theorem sgn_no {X Z : List PN} {n k : Nat} (hk : k < n) (h : sgnQ X Z k = false) : false = sgnAll X Z n := by
  symm; unfold sgnAll; rw [List.all_eq_false]
  exact ⟨k, List.mem_range.2 hk, by simp [h]⟩
theorem SgnTo.next {X Z : List PN} {k : Nat} (h : SgnTo X Z k) (h2 : sgnQ X Z k = true) : SgnTo X Z (k + 1) := by
  intro q hq
  by_cases e : q = k
  · subst e; exact h2
  · exact h q (by omega)
noncomputable def sgnG (d : Tab) : Option Bool := if TabOk d then some (sgnAll (d.xs.map tn) (d.zs.map tn) d.n.toNat) else none
theorem ne_pow (x k : Nat) : ((x : Int) != (2 : Int) ^ k) = !(x == 2 ^ k) := by
  rw [show (2 : Int) ^ k = ((2 ^ k : Nat) : Int) from by simp]
  generalize 2 ^ k = y
  rw [Bool.eq_iff_iff]
  simp
  omega
theorem ne_zero (x : Nat) : ((x : Int) != 0) = !(x == 0) := by
  rw [Bool.eq_iff_iff]; simp
theorem quad (a b c d : Bool) : a = false ∨ (a = true ∧ b = false) ∨ (a = true ∧ b = true ∧ c = false) ∨ (a = true ∧ b = true ∧ c = true ∧ d = false) ∨ (a = true ∧ b = true ∧ c = true ∧ d = true) := by
  cases a <;> cases b <;> cases c <;> cases d <;> simp
theorem ret_two {a b : Bool} (h : a = b) : Ending.returned (.tuple #[.bool a, .bool true]) = .returned (.tuple #[.bool ((some b).getD false), .bool (some b).isSome]) := by rw [h]; rfl
set_option maxHeartbeats 16000000 in
theorem impl_SignOnly_any (d : Tab) (v0 v1 : Value) (w : World) (h0 : RdE w v0 E3.cs 3 d.xs) (h1 : RdE w v1 E3.cs 3 d.zs) (n0 : d.xs.length ≤ 1048576) (n1 : d.zs.length ≤ 1048576) :
    Calls Try.prog 37 #[.agg #[.int .i64 d.n, v0, v1]] w fun e w' => e = .returned (.tuple #[.bool ((sgnG d).getD false), .bool (sgnG d).isSome]) ∧ Below w.heap.size w w' := by
  have H0 := Lib.hid h0; have H1 := Lib.hid h1
  obtain ⟨A, c, rfl, _⟩ := h0.form
  obtain ⟨A2, c2, rfl, _⟩ := h1.form
  clear h0 h1
  by_cases ht : TabOk d
  · have HT := Lib.hid (show tabB d = true from decide_eq_true ht)
    have HG := Lib.hid (show sgnG d = some (sgnAll (d.xs.map tn) (d.zs.map tn) d.n.toNat) from if_pos ht)
    obtain ⟨m, hm, m1, m5, ex, ez, lx, lz, okx, okz⟩ := ht.parts
    have RX := Lib.hid (show RdE w (.slice A d.xs.length c) E3.cs 3 (pes (d.xs.map tn)) from by rw [← ex]; exact H0.out)
    have RZ := Lib.hid (show RdE w (.slice A2 d.zs.length c2) E3.cs 3 (pes (d.zs.map tn)) from by rw [← ez]; exact H1.out)
    have hlx : d.xs.length = m := by simpa using lx
    have hlz : d.zs.length = m := by simpa using lz
    rw [hm, Int.toNat_natCast] at HG
    have HM := Lib.hid hm
    generalize d.xs.map tn = X at *
    generalize d.zs.map tn = Z at *
    obtain ⟨A3, c3, e3, HA⟩ := pes_at RX.out
    obtain ⟨A4, c4, e4, HB⟩ := pes_at RZ.out
    injection e3 with e3 e6 e5; subst e3; subst e5; clear e6
    injection e4 with e4 e6 e5; subst e4; subst e5; clear e6
    rw [lx] at HA; rw [lz] at HB
    have HLX := Lib.hid hlx; have HLZ := Lib.hid hlz
    have OX := Lib.hid okx; have OZ := Lib.hid okz
    clear ht hm ex ez lx lz okx okz hlx hlz
    go_enter Try.func37, Try.ntmps37
    go_wp2_with fail
    refine (impl_IsValidTableau_any d _ _ _ (Rd.below H0.out (show Below w.heap.size w _ from (by repeat (first | exact Below.refl _ _ | assumption | refine Below.drew ?_ | refine below_drewN ?_ _ | refine Below.alloc ?_ (by first | omega | (simp <;> omega)) _ | refine Below.setCell ?_ (by first | omega | (simp <;> omega)) _ | refine Below.trans ?_ (Below.mono (by assumption) (by first | omega | (simp <;> omega)))))) rfl) (Rd.below H1.out (show Below w.heap.size w _ from (by repeat (first | exact Below.refl _ _ | assumption | refine Below.drew ?_ | refine below_drewN ?_ _ | refine Below.alloc ?_ (by first | omega | (simp <;> omega)) _ | refine Below.setCell ?_ (by first | omega | (simp <;> omega)) _ | refine Below.trans ?_ (Below.mono (by assumption) (by first | omega | (simp <;> omega)))))) rfl) n0 n1).mono ?_; rintro e w1 ⟨rfl, hb1⟩; rw [HT.out]
    have t0 := below_cell hb1 rfl (show (w.alloc (.cells #[.int .i64 d.n, .slice A d.xs.length c, .slice A2 d.zs.length c2] 24)).cell? ⟨w.heap.size, 0, none⟩ = some (.int .i64 d.n) from (by repeat (first | (refine Eq.trans (World.cell?_alloc_at _ _ _ _ ?hh) ?_; (case hh => (simp; done)); rfl) | refine cell_alloc_keep _ ?_)))
    have t1 := below_cell hb1 rfl (show (w.alloc (.cells #[.int .i64 d.n, .slice A d.xs.length c, .slice A2 d.zs.length c2] 24)).cell? ⟨w.heap.size, 1, none⟩ = some (.slice A d.xs.length c) from (by repeat (first | (refine Eq.trans (World.cell?_alloc_at _ _ _ _ ?hh) ?_; (case hh => (simp; done)); rfl) | refine cell_alloc_keep _ ?_)))
    have t2 := below_cell hb1 rfl (show (w.alloc (.cells #[.int .i64 d.n, .slice A d.xs.length c, .slice A2 d.zs.length c2] 24)).cell? ⟨w.heap.size, 2, none⟩ = some (.slice A2 d.zs.length c2) from (by repeat (first | (refine Eq.trans (World.cell?_alloc_at _ _ _ _ ?hh) ?_; (case hh => (simp; done)); rfl) | refine cell_alloc_keep _ ?_)))
    have z1 := hb1.size; (simp at z1)
    have bw1 := Lib.hid (show Below w.heap.size w w1 from (by repeat (first | exact Below.refl _ _ | assumption | refine Below.drew ?_ | refine below_drewN ?_ _ | refine Below.alloc ?_ (by first | omega | (simp <;> omega)) _ | refine Below.setCell ?_ (by first | omega | (simp <;> omega)) _ | refine Below.trans ?_ (Below.mono (by assumption) (by first | omega | (simp <;> omega)))))); clear hb1
    rw [HM.out] at t0; rw [HLX.out] at t1; rw [HLZ.out] at t2
    have T0 := Lib.hid t0; have T1 := Lib.hid t1; have T2 := Lib.hid t2
    have L0 := World.block_lt_of_cell? _ _ t0
    rw [HM.out, HLX.out, HLZ.out]
    go_wp2_with fail
    clear t0 t1 t2
    go_loopw [12] (fun i wr => ∃ k : Nat, k ≤ m ∧ i = .int .i64 k ∧ Hid (SgnTo X Z k) ∧ Hid (Below w1.heap.size w1 wr)) (fun i _ => m - (intOf i).toNat)
    case atStart => exact ⟨0, Nat.zero_le _, rfl, (show SgnTo _ _ _ from fun q hq => absurd hq (Nat.not_lt_zero _)), (show Below _ _ _ from Below.refl _ _)⟩
    case round =>
      obtain ⟨k, hk, rfl, hsg, hbel⟩ := hrel
      by_cases hlt : k < m
      · have i1 : (k : Int) < (m : Int) := by omega
        have i2 : (0 : Int) ≤ (k : Int) := by omega
        have bw := Lib.hid (show Below w.heap.size w wr from Below.trans bw1.out (hbel.out.mono bw1.out.size))
        have t1 := below_cell hbel.out rfl T1.out
        have t2 := below_cell hbel.out rfl T2.out
        obtain ⟨ga, offa, rfl, hga, a0, a1, a2⟩ := HA.out k hlt
        obtain ⟨gb, offb, rfl, hgb, b0, b1, b2⟩ := HB.out k hlt
        replace a0 := (bw.out.cell hga).trans a0; replace a1 := (bw.out.cell hga).trans a1; replace a2 := (bw.out.cell hga).trans a2
        replace b0 := (bw.out.cell hgb).trans b0; replace b1 := (bw.out.cell hgb).trans b1; replace b2 := (bw.out.cell hgb).trans b2
        have HQ : Hid (sgnQ X Z k = (((X.getD k ⟨0, 0, 0⟩).x == 2 ^ k && (X.getD k ⟨0, 0, 0⟩).z == 0) && ((Z.getD k ⟨0, 0, 0⟩).x == 0 && (Z.getD k ⟨0, 0, 0⟩).z == 2 ^ k))) := rfl
        obtain ⟨P, hP⟩ : ∃ P, P = X.getD k ⟨0, 0, 0⟩ := ⟨_, rfl⟩
        obtain ⟨R, hR⟩ : ∃ R, R = Z.getD k ⟨0, 0, 0⟩ := ⟨_, rfl⟩
        rw [← hP] at a0 a1 a2 HQ; rw [← hR] at b0 b1 b2 HQ
        clear hP hR
        obtain ⟨p1, p2⟩ := pow_small5 (show k ≤ 5 by omega)
        have hw : IntKind.i64.wrap ((2 : Int) ^ k) = (2 : Int) ^ k := IntWalk.i64_in _ (by omega)
        have zr := hbel.out.size
        have y1 := World.block_lt_of_cell? _ _ t1; have y2 := World.block_lt_of_cell? _ _ a0; have y3 := World.block_lt_of_cell? _ _ b0
        go_wp2_with fail
        refine AnyB.begin (S := (fun w' => w'.cell? ⟨w.heap.size, 1, none⟩ = some (.slice (some ⟨ga, offa, none⟩) m c) ∧ w'.cell? ⟨w.heap.size, 2, none⟩ = some (.slice (some ⟨gb, offb, none⟩) m c2) ∧ w'.cell? ⟨ga, offa + k * 3, none⟩ = some (.int .i64 (P.p : Int)) ∧ w'.cell? ⟨ga, offa + k * 3 + 1, none⟩ = some (.int .i64 (P.x : Int)) ∧ w'.cell? ⟨ga, offa + k * 3 + 2, none⟩ = some (.int .i64 (P.z : Int)) ∧ w'.cell? ⟨gb, offb + k * 3, none⟩ = some (.int .i64 (R.p : Int)) ∧ w'.cell? ⟨gb, offb + k * 3 + 1, none⟩ = some (.int .i64 (R.x : Int)) ∧ w'.cell? ⟨gb, offb + k * 3 + 2, none⟩ = some (.int .i64 (R.z : Int)))) [] (by kernel_rfl) ?_ (fun hHeld0 => ?_)
        · ((try dsimp only); (first | exact ⟨t1, t2, a0, a1, a2, b0, b1, b2⟩ | (go_split_ands; refine ⟨?_, ?_, ?_, ?_, ?_, ?_, ?_, ?_⟩ <;> (repeat (first | assumption | refine cell_alloc_keep _ ?_ | refine cell_set_far (by omega) ?_)))))
        refine AnyB.takeQ (i := 0) (oi := _) (v := ?_) (by simp only [List.getElem?_toArray, List.getElem?_cons_zero, List.getElem?_cons_succ]; rfl) (by kernel_rfl) (by kernel_rfl) (by kernel_rfl) (by intro _ _ _ h; exact h) (Or.inl ⟨by rfl, ?_⟩) ?_
        rotate_left
        · (intro w hSw; (try dsimp only at hSw); go_simp; (try (with_reducible rfl)))
        try simp only [Act.put, List.setIfInBounds_toArray, List.set_cons_zero, List.set_cons_succ]
        refine AnyB.take (i := 1) (oi := _) (v := ?_) (by simp only [List.getElem?_toArray, List.getElem?_cons_zero, List.getElem?_cons_succ]; rfl) (by kernel_rfl) (by kernel_rfl) (by kernel_rfl) (by kernel_rfl) (by kernel_rfl) (by intro _ _ _ h; exact h) (Or.inl ⟨by rfl, ?_⟩) (by assumption) ?_
        rotate_left
        · (intro w hSw; (try dsimp only at hSw); go_simp; (try (with_reducible rfl)))
        try simp only [Act.put, List.setIfInBounds_toArray, List.set_cons_zero, List.set_cons_succ]
        refine AnyB.takeQ (i := 2) (oi := _) (v := ?_) (by simp only [List.getElem?_toArray, List.getElem?_cons_zero, List.getElem?_cons_succ]; rfl) (by kernel_rfl) (by kernel_rfl) (by kernel_rfl) (by intro _ _ _ h; exact h) (Or.inl ⟨by rfl, ?_⟩) ?_
        rotate_left
        · (intro w hSw; (try dsimp only at hSw); go_simp; (try (with_reducible rfl)))
        try simp only [Act.put, List.setIfInBounds_toArray, List.set_cons_zero, List.set_cons_succ]
        refine AnyB.takeQ (i := 3) (oi := _) (v := ?_) (by simp only [List.getElem?_toArray, List.getElem?_cons_zero, List.getElem?_cons_succ]; rfl) (by kernel_rfl) (by kernel_rfl) (by kernel_rfl) (by intro _ _ _ h; exact h) (Or.inl ⟨by rfl, ?_⟩) ?_
        rotate_left
        · (intro w hSw; (try dsimp only at hSw); go_simp; (try (with_reducible rfl)))
        try simp only [Act.put, List.setIfInBounds_toArray, List.set_cons_zero, List.set_cons_succ]
        refine AnyB.take (i := 4) (oi := _) (v := ?_) (by simp only [List.getElem?_toArray, List.getElem?_cons_zero, List.getElem?_cons_succ]; rfl) (by kernel_rfl) (by kernel_rfl) (by kernel_rfl) (by kernel_rfl) (by kernel_rfl) (by intro _ _ _ h; exact h) (Or.inl ⟨by rfl, ?_⟩) (by assumption) ?_
        rotate_left
        · (intro w hSw; (try dsimp only at hSw); go_simp; (try (with_reducible rfl)))
        try simp only [Act.put, List.setIfInBounds_toArray, List.set_cons_zero, List.set_cons_succ]
        refine AnyB.takeQ (i := 5) (oi := _) (v := ?_) (by simp only [List.getElem?_toArray, List.getElem?_cons_zero, List.getElem?_cons_succ]; rfl) (by kernel_rfl) (by kernel_rfl) (by kernel_rfl) (by intro _ _ _ h; exact h) (Or.inl ⟨by rfl, ?_⟩) ?_
        rotate_left
        · (intro w hSw; (try dsimp only at hSw); go_simp; (try (with_reducible rfl)))
        try simp only [Act.put, List.setIfInBounds_toArray, List.set_cons_zero, List.set_cons_succ]
        refine AnyB.take (i := 6) (oi := _) (v := ?_) (by simp only [List.getElem?_toArray, List.getElem?_cons_zero, List.getElem?_cons_succ]; rfl) (by kernel_rfl) (by kernel_rfl) (by kernel_rfl) (by kernel_rfl) (by kernel_rfl) (by intro _ _ _ h; exact h) (Or.inl ⟨by rfl, ?_⟩) (by assumption) ?_
        rotate_left
        · (intro w hSw; (try dsimp only at hSw); go_simp; (try (with_reducible rfl)))
        try simp only [Act.put, List.setIfInBounds_toArray, List.set_cons_zero, List.set_cons_succ]
        refine AnyB.takeQ (i := 7) (oi := _) (v := ?_) (by simp only [List.getElem?_toArray, List.getElem?_cons_zero, List.getElem?_cons_succ]; rfl) (by kernel_rfl) (by kernel_rfl) (by kernel_rfl) (by intro _ _ _ h; exact h) (Or.inl ⟨by rfl, ?_⟩) ?_
        rotate_left
        · (intro w hSw; (try dsimp only at hSw); go_simp; (try (with_reducible rfl)))
        try simp only [Act.put, List.setIfInBounds_toArray, List.set_cons_zero, List.set_cons_succ]
        refine AnyB.takeQ (i := 8) (oi := _) (v := ?_) (by simp only [List.getElem?_toArray, List.getElem?_cons_zero, List.getElem?_cons_succ]; rfl) (by kernel_rfl) (by kernel_rfl) (by kernel_rfl) (by intro _ _ _ h; exact h) (Or.inl ⟨by rfl, ?_⟩) ?_
        rotate_left
        · (intro w hSw; (try dsimp only at hSw); go_simp; (try (with_reducible rfl)))
        try simp only [Act.put, List.setIfInBounds_toArray, List.set_cons_zero, List.set_cons_succ]
        refine AnyB.take (i := 9) (oi := _) (v := ?_) (by simp only [List.getElem?_toArray, List.getElem?_cons_zero, List.getElem?_cons_succ]; rfl) (by kernel_rfl) (by kernel_rfl) (by kernel_rfl) (by kernel_rfl) (by kernel_rfl) (by intro _ _ _ h; exact h) (Or.inl ⟨by rfl, ?_⟩) (by assumption) ?_
        rotate_left
        · (intro w hSw; (try dsimp only at hSw); go_simp; (try (with_reducible rfl)))
        try simp only [Act.put, List.setIfInBounds_toArray, List.set_cons_zero, List.set_cons_succ]
        refine AnyB.each (rs := [10, 11]) (by kernel_rfl) (by simp) ?_
        refine EachB.cons rfl (fun K hK hB => ?_) ?_
        · skip
          go_simp
          refine hK.out _ _ ?_ (fun hHeld1 => ?_)
          · ((try dsimp only); (first | exact ⟨t1, t2, a0, a1, a2, b0, b1, b2⟩ | (go_split_ands; refine ⟨?_, ?_, ?_, ?_, ?_, ?_, ?_, ?_⟩ <;> (repeat (first | assumption | refine cell_alloc_keep _ ?_ | refine cell_set_far (by omega) ?_)))))
          clear hB hK K hHeld0
          refine AnyB.each (rs := [11]) (by kernel_rfl) (by simp) ?_
          refine EachB.cons rfl (fun K hK hB => ?_) ?_
          · skip
            go_simp
            refine hK.out _ _ ?_ (fun hHeld2 => ?_)
            · ((try dsimp only); (first | exact ⟨t1, t2, a0, a1, a2, b0, b1, b2⟩ | (go_split_ands; refine ⟨?_, ?_, ?_, ?_, ?_, ?_, ?_, ?_⟩ <;> (repeat (first | assumption | refine cell_alloc_keep _ ?_ | refine cell_set_far (by omega) ?_)))))
            clear hB hK K hHeld1
            refine AnyB.each (rs := [12]) (by kernel_rfl) (by simp) ?_
            refine EachB.cons rfl (fun K hK hB => ?_) ?_
            · skip
              go_simp
              refine hK.out _ _ ?_ (fun hHeld3 => ?_)
              · ((try dsimp only); (first | exact ⟨t1, t2, a0, a1, a2, b0, b1, b2⟩ | (go_split_ands; refine ⟨?_, ?_, ?_, ?_, ?_, ?_, ?_, ?_⟩ <;> (repeat (first | assumption | refine cell_alloc_keep _ ?_ | refine cell_set_far (by omega) ?_)))))
              clear hB hK K hHeld2
              refine AnyB.each (rs := [13]) (by kernel_rfl) (by simp) ?_
              refine EachB.cons rfl (fun K hK hB => ?_) ?_
              · skip
                go_simp
                refine hK.out _ _ ?_ (fun hHeld4 => ?_)
                · ((try dsimp only); (first | exact ⟨t1, t2, a0, a1, a2, b0, b1, b2⟩ | (go_split_ands; refine ⟨?_, ?_, ?_, ?_, ?_, ?_, ?_, ?_⟩ <;> (repeat (first | assumption | refine cell_alloc_keep _ ?_ | refine cell_set_far (by omega) ?_)))))
                clear hB hK K hHeld3
                refine AnyB.none (by kernel_rfl) ?_ _
                have e1 := ne_pow P.x k; have e2 := ne_zero P.z; have e3 := ne_zero R.x; have e4 := ne_pow R.z k
                rcases quad (P.x == 2 ^ k) (P.z == 0) (R.x == 0) (R.z == 2 ^ k) with h | ⟨h, h2⟩ | ⟨h, h2, h3⟩ | ⟨h, h2, h3, h4⟩ | ⟨h, h2, h3, h4⟩
                all_goals
                  rw [h] at e1 HQ
                  (try rw [h2] at e2 HQ)
                  (try rw [h3] at e3 HQ)
                  (try rw [h4] at e4 HQ)
                  clear h
                  (try clear h2)
                  (try clear h3)
                  (try clear h4)
                  simp only [Bool.not_true, Bool.not_false] at e1 e2 e3 e4
                  go_wp2_with fail
                  go_quiet (fail)
                  go_wp2_with fail
                  first
                    | (go_roundw
                       case rel => exact ⟨k + 1, by omega, by go_num, SgnTo.next hsg.out HQ.out, (show Below _ _ _ from Below.trans hbel.out (show Below w1.heap.size wr _ from (by repeat (first | exact Below.refl _ _ | assumption | refine Below.drew ?_ | refine below_drewN ?_ _ | refine Below.alloc ?_ (by first | omega | (simp <;> omega)) _ | refine Below.setCell ?_ (by first | omega | (simp <;> omega)) _ | refine Below.trans ?_ (Below.mono (by assumption) (by first | omega | (simp <;> omega)))))))⟩
                       case measure => simp [intOf]; omega)
                    | (go_ret2
                       exact ⟨by rw [HG.out]; exact ret_two (sgn_no hlt (by rw [HQ.out]; simp)), Below.trans bw1.out ((show Below w1.heap.size w1 _ from Below.trans hbel.out (show Below w1.heap.size wr _ from (by repeat (first | exact Below.refl _ _ | assumption | refine Below.drew ?_ | refine below_drewN ?_ _ | refine Below.alloc ?_ (by first | omega | (simp <;> omega)) _ | refine Below.setCell ?_ (by first | omega | (simp <;> omega)) _ | refine Below.trans ?_ (Below.mono (by assumption) (by first | omega | (simp <;> omega))))))).mono bw1.out.size)⟩)
              exact EachB.nil
            exact EachB.nil
          exact EachB.nil
        refine EachB.cons rfl (fun K hK hB => ?_) ?_
        · skip
          go_simp
          refine hK.out _ _ ?_ (fun hHeld5 => ?_)
          · ((try dsimp only); (first | exact ⟨t1, t2, a0, a1, a2, b0, b1, b2⟩ | (go_split_ands; refine ⟨?_, ?_, ?_, ?_, ?_, ?_, ?_, ?_⟩ <;> (repeat (first | assumption | refine cell_alloc_keep _ ?_ | refine cell_set_far (by omega) ?_)))))
          clear hB hK K hHeld0
          refine AnyB.each (rs := [10]) (by kernel_rfl) (by simp) ?_
          refine EachB.cons rfl (fun K hK hB => ?_) ?_
          · skip
            go_simp
            refine hK.out _ _ ?_ (fun hHeld6 => ?_)
            · ((try dsimp only); (first | exact ⟨t1, t2, a0, a1, a2, b0, b1, b2⟩ | (go_split_ands; refine ⟨?_, ?_, ?_, ?_, ?_, ?_, ?_, ?_⟩ <;> (repeat (first | assumption | refine cell_alloc_keep _ ?_ | refine cell_set_far (by omega) ?_)))))
            clear hB hK K hHeld5
            refine AnyB.each (rs := [12]) (by kernel_rfl) (by simp) ?_
            refine EachB.cons rfl (fun K hK hB => ?_) ?_
            · skip
              go_simp
              refine hK.out _ _ ?_ (fun hHeld7 => ?_)
              · ((try dsimp only); (first | exact ⟨t1, t2, a0, a1, a2, b0, b1, b2⟩ | (go_split_ands; refine ⟨?_, ?_, ?_, ?_, ?_, ?_, ?_, ?_⟩ <;> (repeat (first | assumption | refine cell_alloc_keep _ ?_ | refine cell_set_far (by omega) ?_)))))
              clear hB hK K hHeld6
              refine AnyB.each (rs := [13]) (by kernel_rfl) (by simp) ?_
              refine EachB.cons rfl (fun K hK hB => ?_) ?_
              · skip
                go_simp
                refine hK.out _ _ ?_ (fun hHeld8 => ?_)
                · ((try dsimp only); (first | exact ⟨t1, t2, a0, a1, a2, b0, b1, b2⟩ | (go_split_ands; refine ⟨?_, ?_, ?_, ?_, ?_, ?_, ?_, ?_⟩ <;> (repeat (first | assumption | refine cell_alloc_keep _ ?_ | refine cell_set_far (by omega) ?_)))))
                clear hB hK K hHeld7
                refine AnyB.none (by kernel_rfl) ?_ _
                have e1 := ne_pow P.x k; have e2 := ne_zero P.z; have e3 := ne_zero R.x; have e4 := ne_pow R.z k
                rcases quad (P.x == 2 ^ k) (P.z == 0) (R.x == 0) (R.z == 2 ^ k) with h | ⟨h, h2⟩ | ⟨h, h2, h3⟩ | ⟨h, h2, h3, h4⟩ | ⟨h, h2, h3, h4⟩
                all_goals
                  rw [h] at e1 HQ
                  (try rw [h2] at e2 HQ)
                  (try rw [h3] at e3 HQ)
                  (try rw [h4] at e4 HQ)
                  clear h
                  (try clear h2)
                  (try clear h3)
                  (try clear h4)
                  simp only [Bool.not_true, Bool.not_false] at e1 e2 e3 e4
                  go_wp2_with fail
                  go_quiet (fail)
                  go_wp2_with fail
                  first
                    | (go_roundw
                       case rel => exact ⟨k + 1, by omega, by go_num, SgnTo.next hsg.out HQ.out, (show Below _ _ _ from Below.trans hbel.out (show Below w1.heap.size wr _ from (by repeat (first | exact Below.refl _ _ | assumption | refine Below.drew ?_ | refine below_drewN ?_ _ | refine Below.alloc ?_ (by first | omega | (simp <;> omega)) _ | refine Below.setCell ?_ (by first | omega | (simp <;> omega)) _ | refine Below.trans ?_ (Below.mono (by assumption) (by first | omega | (simp <;> omega)))))))⟩
                       case measure => simp [intOf]; omega)
                    | (go_ret2
                       exact ⟨by rw [HG.out]; exact ret_two (sgn_no hlt (by rw [HQ.out]; simp)), Below.trans bw1.out ((show Below w1.heap.size w1 _ from Below.trans hbel.out (show Below w1.heap.size wr _ from (by repeat (first | exact Below.refl _ _ | assumption | refine Below.drew ?_ | refine below_drewN ?_ _ | refine Below.alloc ?_ (by first | omega | (simp <;> omega)) _ | refine Below.setCell ?_ (by first | omega | (simp <;> omega)) _ | refine Below.trans ?_ (Below.mono (by assumption) (by first | omega | (simp <;> omega))))))).mono bw1.out.size)⟩)
              exact EachB.nil
            exact EachB.nil
          exact EachB.nil
        exact EachB.nil
      · go_wp2_with fail
        go_ret2
        exact ⟨by rw [HG.out]; exact ret_two (sgn_yes hsg.out (by omega)), Below.trans bw1.out (hbel.out.mono bw1.out.size)⟩
  · have HT := Lib.hid (show tabB d = false from decide_eq_false ht)
    have HG := Lib.hid (show sgnG d = none from if_neg ht)
    clear ht
    go_enter Try.func37, Try.ntmps37
    go_wp2_with fail
    refine (impl_IsValidTableau_any d _ _ _ (Rd.below H0.out (show Below w.heap.size w _ from (by repeat (first | exact Below.refl _ _ | assumption | refine Below.drew ?_ | refine below_drewN ?_ _ | refine Below.alloc ?_ (by first | omega | (simp <;> omega)) _ | refine Below.setCell ?_ (by first | omega | (simp <;> omega)) _ | refine Below.trans ?_ (Below.mono (by assumption) (by first | omega | (simp <;> omega)))))) rfl) (Rd.below H1.out (show Below w.heap.size w _ from (by repeat (first | exact Below.refl _ _ | assumption | refine Below.drew ?_ | refine below_drewN ?_ _ | refine Below.alloc ?_ (by first | omega | (simp <;> omega)) _ | refine Below.setCell ?_ (by first | omega | (simp <;> omega)) _ | refine Below.trans ?_ (Below.mono (by assumption) (by first | omega | (simp <;> omega)))))) rfl) n0 n1).mono ?_; rintro e w1 ⟨rfl, hb1⟩; rw [HT.out]
    go_wp2_with fail
    go_ret2
    exact ⟨by rw [HG.out]; rfl, (by repeat (first | exact Below.refl _ _ | assumption | refine Below.drew ?_ | refine below_drewN ?_ _ | refine Below.alloc ?_ (by first | omega | (simp <;> omega)) _ | refine Below.setCell ?_ (by first | omega | (simp <;> omega)) _ | refine Below.trans ?_ (Below.mono (by assumption) (by first | omega | (simp <;> omega)))))⟩
end Go.Proofs.Ytpeodfiapofagaa
