/- EqualDiagrams in the program and in the reference. -/
import Derived.Test.YtfcmakabejnicacEqNode
import Derived.Test.YtfcmakabejnicacEqWire
import Derived.Test.YtfcmakabejnicacDat
namespace Go.Proofs.Ytfcmakabejnicac
set_option linter.unusedSimpArgs false
set_option linter.unusedVariables false
set_option linter.unnecessarySimpa false
set_option maxRecDepth 200000
open Go.ChangeShapes Go.WideShapes Go.ChangeAt Go.RowKit

/-- Two diagrams are the same. -/
def diaB (a b : Dia) : Bool := decide (a.n = b.n ∧ a.ns = b.ns ∧ a.ws = b.ws ∧ a.turn = b.turn ∧ a.root = b.root)
theorem dia_no {a b : Dia} (h : ¬ (a.n = b.n ∧ a.ns = b.ns ∧ a.ws = b.ws ∧ a.turn = b.turn ∧ a.root = b.root)) : false = diaB a b := (decide_eq_false h).symm
theorem dia_yes {a b : Dia} (h : a.n = b.n ∧ a.ns = b.ns ∧ a.ws = b.ws ∧ a.turn = b.turn ∧ a.root = b.root) : true = diaB a b := (decide_eq_true h).symm
theorem e2_at {w : World} {v : Value} {L : List E2} (h : RdE w v E2.cs 2 L) : ∃ A c, v = .slice A L.length c ∧ Hid (∀ k (_ : k < L.length), ∃ b off, A = some ⟨b, off, none⟩ ∧ b < w.heap.size ∧ w.cell? ⟨b, off + k * 2, none⟩ = some (.int .i64 (L.getD k ⟨0, 0⟩).a) ∧ w.cell? ⟨b, off + k * 2 + 1, none⟩ = some (.int .i64 (L.getD k ⟨0, 0⟩).b)) := by
  rcases h.cases0 E2.len with ⟨he, A, c, rfl⟩ | ⟨hpos, b, off, cap, rfl, hb1, hcap, hcm, hcs⟩
  · exact ⟨A, c, by rw [he]; rfl, fun k hk => absurd hk (by rw [he]; simp)⟩
  · refine ⟨_, _, rfl, fun k hk => ⟨b, off, rfl, hb1, ?_⟩⟩
    have e : L.getD k ⟨0, 0⟩ = L[k] := by simp [List.getD, hk]
    rw [e]
    exact ⟨hcs k hk 0 _ (by omega) rfl, hcs k hk 1 _ (by omega) rfl⟩
theorem eW_at {w : World} {v : Value} {L : List EW} (h : RdE w v EW.cs 3 L) : ∃ A c, v = .slice A L.length c ∧ Hid (∀ k (_ : k < L.length), ∃ b off, A = some ⟨b, off, none⟩ ∧ b < w.heap.size ∧ w.cell? ⟨b, off + k * 3, none⟩ = some (.int .i64 (L.getD k ⟨0, 0, false⟩).a) ∧ w.cell? ⟨b, off + k * 3 + 1, none⟩ = some (.int .i64 (L.getD k ⟨0, 0, false⟩).b) ∧ w.cell? ⟨b, off + k * 3 + 2, none⟩ = some (.bool (L.getD k ⟨0, 0, false⟩).h)) := by
  rcases h.cases0 EW.len with ⟨he, A, c, rfl⟩ | ⟨hpos, b, off, cap, rfl, hb1, hcap, hcm, hcs⟩
  · exact ⟨A, c, by rw [he]; rfl, fun k hk => absurd hk (by rw [he]; simp)⟩
  · refine ⟨_, _, rfl, fun k hk => ⟨b, off, rfl, hb1, ?_⟩⟩
    have e : L.getD k ⟨0, 0, false⟩ = L[k] := by simp [List.getD, hk]
    rw [e]
    exact ⟨hcs k hk 0 _ (by omega) rfl, hcs k hk 1 _ (by omega) rfl, hcs k hk 2 _ (by omega) rfl⟩
theorem E2.eq_of {x y : E2} (h : (x.a == y.a) = true) (h1 : (x.b == y.b) = true) : x = y := by
  cases x; cases y; simp only [E2.mk.injEq]; exact ⟨LawfulBEq.eq_of_beq h, LawfulBEq.eq_of_beq h1⟩
theorem EW.eq_of {x y : EW} (h : (x.a == y.a) = true) (h1 : (x.b == y.b) = true) (h2 : (x.h == y.h) = true) : x = y := by
  cases x; cases y; simp only [EW.mk.injEq]; exact ⟨LawfulBEq.eq_of_beq h, LawfulBEq.eq_of_beq h1, LawfulBEq.eq_of_beq h2⟩
def SameN {α : Type} (d : α) (xs ys : List α) (k : Nat) : Prop := ∀ j, j < k → xs.getD j d = ys.getD j d
theorem SameN.next {α : Type} {d : α} {xs ys : List α} {k : Nat} (h : SameN d xs ys k) (h2 : xs.getD k d = ys.getD k d) : SameN d xs ys (k + 1) := by
  intro j hj
  by_cases e : j = k
  · subst e; exact h2
  · exact h j (by omega)
theorem SameN.all {α : Type} {d : α} {xs ys : List α} {m : Nat} (h : SameN d xs ys m) (hx : xs.length = m) (hy : ys.length = m) : xs = ys := by
  apply List.ext_getElem (by omega)
  intro i h1 h2
  have := h i (by omega)
  simpa [List.getD, h1, h2] using this
theorem ne_bne {x y : Int} (h : ¬ x = y) : (x != y) = true := by simpa using h
theorem eq_bne {x y : Int} (h : x = y) : (x != y) = false := by simpa using h
set_option maxHeartbeats 16000000 in
theorem spec_EqualDiagrams_any (a b : Dia) (v0 v1 u0 u1 : Value) (w : World) (h0 : RdE w v0 E2.cs 2 a.ns) (h1 : RdE w v1 EW.cs 3 a.ws) (k0 : RdE w u0 E2.cs 2 b.ns) (k1 : RdE w u1 EW.cs 3 b.ws) (n0 : a.ns.length ≤ 1048576) (n1 : a.ws.length ≤ 1048576) (n2 : b.ns.length ≤ 1048576) (n3 : b.ws.length ≤ 1048576) :
    Calls Try.prog 6 #[.agg #[.int .i64 a.n, v0, v1, .int .i64 a.turn, .int .i64 a.root], .agg #[.int .i64 b.n, u0, u1, .int .i64 b.turn, .int .i64 b.root]] w fun e w' => e = .returned (.bool (diaB a b)) ∧ Below w.heap.size w w' := by
  obtain ⟨A, cA, rfl, HA⟩ := e2_at h0
  obtain ⟨B, cB, rfl, HB⟩ := eW_at h1
  obtain ⟨C, cC, rfl, HC⟩ := e2_at k0
  obtain ⟨D, cD, rfl, HD⟩ := eW_at k1
  clear h0 h1 k0 k1
  by_cases q1 : a.n = b.n
  · have HQ1 := Lib.hid q1
    replace q1 := eq_bne q1
    by_cases q2 : a.turn = b.turn
    · have HQ2 := Lib.hid q2
      replace q2 := eq_bne q2
      by_cases q3 : a.root = b.root
      · have HQ3 := Lib.hid q3
        replace q3 := eq_bne q3
        by_cases q4 : a.ns.length = b.ns.length
        · have HQ4 := Lib.hid q4
          have Q4 : ((a.ns.length : Int) != (b.ns.length : Int)) = false := eq_bne (by omega)
          by_cases q5 : a.ws.length = b.ws.length
          · have HQ5 := Lib.hid q5
            have Q5 : ((a.ws.length : Int) != (b.ws.length : Int)) = false := eq_bne (by omega)
            clear q4 q5
            go_enter Try.func6, Try.ntmps6
            go_wp2_with fail
            obtain ⟨W0, hW0⟩ : ∃ W0, W0 = ((w.alloc (.cells #[.int .i64 a.n, .slice A a.ns.length cA, .slice B a.ws.length cB, .int .i64 a.turn, .int .i64 a.root] 31)).alloc (.cells #[.int .i64 b.n, .slice C b.ns.length cC, .slice D b.ws.length cD, .int .i64 b.turn, .int .i64 b.root] 31)) := ⟨_, rfl⟩
            have BW := Lib.hid (show Below w.heap.size w W0 from by rw [hW0]; exact (by repeat (first | exact Below.refl _ _ | assumption | refine Below.drew ?_ | refine below_drewN ?_ _ | refine Below.alloc ?_ (by first | omega | (simp <;> omega)) _ | refine Below.setCell ?_ (by first | omega | (simp <;> omega)) _ | refine Below.trans ?_ (Below.mono (by assumption) (by first | omega | (simp <;> omega))))))
            have T1 := Lib.hid (show W0.cell? ⟨w.heap.size, 1, none⟩ = some (.slice A a.ns.length cA) from by rw [hW0]; exact (by repeat (first | (refine Eq.trans (World.cell?_alloc_at _ _ _ _ ?hh) ?_; (case hh => (simp; done)); rfl) | refine cell_alloc_keep _ ?_)))
            have T2 := Lib.hid (show W0.cell? ⟨w.heap.size, 2, none⟩ = some (.slice B a.ws.length cB) from by rw [hW0]; exact (by repeat (first | (refine Eq.trans (World.cell?_alloc_at _ _ _ _ ?hh) ?_; (case hh => (simp; done)); rfl) | refine cell_alloc_keep _ ?_)))
            have S1 := Lib.hid (show W0.cell? ⟨w.heap.size + 1, 1, none⟩ = some (.slice C b.ns.length cC) from by rw [hW0]; exact (by repeat (first | (refine Eq.trans (World.cell?_alloc_at _ _ _ _ ?hh) ?_; (case hh => (simp; done)); rfl) | refine cell_alloc_keep _ ?_)))
            have S2 := Lib.hid (show W0.cell? ⟨w.heap.size + 1, 2, none⟩ = some (.slice D b.ws.length cD) from by rw [hW0]; exact (by repeat (first | (refine Eq.trans (World.cell?_alloc_at _ _ _ _ ?hh) ?_; (case hh => (simp; done)); rfl) | refine cell_alloc_keep _ ?_)))
            rw [← hW0]
            clear hW0 q1 q2 q3 Q4 Q5
            go_loopw [47] (fun i wr => ∃ k : Nat, k ≤ a.ns.length ∧ i = .int .i64 k ∧ Hid (SameN ⟨0, 0⟩ a.ns b.ns k) ∧ Hid (Below W0.heap.size W0 wr)) (fun i _ => a.ns.length - (intOf i).toNat)
            case atStart => exact ⟨0, Nat.zero_le _, rfl, (show SameN _ _ _ _ from fun q hq => absurd hq (Nat.not_lt_zero _)), (show Below _ _ _ from Below.refl _ _)⟩
            case round =>
              obtain ⟨k, hk, rfl, hsx, hbel⟩ := hrel
              have bw := Lib.hid (show Below w.heap.size w wr from Below.trans BW.out (hbel.out.mono BW.out.size))
              have t1 := below_cell hbel.out rfl T1.out
              have s1 := below_cell hbel.out rfl S1.out
              by_cases hlt : k < a.ns.length
              · have hlt2 : k < b.ns.length := by have := HQ4.out; omega
                have i1 : (k : Int) < (a.ns.length : Int) := by omega
                have i2 : (k : Int) < (b.ns.length : Int) := by omega
                have i3 : (0 : Int) ≤ (k : Int) := by omega
                obtain ⟨ga, offa, rfl, hga, a0, a1⟩ := HA.out k hlt
                obtain ⟨gc, offc, rfl, hgc, c0, c1⟩ := HC.out k hlt2
                replace a0 := (bw.out.cell hga).trans a0; replace a1 := (bw.out.cell hga).trans a1
                replace c0 := (bw.out.cell hgc).trans c0; replace c1 := (bw.out.cell hgc).trans c1
                have NX := Lib.hid (fun (he : ¬ a.ns.getD k ⟨0, 0⟩ = b.ns.getD k ⟨0, 0⟩) => dia_no (a := a) (b := b) (fun h => he (by rw [h.2.1])))
                have YX := Lib.hid (fun he => SameN.next (k := k) hsx.out he)
                obtain ⟨x, hx⟩ : ∃ x, x = a.ns.getD k ⟨0, 0⟩ := ⟨_, rfl⟩
                obtain ⟨y, hy⟩ : ∃ x, x = b.ns.getD k ⟨0, 0⟩ := ⟨_, rfl⟩
                rw [← hx] at a0 a1 NX YX; rw [← hy] at c0 c1 NX YX
                clear hx hy HA HB HC HD hsx
                rcases eqcase_Node x y with d0 | ⟨d0, d1⟩ | ⟨d0, d1⟩
                · go_wp2_with fail
                  go_quiet (fail)
                  go_wp2_with fail
                  go_ret
                  exact ⟨ret_bool (NX.out (by intro e; subst e; simp at d0)), Below.trans BW.out ((show Below W0.heap.size W0 _ from Below.trans hbel.out (show Below W0.heap.size wr _ from (by repeat (first | exact Below.refl _ _ | assumption | refine Below.drew ?_ | refine below_drewN ?_ _ | refine Below.alloc ?_ (by first | omega | (simp <;> omega)) _ | refine Below.setCell ?_ (by first | omega | (simp <;> omega)) _ | refine Below.trans ?_ (Below.mono (by assumption) (by first | omega | (simp <;> omega))))))).mono BW.out.size)⟩
                · go_wp2_with fail
                  go_quiet (fail)
                  go_wp2_with fail
                  go_ret
                  exact ⟨ret_bool (NX.out (by intro e; subst e; simp at d1)), Below.trans BW.out ((show Below W0.heap.size W0 _ from Below.trans hbel.out (show Below W0.heap.size wr _ from (by repeat (first | exact Below.refl _ _ | assumption | refine Below.drew ?_ | refine below_drewN ?_ _ | refine Below.alloc ?_ (by first | omega | (simp <;> omega)) _ | refine Below.setCell ?_ (by first | omega | (simp <;> omega)) _ | refine Below.trans ?_ (Below.mono (by assumption) (by first | omega | (simp <;> omega))))))).mono BW.out.size)⟩
                · have EX := Lib.hid (YX.out (E2.eq_of d0 d1))
                  go_wp2_with fail
                  go_quiet (fail)
                  go_wp2_with fail
                  go_roundw
                  case rel => exact ⟨k + 1, by omega, by go_num, EX.out, (show Below _ _ _ from Below.trans hbel.out (show Below W0.heap.size wr _ from (by repeat (first | exact Below.refl _ _ | assumption | refine Below.drew ?_ | refine below_drewN ?_ _ | refine Below.alloc ?_ (by first | omega | (simp <;> omega)) _ | refine Below.setCell ?_ (by first | omega | (simp <;> omega)) _ | refine Below.trans ?_ (Below.mono (by assumption) (by first | omega | (simp <;> omega)))))))⟩
                  case measure => simp [intOf]; omega
              · have e9 : k = a.ns.length := by omega
                have HSN := Lib.hid (show a.ns = b.ns from SameN.all (by rw [← e9]; exact hsx.out) rfl HQ4.out.symm)
                clear e9
                have t2 := below_cell hbel.out rfl T2.out
                have i1 : ¬ (k : Int) < (a.ns.length : Int) := by omega
                clear hsx
                go_wp2_with fail
                clear t1 s1 t2 i1 bw
                obtain ⟨wo, rfl⟩ : ∃ wo : World, wo = wr := ⟨_, rfl⟩
                go_loopw [65] (fun i wr => ∃ k : Nat, k ≤ a.ws.length ∧ i = .int .i64 k ∧ Hid (SameN ⟨0, 0, false⟩ a.ws b.ws k) ∧ Hid (Below W0.heap.size W0 wr)) (fun i _ => a.ws.length - (intOf i).toNat)
                case atStart => exact ⟨0, Nat.zero_le _, rfl, (show SameN _ _ _ _ from fun q hq => absurd hq (Nat.not_lt_zero _)), hbel⟩
                case round =>
                  clear hbel hlt hk
                  obtain ⟨k, hk, rfl, hsx, hbel⟩ := hrel
                  have bw := Lib.hid (show Below w.heap.size w wr from Below.trans BW.out (hbel.out.mono BW.out.size))
                  have t2 := below_cell hbel.out rfl T2.out
                  have s2 := below_cell hbel.out rfl S2.out
                  by_cases hlt : k < a.ws.length
                  · have hlt2 : k < b.ws.length := by have := HQ5.out; omega
                    have i1 : (k : Int) < (a.ws.length : Int) := by omega
                    have i2 : (k : Int) < (b.ws.length : Int) := by omega
                    have i3 : (0 : Int) ≤ (k : Int) := by omega
                    obtain ⟨ga, offa, rfl, hga, a0, a1, a2⟩ := HB.out k hlt
                    obtain ⟨gc, offc, rfl, hgc, c0, c1, c2⟩ := HD.out k hlt2
                    replace a0 := (bw.out.cell hga).trans a0; replace a1 := (bw.out.cell hga).trans a1; replace a2 := (bw.out.cell hga).trans a2
                    replace c0 := (bw.out.cell hgc).trans c0; replace c1 := (bw.out.cell hgc).trans c1; replace c2 := (bw.out.cell hgc).trans c2
                    have NX := Lib.hid (fun (he : ¬ a.ws.getD k ⟨0, 0, false⟩ = b.ws.getD k ⟨0, 0, false⟩) => dia_no (a := a) (b := b) (fun h => he (by rw [h.2.2.1])))
                    have YX := Lib.hid (fun he => SameN.next (k := k) hsx.out he)
                    obtain ⟨x, hx⟩ : ∃ x, x = a.ws.getD k ⟨0, 0, false⟩ := ⟨_, rfl⟩
                    obtain ⟨y, hy⟩ : ∃ x, x = b.ws.getD k ⟨0, 0, false⟩ := ⟨_, rfl⟩
                    rw [← hx] at a0 a1 a2 NX YX; rw [← hy] at c0 c1 c2 NX YX
                    clear hx hy HA HB HC HD hsx
                    rcases eqcase_Wire x y with d0 | ⟨d0, d1⟩ | ⟨d0, d1, d2⟩ | ⟨d0, d1, d2⟩
                    · go_wp2_with fail
                      go_quiet (fail)
                      go_wp2_with fail
                      go_ret
                      exact ⟨ret_bool (NX.out (by intro e; subst e; simp at d0)), Below.trans BW.out ((show Below W0.heap.size W0 _ from Below.trans hbel.out (show Below W0.heap.size wr _ from (by repeat (first | exact Below.refl _ _ | assumption | refine Below.drew ?_ | refine below_drewN ?_ _ | refine Below.alloc ?_ (by first | omega | (simp <;> omega)) _ | refine Below.setCell ?_ (by first | omega | (simp <;> omega)) _ | refine Below.trans ?_ (Below.mono (by assumption) (by first | omega | (simp <;> omega))))))).mono BW.out.size)⟩
                    · go_wp2_with fail
                      go_quiet (fail)
                      go_wp2_with fail
                      go_ret
                      exact ⟨ret_bool (NX.out (by intro e; subst e; simp at d1)), Below.trans BW.out ((show Below W0.heap.size W0 _ from Below.trans hbel.out (show Below W0.heap.size wr _ from (by repeat (first | exact Below.refl _ _ | assumption | refine Below.drew ?_ | refine below_drewN ?_ _ | refine Below.alloc ?_ (by first | omega | (simp <;> omega)) _ | refine Below.setCell ?_ (by first | omega | (simp <;> omega)) _ | refine Below.trans ?_ (Below.mono (by assumption) (by first | omega | (simp <;> omega))))))).mono BW.out.size)⟩
                    · go_wp2_with fail
                      go_quiet (fail)
                      go_wp2_with fail
                      go_ret
                      exact ⟨ret_bool (NX.out (by intro e; subst e; simp at d2)), Below.trans BW.out ((show Below W0.heap.size W0 _ from Below.trans hbel.out (show Below W0.heap.size wr _ from (by repeat (first | exact Below.refl _ _ | assumption | refine Below.drew ?_ | refine below_drewN ?_ _ | refine Below.alloc ?_ (by first | omega | (simp <;> omega)) _ | refine Below.setCell ?_ (by first | omega | (simp <;> omega)) _ | refine Below.trans ?_ (Below.mono (by assumption) (by first | omega | (simp <;> omega))))))).mono BW.out.size)⟩
                    · have EX := Lib.hid (YX.out (EW.eq_of d0 d1 d2))
                      go_wp2_with fail
                      go_quiet (fail)
                      go_wp2_with fail
                      go_roundw
                      case rel => exact ⟨k + 1, by omega, by go_num, EX.out, (show Below _ _ _ from Below.trans hbel.out (show Below W0.heap.size wr _ from (by repeat (first | exact Below.refl _ _ | assumption | refine Below.drew ?_ | refine below_drewN ?_ _ | refine Below.alloc ?_ (by first | omega | (simp <;> omega)) _ | refine Below.setCell ?_ (by first | omega | (simp <;> omega)) _ | refine Below.trans ?_ (Below.mono (by assumption) (by first | omega | (simp <;> omega)))))))⟩
                      case measure => simp [intOf]; omega
                  · have e9 : k = a.ws.length := by omega
                    have HSW := Lib.hid (show a.ws = b.ws from SameN.all (by rw [← e9]; exact hsx.out) rfl HQ5.out.symm)
                    clear e9
                    have HR := Lib.hid (dia_yes ⟨HQ1.out, HSN.out, HSW.out, HQ2.out, HQ3.out⟩)
                    have i1 : ¬ (k : Int) < (a.ws.length : Int) := by omega
                    clear hsx
                    go_wp2_with fail
                    go_ret
                    exact ⟨ret_bool HR.out, bw.out⟩
          · have HR := Lib.hid (dia_no (a := a) (b := b) fun h => q5 (by rw [h.2.2.1]))
            have Q5 : ((a.ws.length : Int) != (b.ws.length : Int)) = true := ne_bne (by omega)
            clear q4 q5
            go_enter Try.func6, Try.ntmps6
            go_wp2_with fail
            go_ret
            exact ⟨ret_bool HR.out, (by repeat (first | exact Below.refl _ _ | assumption | refine Below.drew ?_ | refine below_drewN ?_ _ | refine Below.alloc ?_ (by first | omega | (simp <;> omega)) _ | refine Below.setCell ?_ (by first | omega | (simp <;> omega)) _ | refine Below.trans ?_ (Below.mono (by assumption) (by first | omega | (simp <;> omega)))))⟩
        · have HR := Lib.hid (dia_no (a := a) (b := b) fun h => q4 (by rw [h.2.1]))
          have Q4 : ((a.ns.length : Int) != (b.ns.length : Int)) = true := ne_bne (by omega)
          clear q4
          go_enter Try.func6, Try.ntmps6
          go_wp2_with fail
          go_ret
          exact ⟨ret_bool HR.out, (by repeat (first | exact Below.refl _ _ | assumption | refine Below.drew ?_ | refine below_drewN ?_ _ | refine Below.alloc ?_ (by first | omega | (simp <;> omega)) _ | refine Below.setCell ?_ (by first | omega | (simp <;> omega)) _ | refine Below.trans ?_ (Below.mono (by assumption) (by first | omega | (simp <;> omega)))))⟩
      · have HR := Lib.hid (dia_no (a := a) (b := b) fun h => q3 h.2.2.2.2)
        replace q3 := ne_bne q3
        go_enter Try.func6, Try.ntmps6
        go_wp2_with fail
        go_ret
        exact ⟨ret_bool HR.out, (by repeat (first | exact Below.refl _ _ | assumption | refine Below.drew ?_ | refine below_drewN ?_ _ | refine Below.alloc ?_ (by first | omega | (simp <;> omega)) _ | refine Below.setCell ?_ (by first | omega | (simp <;> omega)) _ | refine Below.trans ?_ (Below.mono (by assumption) (by first | omega | (simp <;> omega)))))⟩
    · have HR := Lib.hid (dia_no (a := a) (b := b) fun h => q2 h.2.2.2.1)
      replace q2 := ne_bne q2
      go_enter Try.func6, Try.ntmps6
      go_wp2_with fail
      go_ret
      exact ⟨ret_bool HR.out, (by repeat (first | exact Below.refl _ _ | assumption | refine Below.drew ?_ | refine below_drewN ?_ _ | refine Below.alloc ?_ (by first | omega | (simp <;> omega)) _ | refine Below.setCell ?_ (by first | omega | (simp <;> omega)) _ | refine Below.trans ?_ (Below.mono (by assumption) (by first | omega | (simp <;> omega)))))⟩
  · have HR := Lib.hid (dia_no (a := a) (b := b) fun h => q1 h.1)
    replace q1 := ne_bne q1
    go_enter Try.func6, Try.ntmps6
    go_wp2_with fail
    go_ret
    exact ⟨ret_bool HR.out, (by repeat (first | exact Below.refl _ _ | assumption | refine Below.drew ?_ | refine below_drewN ?_ _ | refine Below.alloc ?_ (by first | omega | (simp <;> omega)) _ | refine Below.setCell ?_ (by first | omega | (simp <;> omega)) _ | refine Below.trans ?_ (Below.mono (by assumption) (by first | omega | (simp <;> omega)))))⟩
set_option maxHeartbeats 8000000 in
theorem impl_EqualDiagrams_any (a b : Dia) (v0 v1 u0 u1 : Value) (w : World) (h0 : RdE w v0 E2.cs 2 a.ns) (h1 : RdE w v1 EW.cs 3 a.ws) (k0 : RdE w u0 E2.cs 2 b.ns) (k1 : RdE w u1 EW.cs 3 b.ws) :
    Calls Try.prog 8 #[.agg #[.int .i64 a.n, v0, v1, .int .i64 a.turn, .int .i64 a.root], .agg #[.int .i64 b.n, u0, u1, .int .i64 b.turn, .int .i64 b.root]] w fun e w' => e = .returned (.bool (diaB a b)) ∧ Below w.heap.size w w' := by
  have H0 := Lib.hid h0; have H1 := Lib.hid h1; have K0 := Lib.hid k0; have K1 := Lib.hid k1
  obtain ⟨A, cA, rfl, _⟩ := h0.form
  obtain ⟨B, cB, rfl, _⟩ := h1.form
  obtain ⟨C, cC, rfl, _⟩ := k0.form
  obtain ⟨D, cD, rfl, _⟩ := k1.form
  clear h0 h1 k0 k1
  by_cases q1 : a.n = b.n
  · have HQ1 := Lib.hid q1
    replace q1 : (a.n == b.n) = true := by simpa using q1
    by_cases q2 : a.ns = b.ns
    · have HQ2 := Lib.hid (show decide (a.ns = b.ns) = true from decide_eq_true q2)
      have KQ2 := Lib.hid q2
      by_cases q3 : a.ws = b.ws
      · have HQ3 := Lib.hid (show decide (a.ws = b.ws) = true from decide_eq_true q3)
        have HR : Hid (diaB a b = ((a.turn == b.turn) && (a.root == b.root))) := by
          show _ = _
          unfold diaB
          rw [Bool.eq_iff_iff]
          simp only [decide_eq_true_eq, Bool.and_eq_true, beq_iff_eq]
          exact ⟨fun h => h.2.2.2, fun h => ⟨HQ1.out, q2, q3, h⟩⟩
        clear q2 q3
        cases q4 : (a.turn == b.turn) <;> cases q5 : (a.root == b.root)
        all_goals
          have HR2 := Lib.hid (HR.out.trans (by rw [q4, q5]))
          go_enter Try.func8, Try.ntmps8
          go_wp2_with fail
          refine (slices_Equal_Node _ _ a.ns b.ns _ (Rd.below H0.out (show Below w.heap.size w _ from (by repeat (first | exact Below.refl _ _ | assumption | refine Below.drew ?_ | refine below_drewN ?_ _ | refine Below.alloc ?_ (by first | omega | (simp <;> omega)) _ | refine Below.setCell ?_ (by first | omega | (simp <;> omega)) _ | refine Below.trans ?_ (Below.mono (by assumption) (by first | omega | (simp <;> omega)))))) rfl) (Rd.below K0.out (show Below w.heap.size w _ from (by repeat (first | exact Below.refl _ _ | assumption | refine Below.drew ?_ | refine below_drewN ?_ _ | refine Below.alloc ?_ (by first | omega | (simp <;> omega)) _ | refine Below.setCell ?_ (by first | omega | (simp <;> omega)) _ | refine Below.trans ?_ (Below.mono (by assumption) (by first | omega | (simp <;> omega)))))) rfl)).mono ?_; rintro e w1 ⟨rfl, hb1⟩; rw [HQ2.out]
          obtain ⟨hc_hb1, hf_hb1⟩ := bcell hb1; have hz_hb1 := hb1.size; (try simp at hz_hb1); have hs0_hb1 : w.heap.size < w1.heap.size := (by omega); have hs1_hb1 : w.heap.size + 1 < w1.heap.size := (by omega)
          go_wp2_with fail
          refine (slices_Equal_Wire _ _ a.ws b.ws _ (Rd.below H1.out (show Below w.heap.size w _ from (by repeat (first | exact Below.refl _ _ | assumption | refine Below.drew ?_ | refine below_drewN ?_ _ | refine Below.alloc ?_ (by first | omega | (simp <;> omega)) _ | refine Below.setCell ?_ (by first | omega | (simp <;> omega)) _ | refine Below.trans ?_ (Below.mono (by assumption) (by first | omega | (simp <;> omega)))))) rfl) (Rd.below K1.out (show Below w.heap.size w _ from (by repeat (first | exact Below.refl _ _ | assumption | refine Below.drew ?_ | refine below_drewN ?_ _ | refine Below.alloc ?_ (by first | omega | (simp <;> omega)) _ | refine Below.setCell ?_ (by first | omega | (simp <;> omega)) _ | refine Below.trans ?_ (Below.mono (by assumption) (by first | omega | (simp <;> omega)))))) rfl)).mono ?_; rintro e w2 ⟨rfl, hb2⟩; rw [HQ3.out]
          obtain ⟨hc_hb2, hf_hb2⟩ := bcell hb2; have hz_hb2 := hb2.size; (try simp at hz_hb2); have hs0_hb2 : w.heap.size < w2.heap.size := (by omega); have hs1_hb2 : w.heap.size + 1 < w2.heap.size := (by omega)
          go_wp2_with fail
          go_ret
          exact ⟨ret_bool (by rw [HR2.out]; rfl), (by repeat (first | exact Below.refl _ _ | assumption | refine Below.drew ?_ | refine below_drewN ?_ _ | refine Below.alloc ?_ (by first | omega | (simp <;> omega)) _ | refine Below.setCell ?_ (by first | omega | (simp <;> omega)) _ | refine Below.trans ?_ (Below.mono (by assumption) (by first | omega | (simp <;> omega)))))⟩
      · have HQ3 := Lib.hid (show decide (a.ws = b.ws) = false from decide_eq_false q3)
        have HR := Lib.hid (dia_no (a := a) (b := b) fun h => q3 h.2.2.1)
        clear q2 q3
        go_enter Try.func8, Try.ntmps8
        go_wp2_with fail
        refine (slices_Equal_Node _ _ a.ns b.ns _ (Rd.below H0.out (show Below w.heap.size w _ from (by repeat (first | exact Below.refl _ _ | assumption | refine Below.drew ?_ | refine below_drewN ?_ _ | refine Below.alloc ?_ (by first | omega | (simp <;> omega)) _ | refine Below.setCell ?_ (by first | omega | (simp <;> omega)) _ | refine Below.trans ?_ (Below.mono (by assumption) (by first | omega | (simp <;> omega)))))) rfl) (Rd.below K0.out (show Below w.heap.size w _ from (by repeat (first | exact Below.refl _ _ | assumption | refine Below.drew ?_ | refine below_drewN ?_ _ | refine Below.alloc ?_ (by first | omega | (simp <;> omega)) _ | refine Below.setCell ?_ (by first | omega | (simp <;> omega)) _ | refine Below.trans ?_ (Below.mono (by assumption) (by first | omega | (simp <;> omega)))))) rfl)).mono ?_; rintro e w1 ⟨rfl, hb1⟩; rw [HQ2.out]
        obtain ⟨hc_hb1, hf_hb1⟩ := bcell hb1; have hz_hb1 := hb1.size; (try simp at hz_hb1); have hs0_hb1 : w.heap.size < w1.heap.size := (by omega); have hs1_hb1 : w.heap.size + 1 < w1.heap.size := (by omega)
        go_wp2_with fail
        refine (slices_Equal_Wire _ _ a.ws b.ws _ (Rd.below H1.out (show Below w.heap.size w _ from (by repeat (first | exact Below.refl _ _ | assumption | refine Below.drew ?_ | refine below_drewN ?_ _ | refine Below.alloc ?_ (by first | omega | (simp <;> omega)) _ | refine Below.setCell ?_ (by first | omega | (simp <;> omega)) _ | refine Below.trans ?_ (Below.mono (by assumption) (by first | omega | (simp <;> omega)))))) rfl) (Rd.below K1.out (show Below w.heap.size w _ from (by repeat (first | exact Below.refl _ _ | assumption | refine Below.drew ?_ | refine below_drewN ?_ _ | refine Below.alloc ?_ (by first | omega | (simp <;> omega)) _ | refine Below.setCell ?_ (by first | omega | (simp <;> omega)) _ | refine Below.trans ?_ (Below.mono (by assumption) (by first | omega | (simp <;> omega)))))) rfl)).mono ?_; rintro e w2 ⟨rfl, hb2⟩; rw [HQ3.out]
        obtain ⟨hc_hb2, hf_hb2⟩ := bcell hb2; have hz_hb2 := hb2.size; (try simp at hz_hb2); have hs0_hb2 : w.heap.size < w2.heap.size := (by omega); have hs1_hb2 : w.heap.size + 1 < w2.heap.size := (by omega)
        go_wp2_with fail
        go_ret
        exact ⟨ret_bool HR.out, (by repeat (first | exact Below.refl _ _ | assumption | refine Below.drew ?_ | refine below_drewN ?_ _ | refine Below.alloc ?_ (by first | omega | (simp <;> omega)) _ | refine Below.setCell ?_ (by first | omega | (simp <;> omega)) _ | refine Below.trans ?_ (Below.mono (by assumption) (by first | omega | (simp <;> omega)))))⟩
    · have HQ2 := Lib.hid (show decide (a.ns = b.ns) = false from decide_eq_false q2)
      have HR := Lib.hid (dia_no (a := a) (b := b) fun h => q2 h.2.1)
      clear q2
      go_enter Try.func8, Try.ntmps8
      go_wp2_with fail
      refine (slices_Equal_Node _ _ a.ns b.ns _ (Rd.below H0.out (show Below w.heap.size w _ from (by repeat (first | exact Below.refl _ _ | assumption | refine Below.drew ?_ | refine below_drewN ?_ _ | refine Below.alloc ?_ (by first | omega | (simp <;> omega)) _ | refine Below.setCell ?_ (by first | omega | (simp <;> omega)) _ | refine Below.trans ?_ (Below.mono (by assumption) (by first | omega | (simp <;> omega)))))) rfl) (Rd.below K0.out (show Below w.heap.size w _ from (by repeat (first | exact Below.refl _ _ | assumption | refine Below.drew ?_ | refine below_drewN ?_ _ | refine Below.alloc ?_ (by first | omega | (simp <;> omega)) _ | refine Below.setCell ?_ (by first | omega | (simp <;> omega)) _ | refine Below.trans ?_ (Below.mono (by assumption) (by first | omega | (simp <;> omega)))))) rfl)).mono ?_; rintro e w1 ⟨rfl, hb1⟩; rw [HQ2.out]
      obtain ⟨hc_hb1, hf_hb1⟩ := bcell hb1; have hz_hb1 := hb1.size; (try simp at hz_hb1); have hs0_hb1 : w.heap.size < w1.heap.size := (by omega); have hs1_hb1 : w.heap.size + 1 < w1.heap.size := (by omega)
      go_wp2_with fail
      go_ret
      exact ⟨ret_bool HR.out, (by repeat (first | exact Below.refl _ _ | assumption | refine Below.drew ?_ | refine below_drewN ?_ _ | refine Below.alloc ?_ (by first | omega | (simp <;> omega)) _ | refine Below.setCell ?_ (by first | omega | (simp <;> omega)) _ | refine Below.trans ?_ (Below.mono (by assumption) (by first | omega | (simp <;> omega)))))⟩
  · have HR := Lib.hid (dia_no (a := a) (b := b) fun h => q1 h.1)
    replace q1 : (a.n == b.n) = false := by simpa using q1
    go_enter Try.func8, Try.ntmps8
    go_wp2_with fail
    go_ret
    exact ⟨ret_bool HR.out, (by repeat (first | exact Below.refl _ _ | assumption | refine Below.drew ?_ | refine below_drewN ?_ _ | refine Below.alloc ?_ (by first | omega | (simp <;> omega)) _ | refine Below.setCell ?_ (by first | omega | (simp <;> omega)) _ | refine Below.trans ?_ (Below.mono (by assumption) (by first | omega | (simp <;> omega)))))⟩
end Go.Proofs.Ytfcmakabejnicac
