/- A diagram's validity: the reference's counting. -/
import Derived.Test.YtliophgfgmjhiaaGreatDoorZ00M
import Derived.Test.YtliophgfgmjhiaaGreatDoorZ01M
import Derived.Test.YtliophgfgmjhiaaGreatDoorZ02M
import Derived.BigGuardPart
import Derived.Deep.LoopGhost
namespace Go.Proofs.YtliophgfgmjhiaaGreatDoor
set_option linter.unusedSimpArgs false
set_option linter.unusedVariables false
set_option linter.unnecessarySimpa false
set_option maxRecDepth 200000
open Go.ChangeShapes Go.WideShapes Go.ChangeAt Go.RowKit

theorem deg_succ {ws : List EW} {k : Int} {i : Nat} {x : EW} (hi : i < ws.length) (hx : x = ws.getD i ⟨0, 0, false⟩) : degTo ws k (i + 1) = degTo ws k i + (if touchB k x = true then 1 else 0) := by
  subst hx; exact filt_succ (touchB k) ⟨0, 0, false⟩ ws i hi
theorem touch_1 {k : Int} {x : EW} (h : x.a = k) : touchB k x = true := by unfold touchB; rw [decide_eq_true h]; rfl
theorem touch_2 {k : Int} {x : EW} (h : x.b = k) : touchB k x = true := by unfold touchB; rw [decide_eq_true h, Bool.or_true]
theorem touch_0 {k : Int} {x : EW} (h : ¬ x.a = k) (h2 : ¬ x.b = k) : touchB k x = false := by unfold touchB; rw [decide_eq_false h, decide_eq_false h2]; rfl
theorem deg_all {ws : List EW} {k : Int} {i : Nat} (h : ws.length ≤ i) : degTo ws k i = degW ws k := filt_all _ _ _ h
set_option maxHeartbeats 4000000 in
theorem spec_l16Wires_any (d : Dia) (v0 v1 : Value) (k : Int) (w : World) (h0 : RdE w v0 E2.cs 2 d.ns) (h1 : RdE w v1 EW.cs 3 d.ws) (n1 : d.ws.length ≤ 2097152) :
    Calls Tryz.prog 63 #[.agg #[.int .i64 d.n, v0, v1, .int .i64 d.turn, .int .i64 d.root], .int .i64 k] w fun e w' => e = .returned (.int .i64 (degW d.ws k : Nat)) ∧ Below w.heap.size w w' := by
  obtain ⟨A, c, rfl, _⟩ := e2_at h0
  obtain ⟨A1, c1, rfl, HW⟩ := eW_at h1
  clear h0 h1
  go_enter Tryz.func63, Tryz.ntmps63
  go_wp2_with fail
  go_loopw [5, 11] (fun sn si wr => ∃ i : Nat, i ≤ d.ws.length ∧ sn = .int .i64 (degTo d.ws k i : Nat) ∧ si = .int .i64 i ∧ Hid (Below w.heap.size w wr) ∧ w.heap.size ≤ wr.heap.size) (fun _ si _ => d.ws.length - (intOf si).toNat)
  case atStart => exact ⟨0, Nat.zero_le _, rfl, rfl, (show Below _ _ _ from (by repeat (first | exact Below.refl _ _ | assumption | refine Below.drew ?_ | refine below_drewN ?_ _ | refine Below.alloc ?_ (by first | omega | (simp <;> omega)) _ | refine Below.setCell ?_ (by first | omega | (simp <;> omega)) _ | refine Below.trans ?_ (Below.mono (by assumption) (by first | omega | (simp <;> omega)))))), by simp⟩
  case round =>
    obtain ⟨i, hi, rfl, rfl, hB, hsz⟩ := hrel
    by_cases hlt : i < d.ws.length
    · have i1 : (i : Int) < (d.ws.length : Int) := by omega
      obtain ⟨b, off, rfl, hb, q0, q1, q2⟩ := HW.out i hlt
      replace q0 := (hB.out.cell hb).trans q0
      replace q1 := (hB.out.cell hb).trans q1
      replace q2 := (hB.out.cell hb).trans q2
      obtain ⟨x, hx⟩ : ∃ x, x = d.ws.getD i ⟨0, 0, false⟩ := ⟨_, rfl⟩
      have HS := deg_succ (k := k) hlt hx
      rw [← hx] at q0 q1 q2
      have hle := filt_le (touchB k) d.ws i
      have hle : degTo d.ws k i ≤ i := hle
      clear hx
      by_cases e1 : x.a = k
      · rw [touch_1 e1, if_pos rfl] at HS
        have b1 : (x.a == k) = true := by simpa using e1
        have HS := Lib.hid HS
        clear e1
        obtain ⟨D, hD⟩ : ∃ D, D = degTo d.ws k i := ⟨_, rfl⟩
        rw [← hD] at HS hle ⊢
        clear hD
        go_wp2_with fail
        go_roundw
        case rel => exact ⟨i + 1, by omega, by rw [HS.out]; go_num, by go_num, (show Below _ _ _ from Below.alloc hB.out hsz _), by simp; omega⟩
        case measure => simp [intOf]; omega
      · by_cases e2 : x.b = k
        · rw [touch_2 e2, if_pos rfl] at HS
          have b1 : (x.a == k) = false := by simpa using e1
          have b2 : (x.b == k) = true := by simpa using e2
          have HS := Lib.hid HS
          clear e1 e2
          obtain ⟨D, hD⟩ : ∃ D, D = degTo d.ws k i := ⟨_, rfl⟩
          rw [← hD] at HS hle ⊢
          clear hD
          go_wp2_with fail
          go_roundw
          case rel => exact ⟨i + 1, by omega, by rw [HS.out]; go_num, by go_num, (show Below _ _ _ from Below.alloc hB.out hsz _), by simp; omega⟩
          case measure => simp [intOf]; omega
        · rw [touch_0 e1 e2, if_neg (by simp)] at HS
          have b1 : (x.a == k) = false := by simpa using e1
          have b2 : (x.b == k) = false := by simpa using e2
          have HS := Lib.hid HS
          clear e1 e2
          obtain ⟨D, hD⟩ : ∃ D, D = degTo d.ws k i := ⟨_, rfl⟩
          rw [← hD] at HS hle ⊢
          clear hD
          go_wp2_with fail
          go_roundw
          case rel => exact ⟨i + 1, by omega, by rw [HS.out]; rfl, by go_num, (show Below _ _ _ from Below.alloc hB.out hsz _), by simp; omega⟩
          case measure => simp [intOf]; omega
    · have HS := Lib.hid (deg_all (k := k) (show d.ws.length ≤ i by omega))
      have i1 : ¬ (i : Int) < (d.ws.length : Int) := by omega
      have B := hB.out
      go_wp2_with fail
      go_ret
      exact ⟨(by rw [HS.out]; rfl), B⟩
def lessB (x y : EW) : Bool := decide (x.a < y.a) || (decide (x.a = y.a) && decide (x.b < y.b))
theorem less_iff (x y : EW) : lessB x y = true ↔ lessW x y := by unfold lessB lessW; simp
theorem spec_l16Less_any (x y : EW) (w : World) :
    Calls Tryz.prog 40 #[.agg #[.int .i64 x.a, .int .i64 x.b, .bool x.h], .agg #[.int .i64 y.a, .int .i64 y.b, .bool y.h]] w fun e w' => e = .returned (.bool (lessB x y)) ∧ Below w.heap.size w w' := by
  by_cases h1 : x.a < y.a
  · have HR := Lib.hid (show true = lessB x y from by unfold lessB; rw [decide_eq_true h1]; rfl)
    go_enter Tryz.func40, Tryz.ntmps40
    go_wp2_with fail
    go_ret
    exact ⟨ret_bool HR.out, (by repeat (first | exact Below.refl _ _ | assumption | refine Below.drew ?_ | refine below_drewN ?_ _ | refine Below.alloc ?_ (by first | omega | (simp <;> omega)) _ | refine Below.setCell ?_ (by first | omega | (simp <;> omega)) _ | refine Below.trans ?_ (Below.mono (by assumption) (by first | omega | (simp <;> omega)))))⟩
  · by_cases h2 : x.a = y.a
    · have b2 : (x.a == y.a) = true := by simpa using h2
      have HR := Lib.hid (show decide (x.b < y.b) = lessB x y from by unfold lessB; rw [decide_eq_false h1, decide_eq_true h2]; simp)
      clear h2
      go_enter Tryz.func40, Tryz.ntmps40
      go_wp2_with fail
      go_ret
      exact ⟨ret_bool HR.out, (by repeat (first | exact Below.refl _ _ | assumption | refine Below.drew ?_ | refine below_drewN ?_ _ | refine Below.alloc ?_ (by first | omega | (simp <;> omega)) _ | refine Below.setCell ?_ (by first | omega | (simp <;> omega)) _ | refine Below.trans ?_ (Below.mono (by assumption) (by first | omega | (simp <;> omega)))))⟩
    · have b2 : (x.a == y.a) = false := by simpa using h2
      have HR := Lib.hid (show false = lessB x y from by unfold lessB; rw [decide_eq_false h1, decide_eq_false h2]; rfl)
      clear h2
      go_enter Tryz.func40, Tryz.ntmps40
      go_wp2_with fail
      go_ret
      exact ⟨ret_bool HR.out, (by repeat (first | exact Below.refl _ _ | assumption | refine Below.drew ?_ | refine below_drewN ?_ _ | refine Below.alloc ?_ (by first | omega | (simp <;> omega)) _ | refine Below.setCell ?_ (by first | omega | (simp <;> omega)) _ | refine Below.trans ?_ (Below.mono (by assumption) (by first | omega | (simp <;> omega)))))⟩
theorem sameN_1 {a b : Int} {x : E2} (h : x.a = a) (h2 : x.b = b) : sameN a b x = true := by unfold sameN; rw [decide_eq_true h, decide_eq_true h2]; rfl
theorem sameN_2 {a b : Int} {x : E2} (h : ¬ x.a = a) : sameN a b x = false := by unfold sameN; rw [decide_eq_false h]; rfl
theorem sameN_3 {a b : Int} {x : E2} (h : ¬ x.b = b) : sameN a b x = false := by unfold sameN; rw [decide_eq_false h, Bool.and_false]
theorem cnt_succ {ns : List E2} {a b : Int} {i : Nat} {x : E2} (hi : i < ns.length) (hx : x = ns.getD i ⟨0, 0⟩) : cntTo ns a b (i + 1) = cntTo ns a b i + (if sameN a b x = true then 1 else 0) := by
  subst hx; exact filt_succ (sameN a b) ⟨0, 0⟩ ns i hi
theorem cnt_all {ns : List E2} {a b : Int} {i : Nat} (h : ns.length ≤ i) : cntTo ns a b i = cntN ns a b := filt_all _ _ _ h
def endsB (d : Dia) : Prop := ∀ a : Int, 1 ≤ a → a ≤ 2 → ∀ q : Int, 0 ≤ q → q < d.n → cntN d.ns a q = 1
def EndsTo (d : Dia) (A : Int) (Q : Int) : Prop := (∀ a : Int, 1 ≤ a → a < A → ∀ q : Int, 0 ≤ q → q < d.n → cntN d.ns a q = 1) ∧ ∀ q : Int, 0 ≤ q → q < Q → cntN d.ns A q = 1
theorem EndsTo.next {d : Dia} {A Q : Int} (h : EndsTo d A Q) (h2 : cntN d.ns A Q = 1) : EndsTo d A (Q + 1) := by
  refine ⟨h.1, fun q h0 h1 => ?_⟩
  by_cases e : q = Q
  · subst e; exact h2
  · exact h.2 q h0 (by omega)
theorem EndsTo.up {d : Dia} {A Q : Int} (h : EndsTo d A Q) (h2 : d.n ≤ Q) : EndsTo d (A + 1) 0 := by
  refine ⟨fun a h0 h1 q g0 g1 => ?_, fun q h0 h1 => by omega⟩
  by_cases e : a = A
  · subst e; exact h.2 q g0 (by omega)
  · exact h.1 a h0 (by omega) q g0 g1
noncomputable instance (d : Dia) : Decidable (endsS d) := Classical.propDecidable _
theorem ends_yes {d : Dia} {A Q : Int} (h : EndsTo d A Q) (h2 : 2 < A) : true = decide (endsS d) := by
  symm; exact decide_eq_true fun a h0 h1 q g0 g1 => h.1 a h0 (by omega) q g0 g1
theorem ends_no {d : Dia} {A Q : Int} (h0 : 1 ≤ A) (h1 : A ≤ 2) (q0 : 0 ≤ Q) (q1 : Q < d.n) (h : cntN d.ns A Q ≠ 1) : false = decide (endsS d) := by
  symm; exact decide_eq_false fun hh => h (hh A h0 h1 Q q0 q1)
set_option maxHeartbeats 8000000 in
theorem spec_l16Ends_any (d : Dia) (v0 v1 : Value) (w : World) (h0 : RdE w v0 E2.cs 2 d.ns) (h1 : RdE w v1 EW.cs 3 d.ws) (n0 : d.ns.length ≤ 2097152) (hn : d.n ≤ 5) :
    Calls Tryz.prog 42 #[.agg #[.int .i64 d.n, v0, v1, .int .i64 d.turn, .int .i64 d.root]] w fun e w' => e = .returned (.bool (decide (endsS d))) ∧ Below w.heap.size w w' := by
  obtain ⟨A, c, rfl, HN⟩ := e2_at h0
  obtain ⟨A1, c1, rfl, _⟩ := eW_at h1
  clear h0 h1
  go_enter Tryz.func42, Tryz.ntmps42
  go_wp2_with fail
  go_loopw [3] (fun sk wr => ∃ a : Nat, 1 ≤ a ∧ a ≤ 3 ∧ sk = .int .i64 a ∧ Hid (EndsTo d a 0) ∧ Hid (Below w.heap.size w wr) ∧ w.heap.size + 1 ≤ wr.heap.size ∧ wr.cell? ⟨w.heap.size, 0, none⟩ = some (.int .i64 d.n) ∧ wr.cell? ⟨w.heap.size, 1, none⟩ = some (.slice A d.ns.length c)) (fun sk _ => 3 - (intOf sk).toNat)
  case atStart => exact ⟨1, by decide, by decide, rfl, (show EndsTo _ _ _ from ⟨fun a h0 h1 => by omega, fun q h0 h1 => by omega⟩), (show Below _ _ _ from (by repeat (first | exact Below.refl _ _ | assumption | refine Below.drew ?_ | refine below_drewN ?_ _ | refine Below.alloc ?_ (by first | omega | (simp <;> omega)) _ | refine Below.setCell ?_ (by first | omega | (simp <;> omega)) _ | refine Below.trans ?_ (Below.mono (by assumption) (by first | omega | (simp <;> omega)))))), by simp, (by repeat (first | (refine Eq.trans (World.cell?_alloc_at _ _ _ _ ?hh) ?_; (case hh => (simp; done)); rfl) | refine cell_alloc_keep _ ?_)), (by repeat (first | (refine Eq.trans (World.cell?_alloc_at _ _ _ _ ?hh) ?_; (case hh => (simp; done)); rfl) | refine cell_alloc_keep _ ?_))⟩
  case round =>
    obtain ⟨a, ha1, ha3, rfl, hE, hB, hsz, x0, x1⟩ := hrel
    by_cases hla : a ≤ 2
    · have i1 : (a : Int) ≤ 2 := by omega
      obtain ⟨wo, rfl⟩ : ∃ wo : World, wo = wr := ⟨_, rfl⟩
      go_wp2_with fail
      go_loopw [4] (fun sq wr => ∃ q : Nat, q ≤ 5 ∧ sq = .int .i64 q ∧ Hid (EndsTo d a q) ∧ Hid (Below w.heap.size w wr) ∧ w.heap.size + 1 ≤ wr.heap.size ∧ wr.cell? ⟨w.heap.size, 0, none⟩ = some (.int .i64 d.n) ∧ wr.cell? ⟨w.heap.size, 1, none⟩ = some (.slice A d.ns.length c)) (fun sq _ => 5 - (intOf sq).toNat)
      case atStart => exact ⟨0, by decide, rfl, hE, hB, hsz, x0, x1⟩
      case round =>
        clear hE hB hsz x0 x1
        obtain ⟨q, hq, rfl, hE, hB, hsz, x0, x1⟩ := hrel
        by_cases hlq : (q : Int) < d.n
        · obtain ⟨wo2, rfl⟩ : ∃ wo : World, wo = wr := ⟨_, rfl⟩
          go_wp2_with fail
          go_loopw [5, 21] (fun sn si wr => ∃ i : Nat, i ≤ d.ns.length ∧ sn = .int .i64 (cntTo d.ns a q i : Nat) ∧ si = .int .i64 i ∧ Hid (Below w.heap.size w wr) ∧ w.heap.size + 1 ≤ wr.heap.size ∧ wr.cell? ⟨w.heap.size, 0, none⟩ = some (.int .i64 d.n) ∧ wr.cell? ⟨w.heap.size, 1, none⟩ = some (.slice A d.ns.length c)) (fun _ si _ => d.ns.length - (intOf si).toNat)
          case atStart => exact ⟨0, Nat.zero_le _, rfl, rfl, hB, hsz, x0, x1⟩
          case round =>
            clear hB hsz x0 x1
            obtain ⟨i, hi, rfl, rfl, hB, hsz, x0, x1⟩ := hrel
            by_cases hlt : i < d.ns.length
            · have i2 : (i : Int) < (d.ns.length : Int) := by omega
              obtain ⟨b, off, rfl, hb, q0, q1⟩ := HN.out i hlt
              replace q0 := (hB.out.cell hb).trans q0
              replace q1 := (hB.out.cell hb).trans q1
              obtain ⟨x, hx⟩ : ∃ x, x = d.ns.getD i ⟨0, 0⟩ := ⟨_, rfl⟩
              have HS := cnt_succ (a := (a : Int)) (b := (q : Int)) hlt hx
              rw [← hx] at q0 q1
              have hle : cntTo d.ns a q i ≤ i := filt_le _ d.ns i
              clear hx
              obtain ⟨D, hD⟩ : ∃ D, D = cntTo d.ns a q i := ⟨_, rfl⟩
              rw [← hD] at HS hle ⊢
              clear hD
              by_cases e1 : x.a = a
              · by_cases e2 : x.b = q
                · rw [sameN_1 e1 e2, if_pos rfl] at HS
                  have b1 : (x.a == (a : Int)) = true := by simpa using e1
                  have b2 : (x.b == (q : Int)) = true := by simpa using e2
                  have HS := Lib.hid HS
                  clear e1 e2
                  go_wp2_with fail
                  go_roundw
                  case rel => exact ⟨i + 1, by omega, by rw [HS.out]; go_num, by go_num, (show Below _ _ _ from Below.alloc hB.out (by omega) _), by simp; omega, cell_alloc_keep _ x0, cell_alloc_keep _ x1⟩
                  case measure => simp [intOf]; omega
                · rw [sameN_3 e2, if_neg (by simp)] at HS
                  have b1 : (x.a == (a : Int)) = true := by simpa using e1
                  have b2 : (x.b == (q : Int)) = false := by simpa using e2
                  have HS := Lib.hid HS
                  clear e1 e2
                  go_wp2_with fail
                  go_roundw
                  case rel => exact ⟨i + 1, by omega, by rw [HS.out]; rfl, by go_num, (show Below _ _ _ from Below.alloc hB.out (by omega) _), by simp; omega, cell_alloc_keep _ x0, cell_alloc_keep _ x1⟩
                  case measure => simp [intOf]; omega
              · rw [sameN_2 e1, if_neg (by simp)] at HS
                have b1 : (x.a == (a : Int)) = false := by simpa using e1
                have HS := Lib.hid HS
                clear e1
                go_wp2_with fail
                go_roundw
                case rel => exact ⟨i + 1, by omega, by rw [HS.out]; rfl, by go_num, (show Below _ _ _ from Below.alloc hB.out (by omega) _), by simp; omega, cell_alloc_keep _ x0, cell_alloc_keep _ x1⟩
                case measure => simp [intOf]; omega
            · have i2 : ¬ (i : Int) < (d.ns.length : Int) := by omega
              rw [cnt_all (show d.ns.length ≤ i by omega)]
              have hcl : cntN d.ns a q ≤ 2097152 := Nat.le_trans (List.length_filter_le _ _) n0
              by_cases e1 : cntN d.ns a q = 1
              · have HE := Lib.hid (hE.out.next (show cntN d.ns a q = 1 from e1))
                have b1 : (((cntN d.ns a q : Nat) : Int) != 1) = false := by simp [e1]
                obtain ⟨D, hD⟩ : ∃ D, D = cntN d.ns a q := ⟨_, rfl⟩
                rw [← hD] at b1 hcl ⊢
                clear hD e1
                go_wp2_with fail
                go_roundw
                case rel => exact ⟨q + 1, by omega, by go_num, HE, hB, hsz, x0, x1⟩
                case measure => simp [intOf]; omega
              · have HR := Lib.hid (ends_no (d := d) (A := a) (Q := q) (by omega) i1 (by omega) hlq e1)
                have b1 : (((cntN d.ns a q : Nat) : Int) != 1) = true := by simp; omega
                obtain ⟨D, hD⟩ : ∃ D, D = cntN d.ns a q := ⟨_, rfl⟩
                rw [← hD] at b1 hcl ⊢
                clear hD e1
                have B := hB.out
                go_wp2_with fail
                go_ret
                exact ⟨ret_bool HR.out, B⟩
        · have HE := Lib.hid (hE.out.up (show d.n ≤ (q : Int) by omega))
          go_wp2_with fail
          go_roundw
          case rel => exact ⟨a + 1, by omega, by omega, by go_num, HE, hB, hsz, x0, x1⟩
          case measure => simp [intOf]; omega
    · have i1 : ¬ (a : Int) ≤ 2 := by omega
      have HR := Lib.hid (ends_yes hE.out (by omega))
      have B := hB.out
      go_wp2_with fail
      go_ret
      exact ⟨ret_bool HR.out, B⟩
end Go.Proofs.YtliophgfgmjhiaaGreatDoor
