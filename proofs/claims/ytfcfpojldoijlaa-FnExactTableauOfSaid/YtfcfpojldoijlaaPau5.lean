/- Commuting in the reference; a valid operator in both. -/
import Derived.Test.YtfcfpojldoijlaaPau4
import Derived.Deep.RegionHeld3
namespace Go.Proofs.Ytfcfpojldoijlaa
set_option linter.unusedSimpArgs false
set_option linter.unusedVariables false
set_option linter.unnecessarySimpa false
set_option maxRecDepth 200000
open Go.ChangeShapes Go.WideShapes Go.ChangeAt Go.RowKit

set_option maxHeartbeats 2000000 in
theorem spec_l7Commute_any (a b : PN) (w : World) (ha : PNok a) (hb : PNok b) :
    Calls Try.prog 91 #[.agg #[.int .i64 ((a).p : Int), .int .i64 ((a).x : Int), .int .i64 ((a).z : Int)], .agg #[.int .i64 ((b).p : Int), .int .i64 ((b).x : Int), .int .i64 ((b).z : Int)]] w fun e w' => e = .returned (.bool (commN a b)) ∧ Below w.heap.size w w' := by
  have hce := comm_iff a b
  have C1 : Hid (∀ W : World, Calls Try.prog 136 #[.agg #[.int .i64 ((a).p : Int), .int .i64 ((a).x : Int), .int .i64 ((a).z : Int)], .agg #[.int .i64 ((b).p : Int), .int .i64 ((b).x : Int), .int .i64 ((b).z : Int)]] W fun e w' => e = .returned (.agg #[.int .i64 (((mulN a b).p : Nat) : Int), .int .i64 ((((mulN a b).x) : Nat) : Int), .int .i64 ((((mulN a b).z) : Nat) : Int)]) ∧ Below W.heap.size W w') := Lib.hid (fun W => spec_l7Mul_any a b W ha hb)
  have C2 : Hid (∀ W : World, Calls Try.prog 136 #[.agg #[.int .i64 ((b).p : Int), .int .i64 ((b).x : Int), .int .i64 ((b).z : Int)], .agg #[.int .i64 ((a).p : Int), .int .i64 ((a).x : Int), .int .i64 ((a).z : Int)]] W fun e w' => e = .returned (.agg #[.int .i64 (((mulN b a).p : Nat) : Int), .int .i64 ((((mulN a b).x) : Nat) : Int), .int .i64 ((((mulN a b).z) : Nat) : Int)]) ∧ Below W.heap.size W w') := Lib.hid (fun W => by
    have h := spec_l7Mul_any b a W hb ha
    rw [show (mulN b a).x = (mulN a b).x from Nat.xor_comm _ _, show (mulN b a).z = (mulN a b).z from Nat.xor_comm _ _] at h
    exact h)
  have hpp : commN a b = decide ((mulN a b).p = (mulN b a).p) := by
    rw [Bool.eq_iff_iff, ← hce, decide_eq_true_eq]
    exact ⟨fun h => by rw [h], fun h => PN.eq_of h (Nat.xor_comm _ _) (Nat.xor_comm _ _)⟩
  rw [hpp]
  clear hpp hce ha hb
  generalize (mulN a b).p = p1 at *
  generalize (mulN b a).p = p2 at *
  generalize (mulN a b).x = X at *
  generalize (mulN a b).z = Z at *
  by_cases hp : p1 = p2
  · subst hp
    rw [show decide (p1 = p1) = true from decide_eq_true rfl]
    go_enter Try.func91, Try.ntmps91
    go_wp2_with fail
    have a0 : ((w.alloc (.cells #[.int .i64 ((a).p : Int), .int .i64 ((a).x : Int), .int .i64 ((a).z : Int)] 84)).alloc (.cells #[.int .i64 ((b).p : Int), .int .i64 ((b).x : Int), .int .i64 ((b).z : Int)] 84)).cell? ⟨w.heap.size, 0, none⟩ = some (.int .i64 (a.p : Int)) := (by repeat (first | (refine Eq.trans (World.cell?_alloc_at _ _ _ _ ?hh) ?_; (case hh => (simp; done)); rfl) | refine cell_alloc_keep _ ?_))
    have a1 : ((w.alloc (.cells #[.int .i64 ((a).p : Int), .int .i64 ((a).x : Int), .int .i64 ((a).z : Int)] 84)).alloc (.cells #[.int .i64 ((b).p : Int), .int .i64 ((b).x : Int), .int .i64 ((b).z : Int)] 84)).cell? ⟨w.heap.size, 1, none⟩ = some (.int .i64 (a.x : Int)) := (by repeat (first | (refine Eq.trans (World.cell?_alloc_at _ _ _ _ ?hh) ?_; (case hh => (simp; done)); rfl) | refine cell_alloc_keep _ ?_))
    have a2 : ((w.alloc (.cells #[.int .i64 ((a).p : Int), .int .i64 ((a).x : Int), .int .i64 ((a).z : Int)] 84)).alloc (.cells #[.int .i64 ((b).p : Int), .int .i64 ((b).x : Int), .int .i64 ((b).z : Int)] 84)).cell? ⟨w.heap.size, 2, none⟩ = some (.int .i64 (a.z : Int)) := (by repeat (first | (refine Eq.trans (World.cell?_alloc_at _ _ _ _ ?hh) ?_; (case hh => (simp; done)); rfl) | refine cell_alloc_keep _ ?_))
    have b0 : ((w.alloc (.cells #[.int .i64 ((a).p : Int), .int .i64 ((a).x : Int), .int .i64 ((a).z : Int)] 84)).alloc (.cells #[.int .i64 ((b).p : Int), .int .i64 ((b).x : Int), .int .i64 ((b).z : Int)] 84)).cell? ⟨w.heap.size + 1, 0, none⟩ = some (.int .i64 (b.p : Int)) := (by repeat (first | (refine Eq.trans (World.cell?_alloc_at _ _ _ _ ?hh) ?_; (case hh => (simp; done)); rfl) | refine cell_alloc_keep _ ?_))
    have b1 : ((w.alloc (.cells #[.int .i64 ((a).p : Int), .int .i64 ((a).x : Int), .int .i64 ((a).z : Int)] 84)).alloc (.cells #[.int .i64 ((b).p : Int), .int .i64 ((b).x : Int), .int .i64 ((b).z : Int)] 84)).cell? ⟨w.heap.size + 1, 1, none⟩ = some (.int .i64 (b.x : Int)) := (by repeat (first | (refine Eq.trans (World.cell?_alloc_at _ _ _ _ ?hh) ?_; (case hh => (simp; done)); rfl) | refine cell_alloc_keep _ ?_))
    have b2 : ((w.alloc (.cells #[.int .i64 ((a).p : Int), .int .i64 ((a).x : Int), .int .i64 ((a).z : Int)] 84)).alloc (.cells #[.int .i64 ((b).p : Int), .int .i64 ((b).x : Int), .int .i64 ((b).z : Int)] 84)).cell? ⟨w.heap.size + 1, 2, none⟩ = some (.int .i64 (b.z : Int)) := (by repeat (first | (refine Eq.trans (World.cell?_alloc_at _ _ _ _ ?hh) ?_; (case hh => (simp; done)); rfl) | refine cell_alloc_keep _ ?_))
    go_region_held3 (fun w' => w'.cell? ⟨w.heap.size, 0, none⟩ = some (.int .i64 (a.p : Int)) ∧ w'.cell? ⟨w.heap.size, 1, none⟩ = some (.int .i64 (a.x : Int)) ∧ w'.cell? ⟨w.heap.size, 2, none⟩ = some (.int .i64 (a.z : Int)) ∧ w'.cell? ⟨w.heap.size + 1, 0, none⟩ = some (.int .i64 (b.p : Int)) ∧ w'.cell? ⟨w.heap.size + 1, 1, none⟩ = some (.int .i64 (b.x : Int)) ∧ w'.cell? ⟨w.heap.size + 1, 2, none⟩ = some (.int .i64 (b.z : Int))) (first | go_keep | (go_split_ands; refine ⟨?_, ?_, ?_, ?_, ?_, ?_⟩ <;> first | (refine below_cell hb1 rfl ?_; assumption) | (refine below_cell hb2 rfl ?_; assumption))) ((go_at_call 136; (first | ((with_reducible refine (C1.out _).mono ?_); rintro e w1 ⟨rfl, hb1⟩) | ((with_reducible refine (C2.out _).mono ?_); rintro e w2 ⟨rfl, hb2⟩))))
    go_wp2_with fail
    go_ret
    have z1 := hb1.size; (try simp at z1)
    exact ⟨rfl, (by repeat (first | exact Below.refl _ _ | assumption | refine Below.drew ?_ | refine below_drewN ?_ _ | refine Below.alloc ?_ (by first | omega | (simp <;> omega)) _ | refine Below.setCell ?_ (by first | omega | (simp <;> omega)) _ | refine Below.trans ?_ (Below.mono (by assumption) (by first | omega | (simp <;> omega)))))⟩
  · have D := Lib.hid (decide_eq_false hp)
    have hq : ((p1 : Int) == (p2 : Int)) = false := by simpa using (fun h : (p1 : Int) = p2 => hp (by omega))
    rw [D.out]
    clear hp D
    go_enter Try.func91, Try.ntmps91
    go_wp2_with fail
    have a0 : ((w.alloc (.cells #[.int .i64 ((a).p : Int), .int .i64 ((a).x : Int), .int .i64 ((a).z : Int)] 84)).alloc (.cells #[.int .i64 ((b).p : Int), .int .i64 ((b).x : Int), .int .i64 ((b).z : Int)] 84)).cell? ⟨w.heap.size, 0, none⟩ = some (.int .i64 (a.p : Int)) := (by repeat (first | (refine Eq.trans (World.cell?_alloc_at _ _ _ _ ?hh) ?_; (case hh => (simp; done)); rfl) | refine cell_alloc_keep _ ?_))
    have a1 : ((w.alloc (.cells #[.int .i64 ((a).p : Int), .int .i64 ((a).x : Int), .int .i64 ((a).z : Int)] 84)).alloc (.cells #[.int .i64 ((b).p : Int), .int .i64 ((b).x : Int), .int .i64 ((b).z : Int)] 84)).cell? ⟨w.heap.size, 1, none⟩ = some (.int .i64 (a.x : Int)) := (by repeat (first | (refine Eq.trans (World.cell?_alloc_at _ _ _ _ ?hh) ?_; (case hh => (simp; done)); rfl) | refine cell_alloc_keep _ ?_))
    have a2 : ((w.alloc (.cells #[.int .i64 ((a).p : Int), .int .i64 ((a).x : Int), .int .i64 ((a).z : Int)] 84)).alloc (.cells #[.int .i64 ((b).p : Int), .int .i64 ((b).x : Int), .int .i64 ((b).z : Int)] 84)).cell? ⟨w.heap.size, 2, none⟩ = some (.int .i64 (a.z : Int)) := (by repeat (first | (refine Eq.trans (World.cell?_alloc_at _ _ _ _ ?hh) ?_; (case hh => (simp; done)); rfl) | refine cell_alloc_keep _ ?_))
    have b0 : ((w.alloc (.cells #[.int .i64 ((a).p : Int), .int .i64 ((a).x : Int), .int .i64 ((a).z : Int)] 84)).alloc (.cells #[.int .i64 ((b).p : Int), .int .i64 ((b).x : Int), .int .i64 ((b).z : Int)] 84)).cell? ⟨w.heap.size + 1, 0, none⟩ = some (.int .i64 (b.p : Int)) := (by repeat (first | (refine Eq.trans (World.cell?_alloc_at _ _ _ _ ?hh) ?_; (case hh => (simp; done)); rfl) | refine cell_alloc_keep _ ?_))
    have b1 : ((w.alloc (.cells #[.int .i64 ((a).p : Int), .int .i64 ((a).x : Int), .int .i64 ((a).z : Int)] 84)).alloc (.cells #[.int .i64 ((b).p : Int), .int .i64 ((b).x : Int), .int .i64 ((b).z : Int)] 84)).cell? ⟨w.heap.size + 1, 1, none⟩ = some (.int .i64 (b.x : Int)) := (by repeat (first | (refine Eq.trans (World.cell?_alloc_at _ _ _ _ ?hh) ?_; (case hh => (simp; done)); rfl) | refine cell_alloc_keep _ ?_))
    have b2 : ((w.alloc (.cells #[.int .i64 ((a).p : Int), .int .i64 ((a).x : Int), .int .i64 ((a).z : Int)] 84)).alloc (.cells #[.int .i64 ((b).p : Int), .int .i64 ((b).x : Int), .int .i64 ((b).z : Int)] 84)).cell? ⟨w.heap.size + 1, 2, none⟩ = some (.int .i64 (b.z : Int)) := (by repeat (first | (refine Eq.trans (World.cell?_alloc_at _ _ _ _ ?hh) ?_; (case hh => (simp; done)); rfl) | refine cell_alloc_keep _ ?_))
    go_region_held3 (fun w' => w'.cell? ⟨w.heap.size, 0, none⟩ = some (.int .i64 (a.p : Int)) ∧ w'.cell? ⟨w.heap.size, 1, none⟩ = some (.int .i64 (a.x : Int)) ∧ w'.cell? ⟨w.heap.size, 2, none⟩ = some (.int .i64 (a.z : Int)) ∧ w'.cell? ⟨w.heap.size + 1, 0, none⟩ = some (.int .i64 (b.p : Int)) ∧ w'.cell? ⟨w.heap.size + 1, 1, none⟩ = some (.int .i64 (b.x : Int)) ∧ w'.cell? ⟨w.heap.size + 1, 2, none⟩ = some (.int .i64 (b.z : Int))) (first | go_keep | (go_split_ands; refine ⟨?_, ?_, ?_, ?_, ?_, ?_⟩ <;> first | (refine below_cell hb1 rfl ?_; assumption) | (refine below_cell hb2 rfl ?_; assumption))) ((go_at_call 136; (first | ((with_reducible refine (C1.out _).mono ?_); rintro e w1 ⟨rfl, hb1⟩) | ((with_reducible refine (C2.out _).mono ?_); rintro e w2 ⟨rfl, hb2⟩))))
    go_wp2_with fail
    go_ret
    have z1 := hb1.size; (try simp at z1)
    exact ⟨rfl, (by repeat (first | exact Below.refl _ _ | assumption | refine Below.drew ?_ | refine below_drewN ?_ _ | refine Below.alloc ?_ (by first | omega | (simp <;> omega)) _ | refine Below.setCell ?_ (by first | omega | (simp <;> omega)) _ | refine Below.trans ?_ (Below.mono (by assumption) (by first | omega | (simp <;> omega)))))⟩
end Go.Proofs.Ytfcfpojldoijlaa
