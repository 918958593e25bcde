/- Commuting in the reference; a valid operator in both. -/
import Derived.Test.YtnckabohlakbgaaGreatZ07Pau4
import Derived.Deep.RegionHeld3
namespace Go.Proofs.YtnckabohlakbgaaGreat
set_option linter.unusedSimpArgs false
set_option linter.unusedVariables false
set_option linter.unnecessarySimpa false
set_option maxRecDepth 200000
open Go.ChangeShapes Go.WideShapes Go.ChangeAt Go.RowKit

set_option maxHeartbeats 2000000 in
theorem spec_l7Commute_any (a b : PN) (w : World) (ha : PNok a) (hb : PNok b) :
    Calls Tryz.prog 73 #[.agg #[.int .i64 ((a).p : Int), .int .i64 ((a).x : Int), .int .i64 ((a).z : Int)], .agg #[.int .i64 ((b).p : Int), .int .i64 ((b).x : Int), .int .i64 ((b).z : Int)]] w fun e w' => e = .returned (.bool (commN a b)) ∧ Below w.heap.size w w' := by
  have hce := comm_iff a b
  have C1 : Hid (∀ W : World, Calls Tryz.prog 75 #[.agg #[.int .i64 ((a).p : Int), .int .i64 ((a).x : Int), .int .i64 ((a).z : Int)], .agg #[.int .i64 ((b).p : Int), .int .i64 ((b).x : Int), .int .i64 ((b).z : Int)]] W fun e w' => e = .returned (.agg #[.int .i64 (((mulN a b).p : Nat) : Int), .int .i64 ((((mulN a b).x) : Nat) : Int), .int .i64 ((((mulN a b).z) : Nat) : Int)]) ∧ Below W.heap.size W w') := Lib.hid (fun W => spec_l7Mul_any a b W ha hb)
  have C2 : Hid (∀ W : World, Calls Tryz.prog 75 #[.agg #[.int .i64 ((b).p : Int), .int .i64 ((b).x : Int), .int .i64 ((b).z : Int)], .agg #[.int .i64 ((a).p : Int), .int .i64 ((a).x : Int), .int .i64 ((a).z : Int)]] W fun e w' => e = .returned (.agg #[.int .i64 (((mulN b a).p : Nat) : Int), .int .i64 ((((mulN a b).x) : Nat) : Int), .int .i64 ((((mulN a b).z) : Nat) : Int)]) ∧ Below W.heap.size W w') := Lib.hid (fun W => by
    have h := spec_l7Mul_any b a W hb ha
    rw [show (mulN b a).x = (mulN a b).x from Nat.xor_comm _ _, show (mulN b a).z = (mulN a b).z from Nat.xor_comm _ _] at h
    exact h)
  have hpp : commN a b = decide ((mulN a b).p = (mulN b a).p) := by
    rw [Bool.eq_iff_iff, ← hce, decide_eq_true_eq]
    exact ⟨fun h => by rw [h], fun h => PN.eq_of h (Nat.xor_comm _ _) (Nat.xor_comm _ _)⟩
  rw [hpp]
  clear hpp hce ha hb
  generalize (mulN a b).p = p1 at *
  generalize (mulN b a).p = p2 at *
  generalize (mulN a b).x = X at *
  generalize (mulN a b).z = Z at *
  by_cases hp : p1 = p2
  · subst hp
    rw [show decide (p1 = p1) = true from decide_eq_true rfl]
    go_enter Tryz.func73, Tryz.ntmps73
    go_wp2_with fail
    have a0 : ((w.alloc (.cells #[.int .i64 ((a).p : Int), .int .i64 ((a).x : Int), .int .i64 ((a).z : Int)] 33)).alloc (.cells #[.int .i64 ((b).p : Int), .int .i64 ((b).x : Int), .int .i64 ((b).z : Int)] 33)).cell? ⟨w.heap.size, 0, none⟩ = some (.int .i64 (a.p : Int)) := cela
    have a1 : ((w.alloc (.cells #[.int .i64 ((a).p : Int), .int .i64 ((a).x : Int), .int .i64 ((a).z : Int)] 33)).alloc (.cells #[.int .i64 ((b).p : Int), .int .i64 ((b).x : Int), .int .i64 ((b).z : Int)] 33)).cell? ⟨w.heap.size, 1, none⟩ = some (.int .i64 (a.x : Int)) := cela
    have a2 : ((w.alloc (.cells #[.int .i64 ((a).p : Int), .int .i64 ((a).x : Int), .int .i64 ((a).z : Int)] 33)).alloc (.cells #[.int .i64 ((b).p : Int), .int .i64 ((b).x : Int), .int .i64 ((b).z : Int)] 33)).cell? ⟨w.heap.size, 2, none⟩ = some (.int .i64 (a.z : Int)) := cela
    have b0 : ((w.alloc (.cells #[.int .i64 ((a).p : Int), .int .i64 ((a).x : Int), .int .i64 ((a).z : Int)] 33)).alloc (.cells #[.int .i64 ((b).p : Int), .int .i64 ((b).x : Int), .int .i64 ((b).z : Int)] 33)).cell? ⟨w.heap.size + 1, 0, none⟩ = some (.int .i64 (b.p : Int)) := cela
    have b1 : ((w.alloc (.cells #[.int .i64 ((a).p : Int), .int .i64 ((a).x : Int), .int .i64 ((a).z : Int)] 33)).alloc (.cells #[.int .i64 ((b).p : Int), .int .i64 ((b).x : Int), .int .i64 ((b).z : Int)] 33)).cell? ⟨w.heap.size + 1, 1, none⟩ = some (.int .i64 (b.x : Int)) := cela
    have b2 : ((w.alloc (.cells #[.int .i64 ((a).p : Int), .int .i64 ((a).x : Int), .int .i64 ((a).z : Int)] 33)).alloc (.cells #[.int .i64 ((b).p : Int), .int .i64 ((b).x : Int), .int .i64 ((b).z : Int)] 33)).cell? ⟨w.heap.size + 1, 2, none⟩ = some (.int .i64 (b.z : Int)) := cela
    go_region_held3 (fun w' => w'.cell? ⟨w.heap.size, 0, none⟩ = some (.int .i64 (a.p : Int)) ∧ w'.cell? ⟨w.heap.size, 1, none⟩ = some (.int .i64 (a.x : Int)) ∧ w'.cell? ⟨w.heap.size, 2, none⟩ = some (.int .i64 (a.z : Int)) ∧ w'.cell? ⟨w.heap.size + 1, 0, none⟩ = some (.int .i64 (b.p : Int)) ∧ w'.cell? ⟨w.heap.size + 1, 1, none⟩ = some (.int .i64 (b.x : Int)) ∧ w'.cell? ⟨w.heap.size + 1, 2, none⟩ = some (.int .i64 (b.z : Int))) (first | go_keep | (go_split_ands; refine ⟨?_, ?_, ?_, ?_, ?_, ?_⟩ <;> first | (refine below_cell hb1 rfl ?_; assumption) | (refine below_cell hb2 rfl ?_; assumption))) ((go_at_call 75; (first | ((with_reducible refine (C1.out _).mono ?_); rintro e w1 ⟨rfl, hb1⟩) | ((with_reducible refine (C2.out _).mono ?_); rintro e w2 ⟨rfl, hb2⟩))))
    go_wp2_with fail
    go_ret
    have z1 := hb1.size; (try simp at z1)
    exact ⟨rfl, belo⟩
  · have D := Lib.hid (decide_eq_false hp)
    have hq : ((p1 : Int) == (p2 : Int)) = false := by simpa using (fun h : (p1 : Int) = p2 => hp (by omega))
    rw [D.out]
    clear hp D
    go_enter Tryz.func73, Tryz.ntmps73
    go_wp2_with fail
    have a0 : ((w.alloc (.cells #[.int .i64 ((a).p : Int), .int .i64 ((a).x : Int), .int .i64 ((a).z : Int)] 33)).alloc (.cells #[.int .i64 ((b).p : Int), .int .i64 ((b).x : Int), .int .i64 ((b).z : Int)] 33)).cell? ⟨w.heap.size, 0, none⟩ = some (.int .i64 (a.p : Int)) := cela
    have a1 : ((w.alloc (.cells #[.int .i64 ((a).p : Int), .int .i64 ((a).x : Int), .int .i64 ((a).z : Int)] 33)).alloc (.cells #[.int .i64 ((b).p : Int), .int .i64 ((b).x : Int), .int .i64 ((b).z : Int)] 33)).cell? ⟨w.heap.size, 1, none⟩ = some (.int .i64 (a.x : Int)) := cela
    have a2 : ((w.alloc (.cells #[.int .i64 ((a).p : Int), .int .i64 ((a).x : Int), .int .i64 ((a).z : Int)] 33)).alloc (.cells #[.int .i64 ((b).p : Int), .int .i64 ((b).x : Int), .int .i64 ((b).z : Int)] 33)).cell? ⟨w.heap.size, 2, none⟩ = some (.int .i64 (a.z : Int)) := cela
    have b0 : ((w.alloc (.cells #[.int .i64 ((a).p : Int), .int .i64 ((a).x : Int), .int .i64 ((a).z : Int)] 33)).alloc (.cells #[.int .i64 ((b).p : Int), .int .i64 ((b).x : Int), .int .i64 ((b).z : Int)] 33)).cell? ⟨w.heap.size + 1, 0, none⟩ = some (.int .i64 (b.p : Int)) := cela
    have b1 : ((w.alloc (.cells #[.int .i64 ((a).p : Int), .int .i64 ((a).x : Int), .int .i64 ((a).z : Int)] 33)).alloc (.cells #[.int .i64 ((b).p : Int), .int .i64 ((b).x : Int), .int .i64 ((b).z : Int)] 33)).cell? ⟨w.heap.size + 1, 1, none⟩ = some (.int .i64 (b.x : Int)) := cela
    have b2 : ((w.alloc (.cells #[.int .i64 ((a).p : Int), .int .i64 ((a).x : Int), .int .i64 ((a).z : Int)] 33)).alloc (.cells #[.int .i64 ((b).p : Int), .int .i64 ((b).x : Int), .int .i64 ((b).z : Int)] 33)).cell? ⟨w.heap.size + 1, 2, none⟩ = some (.int .i64 (b.z : Int)) := cela
    go_region_held3 (fun w' => w'.cell? ⟨w.heap.size, 0, none⟩ = some (.int .i64 (a.p : Int)) ∧ w'.cell? ⟨w.heap.size, 1, none⟩ = some (.int .i64 (a.x : Int)) ∧ w'.cell? ⟨w.heap.size, 2, none⟩ = some (.int .i64 (a.z : Int)) ∧ w'.cell? ⟨w.heap.size + 1, 0, none⟩ = some (.int .i64 (b.p : Int)) ∧ w'.cell? ⟨w.heap.size + 1, 1, none⟩ = some (.int .i64 (b.x : Int)) ∧ w'.cell? ⟨w.heap.size + 1, 2, none⟩ = some (.int .i64 (b.z : Int))) (first | go_keep | (go_split_ands; refine ⟨?_, ?_, ?_, ?_, ?_, ?_⟩ <;> first | (refine below_cell hb1 rfl ?_; assumption) | (refine below_cell hb2 rfl ?_; assumption))) ((go_at_call 75; (first | ((with_reducible refine (C1.out _).mono ?_); rintro e w1 ⟨rfl, hb1⟩) | ((with_reducible refine (C2.out _).mono ?_); rintro e w2 ⟨rfl, hb2⟩))))
    go_wp2_with fail
    go_ret
    have z1 := hb1.size; (try simp at z1)
    exact ⟨rfl, belo⟩
end Go.Proofs.YtnckabohlakbgaaGreat
namespace Go.Proofs.YtnckabohlakbgaaGreat
set_option linter.unusedSimpArgs false
set_option linter.unusedVariables false
set_option linter.unnecessarySimpa false
set_option maxRecDepth 200000
open Go.ChangeShapes Go.WideShapes Go.ChangeAt Go.RowKit

theorem within_is {x lo hi : Int} {b : Bool} (h : inB x lo hi = b) (w : World) :
    Calls Tryz.prog 39 #[.int .i64 x, .int .i64 lo, .int .i64 hi] w fun e w' => e = .returned (.bool b) ∧ w = w' := by
  rw [← h]; exact within_any x lo hi w
theorem l1In_is {x lo hi : Int} {b : Bool} (h : inB x lo hi = b) (w : World) :
    Calls Tryz.prog 72 #[.int .i64 x, .int .i64 lo, .int .i64 hi] w fun e w' => e = .returned (.bool b) ∧ w = w' := by
  rw [← h]; exact l1In_any x lo hi w
theorem pauB_eq {m : Nat} {g : E3} (h0 : 1 ≤ m) (h1 : m ≤ 5) : pauB (m : Int) g = (inB g.a 0 3 && (inB g.b 0 (2 ^ m - 1) && inB g.c 0 (2 ^ m - 1))) := by
  unfold pauB PauOk
  rw [Bool.eq_iff_iff]
  simp only [decide_eq_true_eq, Bool.and_eq_true, inB, Int.toNat_natCast]
  constructor
  · rintro ⟨_, a, b, c⟩; exact ⟨a, b, c⟩
  · rintro ⟨a, b, c⟩; exact ⟨by omega, a, b, c⟩
theorem pauB_n {n : Int} {g : E3} (h : ¬ (1 ≤ n ∧ n ≤ 5)) : pauB n g = false := decide_eq_false fun k => h k.1
theorem pow_small5 {m : Nat} (h : m ≤ 5) : (2 : Int) ^ m ≤ 32 ∧ 1 ≤ (2 : Int) ^ m := by
  obtain rfl | rfl | rfl | rfl | rfl | rfl : m = 0 ∨ m = 1 ∨ m = 2 ∨ m = 3 ∨ m = 4 ∨ m = 5 := by omega
  all_goals decide
set_option maxHeartbeats 1000000 in
theorem impl_IsValidPauli_any (n : Int) (g : E3) (w : World) :
    Calls Tryz.prog 32 #[.int .i64 n, .agg #[.int .i64 g.a, .int .i64 g.b, .int .i64 g.c]] w fun e w' => e = .returned (.bool (pauB n g)) ∧ Below w.heap.size w w' := by
  by_cases hn : 1 ≤ n ∧ n ≤ 5
  · obtain ⟨m, rfl⟩ : ∃ m : Nat, n = (m : Int) := ⟨n.toNat, by omega⟩
    have N1 := Lib.hid (show inB (m : Int) 1 5 = true from by simpa [inB] using hn)
    rw [pauB_eq (by omega) (by omega)]
    obtain ⟨p1, p2⟩ := pow_small5 (show m ≤ 5 by omega)
    have hw : IntKind.i64.wrap ((2 : Int) ^ m) = (2 : Int) ^ m := IntWalk.i64_in _ (by omega)
    have hw2 : IntKind.i64.wrap ((2 : Int) ^ m - 1) = (2 : Int) ^ m - 1 := IntWalk.i64_in _ (by omega)
    have m0 : (0 : Int) ≤ m := by omega
    have m1 : (m : Int) ≤ 5 := by omega
    obtain ⟨a, b, c⟩ := g
    dsimp only
    clear hn
    obtain ⟨M, hM⟩ : ∃ M : Int, (2 : Int) ^ m - 1 = M := ⟨_, rfl⟩
    rw [hM]
    cases h1 : inB a 0 3 <;> cases h2 : inB b 0 M <;> cases h3 : inB c 0 M
    all_goals
      have H1 := Lib.hid h1; have H2 := Lib.hid h2; have H3 := Lib.hid h3
      clear h1 h2 h3
      go_enter Tryz.func32, Tryz.ntmps32
      go_wp2_with fail
      go_quiet ((first | (go_at_call_of 39 m; exact quiet_left (within_is N1.out _)) | (go_at_call_of 39 a; exact quiet_left (within_is H1.out _)) | (go_at_call_of 39 b; exact quiet_left (within_is H2.out _)) | (go_at_call_of 39 c; exact quiet_left (within_is H3.out _))))
      go_wp2_with fail
      go_ret
      exact ⟨rfl, belo⟩
  · have N1 := Lib.hid (show inB n 1 5 = false from by simpa [inB] using hn)
    rw [pauB_n hn]
    clear hn
    go_enter Tryz.func32, Tryz.ntmps32
    go_wp2_with fail
    go_quiet ((go_at_call 39; exact quiet_left (within_is N1.out _)))
    go_wp2_with fail
    go_ret
    exact ⟨rfl, belo⟩
set_option maxHeartbeats 1000000 in
theorem spec_l7Valid_any (n : Int) (g : E3) (w : World) :
    Calls Tryz.prog 35 #[.int .i64 n, .agg #[.int .i64 g.a, .int .i64 g.b, .int .i64 g.c]] w fun e w' => e = .returned (.bool (pauB n g)) ∧ Below w.heap.size w w' := by
  by_cases hn : 1 ≤ n ∧ n ≤ 5
  · obtain ⟨m, rfl⟩ : ∃ m : Nat, n = (m : Int) := ⟨n.toNat, by omega⟩
    have N1 := Lib.hid (show inB (m : Int) 1 5 = true from by simpa [inB] using hn)
    rw [pauB_eq (by omega) (by omega)]
    obtain ⟨p1, p2⟩ := pow_small5 (show m ≤ 5 by omega)
    have hw : IntKind.i64.wrap ((2 : Int) ^ m) = (2 : Int) ^ m := IntWalk.i64_in _ (by omega)
    have hw2 : IntKind.i64.wrap ((2 : Int) ^ m - 1) = (2 : Int) ^ m - 1 := IntWalk.i64_in _ (by omega)
    have m0 : (0 : Int) ≤ m := by omega
    have m1 : (m : Int) ≤ 5 := by omega
    obtain ⟨a, b, c⟩ := g
    dsimp only
    clear hn
    obtain ⟨M, hM⟩ : ∃ M : Int, (2 : Int) ^ m - 1 = M := ⟨_, rfl⟩
    rw [hM]
    cases h1 : inB a 0 3 <;> cases h2 : inB b 0 M <;> cases h3 : inB c 0 M
    all_goals
      have H1 := Lib.hid h1; have H2 := Lib.hid h2; have H3 := Lib.hid h3
      clear h1 h2 h3
      go_enter Tryz.func35, Tryz.ntmps35
      go_wp2_with (first | (go_at_call_of 72 m; refine (l1In_is N1.out _).mono ?_; rintro e w' ⟨rfl, rfl⟩) | (go_at_call_of 72 a; refine (l1In_is H1.out _).mono ?_; rintro e w' ⟨rfl, rfl⟩) | (go_at_call_of 72 b; refine (l1In_is H2.out _).mono ?_; rintro e w' ⟨rfl, rfl⟩) | (go_at_call_of 72 c; refine (l1In_is H3.out _).mono ?_; rintro e w' ⟨rfl, rfl⟩))
      go_ret
      exact ⟨rfl, belo⟩
  · have N1 := Lib.hid (show inB n 1 5 = false from by simpa [inB] using hn)
    rw [pauB_n hn]
    clear hn
    go_enter Tryz.func35, Tryz.ntmps35
    go_wp2_with (go_at_call 72; refine (l1In_is N1.out _).mono ?_; rintro e w' ⟨rfl, rfl⟩)
    go_ret
    exact ⟨rfl, belo⟩
def imB (n : Int) (g : E3) : Bool := decide ((1 ≤ n ∧ n ≤ 5) ∧ ImOk n g)
theorem imB_eq {n : Int} {g : E3} : imB n g = (pauB n g && (g.a % 2 == 0)) := by
  unfold imB pauB ImOk
  rw [Bool.eq_iff_iff]
  simp [and_assoc]
theorem pauB_a {n : Int} {g : E3} (h : pauB n g = true) : 0 ≤ g.a ∧ g.a ≤ 3 := (of_decide_eq_true h).2.1
theorem impl_isImage_any (n : Int) (g : E3) (w : World) :
    Calls Tryz.prog 43 #[.int .i64 n, .agg #[.int .i64 g.a, .int .i64 g.b, .int .i64 g.c]] w fun e w' => e = .returned (.bool (imB n g)) ∧ Below w.heap.size w w' := by
  have HI := Lib.hid (imB_eq (n := n) (g := g))
  cases hb : pauB n g with
  | false =>
    have Hb := Lib.hid hb; clear hb
    go_enter Tryz.func43, Tryz.ntmps43
    go_wp2_with fail
    refine (impl_IsValidPauli_any n g _).mono ?_; rintro e w1 ⟨rfl, hb1⟩; rw [Hb.out]
    go_wp2_with fail
    go_ret
    exact ⟨ret_bool (by rw [HI.out, Hb.out]; rfl), belo⟩
  | true =>
    obtain ⟨a0, a1⟩ := pauB_a hb
    have Hb := Lib.hid hb; clear hb
    go_enter Tryz.func43, Tryz.ntmps43
    go_wp2_with fail
    refine (impl_IsValidPauli_any n g _).mono ?_; rintro e w1 ⟨rfl, hb1⟩; rw [Hb.out]
    obtain ⟨hc_hb1, hf_hb1⟩ := bcell hb1; have hz_hb1 := hb1.size; (try simp at hz_hb1); have hs0_hb1 : w.heap.size < w1.heap.size := (by omega)
    go_wp2_with fail
    go_ret
    exact ⟨ret_bool (by rw [HI.out, Hb.out]; rfl), belo⟩
end Go.Proofs.YtnckabohlakbgaaGreat
