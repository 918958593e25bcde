/- A diagram's validity: the program's counting. -/
import Derived.Test.YtliophgfgmjhiaaGreatDoorZ05Zx3
import Derived.Test.YtliophgfgmjhiaaGreatDoorZ33IdxNode
import Derived.Test.YtliophgfgmjhiaaGreatDoorZ01M
import Derived.BigGuardPart
import Derived.BigQuiet
import Derived.Deep.QuietTactic
import Derived.Deep.LoopGhost
namespace Go.Proofs.YtliophgfgmjhiaaGreatDoor
set_option linter.unusedSimpArgs false
set_option linter.unusedVariables false
set_option linter.unnecessarySimpa false
set_option maxRecDepth 200000
open Go.ChangeShapes Go.WideShapes Go.ChangeAt Go.RowKit

noncomputable instance (n : Int) (x : E2) : Decidable (isN n x) := Classical.propDecidable _
theorem in_0 {n : Int} {x : E2} (h : x.a = 0) : decide (x.b = 0) = decide (isN n x) := by
  rw [Bool.eq_iff_iff, decide_eq_true_eq, decide_eq_true_eq]; unfold isN; omega
theorem in_1 {n : Int} {x : E2} (h : x.a = 1 ∨ x.a = 2) : decide (0 ≤ x.b ∧ x.b ≤ n - 1) = decide (isN n x) := by
  rw [Bool.eq_iff_iff, decide_eq_true_eq, decide_eq_true_eq]; unfold isN; omega
theorem in_3 {n : Int} {x : E2} (h : x.a = 3) : decide (0 ≤ x.b ∧ x.b ≤ 7) = decide (isN n x) := by
  rw [Bool.eq_iff_iff, decide_eq_true_eq, decide_eq_true_eq]; unfold isN; omega
theorem in_4 {n : Int} {x : E2} (h0 : ¬ x.a = 0) (h1 : ¬ x.a = 1) (h2 : ¬ x.a = 2) (h3 : ¬ x.a = 3) : false = decide (isN n x) := by
  symm; refine decide_eq_false fun h => ?_
  unfold isN at h; omega
set_option maxHeartbeats 4000000 in
theorem impl_isNode_any (n : Int) (x : E2) (w : World) (hn : 1 ≤ n ∧ n ≤ 5) :
    Calls Tryz.prog 56 #[.int .i64 n, .agg #[.int .i64 x.a, .int .i64 x.b]] w fun e w' => e = .returned (.bool (decide (isN n x))) ∧ Below w.heap.size w w' := by
  obtain ⟨n1, n5⟩ := hn
  by_cases a0 : x.a = 0
  · have HR := Lib.hid (in_0 (n := n) a0)
    have b0 : (x.a == 0) = true := by simpa using a0
    clear a0
    go_enter Tryz.func56, Tryz.ntmps56
    go_wp2_with fail
    go_ret
    exact ⟨ret_bool (by rw [← HR.out]; rw [Bool.eq_iff_iff]; simp), (by repeat (first | exact Below.refl _ _ | assumption | refine Below.drew ?_ | refine below_drewN ?_ _ | refine Below.alloc ?_ (by first | omega | (simp <;> omega)) _ | refine Below.setCell ?_ (by first | omega | (simp <;> omega)) _ | refine Below.trans ?_ (Below.mono (by assumption) (by first | omega | (simp <;> omega)))))⟩
  · have b0 : (x.a == 0) = false := by simpa using a0
    by_cases a12 : x.a = 1 ∨ x.a = 2
    · have HR := Lib.hid (in_1 (n := n) a12)
      by_cases a1 : x.a = 1
      · have b1 : (x.a == 1) = true := by simpa using a1
        clear a0 a12 a1
        go_enter Tryz.func56, Tryz.ntmps56
        go_wp2_with fail
        refine (within_p _ _ _ _).mono ?_; rintro e w1 ⟨rfl, rfl⟩
        go_wp2_with fail
        go_ret
        exact ⟨ret_bool (by rw [← HR.out]; rw [Bool.eq_iff_iff]; simp), (by repeat (first | exact Below.refl _ _ | assumption | refine Below.drew ?_ | refine below_drewN ?_ _ | refine Below.alloc ?_ (by first | omega | (simp <;> omega)) _ | refine Below.setCell ?_ (by first | omega | (simp <;> omega)) _ | refine Below.trans ?_ (Below.mono (by assumption) (by first | omega | (simp <;> omega)))))⟩
      · have b1 : (x.a == 1) = false := by simpa using a1
        have b2 : (x.a == 2) = true := by simp; omega
        clear a0 a12 a1
        go_enter Tryz.func56, Tryz.ntmps56
        go_wp2_with fail
        refine (within_p _ _ _ _).mono ?_; rintro e w1 ⟨rfl, rfl⟩
        go_wp2_with fail
        go_ret
        exact ⟨ret_bool (by rw [← HR.out]; rw [Bool.eq_iff_iff]; simp), (by repeat (first | exact Below.refl _ _ | assumption | refine Below.drew ?_ | refine below_drewN ?_ _ | refine Below.alloc ?_ (by first | omega | (simp <;> omega)) _ | refine Below.setCell ?_ (by first | omega | (simp <;> omega)) _ | refine Below.trans ?_ (Below.mono (by assumption) (by first | omega | (simp <;> omega)))))⟩
    · have b1 : (x.a == 1) = false := by simp; omega
      have b2 : (x.a == 2) = false := by simp; omega
      by_cases a3 : x.a = 3
      · have b3 : (x.a == 3) = true := by simpa using a3
        have HR := Lib.hid (in_3 (n := n) a3)
        clear a0 a12 a3
        go_enter Tryz.func56, Tryz.ntmps56
        go_wp2_with fail
        refine (within_p _ _ _ _).mono ?_; rintro e w1 ⟨rfl, rfl⟩
        go_wp2_with fail
        go_ret
        exact ⟨ret_bool (by rw [← HR.out]; rw [Bool.eq_iff_iff]; simp), (by repeat (first | exact Below.refl _ _ | assumption | refine Below.drew ?_ | refine below_drewN ?_ _ | refine Below.alloc ?_ (by first | omega | (simp <;> omega)) _ | refine Below.setCell ?_ (by first | omega | (simp <;> omega)) _ | refine Below.trans ?_ (Below.mono (by assumption) (by first | omega | (simp <;> omega)))))⟩
      · have b3 : (x.a == 3) = false := by simpa using a3
        have HR := Lib.hid (in_4 (n := n) a0 (by omega) (by omega) a3)
        clear a0 a12 a3
        go_enter Tryz.func56, Tryz.ntmps56
        go_wp2_with fail
        go_ret
        exact ⟨ret_bool HR.out, (by repeat (first | exact Below.refl _ _ | assumption | refine Below.drew ?_ | refine below_drewN ?_ _ | refine Below.alloc ?_ (by first | omega | (simp <;> omega)) _ | refine Below.setCell ?_ (by first | omega | (simp <;> omega)) _ | refine Below.trans ?_ (Below.mono (by assumption) (by first | omega | (simp <;> omega)))))⟩
theorem IsValidDiagram1_any (B : Nat) (n : Int) (gs : List E2) (w : World) (hn : 1 ≤ n ∧ n ≤ 5) (hB : B < w.heap.size) (hc : w.cell? ⟨B, 0, none⟩ = some (.int .i64 n)) :
    PredB 55 #[.pointer (some ⟨B, 0, none⟩)] encNode (fun g => !decide (isN n g)) gs w := by
  intro W x _ hb
  have hc' := (hb.cell (p := ⟨B, 0, none⟩) hB).trans hc
  have hBW : B < W.heap.size := Nat.lt_of_lt_of_le hB hb.size
  clear hc hb
  show Calls Tryz.prog 55 #[.agg #[.int .i64 x.a, .int .i64 x.b], .pointer (some ⟨B, 0, none⟩)] W _
  have HN := Lib.hid hn
  clear hn
  go_enter Tryz.func55, Tryz.ntmps55
  go_wp2_with fail
  refine (impl_isNode_any n x _ HN.out).mono ?_; rintro e w1 ⟨rfl, hb1⟩
  obtain ⟨hc_hb1, hf_hb1⟩ := bcell hb1; have hz_hb1 := hb1.size; (try simp at hz_hb1)
  go_wp2_with fail
  go_ret
  exact ⟨rfl, Below.trans (show Below W.heap.size W (W.alloc (.cells #[.int .i64 x.a, .int .i64 x.b] 36)) from (by repeat (first | exact Below.refl _ _ | assumption | refine Below.drew ?_ | refine below_drewN ?_ _ | refine Below.alloc ?_ (by first | omega | (simp <;> omega)) _ | refine Below.setCell ?_ (by first | omega | (simp <;> omega)) _ | refine Below.trans ?_ (Below.mono (by assumption) (by first | omega | (simp <;> omega)))))) (hb1.mono (by simp))⟩
set_option maxHeartbeats 4000000 in
theorem impl_degree_any (d : Dia) (v0 v1 : Value) (k : Int) (w : World) (h0 : RdE w v0 E2.cs 2 d.ns) (h1 : RdE w v1 EW.cs 3 d.ws) (n1 : d.ws.length ≤ 2097152) :
    Calls Tryz.prog 59 #[.agg #[.int .i64 d.n, v0, v1, .int .i64 d.turn, .int .i64 d.root], .int .i64 k] w fun e w' => e = .returned (.int .i64 (degW d.ws k : Nat)) ∧ Below w.heap.size w w' := by
  obtain ⟨A, c, rfl, _⟩ := e2_at h0
  obtain ⟨A1, c1, rfl, HW⟩ := eW_at h1
  clear h0 h1
  go_enter Tryz.func59, Tryz.ntmps59
  go_wp2_with fail
  go_loopw [5, 11] (fun sn si wr => ∃ i : Nat, i ≤ d.ws.length ∧ sn = .int .i64 (degTo d.ws k i : Nat) ∧ si = .int .i64 i ∧ Hid (Below w.heap.size w wr) ∧ w.heap.size ≤ wr.heap.size) (fun _ si _ => d.ws.length - (intOf si).toNat)
  case atStart => exact ⟨0, Nat.zero_le _, rfl, rfl, (show Below _ _ _ from (by repeat (first | exact Below.refl _ _ | assumption | refine Below.drew ?_ | refine below_drewN ?_ _ | refine Below.alloc ?_ (by first | omega | (simp <;> omega)) _ | refine Below.setCell ?_ (by first | omega | (simp <;> omega)) _ | refine Below.trans ?_ (Below.mono (by assumption) (by first | omega | (simp <;> omega)))))), by simp⟩
  case round =>
    obtain ⟨i, hi, rfl, rfl, hB, hsz⟩ := hrel
    by_cases hlt : i < d.ws.length
    · have i1 : (i : Int) < (d.ws.length : Int) := by omega
      obtain ⟨b, off, rfl, hb, q0, q1, q2⟩ := HW.out i hlt
      replace q0 := (hB.out.cell hb).trans q0
      replace q1 := (hB.out.cell hb).trans q1
      replace q2 := (hB.out.cell hb).trans q2
      obtain ⟨x, hx⟩ : ∃ x, x = d.ws.getD i ⟨0, 0, false⟩ := ⟨_, rfl⟩
      have HS := deg_succ (k := k) hlt hx
      rw [← hx] at q0 q1 q2
      have hle : degTo d.ws k i ≤ i := filt_le (touchB k) d.ws i
      clear hx
      obtain ⟨D, hD⟩ : ∃ D, D = degTo d.ws k i := ⟨_, rfl⟩
      rw [← hD] at HS hle ⊢
      clear hD
      by_cases e1 : x.a = k
      · rw [touch_1 e1, if_pos rfl] at HS
        have b1 : (x.a == k) = true := by simpa using e1
        have HS := Lib.hid HS
        clear e1
        go_wp2_with fail
        go_roundw
        case rel => exact ⟨i + 1, by omega, by rw [HS.out]; go_num, by go_num, (show Below _ _ _ from Below.alloc hB.out hsz _), by simp; omega⟩
        case measure => simp [intOf]; omega
      · by_cases e2 : x.b = k
        · rw [touch_2 e2, if_pos rfl] at HS
          have b1 : (x.a == k) = false := by simpa using e1
          have b2 : (x.b == k) = true := by simpa using e2
          have HS := Lib.hid HS
          clear e1 e2
          go_wp2_with fail
          go_roundw
          case rel => exact ⟨i + 1, by omega, by rw [HS.out]; go_num, by go_num, (show Below _ _ _ from Below.alloc hB.out hsz _), by simp; omega⟩
          case measure => simp [intOf]; omega
        · rw [touch_0 e1 e2, if_neg (by simp)] at HS
          have b1 : (x.a == k) = false := by simpa using e1
          have b2 : (x.b == k) = false := by simpa using e2
          have HS := Lib.hid HS
          clear e1 e2
          go_wp2_with fail
          go_roundw
          case rel => exact ⟨i + 1, by omega, by rw [HS.out]; rfl, by go_num, (show Below _ _ _ from Below.alloc hB.out hsz _), by simp; omega⟩
          case measure => simp [intOf]; omega
    · have HS := Lib.hid (deg_all (k := k) (show d.ws.length ≤ i by omega))
      have i1 : ¬ (i : Int) < (d.ws.length : Int) := by omega
      have B := hB.out
      go_wp2_with fail
      go_ret
      exact ⟨(by rw [HS.out]; rfl), B⟩
theorem ne_next {ns : List E2} {x y : E2} {k : Nat} (h : ∀ j, j < k → ns.getD j ⟨0, 0⟩ ≠ x) (hy : y = ns.getD k ⟨0, 0⟩) (h2 : ¬ (y.a = x.a ∧ y.b = x.b)) : ∀ j, j < k + 1 → ns.getD j ⟨0, 0⟩ ≠ x := by
  intro j hj
  by_cases e : j = k
  · subst e hy; intro h9; exact h2 ⟨congrArg E2.a h9, congrArg E2.b h9⟩
  · exact h j (by omega)
theorem ne_all {ns : List E2} {x : E2} {k : Nat} (h : ∀ j, j < k → ns.getD j ⟨0, 0⟩ ≠ x) (hk : ns.length ≤ k) : x ∉ ns := by
  intro hx
  obtain ⟨i, hi, he⟩ := List.mem_iff_getElem.1 hx
  exact h i (by omega) (by simp [List.getD, hi, he])
theorem eq_mem {ns : List E2} {x y : E2} {k : Nat} (hk : k < ns.length) (hy : y = ns.getD k ⟨0, 0⟩) (h2 : y.a = x.a ∧ y.b = x.b) : x ∈ ns := by
  have e : y = x := by obtain ⟨a, b⟩ := y; obtain ⟨c, d⟩ := x; simp at h2; rw [h2.1, h2.2]
  rw [← e, hy, show ns.getD k ⟨0, 0⟩ = ns[k] from by simp [List.getD, hk]]
  exact List.getElem_mem _
set_option maxHeartbeats 4000000 in
theorem slices_Index_Node (v : Value) (xs : List E2) (x : E2) (w : World) (h : RdE w v E2.cs 2 xs) (hl : xs.length ≤ 2097152) :
    Calls Tryz.prog 92 #[v, .agg #[.int .i64 x.a, .int .i64 x.b]] w fun e w' => (∃ j : Int, e = .returned (.int .i64 j) ∧ (x ∈ xs ↔ 0 ≤ j)) ∧ Below w.heap.size w w' := by
  obtain ⟨A, c, rfl, HN⟩ := e2_at h
  clear h
  go_enter Tryz.func92, Tryz.ntmps92
  go_wp2_with fail
  go_loopw [8] (fun si wr => ∃ k : Nat, k ≤ xs.length ∧ si = .int .i64 k ∧ Hid (∀ j, j < k → xs.getD j ⟨0, 0⟩ ≠ x) ∧ Hid (Below w.heap.size w wr) ∧ wr.cell? ⟨w.heap.size, 0, none⟩ = some (.int .i64 x.a) ∧ wr.cell? ⟨w.heap.size, 1, none⟩ = some (.int .i64 x.b)) (fun si _ => xs.length - (intOf si).toNat)
  case atStart => exact ⟨0, Nat.zero_le _, rfl, (show ∀ j, j < 0 → _ from fun j hj => by omega), (show Below _ _ _ from (by repeat (first | exact Below.refl _ _ | assumption | refine Below.drew ?_ | refine below_drewN ?_ _ | refine Below.alloc ?_ (by first | omega | (simp <;> omega)) _ | refine Below.setCell ?_ (by first | omega | (simp <;> omega)) _ | refine Below.trans ?_ (Below.mono (by assumption) (by first | omega | (simp <;> omega)))))), (by repeat (first | (refine Eq.trans (World.cell?_alloc_at _ _ _ _ ?hh) ?_; (case hh => (simp; done)); rfl) | refine cell_alloc_keep _ ?_)), (by repeat (first | (refine Eq.trans (World.cell?_alloc_at _ _ _ _ ?hh) ?_; (case hh => (simp; done)); rfl) | refine cell_alloc_keep _ ?_))⟩
  case round =>
    obtain ⟨k, hk, rfl, hP, hB, x0, x1⟩ := hrel
    by_cases hlt : k < xs.length
    · have i1 : (k : Int) < (xs.length : Int) := by omega
      have i3 : (0 : Int) ≤ (k : Int) := by omega
      obtain ⟨b, off, rfl, hb, q0, q1⟩ := HN.out k hlt
      replace q0 := (hB.out.cell hb).trans q0
      replace q1 := (hB.out.cell hb).trans q1
      obtain ⟨y, hy⟩ : ∃ y, y = xs.getD k ⟨0, 0⟩ := ⟨_, rfl⟩
      rw [← hy] at q0 q1
      have HY := Lib.hid hy
      clear hy
      by_cases e1 : x.a = y.a
      · have b1 : (x.a == y.a) = true := by simpa using e1
        by_cases e2 : x.b = y.b
        · have b2 : (x.b == y.b) = true := by simpa using e2
          have HR := Lib.hid (eq_mem (x := x) hlt HY.out ⟨e1.symm, e2.symm⟩)
          have B := hB.out
          clear e1 e2
          go_wp2_with fail
          go_quiet (fail)
          go_wp2_with fail
          go_ret
          exact ⟨⟨_, rfl, ⟨fun _ => i3, fun _ => HR.out⟩⟩, Below.trans B (show Below w.heap.size wr _ from (by repeat (first | exact Below.refl _ _ | assumption | refine Below.drew ?_ | refine below_drewN ?_ _ | refine Below.alloc ?_ (by first | omega | (simp <;> omega)) _ | refine Below.setCell ?_ (by first | omega | (simp <;> omega)) _ | refine Below.trans ?_ (Below.mono (by assumption) (by first | omega | (simp <;> omega))))))⟩
        · have b2 : (x.b == y.b) = false := by simpa using e2
          have HK := Lib.hid (ne_next (x := x) hP.out HY.out (fun h => e2 h.2.symm))
          clear e1 e2 hP
          go_wp2_with fail
          go_quiet (fail)
          go_wp2_with fail
          go_roundw
          case rel => exact ⟨k + 1, by omega, by go_num, HK, (show Below _ _ _ from below_drewN hB.out _), by simpa using x0, by simpa using x1⟩
          case measure => simp [intOf]; omega
      · have b1 : (x.a == y.a) = false := by simpa using e1
        have HK := Lib.hid (ne_next (x := x) hP.out HY.out (fun h => e1 h.1.symm))
        clear e1 hP
        go_wp2_with fail
        go_quiet (fail)
        go_wp2_with fail
        go_roundw
        case rel => exact ⟨k + 1, by omega, by go_num, HK, (show Below _ _ _ from below_drewN hB.out _), by simpa using x0, by simpa using x1⟩
        case measure => simp [intOf]; omega
    · have i1 : ¬ (k : Int) < (xs.length : Int) := by omega
      have HR := Lib.hid (ne_all hP.out (by omega))
      have B := hB.out
      clear hP
      go_wp2_with fail
      go_ret
      exact ⟨⟨_, rfl, ⟨fun h => absurd h HR.out, fun h => by omega⟩⟩, B⟩
end Go.Proofs.YtliophgfgmjhiaaGreatDoor
