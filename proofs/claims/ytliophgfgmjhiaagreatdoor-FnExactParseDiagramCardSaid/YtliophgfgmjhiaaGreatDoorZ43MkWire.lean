/- The marks over wires: two whole numbers and a truth value. -/
import Derived.Test.YtliophgfgmjhiaaGreatDoorZ00M
namespace Go.Proofs.YtliophgfgmjhiaaGreatDoor
set_option linter.unusedSimpArgs false
set_option linter.unusedVariables false
set_option linter.unnecessarySimpa false
set_option maxRecDepth 200000
open Go.ChangeShapes Go.WideShapes Go.ChangeAt Go.RowKit

def wireMark (k : Int) (i : Nat) : Value := if i % 3 = 2 then .bool ((k + i) % 3 == 0) else .int .i64 (k + i)
def marksW (k : Int) (n : Nat) : List Value := (List.range n).map fun i : Nat => wireMark k i
theorem marksW_len (k : Int) (n : Nat) : (marksW k n).length = n := by simp [marksW]
theorem marksW_get (k : Int) (n j : Nat) (h : j < n) : (marksW k n)[j]? = some (wireMark k j) := by simp [marksW, h]
theorem marksW_step (k : Int) (j : Nat) (xs : List Value) (h : j < xs.length) : (marksW k j ++ xs.drop j).set j (wireMark k j) = marksW k (j + 1) ++ xs.drop (j + 1) := by
  have e : xs.drop j = xs[j] :: xs.drop (j + 1) := by rw [List.drop_eq_getElem_cons h]
  rw [List.set_append_right _ _ (by simp [marksW_len]), marksW_len, Nat.sub_self, e, List.set_cons_zero]
  simp [marksW, List.range_succ]
theorem wm_0 (k : Int) (j : Nat) : wireMark k (j * 3) = .int .i64 (k + (j : Int) * 3) := by
  unfold wireMark; rw [if_neg (by omega), show ((j * 3 : Nat) : Int) = (j : Int) * 3 from by omega]
theorem wm_1 (k : Int) (j : Nat) : wireMark k (j * 3 + 1) = .int .i64 (k + (j : Int) * 3 + 1) := by
  unfold wireMark; rw [if_neg (by omega), show k + ((j * 3 + 1 : Nat) : Int) = k + (j : Int) * 3 + 1 from by omega]
theorem wm_2 (k : Int) (j : Nat) : wireMark k (j * 3 + 2) = .bool ((k + (j : Int) * 3 + 1 + 1) % 3 == 0) := by
  unfold wireMark; rw [if_pos (by omega), show k + ((j * 3 + 2 : Nat) : Int) = k + (j : Int) * 3 + 1 + 1 from by omega]
theorem marksW_cell {w : World} {base : Nat} {e : TypeId} {g n cap j sz : Nat} {xs : List Value} (h : w.ownsRow base e sz (.slice (some ⟨g, 0, none⟩) n cap) n xs) (hj : j < n * sz) : ∃ u, w.cell? ⟨g, j, none⟩ = some u := marks_cell h hj
set_option maxHeartbeats 4000000 in
theorem laws_markWireS_any (v : Value) (base n : Nat) (xs : List Value) (k : Int) (w : World) (h : w.ownsRow base 40 3 v n xs) (hk0 : 0 ≤ k) (hk1 : k + n * 3 ≤ 4611686018427387904) (hn : n ≤ 1000000000000) :
    Calls Tryz.prog 18 #[v, .int .i64 k] w fun e w' => e = .returned (.int .i64 (k + ((n * 3 : Nat) : Int))) ∧ w'.ownsRow base 40 3 v n (marksW k (n * 3)) ∧ w.grownBy w' v.ownBlock := by
  rcases Go.Joins.ownsRow_forms h with ⟨rfl, rfl⟩ | ⟨g, cap, rfl⟩
  · have hx : xs = [] := List.eq_nil_of_length_eq_zero (by simpa using h.1)
    subst hx
    go_enter Tryz.func18, Tryz.ntmps18
    go_wp2_with fail
    refine wp_loop_rounds 1 ?_
    rw [rounds_succ]
    go_wp2_with fail
    go_ret
    exact ⟨ret_int (by simp), h, World.grownBy.refl _ _⟩
  · have hxl : xs.length = n * 3 := h.1
    have Hx := Lib.hid hxl; clear hxl
    have H0 : Hid (w.ownsRow base 40 3 (.slice (some ⟨g, 0, none⟩) n cap) n (marksW k 0 ++ xs.drop 0)) := h
    clear h
    go_enter Tryz.func18, Tryz.ntmps18
    go_wp2_with fail
    go_loopw [1, 5] (fun q i wr => ∃ j : Nat, j ≤ n ∧ i = .int .i64 j ∧ q = .int .i64 (k + ((j * 3 : Nat) : Int)) ∧ Hid (wr.ownsRow base 40 3 (.slice (some ⟨g, 0, none⟩) n cap) n (marksW k (j * 3) ++ xs.drop (j * 3))) ∧ Hid (w.grownBy wr (some g))) (fun _ i _ => n - (intOf i).toNat)
    case atStart => exact ⟨0, Nat.zero_le _, rfl, by simp, by simpa using H0, World.grownBy.refl _ _⟩
    case round =>
      obtain ⟨j, hj, rfl, rfl, hown, hgr⟩ := hrel
      clear H0
      by_cases hlt : j < n
      · have i1 : (j : Int) < (n : Int) := by omega
        obtain ⟨u0, hu0⟩ := marks_cell hown.out (j := j * 3) (by omega)
        have hf0 := hown.out.frozenAt (j * 3)
        obtain ⟨u1, hu1⟩ := marks_cell hown.out (j := j * 3 + 1) (by omega)
        have hf1 := hown.out.frozenAt (j * 3 + 1)
        obtain ⟨u2, hu2⟩ := marks_cell hown.out (j := j * 3 + 2) (by omega)
        have hf2 := hown.out.frozenAt (j * 3 + 2)
        go_wp2_with fail
        go_roundw
        case rel =>
          have s0 := hown.out
          have g0 := hgr.out
          have t0 := s0.stored (j * 3) (wireMark k (j * 3))
          have s1 := t0.1
          rw [marksW_step k (j * 3) xs (by rw [Hx.out]; omega)] at s1
          have g1 := grown_trans0 g0 t0.2
          have t1 := s1.stored (j * 3 + 1) (wireMark k (j * 3 + 1))
          have s2 := t1.1
          rw [marksW_step k (j * 3 + 1) xs (by rw [Hx.out]; omega)] at s2
          have g2 := grown_trans0 g1 t1.2
          have t2 := s2.stored (j * 3 + 2) (wireMark k (j * 3 + 2))
          have s3 := t2.1
          rw [marksW_step k (j * 3 + 2) xs (by rw [Hx.out]; omega)] at s3
          have g3 := grown_trans0 g2 t2.2
          rw [wm_0, wm_1, wm_2] at s3 g3
          refine ⟨j + 1, by omega, by go_num, ret_num (by omega), ?_, ?_⟩
          · have e : j * 3 + 2 + 1 = (j + 1) * 3 := by omega
            rw [e] at s3
            exact s3
          · exact g3
        case measure => simp [intOf]; omega
      · have e : j = n := by omega
        subst e
        go_wp2_with fail
        go_ret
        refine ⟨rfl, ?_, hgr⟩
        have h1 := hown.out
        rw [List.drop_eq_nil_of_le (by rw [Hx.out]; omega), List.append_nil] at h1
        exact h1
theorem laws_heldWireS_any (v : Value) (n : Nat) (k : Int) (w : World) (h : Rd w v n 3 (marksW k (n * 3))) (hk0 : 0 ≤ k) (hk1 : k + n * 3 ≤ 4611686018427387904) (hn : n ≤ 1000000000000) :
    Calls Tryz.prog 20 #[v, .int .i64 k] w fun e w' => e = .returned (.int .i64 (k + ((n * 3 : Nat) : Int))) ∧ Below w.heap.size w w' := by
  rcases h.2 with ⟨⟨a0, c0, rfl⟩, rfl⟩ | ⟨b, off, cap, rfl, hb, hl, hm, hc⟩
  · go_enter Tryz.func20, Tryz.ntmps20
    go_wp2_with fail
    refine wp_loop_rounds 1 ?_
    rw [rounds_succ]
    go_wp2_with fail
    go_ret
    exact ⟨ret_int (by simp), Below.refl _ _⟩
  · go_enter Tryz.func20, Tryz.ntmps20
    go_wp2_with fail
    go_loop [1, 5] (fun q i => ∃ j : Nat, j ≤ n ∧ i = .int .i64 j ∧ q = .int .i64 (k + (j : Int) * 3)) (fun _ i => n - (intOf i).toNat)
    case atStart => exact ⟨0, Nat.zero_le _, rfl, by simp⟩
    case round =>
      obtain ⟨j, hj, rfl, rfl⟩ := hrel
      by_cases hlt : j < n
      · have i1 : (j : Int) < (n : Int) := by omega
        have c0 : w.cell? ⟨b, off + j * 3, none⟩ = some (.int .i64 (k + (j : Int) * 3)) := by
          have := hc _ _ (marksW_get k (n * 3) (j * 3) (by omega))
          rw [wm_0] at this
          exact this
        have c1 : w.cell? ⟨b, off + j * 3 + 1, none⟩ = some (.int .i64 (k + (j : Int) * 3 + 1)) := by
          have := hc _ _ (marksW_get k (n * 3) (j * 3 + 1) (by omega))
          rw [wm_1] at this
          exact this
        have c2 : w.cell? ⟨b, off + j * 3 + 2, none⟩ = some (.bool ((k + (j : Int) * 3 + 1 + 1) % 3 == 0)) := by
          have := hc _ _ (marksW_get k (n * 3) (j * 3 + 2) (by omega))
          rw [wm_2] at this
          exact this
        clear hc h
        go_wp2_with fail
        go_round
        case rel => exact ⟨j + 1, by omega, by go_num, ret_num (by omega)⟩
        case measure => simp [intOf]; omega
      · clear hc h
        have e : j = n := by omega
        subst e
        go_wp2_with fail
        go_ret
        exact ⟨ret_int (by omega), Below.refl _ _⟩
end Go.Proofs.YtliophgfgmjhiaaGreatDoor
