/- slices.Concat of two slices over Pauli. -/
import Derived.Test.YtnckabohlakbgaaGreatZ17M
import Derived.Test.YtnckabohlakbgaaGreatZ03M
import Derived.Test.YtnckabohlakbgaaGreatZ05M
import Derived.Lib.AppendZeros
import Derived.Deep.LoopGhost
namespace Go.Proofs.YtnckabohlakbgaaGreat
set_option linter.unusedSimpArgs false
set_option linter.unusedVariables false
set_option linter.unnecessarySimpa false
set_option maxRecDepth 200000
open Go.ChangeShapes Go.WideShapes Go.ChangeAt Go.RowKit

theorem zeroCells_len (z : Array Value) (n : Nat) : (Builtin.zeroCells z n).size = n * z.size := by simp [Builtin.zeroCells]
/-- A row of zeros that has just been made, cut to no element, is owned. -/
theorem own_grow {w : World} {base size n : Nat} {e : TypeId} {z : Value} (hzs : z.cells.size = size) (hn : n ≤ maxLen) (hb : base ≤ w.heap.size) :
    (w.drew.alloc (.cells (Builtin.zeroCells z.cells n ++ Builtin.zeroCells z.cells (grownCap w n 0 e - n)) e)).ownsRow base e size (.slice (some ⟨w.heap.size, 0, none⟩) 0 (grownCap w n 0 e)) 0 [] := by
  refine ⟨by simp, .inr ⟨w.heap.size, _, Builtin.zeroCells z.cells n ++ Builtin.zeroCells z.cells (grownCap w n 0 e - n), rfl, hb, ?_, Nat.zero_le _, grownCap_le_maxLen w n 0 e hn, ?_, by simp⟩⟩
  · show (w.drew.heap.push _)[w.heap.size]? = _
    have : w.drew.heap = w.heap := rfl
    rw [this]; simp
  · have := grownCap_ge w n 0 e
    rw [Array.size_append, zeroCells_len, zeroCells_len, hzs, ← Nat.add_mul]
    congr 1; omega
set_option maxHeartbeats 1000000 in
theorem slices_Grow_Pauli (n : Nat) (w : World) (h0 : 0 < n) (h1 : n ≤ 4194304) :
    Calls Tryz.prog 76 #[.slice none 0 0, .int .i64 (n : Int)] w fun e w' => ∃ v, e = .returned v ∧ OwnE w' w.heap.size 33 v E3.cs 3 [] ∧ Below w.heap.size w w' := by
  obtain ⟨i0, hi, hz0, hz1, hz2⟩ := info_parts info_Pauli
  have HO := Lib.hid (own_grow (w := w) (base := w.heap.size) (size := 3) (n := n) (e := 33) (z := .agg #[.int .i64 0, .int .i64 0, .int .i64 0]) rfl (by unfold maxLen; omega) (Nat.le_refl _))
  have HR := Lib.hid (Lib.run_append_nil_zeros (P := Tryz.prog) w 27 3 27 33 i0 (.agg #[.int .i64 0, .int .i64 0, .int .i64 0]) .i64 .i64 Tryz.underlying27 Tryz.underlying3 hi hz0 n h0 (by rw [hz1]; omega) (by omega) (by rw [hz2]; omega))
  have p0 : (0 : Int) < n := by omega
  go_enter Tryz.func76, Tryz.ntmps76
  go_wp2_with (at_builtin; refine Lib.wpList_append_run _ rfl _ _ _ _ rfl _ _ rfl rfl _ _ HR.out ?_)
  go_ret
  exact ⟨_, rfl, HO.out, belo⟩
set_option maxHeartbeats 4000000 in
theorem slices_Concat_Pauli (B : Nat) (va vb : Value) (xs ys : List E3) (w : World) (c0 : w.cell? ⟨B, 0, none⟩ = some va) (c1 : w.cell? ⟨B, 1, none⟩ = some vb) (ha : RdE w va E3.cs 3 xs) (hb : RdE w vb E3.cs 3 ys) (hx : xs.length ≤ 1048576) (hy : ys.length ≤ 1048576) (hpos : 0 < xs.length + ys.length) :
    Calls Tryz.prog 40 #[.slice (some ⟨B, 0, none⟩) 2 2] w fun e w' => ∃ v, e = .returned v ∧ OwnE w' w.heap.size 33 v E3.cs 3 (xs ++ ys) ∧ Below w.heap.size w w' := by
  obtain ⟨i0, hi, hz0, hz1, hz2⟩ := info_parts info_Pauli
  have HA := Lib.hid ha; have HB := Lib.hid hb
  obtain ⟨A, c, rfl, _⟩ := ha.form
  obtain ⟨A2, c2, rfl, _⟩ := hb.form
  clear ha hb
  have hB : B < w.heap.size := World.block_lt_of_cell? w ⟨B, 0, none⟩ c0
  go_enter Tryz.func40, Tryz.ntmps40
  go_wp2_with fail
  refine wp_loop_rounds 3 ?_
  rw [rounds_succ]
  go_wp2_with fail
  rw [rounds_succ]
  go_wp2_with fail
  rw [rounds_succ]
  go_wp2_with fail
  refine (slices_Grow_Pauli (xs.length + ys.length) _ (by omega) (by omega)).mono ?_; rintro e w1 ⟨v, rfl, ho, hb1⟩
  replace c0 := below_cell hb1 rfl c0; replace c1 := below_cell hb1 rfl c1
  have O1 := Lib.hid ho; clear ho
  have RA := Lib.hid (Reads.of_rd (Rd.below HA.out hb1 rfl))
  have RB := Lib.hid (Rd.below HB.out hb1 rfl)
  have bw := Lib.hid hb1; have z1 := hb1.size
  clear hb1
  go_wp2_with fail
  refine wp_loop_rounds 3 ?_
  rw [rounds_succ]
  go_wp2_with (at_builtin; refine wpList_append_any _ rfl _ _ 27 rfl w.heap.size 33 i0 (.agg #[.int .i64 0, .int .i64 0, .int .i64 0]) 3 24 Tryz.underlying27 hi hz0 hz1 hz2 rfl (by decide) v 0 [] rfl O1.out w1.heap.size A xs.length c (xs.flatMap E3.cs) rfl RA.out (flat_one E3.one xs) (by unfold maxLen; omega) (by omega) (by omega) ?_; intro v2 w2 hown2 hg2 hat2)
  have z2 := hg2.size
  have b2 := Lib.hid (show Below w.heap.size w w2 from grown_below bw.out O1.out hg2 (Nat.le_refl _) (by omega))
  have d1 : w2.cell? ⟨B, 1, none⟩ = some (.slice A2 ys.length c2) := by rw [b2.out.cell (p := ⟨B, 1, none⟩) hB]; rw [← bw.out.cell (p := ⟨B, 1, none⟩) hB]; exact c1
  have RB2 := Lib.hid (Reads.of_rd (Rd.below HB.out b2.out rfl))
  have O2 := Lib.hid hown2
  simp only [Nat.zero_add, List.nil_append] at O2
  clear hown2 hg2 hat2 c0 c1 O1 RA RB bw
  rw [rounds_succ]
  go_wp2_with (at_builtin; refine wpList_append_any _ rfl _ _ 27 rfl w.heap.size 33 i0 (.agg #[.int .i64 0, .int .i64 0, .int .i64 0]) 3 24 Tryz.underlying27 hi hz0 hz1 hz2 rfl (by decide) v2 xs.length _ rfl O2.out w2.heap.size A2 ys.length c2 (ys.flatMap E3.cs) rfl RB2.out (flat_one E3.one ys) (by unfold maxLen; omega) (by omega) (by omega) ?_; intro v3 w3 hown3 hg3 hat3)
  have b3 := Lib.hid (show Below w.heap.size w w3 from grown_below b2.out O2.out hg3 (Nat.le_refl _) (by omega))
  have O3 := Lib.hid hown3
  clear hown3 hg3 hat3
  rw [rounds_succ]
  go_wp2_with fail
  go_ret
  exact ⟨v3, rfl, by unfold OwnE; rw [List.length_append, List.flatMap_append]; exact O3.out, b3.out⟩
end Go.Proofs.YtnckabohlakbgaaGreat
