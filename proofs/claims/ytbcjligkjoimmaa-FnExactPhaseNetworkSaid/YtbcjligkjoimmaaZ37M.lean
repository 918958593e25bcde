/- slices.Concat of two slices over Gate. -/
import Derived.Test.YtbcjligkjoimmaaZ06TyGate
import Derived.Test.YtbcjligkjoimmaaZ09Words
import Derived.Test.YtbcjligkjoimmaaZ24M
import Derived.Lib.AppendZeros
import Derived.Deep.LoopGhost
import Derived.Test.YtbcjligkjoimmaaZ34M
namespace Go.Proofs.Ytbcjligkjoimmaa
set_option linter.unusedSimpArgs false
set_option linter.unusedVariables false
set_option linter.unnecessarySimpa false
set_option maxRecDepth 200000
open Go.ChangeShapes Go.WideShapes Go.ChangeAt Go.RowKit

theorem zeroCells_len (z : Array Value) (n : Nat) : (Builtin.zeroCells z n).size = n * z.size := by simp [Builtin.zeroCells]
/-- A row of zeros that has just been made, cut to no element, is owned. -/
theorem own_grow {w : World} {base size n : Nat} {e : TypeId} {z : Value} (hzs : z.cells.size = size) (hn : n ≤ maxLen) (hb : base ≤ w.heap.size) :
    (w.drew.alloc (.cells (Builtin.zeroCells z.cells n ++ Builtin.zeroCells z.cells (grownCap w n 0 e - n)) e)).ownsRow base e size (.slice (some ⟨w.heap.size, 0, none⟩) 0 (grownCap w n 0 e)) 0 [] := by
  refine ⟨by simp, .inr ⟨w.heap.size, _, Builtin.zeroCells z.cells n ++ Builtin.zeroCells z.cells (grownCap w n 0 e - n), rfl, hb, ?_, Nat.zero_le _, grownCap_le_maxLen w n 0 e hn, ?_, by simp⟩⟩
  · show (w.drew.heap.push _)[w.heap.size]? = _
    have : w.drew.heap = w.heap := rfl
    rw [this]; simp
  · have := grownCap_ge w n 0 e
    rw [Array.size_append, zeroCells_len, zeroCells_len, hzs, ← Nat.add_mul]
    congr 1; omega
set_option maxHeartbeats 1000000 in
theorem slices_Grow_Gate (n : Nat) (w : World) (h0 : 0 < n) (h1 : n ≤ 4194304) :
    Calls Try.prog 77 #[.slice none 0 0, .int .i64 (n : Int)] w fun e w' => ∃ v, e = .returned v ∧ OwnE w' w.heap.size 58 v E3.cs 3 [] ∧ Below w.heap.size w w' := by
  obtain ⟨i0, hi, hz0, hz1, hz2⟩ := info_parts info_Gate
  have HO := Lib.hid (own_grow (w := w) (base := w.heap.size) (size := 3) (n := n) (e := 58) (z := .agg #[.int .i64 0, .int .i64 0, .int .i64 0]) rfl (by unfold maxLen; omega) (Nat.le_refl _))
  have HR := Lib.hid (Lib.run_append_nil_zeros (P := Try.prog) w 29 3 29 58 i0 (.agg #[.int .i64 0, .int .i64 0, .int .i64 0]) .i64 .i64 Try.underlying29 Try.underlying3 hi hz0 n h0 (by rw [hz1]; omega) (by omega) (by rw [hz2]; omega))
  have p0 : (0 : Int) < n := by omega
  go_enter Try.func77, Try.ntmps77
  go_wp2_with (at_builtin; refine Lib.wpList_append_run _ rfl _ _ _ _ rfl _ _ rfl rfl _ _ HR.out ?_)
  go_ret
  exact ⟨_, rfl, HO.out, (by repeat (first | exact Below.refl _ _ | assumption | refine Below.drew ?_ | refine below_drewN ?_ _ | refine Below.alloc ?_ (by first | omega | (simp <;> omega)) _ | refine Below.setCell ?_ (by first | omega | (simp <;> omega)) _ | refine Below.trans ?_ (Below.mono (by assumption) (by first | omega | (simp <;> omega)))))⟩
set_option maxHeartbeats 4000000 in
theorem slices_Concat_Gate (B : Nat) (va vb : Value) (xs ys : List E3) (w : World) (c0 : w.cell? ⟨B, 0, none⟩ = some va) (c1 : w.cell? ⟨B, 1, none⟩ = some vb) (ha : RdE w va E3.cs 3 xs) (hb : RdE w vb E3.cs 3 ys) (hx : xs.length ≤ 1048576) (hy : ys.length ≤ 1048576) (hpos : 0 < xs.length + ys.length) :
    Calls Try.prog 31 #[.slice (some ⟨B, 0, none⟩) 2 2] w fun e w' => ∃ v, e = .returned v ∧ OwnE w' w.heap.size 58 v E3.cs 3 (xs ++ ys) ∧ Below w.heap.size w w' := by
  obtain ⟨i0, hi, hz0, hz1, hz2⟩ := info_parts info_Gate
  have HA := Lib.hid ha; have HB := Lib.hid hb
  obtain ⟨A, c, rfl, _⟩ := ha.form
  obtain ⟨A2, c2, rfl, _⟩ := hb.form
  clear ha hb
  have hB : B < w.heap.size := World.block_lt_of_cell? w ⟨B, 0, none⟩ c0
  go_enter Try.func31, Try.ntmps31
  go_wp2_with fail
  refine wp_loop_rounds 3 ?_
  rw [rounds_succ]
  go_wp2_with fail
  rw [rounds_succ]
  go_wp2_with fail
  rw [rounds_succ]
  go_wp2_with fail
  refine (slices_Grow_Gate (xs.length + ys.length) _ (by omega) (by omega)).mono ?_; rintro e w1 ⟨v, rfl, ho, hb1⟩
  replace c0 := below_cell hb1 rfl c0; replace c1 := below_cell hb1 rfl c1
  have O1 := Lib.hid ho; clear ho
  have RA := Lib.hid (Reads.of_rd (Rd.below HA.out hb1 rfl))
  have RB := Lib.hid (Rd.below HB.out hb1 rfl)
  have bw := Lib.hid hb1; have z1 := hb1.size
  clear hb1
  go_wp2_with fail
  refine wp_loop_rounds 3 ?_
  rw [rounds_succ]
  go_wp2_with (at_builtin; refine wpList_append_any _ rfl _ _ 29 rfl w.heap.size 58 i0 (.agg #[.int .i64 0, .int .i64 0, .int .i64 0]) 3 24 Try.underlying29 hi hz0 hz1 hz2 rfl (by decide) v 0 [] rfl O1.out w1.heap.size A xs.length c (xs.flatMap E3.cs) rfl RA.out (flat_one E3.one xs) (by unfold maxLen; omega) (by omega) (by omega) ?_; intro v2 w2 hown2 hg2 hat2)
  have z2 := hg2.size
  have b2 := Lib.hid (show Below w.heap.size w w2 from grown_below bw.out O1.out hg2 (Nat.le_refl _) (by omega))
  have d1 : w2.cell? ⟨B, 1, none⟩ = some (.slice A2 ys.length c2) := by rw [b2.out.cell (p := ⟨B, 1, none⟩) hB]; rw [← bw.out.cell (p := ⟨B, 1, none⟩) hB]; exact c1
  have RB2 := Lib.hid (Reads.of_rd (Rd.below HB.out b2.out rfl))
  have O2 := Lib.hid hown2
  simp only [Nat.zero_add, List.nil_append] at O2
  clear hown2 hg2 hat2 c0 c1 O1 RA RB bw
  rw [rounds_succ]
  go_wp2_with (at_builtin; refine wpList_append_any _ rfl _ _ 29 rfl w.heap.size 58 i0 (.agg #[.int .i64 0, .int .i64 0, .int .i64 0]) 3 24 Try.underlying29 hi hz0 hz1 hz2 rfl (by decide) v2 xs.length _ rfl O2.out w2.heap.size A2 ys.length c2 (ys.flatMap E3.cs) rfl RB2.out (flat_one E3.one ys) (by unfold maxLen; omega) (by omega) (by omega) ?_; intro v3 w3 hown3 hg3 hat3)
  have b3 := Lib.hid (show Below w.heap.size w w3 from grown_below b2.out O2.out hg3 (Nat.le_refl _) (by omega))
  have O3 := Lib.hid hown3
  clear hown3 hg3 hat3
  rw [rounds_succ]
  go_wp2_with fail
  go_ret
  exact ⟨v3, rfl, by unfold OwnE; rw [List.length_append, List.flatMap_append]; exact O3.out, b3.out⟩
end Go.Proofs.Ytbcjligkjoimmaa
namespace Go.Proofs.Ytbcjligkjoimmaa
set_option linter.unusedSimpArgs false
set_option linter.unusedVariables false
set_option linter.unnecessarySimpa false
set_option maxRecDepth 200000
open Go.ChangeShapes Go.WideShapes Go.ChangeAt Go.RowKit

theorem slices_Grow_Gate_0 (w : World) :
    Calls Try.prog 77 #[.slice none 0 0, .int .i64 0] w fun e w' => e = .returned (.slice none 0 0) ∧ w' = w := by
  go_enter Try.func77, Try.ntmps77
  go_wp2_with fail
  go_ret
  exact ⟨rfl, rfl⟩
set_option maxHeartbeats 4000000 in
theorem slices_Concat_Gate_0 (B : Nat) (va vb : Value) (xs ys : List E3) (w : World) (c0 : w.cell? ⟨B, 0, none⟩ = some va) (c1 : w.cell? ⟨B, 1, none⟩ = some vb) (ha : RdE w va E3.cs 3 xs) (hb : RdE w vb E3.cs 3 ys) (hx : xs.length = 0) (hy : ys.length = 0) :
    Calls Try.prog 31 #[.slice (some ⟨B, 0, none⟩) 2 2] w fun e w' => ∃ v, e = .returned v ∧ OwnE w' w.heap.size 58 v E3.cs 3 (xs ++ ys) ∧ Below w.heap.size w w' := by
  obtain ⟨i0, hi, hz0, hz1, hz2⟩ := info_parts info_Gate
  have HA := Lib.hid ha; have HB := Lib.hid hb
  obtain ⟨A, c, rfl, _⟩ := ha.form
  obtain ⟨A2, c2, rfl, _⟩ := hb.form
  clear ha hb
  rw [hx] at c0; rw [hy] at c1
  have hB : B < w.heap.size := World.block_lt_of_cell? w ⟨B, 0, none⟩ c0
  go_enter Try.func31, Try.ntmps31
  go_wp2_with fail
  refine wp_loop_rounds 3 ?_
  rw [rounds_succ]
  go_wp2_with fail
  rw [rounds_succ]
  go_wp2_with fail
  rw [rounds_succ]
  go_wp2_with fail
  refine (slices_Grow_Gate_0 _).mono ?_; rintro e w1 ⟨rfl, hw1⟩
  have hb1 : Below w.heap.size w w1 := by rw [hw1]; exact Below.refl _ _
  have ho : OwnE w1 w.heap.size 58 (.slice none 0 0) E3.cs 3 [] := OwnE.nil _ _ _
  clear hw1
  replace c0 := below_cell hb1 rfl c0; replace c1 := below_cell hb1 rfl c1
  have O1 := Lib.hid ho; clear ho
  have RA := Lib.hid (Reads.of_rd (Rd.below HA.out hb1 rfl))
  have RB := Lib.hid (Rd.below HB.out hb1 rfl)
  have bw := Lib.hid hb1; have z1 := hb1.size
  clear hb1
  go_wp2_with fail
  refine wp_loop_rounds 3 ?_
  rw [rounds_succ]
  go_wp2_with (at_builtin; refine wpList_append_any _ rfl _ _ 29 rfl w.heap.size 58 i0 (.agg #[.int .i64 0, .int .i64 0, .int .i64 0]) 3 24 Try.underlying29 hi hz0 hz1 hz2 rfl (by decide) (.slice none 0 0) 0 [] rfl O1.out w1.heap.size A 0 c (xs.flatMap E3.cs) rfl (by rw [← hx]; exact RA.out) (flat_one E3.one xs) (by unfold maxLen; omega) (by omega) (by omega) ?_; intro v2 w2 hown2 hg2 hat2)
  have z2 := hg2.size
  have b2 := Lib.hid (show Below w.heap.size w w2 from grown_below bw.out O1.out hg2 (Nat.le_refl _) (by omega))
  have d1 : w2.cell? ⟨B, 1, none⟩ = some (.slice A2 0 c2) := by rw [b2.out.cell (p := ⟨B, 1, none⟩) hB]; rw [← bw.out.cell (p := ⟨B, 1, none⟩) hB]; exact c1
  have RB2 := Lib.hid (Reads.of_rd (Rd.below HB.out b2.out rfl))
  have O2 := Lib.hid hown2
  simp only [Nat.zero_add, List.nil_append] at O2
  clear hown2 hg2 hat2 c0 c1 O1 RA RB bw
  rw [rounds_succ]
  go_wp2_with (at_builtin; refine wpList_append_any _ rfl _ _ 29 rfl w.heap.size 58 i0 (.agg #[.int .i64 0, .int .i64 0, .int .i64 0]) 3 24 Try.underlying29 hi hz0 hz1 hz2 rfl (by decide) v2 0 _ rfl O2.out w2.heap.size A2 0 c2 (ys.flatMap E3.cs) rfl (by rw [← hy]; exact RB2.out) (flat_one E3.one ys) (by unfold maxLen; omega) (by omega) (by omega) ?_; intro v3 w3 hown3 hg3 hat3)
  have b3 := Lib.hid (show Below w.heap.size w w3 from grown_below b2.out O2.out hg3 (Nat.le_refl _) (by omega))
  have O3 := Lib.hid hown3
  clear hown3 hg3 hat3
  rw [rounds_succ]
  go_wp2_with fail
  go_ret
  exact ⟨v3, rfl, by unfold OwnE; rw [List.length_append, List.flatMap_append, hx, hy]; exact O3.out, b3.out⟩
theorem slices_Concat_Gate_all (B : Nat) (va vb : Value) (xs ys : List E3) (w : World) (c0 : w.cell? ⟨B, 0, none⟩ = some va) (c1 : w.cell? ⟨B, 1, none⟩ = some vb) (ha : RdE w va E3.cs 3 xs) (hb : RdE w vb E3.cs 3 ys) (hx : xs.length ≤ 1048576) (hy : ys.length ≤ 1048576) :
    Calls Try.prog 31 #[.slice (some ⟨B, 0, none⟩) 2 2] w fun e w' => ∃ v, e = .returned v ∧ OwnE w' w.heap.size 58 v E3.cs 3 (xs ++ ys) ∧ Below w.heap.size w w' := by
  by_cases hpos : 0 < xs.length + ys.length
  · exact slices_Concat_Gate B va vb xs ys w c0 c1 ha hb hx hy hpos
  · exact slices_Concat_Gate_0 B va vb xs ys w c0 c1 ha hb (by omega) (by omega)
theorem info_intP : (Try.prog.info? 3).map (fun i => (i.zero, i.size, i.bytes)) = some (some (.int .i64 0), 1, 8) := by kernel_rfl
theorem reads_int (w : World) (x : Int) : Reads (w.alloc (.cells #[.int .i64 x] 3)) (w.heap.size + 1) 1 (some ⟨w.heap.size, 0, none⟩) 1 [.int .i64 x] :=
  ⟨rfl, fun _ => ⟨_, rfl, by simp, news_cells w [_] _⟩⟩
set_option maxHeartbeats 4000000 in
theorem impl_masksOf_any (v : Value) (ts : List E2) (w : World) (h : RdE w v E2.cs 2 ts) (hl : ts.length ≤ 1048576) :
    Calls Try.prog 26 #[v] w fun e w' => ∃ u, e = .returned u ∧ OwnI w' w.heap.size u (ts.map (·.a)) ∧ Below w.heap.size w w' := by
  obtain ⟨i0, hi, hz0, hz1, hz2⟩ := info_parts info_intP
  obtain ⟨A, c, rfl, HC⟩ := term_at2 h
  clear h
  go_enter Try.func26, Try.ntmps26
  go_wp2_with fail
  have O0 := Lib.hid (show (w.alloc (.cells #[] 3)).ownsRow w.heap.size 3 1 (.slice (some ⟨w.heap.size, 0, none⟩) 0 0) 0 [] from own_lit0 (f := fun x : Int => [.int .i64 x]) (sz := 1) w w.heap.size 3 w.heap.size rfl (Nat.le_refl _))
  have B0 := Lib.hid (show Below w.heap.size w (w.alloc (.cells #[] 3)) from (by repeat (first | exact Below.refl _ _ | assumption | refine Below.drew ?_ | refine below_drewN ?_ _ | refine Below.alloc ?_ (by first | omega | (simp <;> omega)) _ | refine Below.setCell ?_ (by first | omega | (simp <;> omega)) _ | refine Below.trans ?_ (Below.mono (by assumption) (by first | omega | (simp <;> omega))))))
  go_loopw [3, 9] (fun so si wr => ∃ (k : Nat) (u : Value), u = so ∧ k ≤ ts.length ∧ si = .int .i64 k ∧ Hid (wr.ownsRow w.heap.size 3 1 u k (((ts.take k).map (·.a)).map (Value.int .i64))) ∧ Hid (Below w.heap.size w wr) ∧ w.heap.size ≤ wr.heap.size) (fun _ si _ => ts.length - (intOf si).toNat)
  case atStart => exact ⟨0, _, rfl, Nat.zero_le _, rfl, O0, B0, by simp⟩
  case round =>
    clear O0 B0
    obtain ⟨k, u, rfl, hk, rfl, hO, hB, hsz⟩ := hrel
    obtain ⟨aU, cU, rfl⟩ : ∃ a c, u = .slice a k c := by
      rcases Go.Joins.ownsRow_forms hO.out with ⟨rfl, h0⟩ | ⟨g, cap, rfl⟩
      · exact ⟨none, 0, by rw [h0]⟩
      · exact ⟨_, _, rfl⟩
    by_cases hlt : k < ts.length
    · have j1 : (k : Int) < (ts.length : Int) := by omega
      obtain ⟨b, off, rfl, hb, c0, c1⟩ := HC.out k hlt
      replace c0 := (hB.out.cell hb).trans c0
      replace c1 := (hB.out.cell hb).trans c1
      have HN := Lib.hid (show ((ts.take (k + 1)).map (·.a)).map (Value.int .i64) = ((ts.take k).map (·.a)).map (Value.int .i64) ++ [.int .i64 (ts.getD k ⟨0, 0⟩).a] from by
        rw [List.take_succ_eq_append_getElem hlt, List.map_append, List.map_append]; simp [List.getD, hlt])
      obtain ⟨x, hx⟩ : ∃ x, x = ts.getD k ⟨0, 0⟩ := ⟨_, rfl⟩
      rw [← hx] at c0 c1 HN
      clear hx
      have OX := Lib.hid (World.ownsRow.alloc (World.ownsRow.alloc hO.out (.cells #[.int .i64 x.a, .int .i64 x.b] 48)) (.cells #[.int .i64 x.a] 3))
      have hbX := Lib.hid (show Below w.heap.size w ((wr.alloc (.cells #[.int .i64 x.a, .int .i64 x.b] 48)).alloc (.cells #[.int .i64 x.a] 3)) from Below.alloc (Below.alloc hB.out hsz _) (by simp; omega) _)
      have g3 : w.heap.size ≤ ((wr.alloc (.cells #[.int .i64 x.a, .int .i64 x.b] 48)).alloc (.cells #[.int .i64 x.a] 3)).heap.size := hbX.out.size
      have g1 : k + 1 ≤ maxLen := by unfold maxLen; omega
      have g2 : (k + 1) * 8 ≤ 140737488355328 := by omega
      have g5 : Reads ((wr.alloc (.cells #[.int .i64 x.a, .int .i64 x.b] 48)).alloc (.cells #[.int .i64 x.a] 3)) (wr.heap.size + 1 + 1) 1 (some ⟨wr.heap.size + 1, 0, none⟩) 1 [.int .i64 x.a] := by
        have h9 := reads_int (wr.alloc (.cells #[.int .i64 x.a, .int .i64 x.b] 48)) x.a
        rwa [show (wr.alloc (.cells #[.int .i64 x.a, .int .i64 x.b] 48)).heap.size = wr.heap.size + 1 from by simp] at h9
      have g6 : ∀ u ∈ [Value.int .i64 x.a], u.oneCell' = true := fun u hu => by simp at hu; subst hu; rfl
      go_wp2_with (at_builtin; go_loud (refine wpList_append_any _ rfl (.tmp 13) (.tmp 16) 23 rfl w.heap.size 3 i0 (.int .i64 0) 1 8 Try.underlying23 hi hz0 hz1 hz2 rfl (by decide) (.slice aU k cU) k (((ts.take k).map (·.a)).map (Value.int .i64)) ?hs ?ho (wr.heap.size + 1 + 1) (some ⟨wr.heap.size + 1, 0, none⟩) 1 1 [.int .i64 x.a] ?hx ?hr ?h1 ?h63 ?hb ?hbs ?_; (case ho => with_reducible exact OX.out); (case hs => rfl); (case h63 => exact g1); (case hb => exact g2); (case hbs => exact g3); (case h1 => exact g6); (case hx => rfl); (case hr => exact g5); intro v3 w4 hown3 hg3 hat3; have S4 := Lib.hid (show w4.ownsRow w.heap.size 3 1 v3 (k + 1) (((ts.take (k + 1)).map (·.a)).map (Value.int .i64)) from (by rw [HN.out]; exact hown3)); have B4 := Lib.hid (grown_below hbX.out OX.out hg3 (Nat.le_refl _) g3); have z4 := hg3.size; clear hown3 hg3 hat3))
      go_roundw
      case rel => exact ⟨k + 1, v3, rfl, by omega, by go_num, S4, B4, by omega⟩
      case measure => simp [intOf]; omega
    · have ek : k = ts.length := by omega
      subst ek
      have i2 : ¬ (ts.length : Int) < (ts.length : Int) := by omega
      have hO2 := hO.out
      rw [List.take_of_length_le (Nat.le_refl _)] at hO2
      have HO := Lib.hid (show OwnI wr w.heap.size (.slice aU ts.length cU) (ts.map (·.a)) from by unfold OwnI; rw [List.length_map]; exact hO2)
      clear hO2
      have bq := hB.out
      go_wp2_with fail
      go_ret
      exact ⟨_, rfl, HO.out, (by repeat (first | exact Below.refl _ _ | assumption | refine Below.drew ?_ | refine below_drewN ?_ _ | refine Below.alloc ?_ (by first | omega | (simp <;> omega)) _ | refine Below.setCell ?_ (by first | omega | (simp <;> omega)) _ | refine Below.trans ?_ (Below.mono (by assumption) (by first | omega | (simp <;> omega)))))⟩
end Go.Proofs.Ytbcjligkjoimmaa
