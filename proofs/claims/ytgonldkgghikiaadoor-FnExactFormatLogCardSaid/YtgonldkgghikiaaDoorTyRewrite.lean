/- Rewrite: the laws' helpers that measure and copy. -/
import Derived.Test.YtgonldkgghikiaaDoorElRewrite
import Derived.Test.YtgonldkgghikiaaDoorArg1
namespace Go.Proofs.YtgonldkgghikiaaDoor
set_option linter.unusedSimpArgs false
set_option linter.unusedVariables false
set_option linter.unnecessarySimpa false
set_option maxRecDepth 200000
open Go.ChangeShapes Go.WideShapes Go.ChangeAt Go.RowKit Go.Joins

theorem info_Rewrite : (Tryd.prog.info? 43).map (fun i => (i.zero, i.size, i.bytes)) = some (some (.agg #[.int .i64 0, .int .i64 0, .int .i64 0]), 3, 24) := by kernel_rfl
theorem laws_szRewriteS_ok (v : Value) (xs : List E3) (left : Int) (w : World) (h : RdE w v E3.cs 3 xs) (h0 : (xs.length : Int) ≤ left) (h1 : left ≤ 1048576) :
    Calls Tryd.prog 9 #[v, .int .i64 left] w fun e w' => e = .returned (.int .i64 (left - xs.length)) ∧ Below w.heap.size w w' := by
  obtain ⟨a, cap, rfl, hl⟩ := h.form
  clear h
  go_enter Tryd.func9, Tryd.ntmps9
  go_wp2_with fail
  go_ret
  exact ⟨rfl, (by repeat (first | exact Below.refl _ _ | assumption | refine Below.drew ?_ | refine below_drewN ?_ _ | refine Below.alloc ?_ (by first | omega | (simp <;> omega)) _ | refine Below.setCell ?_ (by first | omega | (simp <;> omega)) _ | refine Below.trans ?_ (Below.mono (by assumption) (by first | omega | (simp <;> omega)))))⟩
theorem laws_szRewriteS_no (v : Value) (xs : List E3) (left : Int) (w : World) (h : RdE w v E3.cs 3 xs) (h0 : left < (xs.length : Int)) (h1 : left ≤ 1048576) (h2 : 0 ≤ left) :
    Calls Tryd.prog 9 #[v, .int .i64 left] w fun e w' => e = .returned (.int .i64 (-1)) ∧ Below w.heap.size w w' := by
  obtain ⟨a, cap, rfl, hl⟩ := h.form
  clear h
  go_enter Tryd.func9, Tryd.ntmps9
  go_wp2_with fail
  go_ret
  exact ⟨rfl, (by repeat (first | exact Below.refl _ _ | assumption | refine Below.drew ?_ | refine below_drewN ?_ _ | refine Below.alloc ?_ (by first | omega | (simp <;> omega)) _ | refine Below.setCell ?_ (by first | omega | (simp <;> omega)) _ | refine Below.trans ?_ (Below.mono (by assumption) (by first | omega | (simp <;> omega)))))⟩
theorem laws_toRewrite_any (x : E3) (w : World) :
    Calls Tryd.prog 20 #[.agg #[.int .i64 x.a, .int .i64 x.b, .int .i64 x.c]] w fun e w' => e = .returned (.agg #[.int .i64 x.a, .int .i64 x.b, .int .i64 x.c]) ∧ Below w.heap.size w w' := by
  go_enter Tryd.func20, Tryd.ntmps20
  go_wp2_with fail
  exact bodyPost_ret (v := .agg #[.int .i64 x.a, .int .i64 x.b, .int .i64 x.c]) (by simp [results, Tryd.results20, go_sem]) rfl ⟨rfl, (by repeat (first | exact Below.refl _ _ | assumption | refine Below.drew ?_ | refine below_drewN ?_ _ | refine Below.alloc ?_ (by first | omega | (simp <;> omega)) _ | refine Below.setCell ?_ (by first | omega | (simp <;> omega)) _ | refine Below.trans ?_ (Below.mono (by assumption) (by first | omega | (simp <;> omega)))))⟩


theorem setRewrite_chain {xs : List E3} {ys : List Value} {k : Nat} (h : k < xs.length) (hl : ys.length = xs.length * 3) :
    (((((xs.take k).flatMap E3.cs ++ ys.drop (k * 3)).set (k * 3) (.int .i64 xs[k].a)).set (k * 3 + 1) (.int .i64 xs[k].b)).set (k * 3 + 2) (.int .i64 xs[k].c)) = (xs.take (k + 1)).flatMap E3.cs ++ ys.drop ((k + 1) * 3) := by
  have e : ((xs.take k).flatMap E3.cs).length = k * 3 := by rw [flat_len E3.len]; simp; omega
  obtain ⟨y0, y1, y2, zs, hz⟩ : ∃ y0 y1 y2 zs, ys.drop (k * 3) = y0 :: y1 :: y2 :: zs := by
    have hd : (ys.drop (k * 3)).length = ys.length - k * 3 := List.length_drop
    match hh : ys.drop (k * 3) with
    | y0 :: y1 :: y2 :: zs => exact ⟨y0, y1, y2, zs, rfl⟩
    | [] => rw [hh] at hd; simp at hd; omega
    | [y0] => rw [hh] at hd; simp at hd; omega
    | [y0, y1] => rw [hh] at hd; simp at hd; omega

  have hz2 : ys.drop ((k + 1) * 3) = zs := by
    rw [show (k + 1) * 3 = k * 3 + 3 from by omega, ← List.drop_drop, hz]; rfl
  rw [hz2, hz, List.take_succ_eq_append_getElem h, List.flatMap_append]
  rw [List.set_append_right _ _ (by rw [e]; omega), e, show k * 3 - k * 3 = 0 from by omega]
  rw [List.set_append_right _ _ (by rw [e]; omega), e, show k * 3 + 1 - k * 3 = 1 from by omega]
  rw [List.set_append_right _ _ (by rw [e]; omega), e, show k * 3 + 2 - k * 3 = 2 from by omega]
  simp [E3.cs]
set_option maxHeartbeats 1000000 in
theorem laws_toRewriteS_any (v : Value) (xs : List E3) (w : World) (h : RdE w v E3.cs 3 xs) (hn : xs.length ≤ 1048576) :
    Calls Tryd.prog 11 #[v] w fun e w' => ∃ v', e = .returned v' ∧ OwnE w' w.heap.size 43 v' E3.cs 3 xs ∧ Below w.heap.size w w' := by
  obtain ⟨i0, hi, hz0, hz1, hz2⟩ := info_parts info_Rewrite
  have hz : (madeCells (Value.agg #[.int .i64 0, .int .i64 0, .int .i64 0]).cells (xs.length * 3)).toList.length = xs.length * 3 := by rw [Array.length_toList, size_madeCells]
  rcases h.cases0 E3.len with ⟨rfl, a1, cap1, rfl⟩ | ⟨hx, b1, off1, cap1, rfl, hb1, hl1, hm1, hc1⟩
  · clear h
    go_enter Tryd.func11, Tryd.ntmps11
    go_wp2_with (at_make; refine wpList_make_full _ rfl _ _ 33 rfl w.heap.size 43 i0 (.agg #[.int .i64 0, .int .i64 0, .int .i64 0]) 3 Tryd.underlying33 hi hz0 hz1 _ _ _ _ 0 rfl rfl (by omega) (by omega) (by omega) (by unfold maxLen; omega) (by simp) ?_; intro w1 hown1 hgr1)
    refine wp_loop_rounds 1 ?_
    rw [rounds_succ]
    go_wp2_with fail
    go_ret
    have e0 : (madeCells (Value.agg #[.int .i64 0, .int .i64 0, .int .i64 0]).cells (0 * 3)).toList = [] := List.eq_nil_of_length_eq_zero (by rw [Array.length_toList, size_madeCells])
    rw [e0] at hown1
    exact ⟨.slice (some ⟨w.heap.size, 0, none⟩) 0 0, rfl, hown1, (Below.refl _ w).grown hgr1 (Nat.le_refl _) (fun k hk => by cases hk)⟩
  · clear h
    have hbig : (24 : Int) * xs.length ≤ 8388608 * 3 := by omega
    go_enter Tryd.func11, Tryd.ntmps11
    go_wp2_with (at_make; refine wpList_make_full _ rfl _ _ 33 rfl w.heap.size 43 i0 (.agg #[.int .i64 0, .int .i64 0, .int .i64 0]) 3 Tryd.underlying33 hi hz0 hz1 _ _ _ _ xs.length rfl rfl (by omega) (by omega) (by rw [hz2]; omega) (by unfold maxLen; omega) (by simp) ?_; intro w1 hown1 hgr1)
    obtain ⟨ys, hys⟩ : ∃ ys, ys = (madeCells (Value.agg #[.int .i64 0, .int .i64 0, .int .i64 0]).cells (xs.length * 3)).toList := ⟨_, rfl⟩
    rw [← hys] at hown1 hz
    have hB1 : Below w.heap.size w w1 := (Below.refl _ w).grown hgr1 (Nat.le_refl _) (fun k hk => by cases hk)
    have H0 : Hid (w1.ownsRow w.heap.size 43 3 (.slice (some ⟨w.heap.size, 0, none⟩) xs.length xs.length) xs.length ((xs.take 0).flatMap E3.cs ++ ys.drop (0 * 3))) := by show World.ownsRow _ _ _ _ _ _ _; simpa using hown1
    have Hz := Lib.hid hz
    have h00 : w.heap.size < w1.heap.size := (hown1.lt w.heap.size rfl).2
    clear hown1 hys hz hgr1
    go_wp2_with fail
    go_loopw [4] (fun i wr => ∃ k : Nat, k ≤ xs.length ∧ i = .int .i64 k ∧ Hid (wr.ownsRow w.heap.size 43 3 (.slice (some ⟨w.heap.size, 0, none⟩) xs.length xs.length) xs.length ((xs.take k).flatMap E3.cs ++ ys.drop (k * 3))) ∧ Below w.heap.size w wr) (fun i _ => xs.length - (intOf i).toNat)
    case atStart => exact ⟨0, Nat.zero_le _, rfl, H0, hB1⟩
    case round =>
      obtain ⟨k, hk, rfl, hown, hbel⟩ := hrel
      clear H0 hB1
      by_cases hlt : k < xs.length
      · have hne : b1 ≠ w.heap.size := by omega
        have i0 : (0 : Int) ≤ (k : Int) := by omega
        have i1 : (k : Int) < (xs.length : Int) := by omega
        have hlw := hbel.size
        have hlv : w.heap.size < wr.heap.size := (hown.out.lt w.heap.size rfl).2
        have p0 : wr.cell? ⟨b1, off1 + k * 3, none⟩ = some (.int .i64 xs[k].a) := (hbel.cell hb1).trans (hc1 k hlt 0 _ (by omega) rfl)
        have p1 : wr.cell? ⟨b1, off1 + k * 3 + 1, none⟩ = some (.int .i64 xs[k].b) := (hbel.cell hb1).trans (hc1 k hlt 1 _ (by omega) rfl)
        have p2 : wr.cell? ⟨b1, off1 + k * 3 + 2, none⟩ = some (.int .i64 xs[k].c) := (hbel.cell hb1).trans (hc1 k hlt 2 _ (by omega) rfl)
        obtain ⟨u0, q0⟩ := marks_cell hown.out (j := k * 3) (by omega)
        have f0 := hown.out.frozenAt (k * 3)
        obtain ⟨u1, q1⟩ := marks_cell hown.out (j := k * 3 + 1) (by omega)
        have f1 := hown.out.frozenAt (k * 3 + 1)
        obtain ⟨u2, q2⟩ := marks_cell hown.out (j := k * 3 + 2) (by omega)
        have f2 := hown.out.frozenAt (k * 3 + 2)
        clear hc1 h00
        go_wp2_with fail
        refine (laws_toRewrite_any xs[k] _).mono ?_; rintro e w2 ⟨rfl, hbb⟩
        have hlv2 : w.heap.size < wr.heap.size := hlv
        replace q0 := below_cell hbb rfl q0
        replace f0 := below_frz hbb rfl hlv f0
        replace q1 := below_cell hbb rfl q1
        replace f1 := below_frz hbb rfl hlv f1
        replace q2 := below_cell hbb rfl q2
        replace f2 := below_frz hbb rfl hlv f2
        go_wp2_with fail
        go_roundw
        case rel =>
          refine ⟨k + 1, by omega, by go_num, ?_, ?_⟩
          · show World.ownsRow _ _ _ _ _ _ _
            have s0 := own_below hown.out hbb rfl
            have s1 := (s0.stored (k * 3) (.int .i64 xs[k].a)).1
            have s2 := (s1.stored (k * 3 + 1) (.int .i64 xs[k].b)).1
            have s3 := (s2.stored (k * 3 + 2) (.int .i64 xs[k].c)).1
            rw [setRewrite_chain hlt Hz.out] at s3
            exact s3
          · have hbel2 : Below w.heap.size w w2 := below_step hbel hbb
            exact Below.setCell (Below.setCell (Below.setCell (hbel2) (by simp) _) (by simp) _) (by simp) _
        case measure => simp [intOf]; omega
      · have e : k = xs.length := by omega
        subst e
        clear hc1
        go_wp2_with fail
        go_ret
        refine ⟨_, rfl, ?_, hbel⟩
        have h1 := hown.out
        rw [List.take_of_length_le (Nat.le_refl _), List.drop_eq_nil_of_le (by rw [Hz.out]; omega), List.append_nil] at h1
        exact h1
end Go.Proofs.YtgonldkgghikiaaDoor
