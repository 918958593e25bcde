/- Term: the laws' helpers: equal, marked, held. -/
import Derived.Test.YtbcjligkjoimmaaZ00M
import Derived.Test.YtbcjligkjoimmaaZ01M
import Derived.Test.YtbcjligkjoimmaaZ05Arg1
import Derived.Test.YtbcjligkjoimmaaZ09Words
namespace Go.Proofs.Ytbcjligkjoimmaa
set_option linter.unusedSimpArgs false
set_option linter.unusedVariables false
set_option linter.unnecessarySimpa false
set_option maxRecDepth 200000
open Go.ChangeShapes Go.WideShapes Go.ChangeAt Go.RowKit

theorem laws_eqTerm_any (x y : E2) (w : World) :
    Calls Try.prog 81 #[.agg #[.int .i64 x.a, .int .i64 x.b], .agg #[.int .i64 y.a, .int .i64 y.b]] w fun e w' => e = .returned (.bool (decide (x = y))) ∧ Below w.heap.size w w' := by
  obtain ⟨xa, xb⟩ := x
  obtain ⟨ya, yb⟩ := y
  dsimp only
  go_enter Try.func81, Try.ntmps81
  go_wp2_with fail
  all_goals (go_ret; exact ⟨ret_bool (by go_light; rw [Bool.eq_iff_iff]; simp only [decide_eq_true_eq, beq_iff_eq, Bool.false_eq_true, true_iff, false_iff, iff_true, iff_false]; (try simp_all [E2.mk.injEq]) <;> (try omega)), (by repeat (first | exact Below.refl _ _ | assumption | refine Below.drew ?_ | refine below_drewN ?_ _ | refine Below.alloc ?_ (by first | omega | (simp <;> omega)) _ | refine Below.setCell ?_ (by first | omega | (simp <;> omega)) _ | refine Below.trans ?_ (Below.mono (by assumption) (by first | omega | (simp <;> omega)))))⟩)

theorem laws_eqTermS_any (va vb : Value) (xs ys : List E2) (w : World) (ha : RdE w va E2.cs 2 xs) (hb : RdE w vb E2.cs 2 ys) :
    Calls Try.prog 36 #[va, vb] w fun e w' => e = .returned (.bool (decide (xs = ys))) ∧ Below w.heap.size w w' := by
  by_cases hlen : xs.length = ys.length
  · have hf : ((xs.length : Int) != (ys.length : Int)) = false := by rw [hlen]; simp
    rcases ha.cases0 E2.len with ⟨rfl, a1, cap1, rfl⟩ | ⟨hx, b1, off1, cap1, rfl, hb1, hl1, hm1, hc1⟩
    · have hy : ys = [] := List.eq_nil_of_length_eq_zero (by simpa using hlen.symm)
      subst hy
      obtain ⟨a2, cap2, rfl, _⟩ := hb.form
      clear hlen hf ha hb
      go_enter Try.func36, Try.ntmps36
      go_wp2_with fail
      refine wp_loop_rounds 1 ?_
      rw [rounds_succ]
      go_wp2_with fail
      go_ret
      exact ⟨rfl, (by repeat (first | exact Below.refl _ _ | assumption | refine Below.drew ?_ | refine below_drewN ?_ _ | refine Below.alloc ?_ (by first | omega | (simp <;> omega)) _ | refine Below.setCell ?_ (by first | omega | (simp <;> omega)) _ | refine Below.trans ?_ (Below.mono (by assumption) (by first | omega | (simp <;> omega)))))⟩
    · rcases hb.cases0 E2.len with ⟨rfl, a2, cap2, rfl⟩ | ⟨hy, b2, off2, cap2, rfl, hb2, hl2, hm2, hc2⟩
      · simp at hlen; subst hlen; simp at hx
      have hlen1 : xs.length ≤ ys.length := by omega
      have hlen2 : ys.length ≤ xs.length := by omega
      clear hlen ha hb
      go_enter Try.func36, Try.ntmps36
      go_wp2_with fail
      go_loopw [5] (fun i wr => ∃ k : Nat, k ≤ xs.length ∧ i = .int .i64 k ∧ Hid (xs.take k = ys.take k) ∧ Below w.heap.size w wr) (fun i _ => xs.length - (intOf i).toNat)
      case atStart => exact ⟨0, Nat.zero_le _, rfl, rfl, Below.refl _ _⟩
      case round =>
        obtain ⟨k, hk, rfl, hpre, hbel⟩ := hrel
        by_cases hlt : k < xs.length
        · have hlt2 : k < ys.length := by omega
          have p0 : wr.cell? ⟨b1, off1 + k * 2, none⟩ = some (.int .i64 xs[k].a) := (hbel.cell hb1).trans (hc1 k hlt 0 _ (by omega) rfl)
          have p1 : wr.cell? ⟨b1, off1 + k * 2 + 1, none⟩ = some (.int .i64 xs[k].b) := (hbel.cell hb1).trans (hc1 k hlt 1 _ (by omega) rfl)
          have q0 : wr.cell? ⟨b2, off2 + k * 2, none⟩ = some (.int .i64 ys[k].a) := (hbel.cell hb2).trans (hc2 k hlt2 0 _ (by omega) rfl)
          have q1 : wr.cell? ⟨b2, off2 + k * 2 + 1, none⟩ = some (.int .i64 ys[k].b) := (hbel.cell hb2).trans (hc2 k hlt2 1 _ (by omega) rfl)
          have i0 : (0 : Int) ≤ (k : Int) := by omega
          have i1 : (k : Int) < (xs.length : Int) := by omega
          have i2 : (k : Int) < (ys.length : Int) := by omega
          have hlw := hbel.size
          clear hc1 hc2
          by_cases he : xs[k] = ys[k]
          all_goals
            have hd : decide (xs[k] = ys[k]) = _ := (by first | exact decide_eq_true he | exact decide_eq_false he)
            have Hd := Lib.hid hd; have He := Lib.hid he; clear hd he
            go_wp2_with fail
            go_region_held3 (fun w' => w'.cell? ⟨b1, off1 + k * 2, none⟩ = some (.int .i64 xs[k].a) ∧ w'.cell? ⟨b1, off1 + k * 2 + 1, none⟩ = some (.int .i64 xs[k].b) ∧ w'.cell? ⟨b2, off2 + k * 2, none⟩ = some (.int .i64 ys[k].a) ∧ w'.cell? ⟨b2, off2 + k * 2 + 1, none⟩ = some (.int .i64 ys[k].b)) (first | go_keep | (go_split_ands; refine ⟨?_, ?_, ?_, ?_⟩ <;> (refine below_cell hbb rfl ?_; assumption))) (first | (go_at_call 81; refine (laws_eqTerm_any xs[k] ys[k] _).mono ?_; rintro e w2 ⟨rfl, hbb⟩; rw [Hd.out]))
            go_wp2_with fail
            have hz2 := hbb.size
            have hz3 : wr.heap.size ≤ w2.heap.size := hz2
            have hbel2 : Below w.heap.size w w2 := Below.trans hbel.drew (Below.mono hbb hlw)
            first
              | (go_roundw
                 case rel => exact ⟨k + 1, by omega, by go_num, eqE_step hpre hlt hlt2 He.out, hbel2⟩
                 case measure => simp [intOf]; omega)
              | (go_ret; exact ⟨ret_bool (eqE_fail hlt hlt2 He.out), hbel2⟩)
        · clear hc1 hc2
          go_wp2_with fail
          go_ret
          exact ⟨ret_bool (eqE_end hpre (by omega) (by omega)), (by repeat (first | exact Below.refl _ _ | assumption | refine Below.drew ?_ | refine below_drewN ?_ _ | refine Below.alloc ?_ (by first | omega | (simp <;> omega)) _ | refine Below.setCell ?_ (by first | omega | (simp <;> omega)) _ | refine Below.trans ?_ (Below.mono (by assumption) (by first | omega | (simp <;> omega)))))⟩
  · have hd : decide (xs = ys) = false := by rw [decide_eq_false_iff_not]; rintro rfl; exact hlen rfl
    have hne : ((xs.length : Int) != (ys.length : Int)) = true := by rw [bne_iff_ne]; omega
    rw [hd]
    obtain ⟨a1, cap1, rfl, _⟩ := ha.form
    obtain ⟨a2, cap2, rfl, _⟩ := hb.form
    clear hlen hd ha hb
    go_enter Try.func36, Try.ntmps36
    go_wp2_with fail
    go_ret
    exact ⟨rfl, (by repeat (first | exact Below.refl _ _ | assumption | refine Below.drew ?_ | refine below_drewN ?_ _ | refine Below.alloc ?_ (by first | omega | (simp <;> omega)) _ | refine Below.setCell ?_ (by first | omega | (simp <;> omega)) _ | refine Below.trans ?_ (Below.mono (by assumption) (by first | omega | (simp <;> omega)))))⟩

theorem laws_markTermS_any (v : Value) (base n : Nat) (xs : List Value) (k : Int) (w : World) (h : w.ownsRow base 48 2 v n xs) (hk0 : 0 ≤ k) (hk1 : k + n * 2 ≤ 4611686018427387904) (hn : n ≤ 1000000000000) :
    Calls Try.prog 38 #[v, .int .i64 k] w fun e w' => e = .returned (.int .i64 (k + ((n * 2 : Nat) : Int))) ∧ w'.ownsRow base 48 2 v n (marks k (n * 2)) ∧ w.grownBy w' v.ownBlock := by
  rcases Go.Joins.ownsRow_forms h with ⟨rfl, rfl⟩ | ⟨g, cap, rfl⟩
  · have hx : xs = [] := List.eq_nil_of_length_eq_zero (by simpa using h.1)
    subst hx
    go_enter Try.func38, Try.ntmps38
    go_wp2_with fail
    refine wp_loop_rounds 1 ?_
    rw [rounds_succ]
    go_wp2_with fail
    go_ret
    exact ⟨ret_int (by simp), h, World.grownBy.refl _ _⟩
  · have hxl : xs.length = n * 2 := h.1
    have Hx := Lib.hid hxl; clear hxl
    have H0 : Hid (w.ownsRow base 48 2 (.slice (some ⟨g, 0, none⟩) n cap) n (marks k 0 ++ xs.drop 0)) := h
    clear h
    go_enter Try.func38, Try.ntmps38
    go_wp2_with fail
    go_loopw [1, 5] (fun q i wr => ∃ j : Nat, j ≤ n ∧ i = .int .i64 j ∧ q = .int .i64 (k + ((j * 2 : Nat) : Int)) ∧ Hid (wr.ownsRow base 48 2 (.slice (some ⟨g, 0, none⟩) n cap) n (marks k (j * 2) ++ xs.drop (j * 2))) ∧ Hid (w.grownBy wr (some g))) (fun _ i _ => n - (intOf i).toNat)
    case atStart => exact ⟨0, Nat.zero_le _, rfl, by simp, by simpa using H0, World.grownBy.refl _ _⟩
    case round =>
      obtain ⟨j, hj, rfl, rfl, hown, hgr⟩ := hrel
      clear H0
      by_cases hlt : j < n
      · have i1 : (j : Int) < (n : Int) := by omega
        obtain ⟨u0, hu0⟩ := marks_cell hown.out (j := j * 2) (by omega)
        have hf0 := hown.out.frozenAt (j * 2)
        obtain ⟨u1, hu1⟩ := marks_cell hown.out (j := j * 2 + 1) (by omega)
        have hf1 := hown.out.frozenAt (j * 2 + 1)
        go_wp2_with fail
        go_roundw
        case rel =>
          have s0 := hown.out
          have g0 := hgr.out
          have t0 := s0.stored (j * 2) (.int .i64 (k + ((j * 2 : Nat) : Int)))
          have s1 := t0.1
          rw [marks_step k (j * 2) xs (by rw [Hx.out]; omega)] at s1
          have g1 := grown_trans0 g0 t0.2
          have t1 := s1.stored (j * 2 + 1) (.int .i64 (k + ((j * 2 + 1 : Nat) : Int)))
          have s2 := t1.1
          rw [marks_step k (j * 2 + 1) xs (by rw [Hx.out]; omega)] at s2
          have g2 := grown_trans0 g1 t1.2
          have v0 : k + ((j * 2 : Nat) : Int) = k + (j : Int) * 2 := by omega
          have v1 : k + ((j * 2 + 1 : Nat) : Int) = k + (j : Int) * 2 + 1 := by omega
          rw [v0, v1] at s2 g2
          refine ⟨j + 1, by omega, by go_num, ret_num (by omega), ?_, ?_⟩
          · have e : j * 2 + 1 + 1 = (j + 1) * 2 := by omega
            rw [e] at s2
            exact s2
          · exact g2
        case measure => simp [intOf]; omega
      · have e : j = n := by omega
        subst e
        go_wp2_with fail
        go_ret
        refine ⟨rfl, ?_, hgr⟩
        have h1 := hown.out
        rw [List.drop_eq_nil_of_le (by rw [Hx.out]; omega), List.append_nil] at h1
        exact h1

end Go.Proofs.Ytbcjligkjoimmaa
namespace Go.Proofs.Ytbcjligkjoimmaa
set_option linter.unusedSimpArgs false
set_option linter.unusedVariables false
set_option linter.unnecessarySimpa false
set_option maxRecDepth 200000
open Go.ChangeShapes Go.WideShapes Go.ChangeAt Go.RowKit Go.Joins

theorem info_Term : (Try.prog.info? 48).map (fun i => (i.zero, i.size, i.bytes)) = some (some (.agg #[.int .i64 0, .int .i64 0]), 2, 16) := by kernel_rfl
theorem laws_szTermS_ok (v : Value) (xs : List E2) (left : Int) (w : World) (h : RdE w v E2.cs 2 xs) (h0 : (xs.length : Int) ≤ left) (h1 : left ≤ 1048576) :
    Calls Try.prog 13 #[v, .int .i64 left] w fun e w' => e = .returned (.int .i64 (left - xs.length)) ∧ Below w.heap.size w w' := by
  obtain ⟨a, cap, rfl, hl⟩ := h.form
  clear h
  go_enter Try.func13, Try.ntmps13
  go_wp2_with fail
  go_ret
  exact ⟨rfl, (by repeat (first | exact Below.refl _ _ | assumption | refine Below.drew ?_ | refine below_drewN ?_ _ | refine Below.alloc ?_ (by first | omega | (simp <;> omega)) _ | refine Below.setCell ?_ (by first | omega | (simp <;> omega)) _ | refine Below.trans ?_ (Below.mono (by assumption) (by first | omega | (simp <;> omega)))))⟩
theorem laws_szTermS_no (v : Value) (xs : List E2) (left : Int) (w : World) (h : RdE w v E2.cs 2 xs) (h0 : left < (xs.length : Int)) (h1 : left ≤ 1048576) (h2 : 0 ≤ left) :
    Calls Try.prog 13 #[v, .int .i64 left] w fun e w' => e = .returned (.int .i64 (-1)) ∧ Below w.heap.size w w' := by
  obtain ⟨a, cap, rfl, hl⟩ := h.form
  clear h
  go_enter Try.func13, Try.ntmps13
  go_wp2_with fail
  go_ret
  exact ⟨rfl, (by repeat (first | exact Below.refl _ _ | assumption | refine Below.drew ?_ | refine below_drewN ?_ _ | refine Below.alloc ?_ (by first | omega | (simp <;> omega)) _ | refine Below.setCell ?_ (by first | omega | (simp <;> omega)) _ | refine Below.trans ?_ (Below.mono (by assumption) (by first | omega | (simp <;> omega)))))⟩
theorem laws_toTerm_any (x : E2) (w : World) :
    Calls Try.prog 56 #[.agg #[.int .i64 x.a, .int .i64 x.b]] w fun e w' => e = .returned (.agg #[.int .i64 x.a, .int .i64 x.b]) ∧ Below w.heap.size w w' := by
  go_enter Try.func56, Try.ntmps56
  go_wp2_with fail
  exact bodyPost_ret (v := .agg #[.int .i64 x.a, .int .i64 x.b]) (by simp [results, Try.results56, go_sem]) rfl ⟨rfl, (by repeat (first | exact Below.refl _ _ | assumption | refine Below.drew ?_ | refine below_drewN ?_ _ | refine Below.alloc ?_ (by first | omega | (simp <;> omega)) _ | refine Below.setCell ?_ (by first | omega | (simp <;> omega)) _ | refine Below.trans ?_ (Below.mono (by assumption) (by first | omega | (simp <;> omega)))))⟩


theorem setTerm_chain {xs : List E2} {ys : List Value} {k : Nat} (h : k < xs.length) (hl : ys.length = xs.length * 2) :
    ((((xs.take k).flatMap E2.cs ++ ys.drop (k * 2)).set (k * 2) (.int .i64 xs[k].a)).set (k * 2 + 1) (.int .i64 xs[k].b)) = (xs.take (k + 1)).flatMap E2.cs ++ ys.drop ((k + 1) * 2) := by
  have e : ((xs.take k).flatMap E2.cs).length = k * 2 := by rw [flat_len E2.len]; simp; omega
  obtain ⟨y0, y1, zs, hz⟩ : ∃ y0 y1 zs, ys.drop (k * 2) = y0 :: y1 :: zs := by
    have hd : (ys.drop (k * 2)).length = ys.length - k * 2 := List.length_drop
    match hh : ys.drop (k * 2) with
    | y0 :: y1 :: zs => exact ⟨y0, y1, zs, rfl⟩
    | [] => rw [hh] at hd; simp at hd; omega
    | [y0] => rw [hh] at hd; simp at hd; omega

  have hz2 : ys.drop ((k + 1) * 2) = zs := by
    rw [show (k + 1) * 2 = k * 2 + 2 from by omega, ← List.drop_drop, hz]; rfl
  rw [hz2, hz, List.take_succ_eq_append_getElem h, List.flatMap_append]
  rw [List.set_append_right _ _ (by rw [e]; omega), e, show k * 2 - k * 2 = 0 from by omega]
  rw [List.set_append_right _ _ (by rw [e]; omega), e, show k * 2 + 1 - k * 2 = 1 from by omega]
  simp [E2.cs]
set_option maxHeartbeats 1000000 in
theorem laws_toTermS_any (v : Value) (xs : List E2) (w : World) (h : RdE w v E2.cs 2 xs) (hn : xs.length ≤ 1048576) :
    Calls Try.prog 22 #[v] w fun e w' => ∃ v', e = .returned v' ∧ OwnE w' w.heap.size 48 v' E2.cs 2 xs ∧ Below w.heap.size w w' := by
  obtain ⟨i0, hi, hz0, hz1, hz2⟩ := info_parts info_Term
  have hz : (madeCells (Value.agg #[.int .i64 0, .int .i64 0]).cells (xs.length * 2)).toList.length = xs.length * 2 := by rw [Array.length_toList, size_madeCells]
  rcases h.cases0 E2.len with ⟨rfl, a1, cap1, rfl⟩ | ⟨hx, b1, off1, cap1, rfl, hb1, hl1, hm1, hc1⟩
  · clear h
    go_enter Try.func22, Try.ntmps22
    go_wp2_with (at_make; refine wpList_make_full _ rfl _ _ 34 rfl w.heap.size 48 i0 (.agg #[.int .i64 0, .int .i64 0]) 2 Try.underlying34 hi hz0 hz1 _ _ _ _ 0 rfl rfl (by omega) (by omega) (by omega) (by unfold maxLen; omega) (by simp) ?_; intro w1 hown1 hgr1)
    refine wp_loop_rounds 1 ?_
    rw [rounds_succ]
    go_wp2_with fail
    go_ret
    have e0 : (madeCells (Value.agg #[.int .i64 0, .int .i64 0]).cells (0 * 2)).toList = [] := List.eq_nil_of_length_eq_zero (by rw [Array.length_toList, size_madeCells])
    rw [e0] at hown1
    exact ⟨.slice (some ⟨w.heap.size, 0, none⟩) 0 0, rfl, hown1, (Below.refl _ w).grown hgr1 (Nat.le_refl _) (fun k hk => by cases hk)⟩
  · clear h
    have hbig : (16 : Int) * xs.length ≤ 8388608 * 2 := by omega
    go_enter Try.func22, Try.ntmps22
    go_wp2_with (at_make; refine wpList_make_full _ rfl _ _ 34 rfl w.heap.size 48 i0 (.agg #[.int .i64 0, .int .i64 0]) 2 Try.underlying34 hi hz0 hz1 _ _ _ _ xs.length rfl rfl (by omega) (by omega) (by rw [hz2]; omega) (by unfold maxLen; omega) (by simp) ?_; intro w1 hown1 hgr1)
    obtain ⟨ys, hys⟩ : ∃ ys, ys = (madeCells (Value.agg #[.int .i64 0, .int .i64 0]).cells (xs.length * 2)).toList := ⟨_, rfl⟩
    rw [← hys] at hown1 hz
    have hB1 : Below w.heap.size w w1 := (Below.refl _ w).grown hgr1 (Nat.le_refl _) (fun k hk => by cases hk)
    have H0 : Hid (w1.ownsRow w.heap.size 48 2 (.slice (some ⟨w.heap.size, 0, none⟩) xs.length xs.length) xs.length ((xs.take 0).flatMap E2.cs ++ ys.drop (0 * 2))) := by show World.ownsRow _ _ _ _ _ _ _; simpa using hown1
    have Hz := Lib.hid hz
    have h00 : w.heap.size < w1.heap.size := (hown1.lt w.heap.size rfl).2
    clear hown1 hys hz hgr1
    go_wp2_with fail
    go_loopw [4] (fun i wr => ∃ k : Nat, k ≤ xs.length ∧ i = .int .i64 k ∧ Hid (wr.ownsRow w.heap.size 48 2 (.slice (some ⟨w.heap.size, 0, none⟩) xs.length xs.length) xs.length ((xs.take k).flatMap E2.cs ++ ys.drop (k * 2))) ∧ Below w.heap.size w wr) (fun i _ => xs.length - (intOf i).toNat)
    case atStart => exact ⟨0, Nat.zero_le _, rfl, H0, hB1⟩
    case round =>
      obtain ⟨k, hk, rfl, hown, hbel⟩ := hrel
      clear H0 hB1
      by_cases hlt : k < xs.length
      · have hne : b1 ≠ w.heap.size := by omega
        have i0 : (0 : Int) ≤ (k : Int) := by omega
        have i1 : (k : Int) < (xs.length : Int) := by omega
        have hlw := hbel.size
        have hlv : w.heap.size < wr.heap.size := (hown.out.lt w.heap.size rfl).2
        have p0 : wr.cell? ⟨b1, off1 + k * 2, none⟩ = some (.int .i64 xs[k].a) := (hbel.cell hb1).trans (hc1 k hlt 0 _ (by omega) rfl)
        have p1 : wr.cell? ⟨b1, off1 + k * 2 + 1, none⟩ = some (.int .i64 xs[k].b) := (hbel.cell hb1).trans (hc1 k hlt 1 _ (by omega) rfl)
        obtain ⟨u0, q0⟩ := marks_cell hown.out (j := k * 2) (by omega)
        have f0 := hown.out.frozenAt (k * 2)
        obtain ⟨u1, q1⟩ := marks_cell hown.out (j := k * 2 + 1) (by omega)
        have f1 := hown.out.frozenAt (k * 2 + 1)
        clear hc1 h00
        go_wp2_with fail
        refine (laws_toTerm_any xs[k] _).mono ?_; rintro e w2 ⟨rfl, hbb⟩
        have hlv2 : w.heap.size < wr.heap.size := hlv
        replace q0 := below_cell hbb rfl q0
        replace f0 := below_frz hbb rfl hlv f0
        replace q1 := below_cell hbb rfl q1
        replace f1 := below_frz hbb rfl hlv f1
        go_wp2_with fail
        go_roundw
        case rel =>
          refine ⟨k + 1, by omega, by go_num, ?_, ?_⟩
          · show World.ownsRow _ _ _ _ _ _ _
            have s0 := own_below hown.out hbb rfl
            have s1 := (s0.stored (k * 2) (.int .i64 xs[k].a)).1
            have s2 := (s1.stored (k * 2 + 1) (.int .i64 xs[k].b)).1
            rw [setTerm_chain hlt Hz.out] at s2
            exact s2
          · have hbel2 : Below w.heap.size w w2 := below_step hbel hbb
            exact Below.setCell (Below.setCell (hbel2) (by simp) _) (by simp) _
        case measure => simp [intOf]; omega
      · have e : k = xs.length := by omega
        subst e
        clear hc1
        go_wp2_with fail
        go_ret
        refine ⟨_, rfl, ?_, hbel⟩
        have h1 := hown.out
        rw [List.take_of_length_le (Nat.le_refl _), List.drop_eq_nil_of_le (by rw [Hz.out]; omega), List.append_nil] at h1
        exact h1
end Go.Proofs.Ytbcjligkjoimmaa
namespace Go.Proofs.Ytbcjligkjoimmaa
set_option linter.unusedSimpArgs false
set_option linter.unusedVariables false
set_option linter.unnecessarySimpa false
set_option maxRecDepth 200000
open Go.ChangeShapes Go.WideShapes Go.ChangeAt Go.RowKit
theorem cell_drew {w : World} {a : Addr} {u : Value} (h : w.cell? a = some u) : w.drew.cell? a = some u := h
theorem frz_drew {w : World} {a : Addr} (h : w.frozen? a = false) : w.drew.frozen? a = false := h
theorem cell_set_far {w : World} {b nb o o2 : Nat} {u v : Value} (hne : b ≠ nb) (h : w.cell? ⟨b, o, none⟩ = some u) : (w.setCell ⟨nb, o2, none⟩ v).cell? ⟨b, o, none⟩ = some u :=
  (World.cell?_setCell_other _ _ _ _ (fun e => hne (by injection e with e1; exact e1.symm))).trans h
theorem calls_below {f : FuncId} {args : Array Value} {w : World} {Q : Ending → Prop} (h : Calls Try.prog f args w fun e w' => Q e ∧ w = w') : Calls Try.prog f args w fun e w' => Q e ∧ Below w.heap.size w w' :=
  h.mono fun _ _ ⟨h1, h2⟩ => ⟨h1, h2 ▸ Below.refl _ _⟩
theorem new_cell (W : World) (cs : Array Value) (t : TypeId) (j : Nat) (v : Value) (h : cs[j]? = some v) : (W.alloc (.cells cs t)).cell? ⟨W.heap.size, j, none⟩ = some v := by
  rw [World.cell?_alloc_at _ _ _ _ rfl]; exact h
theorem new_frz (W : World) (cs : Array Value) (t : TypeId) (j : Nat) : (W.alloc (.cells cs t)).frozen? ⟨W.heap.size, j, none⟩ = false := World.frozen?_alloc_at _ _ _ _ rfl
end Go.Proofs.Ytbcjligkjoimmaa
namespace Go.Proofs.Ytbcjligkjoimmaa
set_option linter.unusedSimpArgs false
set_option linter.unusedVariables false
set_option linter.unnecessarySimpa false
set_option maxRecDepth 200000
open Go.ChangeShapes Go.WideShapes Go.ChangeAt Go.RowKit

/-- A slice of three-cell structs of n elements in block g. -/
def OwnG (w : World) (base : Nat) (t : TypeId) (g n cap : Nat) (xs : List E3) : Prop := w.ownsRow base t 3 (.slice (some ⟨g, 0, none⟩) n cap) n (xs.flatMap E3.cs)
theorem OwnG.len {w : World} {base g n cap : Nat} {t : TypeId} {xs : List E3} (h : OwnG w base t g n cap xs) : xs.length = n := by
  have := h.1; rw [flat_len E3.len] at this; omega
theorem OwnG.of {w : World} {base g n cap : Nat} {t : TypeId} {xs : List E3} (h : OwnE w base t (.slice (some ⟨g, 0, none⟩) n cap) E3.cs 3 xs) (hl : xs.length = n) : OwnG w base t g n cap xs := by
  unfold OwnE at h; rw [hl] at h; exact h
theorem OwnG.own {w : World} {base g n cap : Nat} {t : TypeId} {xs : List E3} (h : OwnG w base t g n cap xs) : OwnE w base t (.slice (some ⟨g, 0, none⟩) n cap) E3.cs 3 xs := by
  have hl := h.len; unfold OwnE; rw [hl]; exact h
theorem OwnG.cell {w : World} {base g n cap : Nat} {t : TypeId} {xs : List E3} (h : OwnG w base t g n cap xs) (i : Nat) (hi : i < n) :
    w.cell? ⟨g, i * 3, none⟩ = some (.int .i64 (xs.getD i ⟨0, 0, 0⟩).a) ∧ w.cell? ⟨g, i * 3 + 1, none⟩ = some (.int .i64 (xs.getD i ⟨0, 0, 0⟩).b) ∧ w.cell? ⟨g, i * 3 + 2, none⟩ = some (.int .i64 (xs.getD i ⟨0, 0, 0⟩).c) := by
  have hl := h.len
  have e : xs.getD i ⟨0, 0, 0⟩ = xs[i] := by simp [List.getD, show i < xs.length by omega]
  have key : ∀ j u, j < 3 → (E3.cs xs[i])[j]? = some u → w.cell? ⟨g, i * 3 + j, none⟩ = some u := by
    intro j u hj hu
    have := World.ownsRow.cells h (g := g) rfl (i * 3 + j) u (by rw [flat_get E3.len xs i j (by omega) hj]; exact hu)
    rw [Addr.add_lit, Nat.zero_add] at this
    exact this
  rw [e]
  exact ⟨key 0 _ (by omega) rfl, key 1 _ (by omega) rfl, key 2 _ (by omega) rfl⟩
theorem OwnG.frz {w : World} {base g n cap : Nat} {t : TypeId} {xs : List E3} (h : OwnG w base t g n cap xs) (j : Nat) : w.frozen? ⟨g, j, none⟩ = false := World.ownsRow.frozenAt h j
theorem OwnG.lt {w : World} {base g n cap : Nat} {t : TypeId} {xs : List E3} (h : OwnG w base t g n cap xs) : base ≤ g ∧ g < w.heap.size := World.ownsRow.lt h g rfl
theorem OwnG.below {w w' : World} {base g n cap B : Nat} {t : TypeId} {xs : List E3} (h : OwnG w base t g n cap xs) (hb : Below B w w') (hB : B = w.heap.size) : OwnG w' base t g n cap xs := own_below h hb hB
theorem set_flat (e : E3) : ∀ (xs : List E3) (i : Nat), i < xs.length → (((xs.flatMap E3.cs).set (i * 3) (.int .i64 e.a)).set (i * 3 + 1) (.int .i64 e.b)).set (i * 3 + 2) (.int .i64 e.c) = (xs.set i e).flatMap E3.cs
  | [], _, h => by simp at h
  | x :: xs, 0, _ => by simp [E3.cs]
  | x :: xs, i + 1, h => by
    have ih := set_flat e xs i (by simpa using h)
    simp only [List.flatMap_cons, List.set_cons_succ]
    rw [← ih]
    have h3 : (E3.cs x).length = 3 := rfl
    rw [List.set_append_right _ _ (by rw [h3]; omega), List.set_append_right _ _ (by rw [h3]; omega), List.set_append_right _ _ (by rw [h3]; omega), h3]
    rw [show (i + 1) * 3 - 3 = i * 3 from by omega, show (i + 1) * 3 + 1 - 3 = i * 3 + 1 from by omega, show (i + 1) * 3 + 2 - 3 = i * 3 + 2 from by omega]
theorem OwnG.set {w : World} {base g n cap : Nat} {t : TypeId} {xs : List E3} (h : OwnG w base t g n cap xs) (i : Nat) (hi : i < n) (e : E3) :
    OwnG (((w.setCell ⟨g, i * 3, none⟩ (.int .i64 e.a)).setCell ⟨g, i * 3 + 1, none⟩ (.int .i64 e.b)).setCell ⟨g, i * 3 + 2, none⟩ (.int .i64 e.c)) base t g n cap (xs.set i e) := by
  have hl := h.len
  have h1 := (World.ownsRow.stored h (i * 3) (.int .i64 e.a)).1
  have h2 := (World.ownsRow.stored h1 (i * 3 + 1) (.int .i64 e.b)).1
  have h3 := (World.ownsRow.stored h2 (i * 3 + 2) (.int .i64 e.c)).1
  rw [set_flat e xs i (by omega)] at h3
  exact h3
/-- What a call has just laid into a block of its own reads. -/
theorem reads_news (w : World) (us : List Value) (t : TypeId) (sz m : Nat) (h : us.length = m * sz) : Reads (w.alloc (.cells us.toArray t)) (w.heap.size + 1) sz (some ⟨w.heap.size, 0, none⟩) m us :=
  ⟨h, fun _ => ⟨_, rfl, by simp, news_cells w us t⟩⟩
theorem below_set3 (w : World) (g a b c : Nat) (u v x : Value) : Below 0 w (((w.setCell ⟨g, a, none⟩ u).setCell ⟨g, b, none⟩ v).setCell ⟨g, c, none⟩ x) :=
  Below.setCell (p := ⟨g, c, none⟩) (Below.setCell (p := ⟨g, b, none⟩) (Below.setCell (p := ⟨g, a, none⟩) (Below.refl 0 w) (Nat.zero_le _) u) (Nat.zero_le _) v) (Nat.zero_le _) x
theorem grown_set3 {w0 w : World} {g : Nat} (h : w0.grownBy w (some g)) (hg : g < w0.heap.size) (a b c : Nat) (u v x : Value) : w0.grownBy (((w.setCell ⟨g, a, none⟩ u).setCell ⟨g, b, none⟩ v).setCell ⟨g, c, none⟩ x) (some g) :=
  have q := below_set3 w g a b c u v x
  ⟨q.os.trans h.os, q.tape.trans h.tape, q.output.trans h.output, Nat.le_trans h.size q.size, fun k hk hne => by
    have hkg : k ≠ g := fun e => hne (by rw [e])
    rw [Below.heap_setCell _ _ _ k hkg, Below.heap_setCell _ _ _ k hkg, Below.heap_setCell _ _ _ k hkg]; exact h.block k hk hne⟩
theorem grown_drew {w0 w : World} {r : Option Nat} (h : w0.grownBy w r) : w0.grownBy w.drew r := ⟨h.os, h.tape, h.output, h.size, h.block⟩
theorem grown_call {w0 w w' : World} {r : Option Nat} (h : w0.grownBy w r) (hb : Below w.heap.size w w') : w0.grownBy w' r :=
  ⟨hb.os.trans h.os, hb.tape.trans h.tape, hb.output.trans h.output, Nat.le_trans h.size hb.size, fun k hk hne => (hb.block k (Nat.lt_of_lt_of_le hk h.size)).trans (h.block k hk hne)⟩
theorem rd_set_ne {w : World} {g o n sz c n0 : Nat} {xs : List Value} {p : Addr} (h : Rd w (.slice (some ⟨g, o, none⟩) n c) n0 sz xs) (hne : g ≠ p.block) (u : Value) : Rd (w.setCell p u) (.slice (some ⟨g, o, none⟩) n c) n0 sz xs := by
  refine ⟨h.1, ?_⟩
  rcases h.2 with h0 | ⟨b, off, cap, hv, hb, h3, h4, h5⟩
  · exact .inl h0
  · refine .inr ⟨b, off, cap, hv, by simpa using hb, h3, h4, fun j v hj => ?_⟩
    injection hv with hv1 hv2 hv3
    injection hv1 with hv1
    injection hv1 with e1 e2 e3
    exact (World.cell?_setCell_other _ _ _ _ (fun e => hne (by rw [e, e1]))).trans (h5 j v hj)
theorem own_E3 {w : World} {base : Nat} {t : TypeId} {v : Value} {xs : List E3} {m : Nat} (h : OwnE w base t v E3.cs 3 xs) (hl : xs.length = m) (hm : 0 < m) : ∃ g cap, v = .slice (some ⟨g, 0, none⟩) m cap ∧ base ≤ g ∧ g < w.heap.size := by
  obtain ⟨g, cap, rfl⟩ := Go.Joins.ownsRow_form h (by omega)
  have := h.lt g rfl
  exact ⟨g, cap, by rw [hl], this.1, this.2⟩
end Go.Proofs.Ytbcjligkjoimmaa
