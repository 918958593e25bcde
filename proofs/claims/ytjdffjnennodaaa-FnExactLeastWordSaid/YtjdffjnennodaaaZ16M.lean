/- Pauli: the laws' helpers: equal, marked, held. -/
import Derived.Test.YtjdffjnennodaaaZ03Slice1
import Derived.Test.YtjdffjnennodaaaZ05M
namespace Go.Proofs.Ytjdffjnennodaaa
set_option linter.unusedSimpArgs false
set_option linter.unusedVariables false
set_option linter.unnecessarySimpa false
set_option maxRecDepth 200000
open Go.ChangeShapes Go.WideShapes Go.ChangeAt Go.RowKit

theorem laws_eqPauli_any (x y : E3) (w : World) :
    Calls Try.prog 35 #[.agg #[.int .i64 x.a, .int .i64 x.b, .int .i64 x.c], .agg #[.int .i64 y.a, .int .i64 y.b, .int .i64 y.c]] w fun e w' => e = .returned (.bool (decide (x = y))) ∧ Below w.heap.size w w' := by
  obtain ⟨xa, xb, xc⟩ := x
  obtain ⟨ya, yb, yc⟩ := y
  dsimp only
  go_enter Try.func35, Try.ntmps35
  go_wp2_with fail
  all_goals (go_ret; exact ⟨ret_bool (by go_light; rw [Bool.eq_iff_iff]; simp only [decide_eq_true_eq, beq_iff_eq, Bool.false_eq_true, true_iff, false_iff, iff_true, iff_false]; (try simp_all [E3.mk.injEq]) <;> (try omega)), (by repeat (first | exact Below.refl _ _ | assumption | refine Below.drew ?_ | refine below_drewN ?_ _ | refine Below.alloc ?_ (by first | omega | (simp <;> omega)) _ | refine Below.setCell ?_ (by first | omega | (simp <;> omega)) _ | refine Below.trans ?_ (Below.mono (by assumption) (by first | omega | (simp <;> omega)))))⟩)

theorem laws_eqPauliS_any (va vb : Value) (xs ys : List E3) (w : World) (ha : RdE w va E3.cs 3 xs) (hb : RdE w vb E3.cs 3 ys) :
    Calls Try.prog 19 #[va, vb] w fun e w' => e = .returned (.bool (decide (xs = ys))) ∧ Below w.heap.size w w' := by
  by_cases hlen : xs.length = ys.length
  · have hf : ((xs.length : Int) != (ys.length : Int)) = false := by rw [hlen]; simp
    rcases ha.cases0 E3.len with ⟨rfl, a1, cap1, rfl⟩ | ⟨hx, b1, off1, cap1, rfl, hb1, hl1, hm1, hc1⟩
    · have hy : ys = [] := List.eq_nil_of_length_eq_zero (by simpa using hlen.symm)
      subst hy
      obtain ⟨a2, cap2, rfl, _⟩ := hb.form
      clear hlen hf ha hb
      go_enter Try.func19, Try.ntmps19
      go_wp2_with fail
      refine wp_loop_rounds 1 ?_
      rw [rounds_succ]
      go_wp2_with fail
      go_ret
      exact ⟨rfl, (by repeat (first | exact Below.refl _ _ | assumption | refine Below.drew ?_ | refine below_drewN ?_ _ | refine Below.alloc ?_ (by first | omega | (simp <;> omega)) _ | refine Below.setCell ?_ (by first | omega | (simp <;> omega)) _ | refine Below.trans ?_ (Below.mono (by assumption) (by first | omega | (simp <;> omega)))))⟩
    · rcases hb.cases0 E3.len with ⟨rfl, a2, cap2, rfl⟩ | ⟨hy, b2, off2, cap2, rfl, hb2, hl2, hm2, hc2⟩
      · simp at hlen; subst hlen; simp at hx
      have hlen1 : xs.length ≤ ys.length := by omega
      have hlen2 : ys.length ≤ xs.length := by omega
      clear hlen ha hb
      go_enter Try.func19, Try.ntmps19
      go_wp2_with fail
      go_loopw [5] (fun i wr => ∃ k : Nat, k ≤ xs.length ∧ i = .int .i64 k ∧ Hid (xs.take k = ys.take k) ∧ Below w.heap.size w wr) (fun i _ => xs.length - (intOf i).toNat)
      case atStart => exact ⟨0, Nat.zero_le _, rfl, rfl, Below.refl _ _⟩
      case round =>
        obtain ⟨k, hk, rfl, hpre, hbel⟩ := hrel
        by_cases hlt : k < xs.length
        · have hlt2 : k < ys.length := by omega
          have p0 : wr.cell? ⟨b1, off1 + k * 3, none⟩ = some (.int .i64 xs[k].a) := (hbel.cell hb1).trans (hc1 k hlt 0 _ (by omega) rfl)
          have p1 : wr.cell? ⟨b1, off1 + k * 3 + 1, none⟩ = some (.int .i64 xs[k].b) := (hbel.cell hb1).trans (hc1 k hlt 1 _ (by omega) rfl)
          have p2 : wr.cell? ⟨b1, off1 + k * 3 + 2, none⟩ = some (.int .i64 xs[k].c) := (hbel.cell hb1).trans (hc1 k hlt 2 _ (by omega) rfl)
          have q0 : wr.cell? ⟨b2, off2 + k * 3, none⟩ = some (.int .i64 ys[k].a) := (hbel.cell hb2).trans (hc2 k hlt2 0 _ (by omega) rfl)
          have q1 : wr.cell? ⟨b2, off2 + k * 3 + 1, none⟩ = some (.int .i64 ys[k].b) := (hbel.cell hb2).trans (hc2 k hlt2 1 _ (by omega) rfl)
          have q2 : wr.cell? ⟨b2, off2 + k * 3 + 2, none⟩ = some (.int .i64 ys[k].c) := (hbel.cell hb2).trans (hc2 k hlt2 2 _ (by omega) rfl)
          have i0 : (0 : Int) ≤ (k : Int) := by omega
          have i1 : (k : Int) < (xs.length : Int) := by omega
          have i2 : (k : Int) < (ys.length : Int) := by omega
          have hlw := hbel.size
          clear hc1 hc2
          by_cases he : xs[k] = ys[k]
          all_goals
            have hd : decide (xs[k] = ys[k]) = _ := (by first | exact decide_eq_true he | exact decide_eq_false he)
            have Hd := Lib.hid hd; have He := Lib.hid he; clear hd he
            go_wp2_with fail
            go_region_held3 (fun w' => w'.cell? ⟨b1, off1 + k * 3, none⟩ = some (.int .i64 xs[k].a) ∧ w'.cell? ⟨b1, off1 + k * 3 + 1, none⟩ = some (.int .i64 xs[k].b) ∧ w'.cell? ⟨b1, off1 + k * 3 + 2, none⟩ = some (.int .i64 xs[k].c) ∧ w'.cell? ⟨b2, off2 + k * 3, none⟩ = some (.int .i64 ys[k].a) ∧ w'.cell? ⟨b2, off2 + k * 3 + 1, none⟩ = some (.int .i64 ys[k].b) ∧ w'.cell? ⟨b2, off2 + k * 3 + 2, none⟩ = some (.int .i64 ys[k].c)) (first | go_keep | (go_split_ands; refine ⟨?_, ?_, ?_, ?_, ?_, ?_⟩ <;> (refine below_cell hbb rfl ?_; assumption))) (first | (go_at_call 35; refine (laws_eqPauli_any xs[k] ys[k] _).mono ?_; rintro e w2 ⟨rfl, hbb⟩; rw [Hd.out]))
            go_wp2_with fail
            have hz2 := hbb.size
            have hz3 : wr.heap.size ≤ w2.heap.size := hz2
            have hbel2 : Below w.heap.size w w2 := Below.trans hbel.drew (Below.mono hbb hlw)
            first
              | (go_roundw
                 case rel => exact ⟨k + 1, by omega, by go_num, eqE_step hpre hlt hlt2 He.out, hbel2⟩
                 case measure => simp [intOf]; omega)
              | (go_ret; exact ⟨ret_bool (eqE_fail hlt hlt2 He.out), hbel2⟩)
        · clear hc1 hc2
          go_wp2_with fail
          go_ret
          exact ⟨ret_bool (eqE_end hpre (by omega) (by omega)), (by repeat (first | exact Below.refl _ _ | assumption | refine Below.drew ?_ | refine below_drewN ?_ _ | refine Below.alloc ?_ (by first | omega | (simp <;> omega)) _ | refine Below.setCell ?_ (by first | omega | (simp <;> omega)) _ | refine Below.trans ?_ (Below.mono (by assumption) (by first | omega | (simp <;> omega)))))⟩
  · have hd : decide (xs = ys) = false := by rw [decide_eq_false_iff_not]; rintro rfl; exact hlen rfl
    have hne : ((xs.length : Int) != (ys.length : Int)) = true := by rw [bne_iff_ne]; omega
    rw [hd]
    obtain ⟨a1, cap1, rfl, _⟩ := ha.form
    obtain ⟨a2, cap2, rfl, _⟩ := hb.form
    clear hlen hd ha hb
    go_enter Try.func19, Try.ntmps19
    go_wp2_with fail
    go_ret
    exact ⟨rfl, (by repeat (first | exact Below.refl _ _ | assumption | refine Below.drew ?_ | refine below_drewN ?_ _ | refine Below.alloc ?_ (by first | omega | (simp <;> omega)) _ | refine Below.setCell ?_ (by first | omega | (simp <;> omega)) _ | refine Below.trans ?_ (Below.mono (by assumption) (by first | omega | (simp <;> omega)))))⟩

theorem laws_markPauliS_any (v : Value) (base n : Nat) (xs : List Value) (k : Int) (w : World) (h : w.ownsRow base 62 3 v n xs) (hk0 : 0 ≤ k) (hk1 : k + n * 3 ≤ 4611686018427387904) (hn : n ≤ 1000000000000) :
    Calls Try.prog 24 #[v, .int .i64 k] w fun e w' => e = .returned (.int .i64 (k + ((n * 3 : Nat) : Int))) ∧ w'.ownsRow base 62 3 v n (marks k (n * 3)) ∧ w.grownBy w' v.ownBlock := by
  rcases Go.Joins.ownsRow_forms h with ⟨rfl, rfl⟩ | ⟨g, cap, rfl⟩
  · have hx : xs = [] := List.eq_nil_of_length_eq_zero (by simpa using h.1)
    subst hx
    go_enter Try.func24, Try.ntmps24
    go_wp2_with fail
    refine wp_loop_rounds 1 ?_
    rw [rounds_succ]
    go_wp2_with fail
    go_ret
    exact ⟨ret_int (by simp), h, World.grownBy.refl _ _⟩
  · have hxl : xs.length = n * 3 := h.1
    have Hx := Lib.hid hxl; clear hxl
    have H0 : Hid (w.ownsRow base 62 3 (.slice (some ⟨g, 0, none⟩) n cap) n (marks k 0 ++ xs.drop 0)) := h
    clear h
    go_enter Try.func24, Try.ntmps24
    go_wp2_with fail
    go_loopw [1, 5] (fun q i wr => ∃ j : Nat, j ≤ n ∧ i = .int .i64 j ∧ q = .int .i64 (k + ((j * 3 : Nat) : Int)) ∧ Hid (wr.ownsRow base 62 3 (.slice (some ⟨g, 0, none⟩) n cap) n (marks k (j * 3) ++ xs.drop (j * 3))) ∧ Hid (w.grownBy wr (some g))) (fun _ i _ => n - (intOf i).toNat)
    case atStart => exact ⟨0, Nat.zero_le _, rfl, by simp, by simpa using H0, World.grownBy.refl _ _⟩
    case round =>
      obtain ⟨j, hj, rfl, rfl, hown, hgr⟩ := hrel
      clear H0
      by_cases hlt : j < n
      · have i1 : (j : Int) < (n : Int) := by omega
        obtain ⟨u0, hu0⟩ := marks_cell hown.out (j := j * 3) (by omega)
        have hf0 := hown.out.frozenAt (j * 3)
        obtain ⟨u1, hu1⟩ := marks_cell hown.out (j := j * 3 + 1) (by omega)
        have hf1 := hown.out.frozenAt (j * 3 + 1)
        obtain ⟨u2, hu2⟩ := marks_cell hown.out (j := j * 3 + 2) (by omega)
        have hf2 := hown.out.frozenAt (j * 3 + 2)
        go_wp2_with fail
        go_roundw
        case rel =>
          have s0 := hown.out
          have g0 := hgr.out
          have t0 := s0.stored (j * 3) (.int .i64 (k + ((j * 3 : Nat) : Int)))
          have s1 := t0.1
          rw [marks_step k (j * 3) xs (by rw [Hx.out]; omega)] at s1
          have g1 := grown_trans0 g0 t0.2
          have t1 := s1.stored (j * 3 + 1) (.int .i64 (k + ((j * 3 + 1 : Nat) : Int)))
          have s2 := t1.1
          rw [marks_step k (j * 3 + 1) xs (by rw [Hx.out]; omega)] at s2
          have g2 := grown_trans0 g1 t1.2
          have t2 := s2.stored (j * 3 + 2) (.int .i64 (k + ((j * 3 + 2 : Nat) : Int)))
          have s3 := t2.1
          rw [marks_step k (j * 3 + 2) xs (by rw [Hx.out]; omega)] at s3
          have g3 := grown_trans0 g2 t2.2
          have v0 : k + ((j * 3 : Nat) : Int) = k + (j : Int) * 3 := by omega
          have v1 : k + ((j * 3 + 1 : Nat) : Int) = k + (j : Int) * 3 + 1 := by omega
          have v2 : k + ((j * 3 + 2 : Nat) : Int) = k + (j : Int) * 3 + 1 + 1 := by omega
          rw [v0, v1, v2] at s3 g3
          refine ⟨j + 1, by omega, by go_num, ret_num (by omega), ?_, ?_⟩
          · have e : j * 3 + 2 + 1 = (j + 1) * 3 := by omega
            rw [e] at s3
            exact s3
          · exact g3
        case measure => simp [intOf]; omega
      · have e : j = n := by omega
        subst e
        go_wp2_with fail
        go_ret
        refine ⟨rfl, ?_, hgr⟩
        have h1 := hown.out
        rw [List.drop_eq_nil_of_le (by rw [Hx.out]; omega), List.append_nil] at h1
        exact h1

end Go.Proofs.Ytjdffjnennodaaa
namespace Go.Proofs.Ytjdffjnennodaaa
set_option linter.unusedSimpArgs false
set_option linter.unusedVariables false
set_option linter.unnecessarySimpa false
set_option maxRecDepth 200000
open Go.ChangeShapes Go.WideShapes Go.ChangeAt Go.RowKit Go.Joins

theorem info_Pauli : (Try.prog.info? 62).map (fun i => (i.zero, i.size, i.bytes)) = some (some (.agg #[.int .i64 0, .int .i64 0, .int .i64 0]), 3, 24) := by kernel_rfl
theorem laws_szPauliS_ok (v : Value) (xs : List E3) (left : Int) (w : World) (h : RdE w v E3.cs 3 xs) (h0 : (xs.length : Int) ≤ left) (h1 : left ≤ 1048576) :
    Calls Try.prog 16 #[v, .int .i64 left] w fun e w' => e = .returned (.int .i64 (left - xs.length)) ∧ Below w.heap.size w w' := by
  obtain ⟨a, cap, rfl, hl⟩ := h.form
  clear h
  go_enter Try.func16, Try.ntmps16
  go_wp2_with fail
  go_ret
  exact ⟨rfl, (by repeat (first | exact Below.refl _ _ | assumption | refine Below.drew ?_ | refine below_drewN ?_ _ | refine Below.alloc ?_ (by first | omega | (simp <;> omega)) _ | refine Below.setCell ?_ (by first | omega | (simp <;> omega)) _ | refine Below.trans ?_ (Below.mono (by assumption) (by first | omega | (simp <;> omega)))))⟩
theorem laws_szPauliS_no (v : Value) (xs : List E3) (left : Int) (w : World) (h : RdE w v E3.cs 3 xs) (h0 : left < (xs.length : Int)) (h1 : left ≤ 1048576) (h2 : 0 ≤ left) :
    Calls Try.prog 16 #[v, .int .i64 left] w fun e w' => e = .returned (.int .i64 (-1)) ∧ Below w.heap.size w w' := by
  obtain ⟨a, cap, rfl, hl⟩ := h.form
  clear h
  go_enter Try.func16, Try.ntmps16
  go_wp2_with fail
  go_ret
  exact ⟨rfl, (by repeat (first | exact Below.refl _ _ | assumption | refine Below.drew ?_ | refine below_drewN ?_ _ | refine Below.alloc ?_ (by first | omega | (simp <;> omega)) _ | refine Below.setCell ?_ (by first | omega | (simp <;> omega)) _ | refine Below.trans ?_ (Below.mono (by assumption) (by first | omega | (simp <;> omega)))))⟩
theorem laws_toPauli_any (x : E3) (w : World) :
    Calls Try.prog 34 #[.agg #[.int .i64 x.a, .int .i64 x.b, .int .i64 x.c]] w fun e w' => e = .returned (.agg #[.int .i64 x.a, .int .i64 x.b, .int .i64 x.c]) ∧ Below w.heap.size w w' := by
  go_enter Try.func34, Try.ntmps34
  go_wp2_with fail
  exact bodyPost_ret (v := .agg #[.int .i64 x.a, .int .i64 x.b, .int .i64 x.c]) (by simp [results, Try.results34, go_sem]) rfl ⟨rfl, (by repeat (first | exact Below.refl _ _ | assumption | refine Below.drew ?_ | refine below_drewN ?_ _ | refine Below.alloc ?_ (by first | omega | (simp <;> omega)) _ | refine Below.setCell ?_ (by first | omega | (simp <;> omega)) _ | refine Below.trans ?_ (Below.mono (by assumption) (by first | omega | (simp <;> omega)))))⟩


theorem setPauli_chain {xs : List E3} {ys : List Value} {k : Nat} (h : k < xs.length) (hl : ys.length = xs.length * 3) :
    (((((xs.take k).flatMap E3.cs ++ ys.drop (k * 3)).set (k * 3) (.int .i64 xs[k].a)).set (k * 3 + 1) (.int .i64 xs[k].b)).set (k * 3 + 2) (.int .i64 xs[k].c)) = (xs.take (k + 1)).flatMap E3.cs ++ ys.drop ((k + 1) * 3) := by
  have e : ((xs.take k).flatMap E3.cs).length = k * 3 := by rw [flat_len E3.len]; simp; omega
  obtain ⟨y0, y1, y2, zs, hz⟩ : ∃ y0 y1 y2 zs, ys.drop (k * 3) = y0 :: y1 :: y2 :: zs := by
    have hd : (ys.drop (k * 3)).length = ys.length - k * 3 := List.length_drop
    match hh : ys.drop (k * 3) with
    | y0 :: y1 :: y2 :: zs => exact ⟨y0, y1, y2, zs, rfl⟩
    | [] => rw [hh] at hd; simp at hd; omega
    | [y0] => rw [hh] at hd; simp at hd; omega
    | [y0, y1] => rw [hh] at hd; simp at hd; omega

  have hz2 : ys.drop ((k + 1) * 3) = zs := by
    rw [show (k + 1) * 3 = k * 3 + 3 from by omega, ← List.drop_drop, hz]; rfl
  rw [hz2, hz, List.take_succ_eq_append_getElem h, List.flatMap_append]
  rw [List.set_append_right _ _ (by rw [e]; omega), e, show k * 3 - k * 3 = 0 from by omega]
  rw [List.set_append_right _ _ (by rw [e]; omega), e, show k * 3 + 1 - k * 3 = 1 from by omega]
  rw [List.set_append_right _ _ (by rw [e]; omega), e, show k * 3 + 2 - k * 3 = 2 from by omega]
  simp [E3.cs]
set_option maxHeartbeats 1000000 in
theorem laws_toPauliS_any (v : Value) (xs : List E3) (w : World) (h : RdE w v E3.cs 3 xs) (hn : xs.length ≤ 1048576) :
    Calls Try.prog 18 #[v] w fun e w' => ∃ v', e = .returned v' ∧ OwnE w' w.heap.size 62 v' E3.cs 3 xs ∧ Below w.heap.size w w' := by
  obtain ⟨i0, hi, hz0, hz1, hz2⟩ := info_parts info_Pauli
  have hz : (madeCells (Value.agg #[.int .i64 0, .int .i64 0, .int .i64 0]).cells (xs.length * 3)).toList.length = xs.length * 3 := by rw [Array.length_toList, size_madeCells]
  rcases h.cases0 E3.len with ⟨rfl, a1, cap1, rfl⟩ | ⟨hx, b1, off1, cap1, rfl, hb1, hl1, hm1, hc1⟩
  · clear h
    go_enter Try.func18, Try.ntmps18
    go_wp2_with (at_make; refine wpList_make_full _ rfl _ _ 28 rfl w.heap.size 62 i0 (.agg #[.int .i64 0, .int .i64 0, .int .i64 0]) 3 Try.underlying28 hi hz0 hz1 _ _ _ _ 0 rfl rfl (by omega) (by omega) (by omega) (by unfold maxLen; omega) (by simp) ?_; intro w1 hown1 hgr1)
    refine wp_loop_rounds 1 ?_
    rw [rounds_succ]
    go_wp2_with fail
    go_ret
    have e0 : (madeCells (Value.agg #[.int .i64 0, .int .i64 0, .int .i64 0]).cells (0 * 3)).toList = [] := List.eq_nil_of_length_eq_zero (by rw [Array.length_toList, size_madeCells])
    rw [e0] at hown1
    exact ⟨.slice (some ⟨w.heap.size, 0, none⟩) 0 0, rfl, hown1, (Below.refl _ w).grown hgr1 (Nat.le_refl _) (fun k hk => by cases hk)⟩
  · clear h
    have hbig : (24 : Int) * xs.length ≤ 8388608 * 3 := by omega
    go_enter Try.func18, Try.ntmps18
    go_wp2_with (at_make; refine wpList_make_full _ rfl _ _ 28 rfl w.heap.size 62 i0 (.agg #[.int .i64 0, .int .i64 0, .int .i64 0]) 3 Try.underlying28 hi hz0 hz1 _ _ _ _ xs.length rfl rfl (by omega) (by omega) (by rw [hz2]; omega) (by unfold maxLen; omega) (by simp) ?_; intro w1 hown1 hgr1)
    obtain ⟨ys, hys⟩ : ∃ ys, ys = (madeCells (Value.agg #[.int .i64 0, .int .i64 0, .int .i64 0]).cells (xs.length * 3)).toList := ⟨_, rfl⟩
    rw [← hys] at hown1 hz
    have hB1 : Below w.heap.size w w1 := (Below.refl _ w).grown hgr1 (Nat.le_refl _) (fun k hk => by cases hk)
    have H0 : Hid (w1.ownsRow w.heap.size 62 3 (.slice (some ⟨w.heap.size, 0, none⟩) xs.length xs.length) xs.length ((xs.take 0).flatMap E3.cs ++ ys.drop (0 * 3))) := by show World.ownsRow _ _ _ _ _ _ _; simpa using hown1
    have Hz := Lib.hid hz
    have h00 : w.heap.size < w1.heap.size := (hown1.lt w.heap.size rfl).2
    clear hown1 hys hz hgr1
    go_wp2_with fail
    go_loopw [4] (fun i wr => ∃ k : Nat, k ≤ xs.length ∧ i = .int .i64 k ∧ Hid (wr.ownsRow w.heap.size 62 3 (.slice (some ⟨w.heap.size, 0, none⟩) xs.length xs.length) xs.length ((xs.take k).flatMap E3.cs ++ ys.drop (k * 3))) ∧ Below w.heap.size w wr) (fun i _ => xs.length - (intOf i).toNat)
    case atStart => exact ⟨0, Nat.zero_le _, rfl, H0, hB1⟩
    case round =>
      obtain ⟨k, hk, rfl, hown, hbel⟩ := hrel
      clear H0 hB1
      by_cases hlt : k < xs.length
      · have hne : b1 ≠ w.heap.size := by omega
        have i0 : (0 : Int) ≤ (k : Int) := by omega
        have i1 : (k : Int) < (xs.length : Int) := by omega
        have hlw := hbel.size
        have hlv : w.heap.size < wr.heap.size := (hown.out.lt w.heap.size rfl).2
        have p0 : wr.cell? ⟨b1, off1 + k * 3, none⟩ = some (.int .i64 xs[k].a) := (hbel.cell hb1).trans (hc1 k hlt 0 _ (by omega) rfl)
        have p1 : wr.cell? ⟨b1, off1 + k * 3 + 1, none⟩ = some (.int .i64 xs[k].b) := (hbel.cell hb1).trans (hc1 k hlt 1 _ (by omega) rfl)
        have p2 : wr.cell? ⟨b1, off1 + k * 3 + 2, none⟩ = some (.int .i64 xs[k].c) := (hbel.cell hb1).trans (hc1 k hlt 2 _ (by omega) rfl)
        obtain ⟨u0, q0⟩ := marks_cell hown.out (j := k * 3) (by omega)
        have f0 := hown.out.frozenAt (k * 3)
        obtain ⟨u1, q1⟩ := marks_cell hown.out (j := k * 3 + 1) (by omega)
        have f1 := hown.out.frozenAt (k * 3 + 1)
        obtain ⟨u2, q2⟩ := marks_cell hown.out (j := k * 3 + 2) (by omega)
        have f2 := hown.out.frozenAt (k * 3 + 2)
        clear hc1 h00
        go_wp2_with fail
        refine (laws_toPauli_any xs[k] _).mono ?_; rintro e w2 ⟨rfl, hbb⟩
        have hlv2 : w.heap.size < wr.heap.size := hlv
        replace q0 := below_cell hbb rfl q0
        replace f0 := below_frz hbb rfl hlv f0
        replace q1 := below_cell hbb rfl q1
        replace f1 := below_frz hbb rfl hlv f1
        replace q2 := below_cell hbb rfl q2
        replace f2 := below_frz hbb rfl hlv f2
        go_wp2_with fail
        go_roundw
        case rel =>
          refine ⟨k + 1, by omega, by go_num, ?_, ?_⟩
          · show World.ownsRow _ _ _ _ _ _ _
            have s0 := own_below hown.out hbb rfl
            have s1 := (s0.stored (k * 3) (.int .i64 xs[k].a)).1
            have s2 := (s1.stored (k * 3 + 1) (.int .i64 xs[k].b)).1
            have s3 := (s2.stored (k * 3 + 2) (.int .i64 xs[k].c)).1
            rw [setPauli_chain hlt Hz.out] at s3
            exact s3
          · have hbel2 : Below w.heap.size w w2 := below_step hbel hbb
            exact Below.setCell (Below.setCell (Below.setCell (hbel2) (by simp) _) (by simp) _) (by simp) _
        case measure => simp [intOf]; omega
      · have e : k = xs.length := by omega
        subst e
        clear hc1
        go_wp2_with fail
        go_ret
        refine ⟨_, rfl, ?_, hbel⟩
        have h1 := hown.out
        rw [List.take_of_length_le (Nat.le_refl _), List.drop_eq_nil_of_le (by rw [Hz.out]; omega), List.append_nil] at h1
        exact h1
end Go.Proofs.Ytjdffjnennodaaa
