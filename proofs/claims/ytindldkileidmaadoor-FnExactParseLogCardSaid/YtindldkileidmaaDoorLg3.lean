/- The text of a log: the reference's text. -/
import Derived.Test.YtindldkileidmaaDoorLg2
import Derived.Test.YtindldkileidmaaDoorBrk
import Derived.BigRegion
import Derived.BigQuiet
import Derived.Deep.DeepCutAuto
namespace Go.Proofs.YtindldkileidmaaDoor
set_option linter.unusedSimpArgs false
set_option linter.unusedVariables false
set_option linter.unnecessarySimpa false
set_option maxRecDepth 200000
open Go.ChangeShapes Go.WideShapes Go.ChangeAt Go.RowKit

theorem text_pos {xs : List E3} (h : xs.length ≠ 0) : (textTo xs xs.length).size ≠ 0 := by
  obtain ⟨n, hn⟩ : ∃ n, xs.length = n + 1 := ⟨xs.length - 1, by omega⟩
  rw [hn]
  show (textStep (textTo xs n) n _).size ≠ 0
  rw [textStep_eq, ByteArray.size_append]
  have h1 : (ByteArray.mk #[32]).size = 1 := by decide
  have : 1 ≤ (stepW (xs.getD n ⟨0, 0, 0⟩)).size := by
    unfold stepW headT
    split
    · rw [ByteArray.size_append, ByteArray.size_append, ByteArray.size_append]; omega
    · rw [ByteArray.size_append, ByteArray.size_append]; omega
  omega
theorem bel_at {w w' : World} {b o : Nat} {u : Value} (hb : Below w.heap.size w w') (hc : w.cell? ⟨b, o, none⟩ = some u) : w'.cell? ⟨b, o, none⟩ = some u :=
  (hb.cell (World.block_lt_of_cell? _ _ hc)).trans hc
theorem text_0 {xs : List E3} {k : Nat} (hk : k = 0) : textTo xs k = ⟨#[]⟩ := by subst hk; rfl
theorem step_two {xs : List E3} {k : Nat} {T : ByteArray} {x : E3} (hT : T = textTo xs k) (hx : x = xs.getD k ⟨0, 0, 0⟩) (h : twoR x = true) : textTo xs (k + 1) = sepT T k ++ headT x ++ (⟨#[32]⟩ ++ numB x.c.toNat) := by
  subst hT hx
  show textStep _ _ _ = _
  unfold textStep; rw [if_pos h]
theorem step_one {xs : List E3} {k : Nat} {T : ByteArray} {x : E3} (hT : T = textTo xs k) (hx : x = xs.getD k ⟨0, 0, 0⟩) (h : twoR x = false) : textTo xs (k + 1) = sepT T k ++ headT x := by
  subst hT hx
  show textStep _ _ _ = _
  unfold textStep; rw [if_neg (by rw [h]; exact Bool.false_ne_true)]
set_option maxHeartbeats 8000000 in
theorem spec_l17Text_any (v : Value) (xs : List E3) (w : World) (h : RdE w v E3.cs 3 xs) (hok : xs.all okStep = true) (hl : xs.length ≤ 60) :
    Calls Tryd.prog 17 #[v] w fun e w' => e = .returned (.string (logText xs)) ∧ Below w.heap.size w w' := by
  obtain ⟨A, c, rfl, Hc⟩ := rw_at h
  have HOK := Lib.hid hok
  clear h hok
  go_enter Tryd.func17, Tryd.ntmps17
  go_wp2_with fail
  go_loopw [3, 8] (fun s i wr => ∃ k : Nat, k ≤ xs.length ∧ s = .string (textTo xs k) ∧ i = .int .i64 k ∧ Hid (Below w.heap.size w wr) ∧ w.heap.size ≤ wr.heap.size) (fun _ i _ => xs.length - (intOf i).toNat)
  case atStart => exact ⟨0, Nat.zero_le _, rfl, rfl, (show Below _ _ _ from (by repeat (first | exact Below.refl _ _ | assumption | refine Below.drew ?_ | refine below_drewN ?_ _ | refine Below.alloc ?_ (by first | omega | (simp <;> omega)) _ | refine Below.setCell ?_ (by first | omega | (simp <;> omega)) _ | refine Below.trans ?_ (Below.mono (by assumption) (by first | omega | (simp <;> omega)))))), Nat.le_refl _⟩
  case round =>
    obtain ⟨k, hk, rfl, rfl, hB, hsz⟩ := hrel
    by_cases hlt : k < xs.length
    · have i1 : (k : Int) < (xs.length : Int) := by omega
      obtain ⟨b, off, rfl, hb, c0, c1, c2⟩ := Hc.out k hlt
      replace c0 := (hB.out.cell hb).trans c0
      replace c1 := (hB.out.cell hb).trans c1
      replace c2 := (hB.out.cell hb).trans c2
      have hxo : okStep (xs.getD k ⟨0, 0, 0⟩) = true := by
        rw [show xs.getD k ⟨0, 0, 0⟩ = xs[k] from by simp [List.getD, hlt]]
        exact List.all_eq_true.1 HOK.out _ (List.getElem_mem _)
      have hts := text_size HOK.out k hk
      obtain ⟨T, hT⟩ : ∃ T, T = textTo xs k := ⟨_, rfl⟩
      obtain ⟨x, hx⟩ : ∃ x, x = xs.getD k ⟨0, 0, 0⟩ := ⟨_, rfl⟩
      have HS2 := Lib.hid (fun h9 => step_two hT hx h9)
      have HS1 := Lib.hid (fun h9 => step_one hT hx h9)
      rw [← hx] at c0 c1 c2 hxo
      rw [← hT] at hts ⊢
      clear hx hT
      obtain ⟨pa, pb, pc, ptw⟩ := ok_parts hxo
      have hhs := head_size hxo
      clear hxo
      obtain ⟨a, ha⟩ : ∃ a : Nat, x.a = (a : Int) := ⟨x.a.toNat, by omega⟩
      obtain ⟨b1, hb1⟩ : ∃ a : Nat, x.b = (a : Int) := ⟨x.b.toNat, by omega⟩
      obtain ⟨c3, hc3⟩ : ∃ a : Nat, x.c = (a : Int) := ⟨x.c.toNat, by omega⟩
      have hH : headT x = wordOf a ++ ⟨#[32]⟩ ++ numB b1 := by unfold headT; rw [ha, hb1]; rfl
      have hC : numB x.c.toNat = numB c3 := by rw [hc3]; rfl
      have htw : twoR x = (decide (a = 1) || decide (a = 4)) := by
        unfold twoR; rw [ha]
        have e1 : decide ((a : Int) = 1) = decide (a = 1) := by rw [decide_eq_decide]; omega
        have e2 : decide ((a : Int) = 4) = decide (a = 4) := by rw [decide_eq_decide]; omega
        rw [e1, e2]
      rw [hH, hC, htw] at HS2
      rw [hH, htw] at HS1
      rw [ha] at c0 pa; rw [hb1] at c1 pb; rw [hc3] at c2 pc
      clear hH hC htw ha hb1 hc3 hhs ptw
      have w6 := word_size a
      have n1 := num_size (i := b1) (by omega)
      have n2 := num_size (i := c3) (by omega)
      have a1 : 1 ≤ a := by omega
      have a5 : a ≤ 5 := by omega
      have bl : b1 < 100 := by omega
      have cl : c3 < 100 := by omega
      obtain ⟨SS, hSS⟩ : ∃ S, S = sepT T k := ⟨_, rfl⟩
      have hss : SS.size ≤ 800 := by rw [hSS]; have := sep_size T k; omega
      rw [← hSS] at HS1 HS2
      have HW := Lib.hid (show Below w.heap.size w (wr.alloc (.cells #[.int .i64 (a : Int), .int .i64 (b1 : Int), .int .i64 (c3 : Int)] 36)) from Below.alloc hB.out hsz _)
      have x0 : (wr.alloc (.cells #[.int .i64 (a : Int), .int .i64 (b1 : Int), .int .i64 (c3 : Int)] 36)).cell? ⟨wr.heap.size, 0, none⟩ = some (.int .i64 (a : Int)) := (by repeat (first | (refine Eq.trans (World.cell?_alloc_at _ _ _ _ ?hh) ?_; (case hh => (simp; done)); rfl) | refine cell_alloc_keep _ ?_))
      have x1 : (wr.alloc (.cells #[.int .i64 (a : Int), .int .i64 (b1 : Int), .int .i64 (c3 : Int)] 36)).cell? ⟨wr.heap.size, 1, none⟩ = some (.int .i64 (b1 : Int)) := (by repeat (first | (refine Eq.trans (World.cell?_alloc_at _ _ _ _ ?hh) ?_; (case hh => (simp; done)); rfl) | refine cell_alloc_keep _ ?_))
      have x2 : (wr.alloc (.cells #[.int .i64 (a : Int), .int .i64 (b1 : Int), .int .i64 (c3 : Int)] 36)).cell? ⟨wr.heap.size, 2, none⟩ = some (.int .i64 (c3 : Int)) := (by repeat (first | (refine Eq.trans (World.cell?_alloc_at _ _ _ _ ?hh) ?_; (case hh => (simp; done)); rfl) | refine cell_alloc_keep _ ?_))
      have zW : w.heap.size ≤ (wr.alloc (.cells #[.int .i64 (a : Int), .int .i64 (b1 : Int), .int .i64 (c3 : Int)] 36)).heap.size := by simp; omega
      go_upto_if 14 with fail
      go_cut [3] (fun s3 wx => s3 = .string SS ∧ wx = wr.alloc (.cells #[.int .i64 (a : Int), .int .i64 (b1 : Int), .int .i64 (c3 : Int)] 36))
      case first =>
        by_cases hk0 : k = 0
        · have i5 : ¬ (0 : Int) < (k : Int) := by omega
          have e5 : SS = T := by rw [hSS]; unfold sepT; rw [if_pos hk0]
          clear hk0 hSS
          subst e5
          go_wp2_with fail
          go_meet
          exact ⟨rfl, rfl⟩
        · have i5 : (0 : Int) < (k : Int) := by omega
          have e5 : SS = T ++ ⟨#[59]⟩ := by rw [hSS]; unfold sepT; rw [if_neg hk0]
          have k5 : ¬ 9223372036854775807 < T.size + 1 := by omega
          clear hk0 hSS
          have E5 := Lib.hid e5
          clear e5
          go_wp2_with fail
          go_meet
          exact ⟨by rw [E5.out], rfl⟩
      case rest =>
        obtain ⟨rfl, rfl⟩ := hcut
        clear hSS hts
        have k1 : ¬ 9223372036854775807 < (wordOf a).size + 1 := by omega
        have k2 : ¬ 9223372036854775807 < (wordOf a).size + 1 + (numB b1).size := by omega
        have k3 : ¬ 9223372036854775807 < SS.size + ((wordOf a).size + 1 + (numB b1).size) := by omega
        go_upto_region 7 with fail
        generalize (wr.alloc (.cells #[.int .i64 (a : Int), .int .i64 (b1 : Int), .int .i64 (c3 : Int)] 36)) = W at *
        replace x0 : W.drew.cell? _ = _ := x0; replace x1 : W.drew.cell? _ = _ := x1; replace x2 : W.drew.cell? _ = _ := x2
        replace HW := Lib.hid (show Below w.heap.size w W.drew from Below.trans HW.out ((show Below W.heap.size W W.drew from (by repeat (first | exact Below.refl _ _ | assumption | refine Below.drew ?_ | refine below_drewN ?_ _ | refine Below.alloc ?_ (by first | omega | (simp <;> omega)) _ | refine Below.setCell ?_ (by first | omega | (simp <;> omega)) _ | refine Below.trans ?_ (Below.mono (by assumption) (by first | omega | (simp <;> omega)))))).mono zW))
        replace zW : w.heap.size ≤ W.drew.heap.size := zW
        refine AnyB.begin (S := (fun w' => w'.cell? ⟨wr.heap.size, 0, none⟩ = some (.int .i64 (a : Int)) ∧ w'.cell? ⟨wr.heap.size, 1, none⟩ = some (.int .i64 (b1 : Int)))) [] (by kernel_rfl) ?_ (fun hHeld0 => ?_)
        · ((try dsimp only); (first | exact ⟨x0, x1⟩))
        refine AnyB.takeQ (i := 0) (oi := _) (v := ?_) (by simp only [List.getElem?_toArray, List.getElem?_cons_zero, List.getElem?_cons_succ]; rfl) (by kernel_rfl) (by kernel_rfl) (by kernel_rfl) (by intro _ _ _ h; exact h) (Or.inl ⟨by rfl, ?_⟩) ?_
        rotate_left
        · (intro w hSw; (try dsimp only at hSw); go_simp; (try (with_reducible rfl)))
        try simp only [Act.put, List.setIfInBounds_toArray, List.set_cons_zero, List.set_cons_succ]
        refine AnyB.takeQ (i := 1) (oi := _) (v := ?_) (by simp only [List.getElem?_toArray, List.getElem?_cons_zero, List.getElem?_cons_succ]; rfl) (by kernel_rfl) (by kernel_rfl) (by kernel_rfl) (by intro _ _ _ h; exact h) (Or.inl ⟨by rfl, ?_⟩) ?_
        rotate_left
        · (intro w hSw; (try dsimp only at hSw); go_simp; (try (with_reducible rfl)))
        try simp only [Act.put, List.setIfInBounds_toArray, List.set_cons_zero, List.set_cons_succ]
        refine AnyB.take (i := 2) (oi := _) (v := ?_) (by simp only [List.getElem?_toArray, List.getElem?_cons_zero, List.getElem?_cons_succ]; rfl) (by kernel_rfl) (by kernel_rfl) (by kernel_rfl) (by kernel_rfl) (by kernel_rfl) (by intro _ _ _ h; exact h) (Or.inl ⟨by rfl, ?_⟩) (by assumption) ?_
        rotate_left
        · (intro w hSw; (try dsimp only at hSw); go_simp; (try (with_reducible rfl)))
        try simp only [Act.put, List.setIfInBounds_toArray, List.set_cons_zero, List.set_cons_succ]
        refine AnyB.takeQ (i := 5) (oi := _) (v := ?_) (by simp only [List.getElem?_toArray, List.getElem?_cons_zero, List.getElem?_cons_succ]; rfl) (by kernel_rfl) (by kernel_rfl) (by kernel_rfl) (by intro _ _ _ h; exact h) (Or.inl ⟨by rfl, ?_⟩) ?_
        rotate_left
        · (intro w hSw; (try dsimp only at hSw); go_simp; (try (with_reducible rfl)))
        try simp only [Act.put, List.setIfInBounds_toArray, List.set_cons_zero, List.set_cons_succ]
        refine AnyB.take (i := 6) (oi := _) (v := ?_) (by simp only [List.getElem?_toArray, List.getElem?_cons_zero, List.getElem?_cons_succ]; rfl) (by kernel_rfl) (by kernel_rfl) (by kernel_rfl) (by kernel_rfl) (by kernel_rfl) (by intro _ _ _ h; exact h) (Or.inl ⟨by rfl, ?_⟩) (by assumption) ?_
        rotate_left
        · (intro w hSw; (try dsimp only at hSw); go_simp; (try (with_reducible rfl)))
        try simp only [Act.put, List.setIfInBounds_toArray, List.set_cons_zero, List.set_cons_succ]
        refine AnyB.each (rs := [3]) (by kernel_rfl) (by simp) ?_
        refine EachB.cons rfl (fun K hK hB => ?_) ?_
        · skip
          (go_simp; go_at_call 14; refine (spec_l17Word_any a _ a1 a5).mono ?_; rintro e w2 ⟨rfl, hbb⟩; replace x0 := bel_at hbb x0; replace x1 := bel_at hbb x1; replace x2 := bel_at hbb x2; replace HW := Lib.hid (Below.trans HW.out (hbb.mono zW)); replace zW := Nat.le_trans zW hbb.size; clear hbb; dsimp only)
          refine hK.out _ _ ?_ (fun hHeld1 => ?_)
          · ((try dsimp only); (first | exact ⟨x0, x1⟩))
          clear hB hK K hHeld0
          refine AnyB.takeQ (i := 4) (oi := _) (v := ?_) (by simp only [List.getElem?_toArray, List.getElem?_cons_zero, List.getElem?_cons_succ]; rfl) (by kernel_rfl) (by kernel_rfl) (by kernel_rfl) (by intro _ _ _ h; exact h) (Or.inl ⟨by rfl, ?_⟩) ?_
          rotate_left
          · (intro w hSw; (try dsimp only at hSw); go_simp; (try (with_reducible rfl)))
          try simp only [Act.put, List.setIfInBounds_toArray, List.set_cons_zero, List.set_cons_succ]
          refine AnyB.each (rs := [7]) (by kernel_rfl) (by simp) ?_
          refine EachB.cons rfl (fun K hK hB => ?_) ?_
          · skip
            (go_simp; go_at_call 28; refine (spec_l1Num_any b1 _ bl).mono ?_; rintro e w3 ⟨rfl, hbb⟩; replace x0 := bel_at hbb x0; replace x1 := bel_at hbb x1; replace x2 := bel_at hbb x2; replace HW := Lib.hid (Below.trans HW.out (hbb.mono zW)); replace zW := Nat.le_trans zW hbb.size; clear hbb; dsimp only)
            refine hK.out _ _ ?_ (fun hHeld2 => ?_)
            · ((try dsimp only); (first | exact ⟨x0, x1⟩))
            clear hB hK K hHeld1
            refine AnyB.takeQ (i := 8) (oi := _) (v := ?_) (by simp only [List.getElem?_toArray, List.getElem?_cons_zero, List.getElem?_cons_succ]; rfl) (by kernel_rfl) (by kernel_rfl) (by kernel_rfl) (by intro _ _ _ h; exact h) (Or.inl ⟨by rfl, ?_⟩) ?_
            rotate_left
            · (intro w hSw; (try dsimp only at hSw); go_simp; (try (with_reducible rfl)))
            try simp only [Act.put, List.setIfInBounds_toArray, List.set_cons_zero, List.set_cons_succ]
            refine AnyB.takeQ (i := 9) (oi := _) (v := ?_) (by simp only [List.getElem?_toArray, List.getElem?_cons_zero, List.getElem?_cons_succ]; rfl) (by kernel_rfl) (by kernel_rfl) (by kernel_rfl) (by intro _ _ _ h; exact h) (Or.inl ⟨by rfl, ?_⟩) ?_
            rotate_left
            · (intro w hSw; (try dsimp only at hSw); go_simp; (try (with_reducible rfl)))
            try simp only [Act.put, List.setIfInBounds_toArray, List.set_cons_zero, List.set_cons_succ]
            refine AnyB.takeQ (i := 10) (oi := _) (v := ?_) (by simp only [List.getElem?_toArray, List.getElem?_cons_zero, List.getElem?_cons_succ]; rfl) (by kernel_rfl) (by kernel_rfl) (by kernel_rfl) (by intro _ _ _ h; exact h) (Or.inl ⟨by rfl, ?_⟩) ?_
            rotate_left
            · (intro w hSw; (try dsimp only at hSw); go_simp; (try (with_reducible rfl)))
            try simp only [Act.put, List.setIfInBounds_toArray, List.set_cons_zero, List.set_cons_succ]
            refine AnyB.none (by kernel_rfl) ?_ _
            have k4 : ¬ 9223372036854775807 < 1 + (numB c3).size := by omega
            have k5 : ¬ 9223372036854775807 < SS.size + ((wordOf a).size + 1 + (numB b1).size) + (1 + (numB c3).size) := by omega
            by_cases h1 : a = 1
            · have i6 : ((a : Int) == 1) = true := by simp; omega
              have HN := Lib.hid (HS2.out (by rw [decide_eq_true h1]; rfl))
              clear h1
              go_wp2_with fail
              refine (spec_l1Num_any c3 _ cl).mono ?_; rintro e w4 ⟨rfl, hbb⟩
              replace HW := Lib.hid (Below.trans HW.out (hbb.mono zW)); replace zW := Nat.le_trans zW hbb.size; clear hbb
              go_wp2_with fail
              go_roundw
              case rel => exact ⟨k + 1, by omega, by rw [HN.out], by go_num, HW, zW⟩
              case measure => simp [intOf]; omega
            · have i6 : ((a : Int) == 1) = false := by simp; omega
              by_cases h4 : a = 4
              · have i7 : ((a : Int) == 4) = true := by simp; omega
                have HN := Lib.hid (HS2.out (by rw [decide_eq_true h4]; simp))
                clear h1 h4
                go_wp2_with fail
                refine (spec_l1Num_any c3 _ cl).mono ?_; rintro e w4 ⟨rfl, hbb⟩
                replace HW := Lib.hid (Below.trans HW.out (hbb.mono zW)); replace zW := Nat.le_trans zW hbb.size; clear hbb
                go_wp2_with fail
                go_roundw
                case rel => exact ⟨k + 1, by omega, by rw [HN.out], by go_num, HW, zW⟩
                case measure => simp [intOf]; omega
              · have i7 : ((a : Int) == 4) = false := by simp; omega
                have HN := Lib.hid (HS1.out (by rw [decide_eq_false h4, decide_eq_false h1]; rfl))
                clear h1 h4
                go_wp2_with fail
                go_roundw
                case rel => exact ⟨k + 1, by omega, by rw [HN.out], by go_num, HW, zW⟩
                case measure => simp [intOf]; omega
          exact EachB.nil
        exact EachB.nil
    · obtain rfl : k = xs.length := by omega
      have i1 : ¬ (xs.length : Int) < (xs.length : Int) := by omega
      by_cases h0 : xs.length = 0
      · have HN := Lib.hid (show logText xs = ⟨#[45]⟩ from by unfold logText; rw [if_pos h0])
        rw [text_0 h0]
        clear h0
        go_wp2_with fail
        go_ret
        exact ⟨by (rw [HN.out]; try rfl), hB.out⟩
      · have HN := Lib.hid (show logText xs = textTo xs xs.length from by unfold logText; rw [if_neg h0])
        have hne := str_ne (text_pos h0)
        obtain ⟨T, hT⟩ : ∃ T, T = textTo xs xs.length := ⟨_, rfl⟩
        rw [← hT] at HN hne ⊢
        clear h0 hT
        go_wp2_with fail
        go_ret
        exact ⟨by (rw [HN.out]; try rfl), hB.out⟩
end Go.Proofs.YtindldkileidmaaDoor
