/- The program's rounds: gray. -/
import Derived.Test.YtbcjligkjoimmaaZ38M
import Derived.Test.YtbcjligkjoimmaaZ29Brk
import Derived.BigRegion
import Derived.BigQuiet
import Derived.Deep.LoopGhost
import Derived.Deep.DeepCutAuto
namespace Go.Proofs.Ytbcjligkjoimmaa
set_option linter.unusedSimpArgs false
set_option linter.unusedVariables false
set_option linter.unnecessarySimpa false
set_option maxRecDepth 200000
open Go.ChangeShapes Go.WideShapes Go.ChangeAt Go.RowKit

set_option maxHeartbeats 32000000 in
theorem impl_gray_any (n : Nat) (v : Value) (masks : List Nat) (w : World) (h : RdI w v (ints masks)) (hs : Sm masks) (n1 : 1 ≤ n) (n5 : n ≤ 5) :
    Calls Try.prog 25 #[.int .i64 (n : Int), v] w fun e w' => ∃ u, e = .returned u ∧ OwnE w' w.heap.size 58 u E3.cs 3 (gAll n masks) ∧ Below w.heap.size w w' := by
  obtain ⟨i0, hi, hz0, hz1, hz2⟩ := info_parts info_Gate
  obtain ⟨k0, hkk, hx0, hx1, hx2⟩ := info_parts info_grayTask
  have H := Lib.hid h
  have HS := Lib.hid hs
  have hml := hs.1
  obtain ⟨A, c, rfl, _⟩ := h.form
  rw [ints_len] at *
  obtain ⟨p1, p2⟩ := pow_small n (by omega)
  have hwp : IntKind.i64.wrap ((2 : Int) ^ n) = (2 : Int) ^ n := IntWalk.i64_in _ (by omega)
  have hwm := pow_sub1 n5
  have hmn : min n 64 = n := by omega
  have j2 : (0 : Int) ≤ (n : Int) := by omega
  clear h hs
  go_enter Try.func25, Try.ntmps25
  go_upto_region 1 with fail
  go_cut [5, 6] (fun s5 s6 wx => ∃ (vO vS vv : Value), s5 = vO ∧ s6 = vS ∧ Hid (GMem n masks w.heap.size 63 w wx vO vS [⟨⟨masks, 2 ^ n - 1, -1⟩, vv, .int .i64 ((2 ^ n - 1 : Nat) : Int)⟩] []))
  case first =>
    have bd := Lib.hid (show Below w.heap.size w w.drew from (by repeat (first | exact Below.refl _ _ | assumption | refine Below.drew ?_ | refine below_drewN ?_ _ | refine Below.alloc ?_ (by first | omega | (simp <;> omega)) _ | refine Below.setCell ?_ (by first | omega | (simp <;> omega)) _ | refine Below.trans ?_ (Below.mono (by assumption) (by first | omega | (simp <;> omega))))))
    have bq : w.heap.size ≤ w.drew.heap.size := Nat.le_refl _
    have FAM := Lib.hid (show Fam w.drew w.heap.size [] from ⟨fun r hr => (by cases hr), List.Pairwise.nil⟩)
    refine AnyB.begin (S := (fun w' => True)) [] (by kernel_rfl) ?_ (fun hHeld0 => ?_)
    · ((try dsimp only); (try trivial))
    refine AnyB.takeQ (i := 1) (oi := _) (v := ?_) (by simp only [List.getElem?_toArray, List.getElem?_cons_zero, List.getElem?_cons_succ]; rfl) (by kernel_rfl) (by kernel_rfl) (by kernel_rfl) (by intro _ _ _ h; exact h) (Or.inl ⟨by rfl, ?_⟩) ?_
    rotate_left
    · (intro w hSw; go_simp; (try (with_reducible rfl)))
    try simp only [Act.put, List.setIfInBounds_toArray, List.set_cons_zero, List.set_cons_succ]
    refine AnyB.takeQ (i := 3) (oi := _) (v := ?_) (by simp only [List.getElem?_toArray, List.getElem?_cons_zero, List.getElem?_cons_succ]; rfl) (by kernel_rfl) (by kernel_rfl) (by kernel_rfl) (by intro _ _ _ h; exact h) (Or.inl ⟨by rfl, ?_⟩) ?_
    rotate_left
    · (intro w hSw; go_simp; (try (with_reducible rfl)))
    try simp only [Act.put, List.setIfInBounds_toArray, List.set_cons_zero, List.set_cons_succ]
    refine AnyB.takeQ (i := 4) (oi := _) (v := ?_) (by simp only [List.getElem?_toArray, List.getElem?_cons_zero, List.getElem?_cons_succ]; rfl) (by kernel_rfl) (by kernel_rfl) (by kernel_rfl) (by intro _ _ _ h; exact h) (Or.inl ⟨by rfl, ?_⟩) ?_
    rotate_left
    · (intro w hSw; go_simp; (try (with_reducible rfl)))
    try simp only [Act.put, List.setIfInBounds_toArray, List.set_cons_zero, List.set_cons_succ]
    refine AnyB.takeQ (i := 5) (oi := _) (v := ?_) (by simp only [List.getElem?_toArray, List.getElem?_cons_zero, List.getElem?_cons_succ]; rfl) (by kernel_rfl) (by kernel_rfl) (by kernel_rfl) (by intro _ _ _ h; exact h) (Or.inl ⟨by rfl, ?_⟩) ?_
    rotate_left
    · (intro w hSw; go_simp; (try (with_reducible rfl)))
    try simp only [Act.put, List.setIfInBounds_toArray, List.set_cons_zero, List.set_cons_succ]
    refine AnyB.each (rs := [0, 2]) (by kernel_rfl) (by simp) ?_
    refine EachB.cons rfl (fun K hK hB => ?_) ?_
    · skip
      (go_simp; replace FAM := Lib.hid (fam_lit0 FAM.out bq); replace bd := Lib.hid (Below.alloc bd.out bq (.cells #[] 58)); replace bq := bd.out.size)
      refine hK.out _ _ ?_ (fun hHeld1 => ?_)
      · ((try dsimp only); (try trivial))
      clear hB hK K hHeld0
      refine AnyB.each (rs := [2]) (by kernel_rfl) (by simp) ?_
      refine EachB.cons rfl (fun K hK hB => ?_) ?_
      · skip
        (go_simp; go_at_call 61; refine (slices_Clone_any _ (ints masks) _ (Rd.below H.out bd.out rfl) (by rw [ints_len]; omega)).mono ?_; rintro e w2 ⟨v2, rfl, ho2, hb2⟩; obtain ⟨a2, c2, rfl⟩ : ∃ a c, v2 = .slice a masks.length c := (by have h9 := ho2.forms; rw [ints_len] at h9; exact h9); replace FAM := Lib.hid (fam_call FAM.out hb2 ho2 bq); replace bd := Lib.hid (show Below w.heap.size w w2 from Below.trans bd.out (hb2.mono bq)); replace bq := bd.out.size; clear ho2 hb2; dsimp only)
        refine hK.out _ _ ?_ (fun hHeld2 => ?_)
        · ((try dsimp only); (try trivial))
        clear hB hK K hHeld1
        refine AnyB.takeQ (i := 6) (oi := _) (v := ?_) (by simp only [List.getElem?_toArray, List.getElem?_cons_zero, List.getElem?_cons_succ]; rfl) (by kernel_rfl) (by kernel_rfl) (by kernel_rfl) (by intro _ _ _ h; exact h) (Or.inl ⟨by rfl, ?_⟩) ?_
        rotate_left
        · (intro w hSw; go_simp; (try (with_reducible rfl)))
        try simp only [Act.put, List.setIfInBounds_toArray, List.set_cons_zero, List.set_cons_succ]
        refine AnyB.takeQ (i := 8) (oi := _) (v := ?_) (by simp only [List.getElem?_toArray, List.getElem?_cons_zero, List.getElem?_cons_succ]; rfl) (by kernel_rfl) (by kernel_rfl) (by kernel_rfl) (by intro _ _ _ h; exact h) (Or.inl ⟨by rfl, ?_⟩) ?_
        rotate_left
        · (intro w hSw; go_simp; (try (with_reducible rfl)))
        try simp only [Act.put, List.setIfInBounds_toArray, List.set_cons_zero, List.set_cons_succ]
        refine AnyB.each (rs := [7]) (by kernel_rfl) (by simp) ?_
        refine EachB.cons rfl (fun K hK hB => ?_) ?_
        · skip
          (go_simp; replace FAM := Lib.hid (fam_stack ⟨⟨masks, 2 ^ n - 1, -1⟩, .slice a2 masks.length c2, .int .i64 ((2 ^ n - 1 : Nat) : Int)⟩ FAM.out bq); replace bd := Lib.hid (Below.alloc bd.out bq (.cells #[.slice a2 masks.length c2, .int .i64 ((2 ^ n - 1 : Nat) : Int), .int .i64 (-1)] 98)); replace bq := bd.out.size)
          refine hK.out _ _ ?_ (fun hHeld3 => ?_)
          · ((try dsimp only); (try trivial))
          clear hB hK K hHeld2
          refine AnyB.takeQ (i := 9) (oi := _) (v := ?_) (by simp only [List.getElem?_toArray, List.getElem?_cons_zero, List.getElem?_cons_succ]; rfl) (by kernel_rfl) (by kernel_rfl) (by kernel_rfl) (by intro _ _ _ h; exact h) (Or.inl ⟨by rfl, ?_⟩) ?_
          rotate_left
          · (intro w hSw; go_simp; (try (with_reducible rfl)))
          try simp only [Act.put, List.setIfInBounds_toArray, List.set_cons_zero, List.set_cons_succ]
          refine AnyB.none (by kernel_rfl) ?_ _
          go_wp2_with fail
          go_meet
          refine ⟨_, _, .slice a2 masks.length c2, rfl, rfl, (show GMem _ _ _ _ _ _ _ _ _ _ from ⟨?_, ?_, gInv_start n5 HS.out, rfl, bd.out, bq⟩)⟩
          · have e9 : ∀ X, (w2.alloc X).heap.size = w2.heap.size + 1 := fun X => by simp
            (try rw [e9] at FAM)
            first | exact FAM.out.perm (List.perm_append_comm (l₁ := [_]) (l₂ := [_, _])) | exact FAM.out.perm (List.perm_append_comm (l₁ := [_, _]) (l₂ := [_])) | exact FAM.out.perm (List.reverse_perm _).symm
          · intro y hy
            simp only [List.mem_singleton] at hy
            subst hy; rfl
        exact EachB.nil
      exact EachB.nil
    refine EachB.cons rfl (fun K hK hB => ?_) ?_
    · skip
      (go_simp; go_at_call 61; refine (slices_Clone_any _ (ints masks) _ (Rd.below H.out bd.out rfl) (by rw [ints_len]; omega)).mono ?_; rintro e w2 ⟨v2, rfl, ho2, hb2⟩; obtain ⟨a2, c2, rfl⟩ : ∃ a c, v2 = .slice a masks.length c := (by have h9 := ho2.forms; rw [ints_len] at h9; exact h9); replace FAM := Lib.hid (fam_call FAM.out hb2 ho2 bq); replace bd := Lib.hid (show Below w.heap.size w w2 from Below.trans bd.out (hb2.mono bq)); replace bq := bd.out.size; clear ho2 hb2; dsimp only)
      refine hK.out _ _ ?_ (fun hHeld4 => ?_)
      · ((try dsimp only); (try trivial))
      clear hB hK K hHeld0
      refine AnyB.takeQ (i := 6) (oi := _) (v := ?_) (by simp only [List.getElem?_toArray, List.getElem?_cons_zero, List.getElem?_cons_succ]; rfl) (by kernel_rfl) (by kernel_rfl) (by kernel_rfl) (by intro _ _ _ h; exact h) (Or.inl ⟨by rfl, ?_⟩) ?_
      rotate_left
      · (intro w hSw; go_simp; (try (with_reducible rfl)))
      try simp only [Act.put, List.setIfInBounds_toArray, List.set_cons_zero, List.set_cons_succ]
      refine AnyB.each (rs := [0, 7]) (by kernel_rfl) (by simp) ?_
      refine EachB.cons rfl (fun K hK hB => ?_) ?_
      · skip
        (go_simp; replace FAM := Lib.hid (fam_lit0 FAM.out bq); replace bd := Lib.hid (Below.alloc bd.out bq (.cells #[] 58)); replace bq := bd.out.size)
        refine hK.out _ _ ?_ (fun hHeld5 => ?_)
        · ((try dsimp only); (try trivial))
        clear hB hK K hHeld4
        refine AnyB.takeQ (i := 8) (oi := _) (v := ?_) (by simp only [List.getElem?_toArray, List.getElem?_cons_zero, List.getElem?_cons_succ]; rfl) (by kernel_rfl) (by kernel_rfl) (by kernel_rfl) (by intro _ _ _ h; exact h) (Or.inl ⟨by rfl, ?_⟩) ?_
        rotate_left
        · (intro w hSw; go_simp; (try (with_reducible rfl)))
        try simp only [Act.put, List.setIfInBounds_toArray, List.set_cons_zero, List.set_cons_succ]
        refine AnyB.each (rs := [7]) (by kernel_rfl) (by simp) ?_
        refine EachB.cons rfl (fun K hK hB => ?_) ?_
        · skip
          (go_simp; replace FAM := Lib.hid (fam_stack ⟨⟨masks, 2 ^ n - 1, -1⟩, .slice a2 masks.length c2, .int .i64 ((2 ^ n - 1 : Nat) : Int)⟩ FAM.out bq); replace bd := Lib.hid (Below.alloc bd.out bq (.cells #[.slice a2 masks.length c2, .int .i64 ((2 ^ n - 1 : Nat) : Int), .int .i64 (-1)] 98)); replace bq := bd.out.size)
          refine hK.out _ _ ?_ (fun hHeld6 => ?_)
          · ((try dsimp only); (try trivial))
          clear hB hK K hHeld5
          refine AnyB.takeQ (i := 9) (oi := _) (v := ?_) (by simp only [List.getElem?_toArray, List.getElem?_cons_zero, List.getElem?_cons_succ]; rfl) (by kernel_rfl) (by kernel_rfl) (by kernel_rfl) (by intro _ _ _ h; exact h) (Or.inl ⟨by rfl, ?_⟩) ?_
          rotate_left
          · (intro w hSw; go_simp; (try (with_reducible rfl)))
          try simp only [Act.put, List.setIfInBounds_toArray, List.set_cons_zero, List.set_cons_succ]
          refine AnyB.none (by kernel_rfl) ?_ _
          go_wp2_with fail
          go_meet
          refine ⟨_, _, .slice a2 masks.length c2, rfl, rfl, (show GMem _ _ _ _ _ _ _ _ _ _ from ⟨?_, ?_, gInv_start n5 HS.out, rfl, bd.out, bq⟩)⟩
          · have e9 : ∀ X, (w2.alloc X).heap.size = w2.heap.size + 1 := fun X => by simp
            (try rw [e9] at FAM)
            first | exact FAM.out.perm (List.perm_append_comm (l₁ := [_]) (l₂ := [_, _])) | exact FAM.out.perm (List.perm_append_comm (l₁ := [_, _]) (l₂ := [_])) | exact FAM.out.perm (List.reverse_perm _).symm
          · intro y hy
            simp only [List.mem_singleton] at hy
            subst hy; rfl
        exact EachB.nil
      refine EachB.cons rfl (fun K hK hB => ?_) ?_
      · skip
        (go_simp; replace FAM := Lib.hid (fam_stack ⟨⟨masks, 2 ^ n - 1, -1⟩, .slice a2 masks.length c2, .int .i64 ((2 ^ n - 1 : Nat) : Int)⟩ FAM.out bq); replace bd := Lib.hid (Below.alloc bd.out bq (.cells #[.slice a2 masks.length c2, .int .i64 ((2 ^ n - 1 : Nat) : Int), .int .i64 (-1)] 98)); replace bq := bd.out.size)
        refine hK.out _ _ ?_ (fun hHeld7 => ?_)
        · ((try dsimp only); (try trivial))
        clear hB hK K hHeld4
        refine AnyB.each (rs := [0]) (by kernel_rfl) (by simp) ?_
        refine EachB.cons rfl (fun K hK hB => ?_) ?_
        · skip
          (go_simp; replace FAM := Lib.hid (fam_lit0 FAM.out bq); replace bd := Lib.hid (Below.alloc bd.out bq (.cells #[] 58)); replace bq := bd.out.size)
          refine hK.out _ _ ?_ (fun hHeld8 => ?_)
          · ((try dsimp only); (try trivial))
          clear hB hK K hHeld7
          refine AnyB.takeQ (i := 8) (oi := _) (v := ?_) (by simp only [List.getElem?_toArray, List.getElem?_cons_zero, List.getElem?_cons_succ]; rfl) (by kernel_rfl) (by kernel_rfl) (by kernel_rfl) (by intro _ _ _ h; exact h) (Or.inl ⟨by rfl, ?_⟩) ?_
          rotate_left
          · (intro w hSw; go_simp; (try (with_reducible rfl)))
          try simp only [Act.put, List.setIfInBounds_toArray, List.set_cons_zero, List.set_cons_succ]
          refine AnyB.takeQ (i := 9) (oi := _) (v := ?_) (by simp only [List.getElem?_toArray, List.getElem?_cons_zero, List.getElem?_cons_succ]; rfl) (by kernel_rfl) (by kernel_rfl) (by kernel_rfl) (by intro _ _ _ h; exact h) (Or.inl ⟨by rfl, ?_⟩) ?_
          rotate_left
          · (intro w hSw; go_simp; (try (with_reducible rfl)))
          try simp only [Act.put, List.setIfInBounds_toArray, List.set_cons_zero, List.set_cons_succ]
          refine AnyB.none (by kernel_rfl) ?_ _
          go_wp2_with fail
          go_meet
          refine ⟨_, _, .slice a2 masks.length c2, rfl, rfl, (show GMem _ _ _ _ _ _ _ _ _ _ from ⟨?_, ?_, gInv_start n5 HS.out, rfl, bd.out, bq⟩)⟩
          · have e9 : ∀ X, (w2.alloc X).heap.size = w2.heap.size + 1 := fun X => by simp
            (try rw [e9] at FAM)
            first | exact FAM.out.perm (List.perm_append_comm (l₁ := [_]) (l₂ := [_, _])) | exact FAM.out.perm (List.perm_append_comm (l₁ := [_, _]) (l₂ := [_])) | exact FAM.out.perm (List.reverse_perm _).symm
          · intro y hy
            simp only [List.mem_singleton] at hy
            subst hy; rfl
        exact EachB.nil
      exact EachB.nil
    exact EachB.nil
  case rest =>
    obtain ⟨vO, vS, vv, rfl, rfl, hM⟩ := hcut
    go_wp2_with fail
    go_loopg [5, 6] 63 (fun f so ss wr => ∃ (vO vS : Value) (T : List TM) (O : List E3), vO = so ∧ vS = ss ∧ Hid (GMem n masks w.heap.size f w wr vO vS T O))
    case atStart => exact ⟨_, _, _, _, rfl, rfl, hM⟩
    case round =>
      clear hM
      obtain ⟨i0, hi, hz0, hz1, hz2⟩ := info_parts info_Gate
      obtain ⟨vO, vS, T, O, rfl, rfl, hM⟩ := hrel
      rcases List.eq_nil_or_concat T with rfl | ⟨T', y, rfl⟩
      · have HR := Lib.hid (show O = gAll n masks from (gLoop_nil n gk O).symm.trans hM.out.run)
        obtain ⟨aS, cS, rfl⟩ : ∃ a c, vS = .slice a 0 c := own_form (show Row.own wr w.heap.size (trow 98 vS []) from hM.out.fam.own _ (by simp))
        go_wp2_with fail
        go_ret
        exact ⟨_, rfl, (show wr.ownsRow w.heap.size 58 3 vO (gAll n masks).length ((gAll n masks).flatMap E3.cs) from by rw [← HR.out]; exact hM.out.fam.own (orow vO O) (by simp)), hM.out.bel⟩
      · rw [List.concat_eq_append] at hM
        have INV0 := hM.out.inv
        rw [stack_rev] at INV0
        obtain ⟨f, rfl⟩ : ∃ f, gk = f + 1 := by
          have h1 := INV0.fuel; rw [wts_cons] at h1; have := wt_pos y.x.fm; exact ⟨gk - 1, by omega⟩
        have RUN0 := hM.out.run
        rw [stack_rev] at RUN0
        have RUN := Lib.hid RUN0; have INV := Lib.hid INV0
        have hTl : T'.length ≤ 63 := by have h1 := INV0.len; have h2 := wts_len (y.x :: (T'.map TM.x).reverse); rw [List.length_cons, List.length_reverse, List.length_map] at h2; omega
        have hOl : O.length ≤ 315 := by have h1 := INV0.len; omega
        have TOK := Lib.hid (INV0.ok y.x (by simp))
        have hmy := hM.out.md y (by simp)
        clear RUN0 INV0
        obtain ⟨aS, cS, rfl⟩ : ∃ a c, vS = .slice a (T'.length + 1) c := by
          have h9 := own_form (show Row.own wr w.heap.size (trow 98 vS (T' ++ [y])) from hM.out.fam.own _ (by simp))
          unfold trow at h9
          dsimp only at h9
          rwa [show (T' ++ [y]).length = T'.length + 1 from by simp] at h9
        have hTT : T'.length < (T' ++ [y]).length := by simp
        obtain ⟨gS, rfl, hgS, q0, q1, q2⟩ := trow_cells (show Row.own wr w.heap.size (trow 98 (.slice aS (T'.length + 1) cS) (T' ++ [y])) from hM.out.fam.own _ (by simp)) hTT
        have hyT : (T' ++ [y])[T'.length] = y := by simp
        have hcaps : T'.length + 1 ≤ cS ∧ cS ≤ 9223372036854775807 := by
          have h9 : Row.own wr w.heap.size (trow 98 (.slice (some ⟨gS, 0, none⟩) (T'.length + 1) cS) (T' ++ [y])) := hM.out.fam.own _ (by simp)
          unfold Row.own trow at h9
          dsimp only at h9
          rw [show (T' ++ [y]).length = T'.length + 1 from by simp] at h9
          exact own_caps h9
        obtain ⟨hcap1, hcap2⟩ := hcaps
        have hcap3 : T'.length ≤ cS := by omega
        rw [hyT] at q0 q1 q2
        obtain ⟨⟨vs, fm, tg⟩, vv, md⟩ := y
        dsimp only at q0 q1 q2 hmy
        subst hmy
        obtain ⟨aV, cV, rfl⟩ : ∃ a c, vv = .slice a vs.length c := own_form (show Row.own wr w.heap.size (nrow vv vs) from hM.out.fam.own (vrow ⟨⟨vs, fm, tg⟩, vv, .int .i64 (fm : Int)⟩) (List.mem_append_left _ (by simp)))
        have hvl : vs.length ≤ 31 := TOK.out.sm.1
        have fm2 := TOK.out.fm
        have tg1 := TOK.out.tg
        dsimp only at fm2 tg1
        have hb1 := Lib.hid (show Below wr.heap.size wr (wr.alloc (.cells #[.slice aV vs.length cV, .int .i64 (fm : Int), .int .i64 tg] 98)) from (by repeat (first | exact Below.refl _ _ | assumption | refine Below.drew ?_ | refine below_drewN ?_ _ | refine Below.alloc ?_ (by first | omega | (simp <;> omega)) _ | refine Below.setCell ?_ (by first | omega | (simp <;> omega)) _ | refine Below.trans ?_ (Below.mono (by assumption) (by first | omega | (simp <;> omega))))))
        have hbw := hM.out.BW
        clear hyT hTT
        have G0 := Lib.hid (GIw.start hM.out hb1.out (show (wr.alloc (.cells #[.slice aV vs.length cV, .int .i64 (fm : Int), .int .i64 tg] 98)).cell? ⟨wr.heap.size, 0, none⟩ = some (.slice aV vs.length cV) from (by repeat (first | (refine Eq.trans (World.cell?_alloc_at _ _ _ _ ?hh) ?_; (case hh => (simp; done)); rfl) | refine cell_alloc_keep _ ?_))) (show (wr.alloc (.cells #[.slice aV vs.length cV, .int .i64 (fm : Int), .int .i64 tg] 98)).cell? ⟨wr.heap.size, 1, none⟩ = some (.int .i64 (fm : Int)) from (by repeat (first | (refine Eq.trans (World.cell?_alloc_at _ _ _ _ ?hh) ?_; (case hh => (simp; done)); rfl) | refine cell_alloc_keep _ ?_))) (show (wr.alloc (.cells #[.slice aV vs.length cV, .int .i64 (fm : Int), .int .i64 tg] 98)).cell? ⟨wr.heap.size, 2, none⟩ = some (.int .i64 tg) from (by repeat (first | (refine Eq.trans (World.cell?_alloc_at _ _ _ _ ?hh) ?_; (case hh => (simp; done)); rfl) | refine cell_alloc_keep _ ?_))) (by simp))
        have P0 := Lib.hid (GIp.start (y := ⟨⟨vs, fm, tg⟩, .slice aV vs.length cV, .int .i64 (fm : Int)⟩) rfl INV.out)
        by_cases hv0 : vs = []
        · subst hv0
          have FC := Lib.hid (fam_cut G0.out.fam).tail
          have BX := Lib.hid G0.out.bel
          have BWX := G0.out.BW
          have INV2 := Lib.hid (gInv_empty INV.out)
          have RUN2 := Lib.hid ((gLoop_empty (n := n) (f := f) (x := ⟨[], fm, tg⟩) (r := (T'.map TM.x).reverse) (out := O) rfl).symm.trans RUN.out)
          have MD2 := Lib.hid (show ∀ z ∈ T', z.md = .int .i64 (z.x.fm : Int) from fun z hz => hM.out.md z (List.mem_append_left _ hz))
          clear hM G0 P0 hb1
          go_wp2_with fail
          go_roundg f
          case measure => omega
          case rel => exact ⟨_, _, T', O, rfl, rfl, (show GMem _ _ _ _ _ _ _ _ _ _ from ⟨FC.out, MD2.out, INV2.out, RUN2.out, BX.out, BWX⟩)⟩
        · have hvp : vs.length ≠ 0 := fun e => hv0 (List.eq_nil_of_length_eq_zero e)
          obtain ⟨bx, hbx⟩ : ∃ b, b = wr.heap.size := ⟨_, rfl⟩
          rw [← hbx] at G0
          have HV0 := Lib.hid hv0
          have MDS := Lib.hid hM.out.md
          clear hM hb1 hv0
          go_wp2_with fail
          rw [← hbx]
          have hrl : T'.length = (T'.map TM.x).reverse.length := by simp
          obtain ⟨r, hr⟩ : ∃ r, r = (T'.map TM.x).reverse := ⟨_, rfl⟩
          rw [← hr] at P0 RUN INV hrl
          have HRL := Lib.hid hrl
          clear hr hrl
          generalize (wr.alloc (.cells #[.slice aV vs.length cV, .int .i64 (fm : Int), .int .i64 tg] 98)) = W at *
          clear q0 q1 q2 hgS hbx
          have P0' : Hid (tg < 0 → (0 : Nat) = 0) := (show tg < 0 → (0 : Nat) = 0 from fun _ => rfl)
          go_loopw [5, 9] (fun so i wx => ∃ (k : Nat) (vP : Value) (T2 : List TM) (y2 : TM) (O2 : List E3), vP = so ∧ k ≤ n ∧ i = .int .i64 k ∧ Hid (GIw w.heap.size bx w wx vP (.slice (some ⟨gS, 0, none⟩) (T'.length + 1) cS) T2 y2 O2) ∧ Hid (GIp n ⟨vs, fm, tg⟩ r O k (.slice aV vs.length cV) T2 y2 O2) ∧ Hid (tg < 0 → k = 0)) (fun _ i _ => n - (intOf i).toNat)
          case atStart => exact ⟨0, _, _, _, _, rfl, by omega, rfl, G0, P0, P0'⟩
          case round =>
            clear G0 P0 P0'
            obtain ⟨k, vP, T2, y2, O2, rfl, hk, rfl, hG, hP, hT0⟩ := hrel
            have HRT := Lib.hid hP.out.Tlen
            have HMY := Lib.hid (hG.out.md y2 (by simp))
            have HE1 := Lib.hid hP.out.fm; have HE2 := Lib.hid hP.out.tg; have HE3 := Lib.hid hP.out.vv
            obtain ⟨⟨vs2, fm2', tg2⟩, vv2, md2⟩ := y2
            obtain rfl : fm2' = fm := HE1.out
            obtain rfl : tg2 = tg := HE2.out
            obtain rfl : vv2 = .slice aV vs.length cV := HE3.out
            obtain rfl : md2 = .int .i64 (fm2' : Int) := HMY.out
            clear HE1 HE2 HE3 HMY
            have c0 := hG.out.c0; have c1 := hG.out.c1; have c2 := hG.out.c2
            dsimp only at c0 c1 c2
            have hvl2 : vs2.length = vs.length := hP.out.ok.ne
            have HRD := Lib.hid (nrow_rd (show Row.own wr w.heap.size (nrow (.slice aV vs.length cV) vs2) from hG.out.fam.own (vrow ⟨⟨vs2, fm2', tg2⟩, .slice aV vs.length cV, .int .i64 (fm2' : Int)⟩) (List.mem_append_left _ (by simp))))
            have HVL2 := Lib.hid hvl2
            have HSM2 := Lib.hid hP.out.ok.sm
            have HBW2 := Lib.hid hG.out.BW
            clear hvl2
            by_cases hin : k < n ∧ 0 ≤ tg2
            · obtain ⟨hkn, ht0⟩ := hin
              have i1 : (k : Int) < (n : Int) := by omega
              obtain ⟨tn, rfl⟩ : ∃ tn : Nat, tg2 = (tn : Int) := ⟨tg2.toNat, by omega⟩
              have htn : tn < n := by omega
              have HT5 := Lib.hid (show (0 : Int) ≤ (tn : Int) ∧ (tn : Int) < (n : Int) from ⟨by omega, by omega⟩)
              clear tg1
              by_cases hkt : k = tn
              · subst hkt
                have HN := Lib.hid (hP.out.no n5 HT5.out hkn (show gHit (k : Int) vs2 k = false from by unfold gHit; simp))
                go_wp2_with fail
                go_roundw
                case rel => exact ⟨k + 1, _, _, _, _, rfl, by omega, by go_num, hG, HN, (show _ → _ from fun h9 => absurd h9 (by omega))⟩
                case measure => simp [intOf]; omega
              · have hkt2 : ¬ (k : Int) = (tn : Int) := by omega
                have hkt3 : ((k : Int) != (tn : Int)) = true := by simp; omega
                have hkt4 : ((k : Int) == (tn : Int)) = false := by simp; omega
                clear hkt
                have hP1 := hP.out.ok.len
                have HSMS := Lib.hid hP.out.sms
                have HPn := Lib.hid (fun h9 => hP.out.no n5 HT5.out hkn h9)
                have HPy := Lib.hid (fun h9 => hP.out.yes n5 HT5.out hkn h9)
                dsimp only at hP1
                have HGH := Lib.hid (show gHit (tn : Int) vs2 k = inAllB vs2 k from by unfold gHit; rw [decide_eq_false hkt2]; rfl)
                have HTL := Lib.hid (show (T2 ++ [(⟨⟨vs2, fm2', (tn : Int)⟩, .slice aV vs.length cV, .int .i64 (fm2' : Int)⟩ : TM)]).length ≤ 1000 from by rw [List.length_append, HRT.out, ← HRL.out, List.length_singleton]; omega)
                obtain ⟨aP, cP, rfl⟩ : ∃ a c, vP = .slice a O2.length c := own_form (show Row.own wr w.heap.size (orow vP O2) from hG.out.fam.own _ (by simp))
                clear hP
                go_wp2_with fail
                refine (impl_inAll_any k _ vs2 _ HRD.out HSM2.out (by omega)).mono ?_; rintro e w2 ⟨rfl, hb2⟩
                replace hG := Lib.hid (hG.out.call hb2)
                clear c0 c1 c2 hb2
                have c0 := hG.out.c0; have c1 := hG.out.c1; have c2 := hG.out.c2
                dsimp only at c0 c1 c2
                cases hb : inAllB vs2 k with
                | false =>
                  have HN := Lib.hid (HPn.out (by rw [HGH.out]; exact hb))
                  clear hb HPn HPy
                  go_wp2_with fail
                  go_roundw
                  case rel => exact ⟨k + 1, _, _, _, _, rfl, by omega, by go_num, hG, HN, (show _ → _ from fun h9 => absurd h9 (by omega))⟩
                  case measure => simp [intOf]; omega
                | true =>
                  have HN := Lib.hid (HPy.out (by rw [HGH.out]; exact hb))
                  clear hb HPn HPy
                  have GX := Lib.hid (hG.out.call (show Below w2.heap.size w2 (w2.alloc (.cells #[.int .i64 9, .int .i64 (k : Int), .int .i64 (tn : Int)] 58)) from (by repeat (first | exact Below.refl _ _ | assumption | refine Below.drew ?_ | refine below_drewN ?_ _ | refine Below.alloc ?_ (by first | omega | (simp <;> omega)) _ | refine Below.setCell ?_ (by first | omega | (simp <;> omega)) _ | refine Below.trans ?_ (Below.mono (by assumption) (by first | omega | (simp <;> omega)))))))
                  have OX := Lib.hid (show (w2.alloc (.cells #[.int .i64 9, .int .i64 (k : Int), .int .i64 (tn : Int)] 58)).ownsRow w.heap.size 58 3 (.slice aP O2.length cP) O2.length (O2.flatMap E3.cs) from GX.out.fam.own (orow (.slice aP O2.length cP) O2) (by simp))
                  have HBX := Lib.hid GX.out.BW
                  go_wp2_with (first | (go_at_call 63; refine (impl_grayInverted_any w.heap.size _ _ _ k tn _ GX.out.fam (by simp) HSMS.out GX.out.md (by omega) (by omega) HTL.out).mono ?_; rintro e w5 ⟨rfl, hF5, hC5⟩; replace GX := Lib.hid (GX.out.inv hF5 hC5); clear hF5 hC5) | (at_builtin; go_must (refine wpList_append_any _ rfl _ _ 29 rfl w.heap.size 58 i0 (.agg #[.int .i64 0, .int .i64 0, .int .i64 0]) 3 24 Try.underlying29 hi hz0 hz1 hz2 rfl (by decide) _ O2.length _ rfl OX.out (w2.heap.size + 1) _ 1 1 (E3.cs ⟨9, (k : Int), (tn : Int)⟩) rfl (by have := reads_news w2 (E3.cs ⟨9, (k : Int), (tn : Int)⟩) 58 3 1 rfl; simpa [E3.cs] using this) (E3.one _) (by unfold maxLen; omega) (by omega) HBX.out ?_; intro v3 w4 hown3 hg3 hat3; replace GX := Lib.hid (GX.out.app hg3 hown3 hat3); clear hown3 hg3 hat3; clear c0 c1 c2; have c0 := GX.out.c0; have c1 := GX.out.c1; have c2 := GX.out.c2; dsimp only at c0 c1 c2)))
                  go_roundw
                  case rel => exact ⟨k + 1, _, _, _, _, rfl, by omega, by go_num, GX, HN, (show _ → _ from fun h9 => absurd h9 (by omega))⟩
                  case measure => simp [intOf]; omega
            · have HI := Lib.hid (hP.out.done (show (tg2 < 0 ∧ k = 0) ∨ (0 ≤ tg2 ∧ k = n) from by
                rcases Int.lt_or_le tg2 0 with h1 | h1
                · exact .inl ⟨h1, hT0.out h1⟩
                · exact .inr ⟨h1, by omega⟩))
              have hex : ((k : Int) < (n : Int) ∧ ¬ 0 ≤ tg2) ∨ ¬ (k : Int) < (n : Int) := by omega
              have HTL2 := Lib.hid (HRT.out.trans HRL.out.symm)
              have FC := Lib.hid (fam_cut (g := gS) (c := cS) (by rw [HTL2.out]; exact hG.out.fam))
              have MD2 := Lib.hid (show ∀ z ∈ T2, z.md = .int .i64 (z.x.fm : Int) from fun z hz => hG.out.md z (List.mem_append_left _ hz))
              clear hP hin HRT
              rw [HTL2.out] at FC
              have hstop : ((k : Int) < (n : Int) ∧ tg2 < 0) ∨ (¬ (k : Int) < (n : Int) ∧ ¬ tg2 < 0) := by
                rcases hex with ⟨h1, h2⟩ | h1
                · exact .inl ⟨h1, by omega⟩
                · refine .inr ⟨h1, fun h2 => ?_⟩
                  have := hT0.out h2
                  omega
              clear hex
              have hf32 : fm2' < 32 := by have := pow5 n5; omega
              rcases hstop with ⟨i1, i2⟩ | ⟨i1, i2⟩
              · go_wp2_with fail
                refine (impl_branchOn_any _ vs2 fm2' tg2 _ HRD.out HSM2.out hf32).mono ?_; rintro e w2 ⟨rfl, hb2⟩
                have c0' := Lib.hid (hG.out.call hb2)
                clear c0 c1 c2
                have c0 := c0'.out.c0; have c1 := c0'.out.c1; have c2 := c0'.out.c2
                dsimp only at c0 c1 c2
                have FC2 := Lib.hid (FC.out.call hb2)
                have BL2 := Lib.hid c0'.out.bel; have BW2 := c0'.out.BW
                have RD2 := Lib.hid (Rd.below HRD.out hb2 rfl)
                clear c0' FC hG HRD hb2
                rcases gBest_mem vs2 fm2' with hbm | ⟨j, hj, hbm⟩
                · have GB := Lib.hid hbm
                  rw [hbm]
                  clear hbm
                  go_wp2_with fail
                  go_roundg f
                  case measure => omega
                  case rel => exact ⟨_, _, T2, O2, rfl, rfl, (show GMem _ _ _ _ _ _ _ _ _ _ from GMem.stop n5 INV.out RUN.out HV0.out HI.out (by show gBest vs2 fm2' < 0; rw [GB.out]; omega) FC2.out.tail MD2.out BL2.out BW2)⟩
                · have hjn := free_lt fm2 hj
                  have hj5 : j < 5 := (setB_mem hj).1
                  have hand := andNot_clear fm2' hf32 j hj5 (setB_mem hj).2
                  have hcl := clear_lt hf32 hj
                  obtain ⟨r1, r2⟩ := pow_small j (by omega)
                  have hwpj : IntKind.i64.wrap ((2 : Int) ^ j) = (2 : Int) ^ j := IntWalk.i64_in _ (by omega)
                  have hmj : min j 64 = j := by omega
                  have jp : (0 : Int) ≤ (j : Int) := by omega
                  have HGM0 := fun (tg : Int) (vS u1 u2 : Value) (w' : World) h1 h2 h3 h4 => GMem.split (w0 := w) (B := w.heap.size) (w := w') (vS := vS) (vO := vP) (tg := tg) (u1 := u1) (u2 := u2) n5 INV.out RUN.out HV0.out HI.out hj hjn hbm h1 h2 MD2.out h3 h4
                  have HGM := Lib.hid HGM0
                  clear HGM0
                  rw [hbm]
                  clear hbm hj
                  go_wp2_with fail
                  refine (impl_split_any j _ vs2 _ RD2.out HSM2.out hj5).mono ?_; rintro e w3 ⟨u1, u2, rfl, hF, hb3⟩
                  obtain ⟨L1, hL1⟩ : ∃ L, L = gSet vs2 j true := ⟨_, rfl⟩
                  obtain ⟨L2, hL2⟩ : ∃ L, L = gSet vs2 j false := ⟨_, rfl⟩
                  obtain ⟨cf, hcf⟩ : ∃ c, c = clearB fm2' j := ⟨_, rfl⟩
                  rw [← hL1, ← hL2] at hF
                  (try dsimp only at HGM)
                  rw [← hL1, ← hL2, ← hcf] at HGM
                  rw [← hcf] at hand hcl
                  clear hL1 hL2 hcf
                  obtain ⟨n1x, hn1x⟩ : ∃ k, k = L1.length := ⟨_, rfl⟩
                  obtain ⟨n2x, hn2x⟩ : ∃ k, k = L2.length := ⟨_, rfl⟩
                  obtain ⟨a1, c1x, rfl⟩ : ∃ a c, u1 = .slice a n1x c := by rw [hn1x]; exact own_form (hF.own (nrow u1 L1) (by simp))
                  obtain ⟨a2, c2x, rfl⟩ : ∃ a c, u2 = .slice a n2x c := by rw [hn2x]; exact own_form (hF.own (nrow u2 L2) (by simp))
                  clear hn1x hn2x
                  have FK0 := FC2.out.join hb3 hF BW2
                  have hsub : ∀ (a b c : Row) (R : List Row), List.Sublist (a :: b :: R) ([a, b] ++ c :: R) := fun a b c R => List.Sublist.cons_cons a (List.Sublist.cons_cons b (List.sublist_cons_self c R))
                  have FK1 := Lib.hid (FK0.take_sub (hsub _ _ _ _))
                  have BL3 := Lib.hid (Below.trans BL2.out (hb3.mono BW2))
                  have BW3 := Nat.le_trans BW2 hb3.size
                  replace c0 := bel_cell hb3 c0; replace c1 := bel_cell hb3 c1; replace c2 := bel_cell hb3 c2
                  clear FK0 hsub hF hb3 FC2 BL2
                  have FK := Lib.hid (show Fam w3 w.heap.size (vrow (tkM L1 cf (j : Int) (.slice a1 n1x c1x)) :: vrow (tkM L2 cf tg2 (.slice a2 n2x c2x)) :: (T2.map vrow ++ [orow vP O2, trow 98 (.slice (some ⟨gS, 0, none⟩) T'.length cS) T2])) from FK1.out)
                  clear FK1
                  go_wp2_with fail
                  go_quiet (fail)
                  replace FK := Lib.hid (FK.out.call (below_drewN (Below.refl w3.heap.size w3) nq))
                  replace BL3 := Lib.hid (below_drewN BL3.out nq)
                  replace BW3 : w.heap.size ≤ (w3.drewN nq).heap.size := BW3
                  replace c0 : (w3.drewN nq).cell? ⟨bx, 0, none⟩ = _ := c0
                  replace c1 : (w3.drewN nq).cell? ⟨bx, 1, none⟩ = _ := c1
                  replace c2 : (w3.drewN nq).cell? ⟨bx, 2, none⟩ = _ := c2
                  generalize w3.drewN nq = w5 at *
                  have FX := Lib.hid (FK.out.call (show Below w5.heap.size w5 (w5.alloc (.cells #[.slice a1 n1x c1x, .int .i64 (cf : Int), .int .i64 (j : Int), .slice a2 n2x c2x, .int .i64 (cf : Int), .int .i64 tg2] 98)) from (by repeat (first | exact Below.refl _ _ | assumption | refine Below.drew ?_ | refine below_drewN ?_ _ | refine Below.alloc ?_ (by first | omega | (simp <;> omega)) _ | refine Below.setCell ?_ (by first | omega | (simp <;> omega)) _ | refine Below.trans ?_ (Below.mono (by assumption) (by first | omega | (simp <;> omega)))))))
                  have OX := Lib.hid (show (w5.alloc (.cells #[.slice a1 n1x c1x, .int .i64 (cf : Int), .int .i64 (j : Int), .slice a2 n2x c2x, .int .i64 (cf : Int), .int .i64 tg2] 98)).ownsRow w.heap.size 98 3 (.slice (some ⟨gS, 0, none⟩) T'.length cS) T'.length (T2.flatMap TM.cs) from by
                    have h9 : Row.own _ _ (trow 98 (.slice (some ⟨gS, 0, none⟩) T'.length cS) T2) := FX.out.own _ (by simp)
                    unfold Row.own trow at h9
                    dsimp only at h9
                    rw [HTL2.out] at h9
                    exact h9)
                  have BLX := Lib.hid (Below.trans BL3.out ((show Below w5.heap.size w5 (w5.alloc (.cells #[.slice a1 n1x c1x, .int .i64 (cf : Int), .int .i64 (j : Int), .slice a2 n2x c2x, .int .i64 (cf : Int), .int .i64 tg2] 98)) from (by repeat (first | exact Below.refl _ _ | assumption | refine Below.drew ?_ | refine below_drewN ?_ _ | refine Below.alloc ?_ (by first | omega | (simp <;> omega)) _ | refine Below.setCell ?_ (by first | omega | (simp <;> omega)) _ | refine Below.trans ?_ (Below.mono (by assumption) (by first | omega | (simp <;> omega)))))).mono BW3))
                  go_wp2_with (at_builtin; go_must (refine wpList_append_any _ rfl _ _ 99 rfl w.heap.size 98 k0 (.agg #[.slice none 0 0, .int .i64 0, .int .i64 0]) 3 40 Try.underlying99 hkk hx0 hx1 hx2 rfl (by decide) _ T'.length _ rfl OX.out (w5.heap.size + 1) _ 2 2 [.slice a1 n1x c1x, .int .i64 (cf : Int), .int .i64 (j : Int), .slice a2 n2x c2x, .int .i64 (cf : Int), .int .i64 tg2] rfl (by have := reads_news w5 [.slice a1 n1x c1x, .int .i64 (cf : Int), .int .i64 (j : Int), .slice a2 n2x c2x, .int .i64 (cf : Int), .int .i64 tg2] 98 3 2 rfl; simpa using this) task_one (by unfold maxLen; omega) (by omega) (by simp; omega) ?_; intro v4 w4 hown4 hg4 hat4; have FP := Lib.hid (fam_push (y1 := tkM L1 cf (j : Int) (.slice a1 n1x c1x)) (y2 := tkM L2 cf tg2 (.slice a2 n2x c2x)) FX.out hg4 (by rw [HTL2.out]; exact hown4) hat4); have BL4 := Lib.hid (grown_below BLX.out OX.out hg4 (Nat.le_refl _) (by simp; omega)); have z4 := hg4.size; (simp at z4); clear hown4 hg4 hat4))
                  go_roundg f
                  case measure => omega
                  case rel => exact ⟨_, _, _, O2, rfl, rfl, (show GMem _ _ _ _ _ _ _ _ _ _ from HGM.out (j : Int) _ _ _ _ ((if_pos i2).symm) FP.out BL4.out (by omega))⟩
              · go_wp2_with fail
                refine (impl_branchOn_any _ vs2 fm2' tg2 _ HRD.out HSM2.out hf32).mono ?_; rintro e w2 ⟨rfl, hb2⟩
                have c0' := Lib.hid (hG.out.call hb2)
                clear c0 c1 c2
                have c0 := c0'.out.c0; have c1 := c0'.out.c1; have c2 := c0'.out.c2
                dsimp only at c0 c1 c2
                have FC2 := Lib.hid (FC.out.call hb2)
                have BL2 := Lib.hid c0'.out.bel; have BW2 := c0'.out.BW
                have RD2 := Lib.hid (Rd.below HRD.out hb2 rfl)
                clear c0' FC hG HRD hb2
                rcases gBest_mem vs2 fm2' with hbm | ⟨j, hj, hbm⟩
                · have GB := Lib.hid hbm
                  rw [hbm]
                  clear hbm
                  go_wp2_with fail
                  go_roundg f
                  case measure => omega
                  case rel => exact ⟨_, _, T2, O2, rfl, rfl, (show GMem _ _ _ _ _ _ _ _ _ _ from GMem.stop n5 INV.out RUN.out HV0.out HI.out (by show gBest vs2 fm2' < 0; rw [GB.out]; omega) FC2.out.tail MD2.out BL2.out BW2)⟩
                · have hjn := free_lt fm2 hj
                  have hj5 : j < 5 := (setB_mem hj).1
                  have hand := andNot_clear fm2' hf32 j hj5 (setB_mem hj).2
                  have hcl := clear_lt hf32 hj
                  obtain ⟨r1, r2⟩ := pow_small j (by omega)
                  have hwpj : IntKind.i64.wrap ((2 : Int) ^ j) = (2 : Int) ^ j := IntWalk.i64_in _ (by omega)
                  have hmj : min j 64 = j := by omega
                  have jp : (0 : Int) ≤ (j : Int) := by omega
                  have HGM0 := fun (tg : Int) (vS u1 u2 : Value) (w' : World) h1 h2 h3 h4 => GMem.split (w0 := w) (B := w.heap.size) (w := w') (vS := vS) (vO := vP) (tg := tg) (u1 := u1) (u2 := u2) n5 INV.out RUN.out HV0.out HI.out hj hjn hbm h1 h2 MD2.out h3 h4
                  have HGM := Lib.hid HGM0
                  clear HGM0
                  rw [hbm]
                  clear hbm hj
                  go_wp2_with fail
                  refine (impl_split_any j _ vs2 _ RD2.out HSM2.out hj5).mono ?_; rintro e w3 ⟨u1, u2, rfl, hF, hb3⟩
                  obtain ⟨L1, hL1⟩ : ∃ L, L = gSet vs2 j true := ⟨_, rfl⟩
                  obtain ⟨L2, hL2⟩ : ∃ L, L = gSet vs2 j false := ⟨_, rfl⟩
                  obtain ⟨cf, hcf⟩ : ∃ c, c = clearB fm2' j := ⟨_, rfl⟩
                  rw [← hL1, ← hL2] at hF
                  (try dsimp only at HGM)
                  rw [← hL1, ← hL2, ← hcf] at HGM
                  rw [← hcf] at hand hcl
                  clear hL1 hL2 hcf
                  obtain ⟨n1x, hn1x⟩ : ∃ k, k = L1.length := ⟨_, rfl⟩
                  obtain ⟨n2x, hn2x⟩ : ∃ k, k = L2.length := ⟨_, rfl⟩
                  obtain ⟨a1, c1x, rfl⟩ : ∃ a c, u1 = .slice a n1x c := by rw [hn1x]; exact own_form (hF.own (nrow u1 L1) (by simp))
                  obtain ⟨a2, c2x, rfl⟩ : ∃ a c, u2 = .slice a n2x c := by rw [hn2x]; exact own_form (hF.own (nrow u2 L2) (by simp))
                  clear hn1x hn2x
                  have FK0 := FC2.out.join hb3 hF BW2
                  have hsub : ∀ (a b c : Row) (R : List Row), List.Sublist (a :: b :: R) ([a, b] ++ c :: R) := fun a b c R => List.Sublist.cons_cons a (List.Sublist.cons_cons b (List.sublist_cons_self c R))
                  have FK1 := Lib.hid (FK0.take_sub (hsub _ _ _ _))
                  have BL3 := Lib.hid (Below.trans BL2.out (hb3.mono BW2))
                  have BW3 := Nat.le_trans BW2 hb3.size
                  replace c0 := bel_cell hb3 c0; replace c1 := bel_cell hb3 c1; replace c2 := bel_cell hb3 c2
                  clear FK0 hsub hF hb3 FC2 BL2
                  have FK := Lib.hid (show Fam w3 w.heap.size (vrow (tkM L1 cf tg2 (.slice a1 n1x c1x)) :: vrow (tkM L2 cf tg2 (.slice a2 n2x c2x)) :: (T2.map vrow ++ [orow vP O2, trow 98 (.slice (some ⟨gS, 0, none⟩) T'.length cS) T2])) from FK1.out)
                  clear FK1
                  go_wp2_with fail
                  go_quiet (fail)
                  replace FK := Lib.hid (FK.out.call (below_drewN (Below.refl w3.heap.size w3) nq))
                  replace BL3 := Lib.hid (below_drewN BL3.out nq)
                  replace BW3 : w.heap.size ≤ (w3.drewN nq).heap.size := BW3
                  replace c0 : (w3.drewN nq).cell? ⟨bx, 0, none⟩ = _ := c0
                  replace c1 : (w3.drewN nq).cell? ⟨bx, 1, none⟩ = _ := c1
                  replace c2 : (w3.drewN nq).cell? ⟨bx, 2, none⟩ = _ := c2
                  generalize w3.drewN nq = w5 at *
                  have FX := Lib.hid (FK.out.call (show Below w5.heap.size w5 (w5.alloc (.cells #[.slice a1 n1x c1x, .int .i64 (cf : Int), .int .i64 tg2, .slice a2 n2x c2x, .int .i64 (cf : Int), .int .i64 tg2] 98)) from (by repeat (first | exact Below.refl _ _ | assumption | refine Below.drew ?_ | refine below_drewN ?_ _ | refine Below.alloc ?_ (by first | omega | (simp <;> omega)) _ | refine Below.setCell ?_ (by first | omega | (simp <;> omega)) _ | refine Below.trans ?_ (Below.mono (by assumption) (by first | omega | (simp <;> omega)))))))
                  have OX := Lib.hid (show (w5.alloc (.cells #[.slice a1 n1x c1x, .int .i64 (cf : Int), .int .i64 tg2, .slice a2 n2x c2x, .int .i64 (cf : Int), .int .i64 tg2] 98)).ownsRow w.heap.size 98 3 (.slice (some ⟨gS, 0, none⟩) T'.length cS) T'.length (T2.flatMap TM.cs) from by
                    have h9 : Row.own _ _ (trow 98 (.slice (some ⟨gS, 0, none⟩) T'.length cS) T2) := FX.out.own _ (by simp)
                    unfold Row.own trow at h9
                    dsimp only at h9
                    rw [HTL2.out] at h9
                    exact h9)
                  have BLX := Lib.hid (Below.trans BL3.out ((show Below w5.heap.size w5 (w5.alloc (.cells #[.slice a1 n1x c1x, .int .i64 (cf : Int), .int .i64 tg2, .slice a2 n2x c2x, .int .i64 (cf : Int), .int .i64 tg2] 98)) from (by repeat (first | exact Below.refl _ _ | assumption | refine Below.drew ?_ | refine below_drewN ?_ _ | refine Below.alloc ?_ (by first | omega | (simp <;> omega)) _ | refine Below.setCell ?_ (by first | omega | (simp <;> omega)) _ | refine Below.trans ?_ (Below.mono (by assumption) (by first | omega | (simp <;> omega)))))).mono BW3))
                  go_wp2_with (at_builtin; go_must (refine wpList_append_any _ rfl _ _ 99 rfl w.heap.size 98 k0 (.agg #[.slice none 0 0, .int .i64 0, .int .i64 0]) 3 40 Try.underlying99 hkk hx0 hx1 hx2 rfl (by decide) _ T'.length _ rfl OX.out (w5.heap.size + 1) _ 2 2 [.slice a1 n1x c1x, .int .i64 (cf : Int), .int .i64 tg2, .slice a2 n2x c2x, .int .i64 (cf : Int), .int .i64 tg2] rfl (by have := reads_news w5 [.slice a1 n1x c1x, .int .i64 (cf : Int), .int .i64 tg2, .slice a2 n2x c2x, .int .i64 (cf : Int), .int .i64 tg2] 98 3 2 rfl; simpa using this) task_one (by unfold maxLen; omega) (by omega) (by simp; omega) ?_; intro v4 w4 hown4 hg4 hat4; have FP := Lib.hid (fam_push (y1 := tkM L1 cf tg2 (.slice a1 n1x c1x)) (y2 := tkM L2 cf tg2 (.slice a2 n2x c2x)) FX.out hg4 (by rw [HTL2.out]; exact hown4) hat4); have BL4 := Lib.hid (grown_below BLX.out OX.out hg4 (Nat.le_refl _) (by simp; omega)); have z4 := hg4.size; (simp at z4); clear hown4 hg4 hat4))
                  go_roundg f
                  case measure => omega
                  case rel => exact ⟨_, _, _, O2, rfl, rfl, (show GMem _ _ _ _ _ _ _ _ _ _ from HGM.out tg2 _ _ _ _ ((if_neg (by omega)).symm) FP.out BL4.out (by omega))⟩
end Go.Proofs.Ytbcjligkjoimmaa
