/- ParseForm: the reference, where three words do not make the text. -/
import Derived.Test.YtindldkileidmaaDoorPf4
import Derived.Test.YtindldkileidmaaDoorBrk
import Derived.BigRegion
import Derived.BigQuiet
import Derived.Deep.DeepCutAuto
namespace Go.Proofs.YtindldkileidmaaDoor
set_option linter.unusedSimpArgs false
set_option linter.unusedVariables false
set_option linter.unnecessarySimpa false
set_option maxRecDepth 200000
open Go.ChangeShapes Go.WideShapes Go.ChangeAt Go.RowKit

set_option maxHeartbeats 4000000 in
theorem spec_ParseForm_bad (s a b d : ByteArray) (w : World) (hs : s.size ≤ 1048576) (hw : cutW 32 s.data.toList = [a.data.toList, b.data.toList, d.data.toList]) (hm : madeB s (headOf a) (readG b) (readG d) = false) :
    Calls Tryd.prog 10 #[.string s] w fun e w' => e = .returned (.tuple #[.agg #[.string ⟨#[]⟩, .int .i64 0, .int .i64 0], .bool false]) ∧ Below w.heap.size w w' := by
  go_enter Tryd.func10, Tryd.ntmps10
  go_wp2_with fail
  refine (spec_l1Split_any s 32 _ hs).mono ?_; rintro e w1 ⟨v, ws, rfl, ho, hww, hb1⟩
  obtain rfl : ws = [a, b, d] := words_inj (by rw [hww, hw]; rfl)
  have zb : b.size ≤ 9223372036854775807 := by
    have h9 := cut_len (show b.data.toList ∈ cutW 32 s.data.toList by rw [hw]; simp)
    rw [Array.length_toList, Array.length_toList] at h9
    exact Nat.le_trans h9 (Nat.le_trans hs (by decide))
  have zd : d.size ≤ 9223372036854775807 := by
    have h9 := cut_len (show d.data.toList ∈ cutW 32 s.data.toList by rw [hw]; simp)
    rw [Array.length_toList, Array.length_toList] at h9
    exact Nat.le_trans h9 (Nat.le_trans hs (by decide))
  have za : a.size ≤ 9223372036854775807 := by
    have h9 := cut_len (show a.data.toList ∈ cutW 32 s.data.toList by rw [hw]; simp)
    rw [Array.length_toList, Array.length_toList] at h9
    exact Nat.le_trans h9 (Nat.le_trans hs (by decide))
  clear hww hw
  replace ho : w1.ownsRow _ 9 1 v 3 [.string a, .string b, .string d] := ho
  obtain ⟨g, cap, rfl⟩ := Go.Joins.ownsRow_form ho (by decide)
  have q0 := World.ownsRow.cells ho (g := g) rfl 0 (.string a) rfl
  have q1 := World.ownsRow.cells ho (g := g) rfl 1 (.string b) rfl
  have q2 := World.ownsRow.cells ho (g := g) rfl 2 (.string d) rfl
  rw [Addr.add_lit, Nat.zero_add] at q0 q1 q2
  have hgl := (World.ownsRow.lt ho g rfl).1
  simp at hgl
  clear ho
  have x0 := bel_pf hb1 (show (w.alloc (.cells #[.string ⟨#[]⟩, .int .i64 0, .int .i64 0] 29)).cell? ⟨w.heap.size, 0, none⟩ = some (.string ⟨#[]⟩) from (by repeat (first | (refine Eq.trans (World.cell?_alloc_at _ _ _ _ ?hh) ?_; (case hh => (simp; done)); rfl) | refine cell_alloc_keep _ ?_)))
  have x1 := bel_pf hb1 (show (w.alloc (.cells #[.string ⟨#[]⟩, .int .i64 0, .int .i64 0] 29)).cell? ⟨w.heap.size, 1, none⟩ = some (.int .i64 0) from (by repeat (first | (refine Eq.trans (World.cell?_alloc_at _ _ _ _ ?hh) ?_; (case hh => (simp; done)); rfl) | refine cell_alloc_keep _ ?_)))
  have x2 := bel_pf hb1 (show (w.alloc (.cells #[.string ⟨#[]⟩, .int .i64 0, .int .i64 0] 29)).cell? ⟨w.heap.size, 2, none⟩ = some (.int .i64 0) from (by repeat (first | (refine Eq.trans (World.cell?_alloc_at _ _ _ _ ?hh) ?_; (case hh => (simp; done)); rfl) | refine cell_alloc_keep _ ?_)))
  have f0 := below_frz hb1 rfl (by simp) (show (w.alloc (.cells #[.string ⟨#[]⟩, .int .i64 0, .int .i64 0] 29)).frozen? ⟨w.heap.size, 0, none⟩ = false from (by repeat (first | (refine World.frozen?_alloc_at _ _ _ _ ?hh; case hh => (simp; done)) | (refine frozen_alloc_lt _ ?hh ?_; case hh => first | omega | (simp <;> omega)))))
  have f1 := below_frz hb1 rfl (by simp) (show (w.alloc (.cells #[.string ⟨#[]⟩, .int .i64 0, .int .i64 0] 29)).frozen? ⟨w.heap.size, 1, none⟩ = false from (by repeat (first | (refine World.frozen?_alloc_at _ _ _ _ ?hh; case hh => (simp; done)) | (refine frozen_alloc_lt _ ?hh ?_; case hh => first | omega | (simp <;> omega)))))
  have f2 := below_frz hb1 rfl (by simp) (show (w.alloc (.cells #[.string ⟨#[]⟩, .int .i64 0, .int .i64 0] 29)).frozen? ⟨w.heap.size, 2, none⟩ = false from (by repeat (first | (refine World.frozen?_alloc_at _ _ _ _ ?hh; case hh => (simp; done)) | (refine frozen_alloc_lt _ ?hh ?_; case hh => first | omega | (simp <;> omega)))))
  have B1 := Lib.hid (show Below w.heap.size w w1 from Below.trans (show Below w.heap.size w (w.alloc (.cells #[.string ⟨#[]⟩, .int .i64 0, .int .i64 0] 29)) from (by repeat (first | exact Below.refl _ _ | assumption | refine Below.drew ?_ | refine below_drewN ?_ _ | refine Below.alloc ?_ (by first | omega | (simp <;> omega)) _ | refine Below.setCell ?_ (by first | omega | (simp <;> omega)) _ | refine Below.trans ?_ (Below.mono (by assumption) (by first | omega | (simp <;> omega)))))) (hb1.mono (by simp)))
  have z1 := hb1.size
  simp at z1
  clear hb1
  go_upto_region 4 with fail
  go_cut [5] (fun s5 wx => s5 = .pointer (some ⟨w1.heap.size, 0, none⟩) ∧ wx = (w1.alloc (.cells #[.string a, .int .i64 (readG b), .int .i64 (readG d)] 29)).drew)
  case first =>
    refine AnyB.begin (S := (fun w' => w'.cell? ⟨g, 0, none⟩ = some (.string a) ∧ w'.cell? ⟨g, 1, none⟩ = some (.string b) ∧ w'.cell? ⟨g, 2, none⟩ = some (.string d))) [] (by kernel_rfl) ?_ (fun hHeld0 => ?_)
    · ((try dsimp only); (first | exact ⟨q0, q1, q2⟩ | exact ⟨cell_alloc_keep _ q0, cell_alloc_keep _ q1, cell_alloc_keep _ q2⟩))
    refine AnyB.takeQ (i := 0) (oi := _) (v := ?_) (by simp only [List.getElem?_toArray, List.getElem?_cons_zero, List.getElem?_cons_succ]; rfl) (by kernel_rfl) (by kernel_rfl) (by kernel_rfl) (by intro _ _ _ h; exact h) (Or.inl ⟨by rfl, ?_⟩) ?_
    rotate_left
    · (intro w hSw; (try dsimp only at hSw); go_simp; (try (with_reducible rfl)))
    try simp only [Act.put, List.setIfInBounds_toArray, List.set_cons_zero, List.set_cons_succ]
    refine AnyB.takeQ (i := 1) (oi := _) (v := ?_) (by simp only [List.getElem?_toArray, List.getElem?_cons_zero, List.getElem?_cons_succ]; rfl) (by kernel_rfl) (by kernel_rfl) (by kernel_rfl) (by intro _ _ _ h; exact h) (Or.inl ⟨by rfl, ?_⟩) ?_
    rotate_left
    · (intro w hSw; (try dsimp only at hSw); go_simp; (try (with_reducible rfl)))
    try simp only [Act.put, List.setIfInBounds_toArray, List.set_cons_zero, List.set_cons_succ]
    refine AnyB.take (i := 2) (oi := _) (v := ?_) (by simp only [List.getElem?_toArray, List.getElem?_cons_zero, List.getElem?_cons_succ]; rfl) (by kernel_rfl) (by kernel_rfl) (by kernel_rfl) (by kernel_rfl) (by kernel_rfl) (by intro _ _ _ h; exact h) (Or.inl ⟨by rfl, ?_⟩) (by assumption) ?_
    rotate_left
    · (intro w hSw; (try dsimp only at hSw); go_simp; (try (with_reducible rfl)))
    try simp only [Act.put, List.setIfInBounds_toArray, List.set_cons_zero, List.set_cons_succ]
    refine AnyB.takeQ (i := 3) (oi := _) (v := ?_) (by simp only [List.getElem?_toArray, List.getElem?_cons_zero, List.getElem?_cons_succ]; rfl) (by kernel_rfl) (by kernel_rfl) (by kernel_rfl) (by intro _ _ _ h; exact h) (Or.inl ⟨by rfl, ?_⟩) ?_
    rotate_left
    · (intro w hSw; (try dsimp only at hSw); go_simp; (try (with_reducible rfl)))
    try simp only [Act.put, List.setIfInBounds_toArray, List.set_cons_zero, List.set_cons_succ]
    refine AnyB.takeQ (i := 4) (oi := _) (v := ?_) (by simp only [List.getElem?_toArray, List.getElem?_cons_zero, List.getElem?_cons_succ]; rfl) (by kernel_rfl) (by kernel_rfl) (by kernel_rfl) (by intro _ _ _ h; exact h) (Or.inl ⟨by rfl, ?_⟩) ?_
    rotate_left
    · (intro w hSw; (try dsimp only at hSw); go_simp; (try (with_reducible rfl)))
    try simp only [Act.put, List.setIfInBounds_toArray, List.set_cons_zero, List.set_cons_succ]
    refine AnyB.take (i := 5) (oi := _) (v := ?_) (by simp only [List.getElem?_toArray, List.getElem?_cons_zero, List.getElem?_cons_succ]; rfl) (by kernel_rfl) (by kernel_rfl) (by kernel_rfl) (by kernel_rfl) (by kernel_rfl) (by intro _ _ _ h; exact h) (Or.inl ⟨by rfl, ?_⟩) (by assumption) ?_
    rotate_left
    · (intro w hSw; (try dsimp only at hSw); go_simp; (try (with_reducible rfl)))
    try simp only [Act.put, List.setIfInBounds_toArray, List.set_cons_zero, List.set_cons_succ]
    refine AnyB.takeQ (i := 7) (oi := _) (v := ?_) (by simp only [List.getElem?_toArray, List.getElem?_cons_zero, List.getElem?_cons_succ]; rfl) (by kernel_rfl) (by kernel_rfl) (by kernel_rfl) (by intro _ _ _ h; exact h) (Or.inl ⟨by rfl, ?_⟩) ?_
    rotate_left
    · (intro w hSw; (try dsimp only at hSw); go_simp; (try (with_reducible rfl)))
    try simp only [Act.put, List.setIfInBounds_toArray, List.set_cons_zero, List.set_cons_succ]
    refine AnyB.takeQ (i := 8) (oi := _) (v := ?_) (by simp only [List.getElem?_toArray, List.getElem?_cons_zero, List.getElem?_cons_succ]; rfl) (by kernel_rfl) (by kernel_rfl) (by kernel_rfl) (by intro _ _ _ h; exact h) (Or.inl ⟨by rfl, ?_⟩) ?_
    rotate_left
    · (intro w hSw; (try dsimp only at hSw); go_simp; (try (with_reducible rfl)))
    try simp only [Act.put, List.setIfInBounds_toArray, List.set_cons_zero, List.set_cons_succ]
    refine AnyB.take (i := 9) (oi := _) (v := ?_) (by simp only [List.getElem?_toArray, List.getElem?_cons_zero, List.getElem?_cons_succ]; rfl) (by kernel_rfl) (by kernel_rfl) (by kernel_rfl) (by kernel_rfl) (by kernel_rfl) (by intro _ _ _ h; exact h) (Or.inl ⟨by rfl, ?_⟩) (by assumption) ?_
    rotate_left
    · (intro w hSw; (try dsimp only at hSw); go_simp; (try (with_reducible rfl)))
    try simp only [Act.put, List.setIfInBounds_toArray, List.set_cons_zero, List.set_cons_succ]
    refine AnyB.each (rs := [6, 12]) (by kernel_rfl) (by simp) ?_
    refine EachB.cons rfl (fun K hK hB => ?_) ?_
    · skip
      (go_simp; go_at_call 15; refine (spec_l1Read_any b _ zb).mono ?_; rintro e w2 ⟨rfl, rfl⟩; dsimp only)
      refine hK.out _ _ ?_ (fun hHeld1 => ?_)
      · ((try dsimp only); (first | exact ⟨q0, q1, q2⟩ | exact ⟨cell_alloc_keep _ q0, cell_alloc_keep _ q1, cell_alloc_keep _ q2⟩))
      clear hB hK K hHeld0
      refine AnyB.each (rs := [10, 12]) (by kernel_rfl) (by simp) ?_
      refine EachB.cons rfl (fun K hK hB => ?_) ?_
      · skip
        (go_simp; go_at_call 15; refine (spec_l1Read_any d _ zd).mono ?_; rintro e w3 ⟨rfl, rfl⟩; dsimp only)
        refine hK.out _ _ ?_ (fun hHeld2 => ?_)
        · ((try dsimp only); (first | exact ⟨q0, q1, q2⟩ | exact ⟨cell_alloc_keep _ q0, cell_alloc_keep _ q1, cell_alloc_keep _ q2⟩))
        clear hB hK K hHeld1
        refine AnyB.takeQ (i := 11) (oi := _) (v := ?_) (by simp only [List.getElem?_toArray, List.getElem?_cons_zero, List.getElem?_cons_succ]; rfl) (by kernel_rfl) (by kernel_rfl) (by kernel_rfl) (by intro _ _ _ h; exact h) (Or.inl ⟨by rfl, ?_⟩) ?_
        rotate_left
        · (intro w hSw; (try dsimp only at hSw); go_simp; (try (with_reducible rfl)))
        try simp only [Act.put, List.setIfInBounds_toArray, List.set_cons_zero, List.set_cons_succ]
        refine AnyB.each (rs := [12]) (by kernel_rfl) (by simp) ?_
        refine EachB.cons rfl (fun K hK hB => ?_) ?_
        · skip
          go_simp
          refine hK.out _ _ ?_ (fun hHeld3 => ?_)
          · ((try dsimp only); (first | exact ⟨q0, q1, q2⟩ | exact ⟨cell_alloc_keep _ q0, cell_alloc_keep _ q1, cell_alloc_keep _ q2⟩))
          clear hB hK K hHeld2
          refine AnyB.each (rs := [13]) (by kernel_rfl) (by simp) ?_
          refine EachB.cons rfl (fun K hK hB => ?_) ?_
          · skip
            go_simp
            refine hK.out _ _ ?_ (fun hHeld4 => ?_)
            · ((try dsimp only); (first | exact ⟨q0, q1, q2⟩ | exact ⟨cell_alloc_keep _ q0, cell_alloc_keep _ q1, cell_alloc_keep _ q2⟩))
            clear hB hK K hHeld3
            refine AnyB.none (by kernel_rfl) ?_ _
            go_wp2_with fail
            go_meet
            exact ⟨rfl, rfl⟩
          exact EachB.nil
        exact EachB.nil
      refine EachB.cons rfl (fun K hK hB => ?_) ?_
      · skip
        go_simp
        refine hK.out _ _ ?_ (fun hHeld5 => ?_)
        · ((try dsimp only); (first | exact ⟨q0, q1, q2⟩ | exact ⟨cell_alloc_keep _ q0, cell_alloc_keep _ q1, cell_alloc_keep _ q2⟩))
        clear hB hK K hHeld1
        refine AnyB.each (rs := [10]) (by kernel_rfl) (by simp) ?_
        refine EachB.cons rfl (fun K hK hB => ?_) ?_
        · skip
          (go_simp; go_at_call 15; refine (spec_l1Read_any d _ zd).mono ?_; rintro e w3 ⟨rfl, rfl⟩; dsimp only)
          refine hK.out _ _ ?_ (fun hHeld6 => ?_)
          · ((try dsimp only); (first | exact ⟨q0, q1, q2⟩ | exact ⟨cell_alloc_keep _ q0, cell_alloc_keep _ q1, cell_alloc_keep _ q2⟩))
          clear hB hK K hHeld5
          refine AnyB.takeQ (i := 11) (oi := _) (v := ?_) (by simp only [List.getElem?_toArray, List.getElem?_cons_zero, List.getElem?_cons_succ]; rfl) (by kernel_rfl) (by kernel_rfl) (by kernel_rfl) (by intro _ _ _ h; exact h) (Or.inl ⟨by rfl, ?_⟩) ?_
          rotate_left
          · (intro w hSw; (try dsimp only at hSw); go_simp; (try (with_reducible rfl)))
          try simp only [Act.put, List.setIfInBounds_toArray, List.set_cons_zero, List.set_cons_succ]
          refine AnyB.each (rs := [13]) (by kernel_rfl) (by simp) ?_
          refine EachB.cons rfl (fun K hK hB => ?_) ?_
          · skip
            go_simp
            refine hK.out _ _ ?_ (fun hHeld7 => ?_)
            · ((try dsimp only); (first | exact ⟨q0, q1, q2⟩ | exact ⟨cell_alloc_keep _ q0, cell_alloc_keep _ q1, cell_alloc_keep _ q2⟩))
            clear hB hK K hHeld6
            refine AnyB.none (by kernel_rfl) ?_ _
            go_wp2_with fail
            go_meet
            exact ⟨rfl, rfl⟩
          exact EachB.nil
        exact EachB.nil
      exact EachB.nil
    refine EachB.cons rfl (fun K hK hB => ?_) ?_
    · skip
      go_simp
      refine hK.out _ _ ?_ (fun hHeld8 => ?_)
      · ((try dsimp only); (first | exact ⟨q0, q1, q2⟩ | exact ⟨cell_alloc_keep _ q0, cell_alloc_keep _ q1, cell_alloc_keep _ q2⟩))
      clear hB hK K hHeld0
      refine AnyB.each (rs := [6]) (by kernel_rfl) (by simp) ?_
      refine EachB.cons rfl (fun K hK hB => ?_) ?_
      · skip
        (go_simp; go_at_call 15; refine (spec_l1Read_any b _ zb).mono ?_; rintro e w2 ⟨rfl, rfl⟩; dsimp only)
        refine hK.out _ _ ?_ (fun hHeld9 => ?_)
        · ((try dsimp only); (first | exact ⟨q0, q1, q2⟩ | exact ⟨cell_alloc_keep _ q0, cell_alloc_keep _ q1, cell_alloc_keep _ q2⟩))
        clear hB hK K hHeld8
        refine AnyB.each (rs := [10]) (by kernel_rfl) (by simp) ?_
        refine EachB.cons rfl (fun K hK hB => ?_) ?_
        · skip
          (go_simp; go_at_call 15; refine (spec_l1Read_any d _ zd).mono ?_; rintro e w3 ⟨rfl, rfl⟩; dsimp only)
          refine hK.out _ _ ?_ (fun hHeld10 => ?_)
          · ((try dsimp only); (first | exact ⟨q0, q1, q2⟩ | exact ⟨cell_alloc_keep _ q0, cell_alloc_keep _ q1, cell_alloc_keep _ q2⟩))
          clear hB hK K hHeld9
          refine AnyB.takeQ (i := 11) (oi := _) (v := ?_) (by simp only [List.getElem?_toArray, List.getElem?_cons_zero, List.getElem?_cons_succ]; rfl) (by kernel_rfl) (by kernel_rfl) (by kernel_rfl) (by intro _ _ _ h; exact h) (Or.inl ⟨by rfl, ?_⟩) ?_
          rotate_left
          · (intro w hSw; (try dsimp only at hSw); go_simp; (try (with_reducible rfl)))
          try simp only [Act.put, List.setIfInBounds_toArray, List.set_cons_zero, List.set_cons_succ]
          refine AnyB.each (rs := [13]) (by kernel_rfl) (by simp) ?_
          refine EachB.cons rfl (fun K hK hB => ?_) ?_
          · skip
            go_simp
            refine hK.out _ _ ?_ (fun hHeld11 => ?_)
            · ((try dsimp only); (first | exact ⟨q0, q1, q2⟩ | exact ⟨cell_alloc_keep _ q0, cell_alloc_keep _ q1, cell_alloc_keep _ q2⟩))
            clear hB hK K hHeld10
            refine AnyB.none (by kernel_rfl) ?_ _
            go_wp2_with fail
            go_meet
            exact ⟨rfl, rfl⟩
          exact EachB.nil
        exact EachB.nil
      exact EachB.nil
    exact EachB.nil
  case rest =>
    obtain ⟨rfl, rfl⟩ := hcut
    have r0 := cell_alloc_keep (.cells #[.string a, .int .i64 (readG b), .int .i64 (readG d)] 29) q0
    have t0 := cell_alloc_keep (.cells #[.string a, .int .i64 (readG b), .int .i64 (readG d)] 29) x0
    have t1 := cell_alloc_keep (.cells #[.string a, .int .i64 (readG b), .int .i64 (readG d)] 29) x1
    have t2 := cell_alloc_keep (.cells #[.string a, .int .i64 (readG b), .int .i64 (readG d)] 29) x2
    go_upto_if 27 with fail
    go_cut [16] (fun s16 wx => wx = (w1.alloc (.cells #[.string (headOf a), .int .i64 (readG b), .int .i64 (readG d)] 29)).drew)
    case first =>
      by_cases ha : a = ⟨#[45]⟩
      · subst ha
        have hh : headOf ⟨#[45]⟩ = ⟨#[]⟩ := by unfold headOf; rw [if_pos rfl]
        have hd : ((⟨#[45]⟩ : ByteArray).toList == [45]) = true := by rw [Lib.toList_data]; rfl
        rw [hd]
        clear hd
        go_wp2_with fail
        go_meet
        rw [hh]
      · have hh : headOf a = a := by unfold headOf; rw [if_neg ha]
        have hne : (a.toList == [45]) = false := by
          rw [Lib.toList_data, beq_eq_false_iff_ne]
          exact fun e => ha (bytes_inj e)
        rw [hne]
        clear hne
        clear ha
        go_wp2_with fail
        go_meet
        rw [hh]
    case rest =>
      subst hcut
      clear r0
      have zh : (headOf a).size ≤ 9223372036854775807 := by unfold headOf; split; decide; exact za
      obtain ⟨h, hh⟩ : ∃ h, h = headOf a := ⟨_, rfl⟩
      obtain ⟨c, hcc⟩ : ∃ c, c = readG b := ⟨_, rfl⟩
      obtain ⟨p, hpp⟩ : ∃ c, c = readG d := ⟨_, rfl⟩
      rw [← hh, ← hcc, ← hpp] at hm ⊢
      rw [← hh] at zh
      clear hh hcc hpp
      have t0 := cell_alloc_keep (.cells #[.string h, .int .i64 c, .int .i64 p] 29) x0
      have t1 := cell_alloc_keep (.cells #[.string h, .int .i64 c, .int .i64 p] 29) x1
      have t2 := cell_alloc_keep (.cells #[.string h, .int .i64 c, .int .i64 p] 29) x2
      go_wp2_with fail
      refine (spec_l10Valid_any _ _ _ _ zh).mono ?_; rintro e w2 ⟨rfl, hb2⟩
      replace t0 : w2.cell? _ = _ := bel_pf hb2 t0; replace t1 : w2.cell? _ = _ := bel_pf hb2 t1; replace t2 : w2.cell? _ = _ := bel_pf hb2 t2
      have u0 := bel_pf hb2 (show (w1.alloc (.cells #[.string h, .int .i64 c, .int .i64 p] 29)).drew.cell? ⟨w1.heap.size, 0, none⟩ = some (.string h) from (show (w1.alloc (.cells #[.string h, .int .i64 c, .int .i64 p] 29)).cell? ⟨w1.heap.size, 0, none⟩ = some (.string h) from (by repeat (first | (refine Eq.trans (World.cell?_alloc_at _ _ _ _ ?hh) ?_; (case hh => (simp; done)); rfl) | refine cell_alloc_keep _ ?_))))
      replace f0 : w2.frozen? _ = false := below_frz hb2 rfl (by simp; omega) (show (w1.alloc (.cells #[.string h, .int .i64 c, .int .i64 p] 29)).drew.frozen? ⟨w.heap.size, 0, none⟩ = false from frozen_alloc_lt _ (by omega) f0)
      have u1 := bel_pf hb2 (show (w1.alloc (.cells #[.string h, .int .i64 c, .int .i64 p] 29)).drew.cell? ⟨w1.heap.size, 1, none⟩ = some (.int .i64 c) from (show (w1.alloc (.cells #[.string h, .int .i64 c, .int .i64 p] 29)).cell? ⟨w1.heap.size, 1, none⟩ = some (.int .i64 c) from (by repeat (first | (refine Eq.trans (World.cell?_alloc_at _ _ _ _ ?hh) ?_; (case hh => (simp; done)); rfl) | refine cell_alloc_keep _ ?_))))
      replace f1 : w2.frozen? _ = false := below_frz hb2 rfl (by simp; omega) (show (w1.alloc (.cells #[.string h, .int .i64 c, .int .i64 p] 29)).drew.frozen? ⟨w.heap.size, 1, none⟩ = false from frozen_alloc_lt _ (by omega) f1)
      have u2 := bel_pf hb2 (show (w1.alloc (.cells #[.string h, .int .i64 c, .int .i64 p] 29)).drew.cell? ⟨w1.heap.size, 2, none⟩ = some (.int .i64 p) from (show (w1.alloc (.cells #[.string h, .int .i64 c, .int .i64 p] 29)).cell? ⟨w1.heap.size, 2, none⟩ = some (.int .i64 p) from (by repeat (first | (refine Eq.trans (World.cell?_alloc_at _ _ _ _ ?hh) ?_; (case hh => (simp; done)); rfl) | refine cell_alloc_keep _ ?_))))
      replace f2 : w2.frozen? _ = false := below_frz hb2 rfl (by simp; omega) (show (w1.alloc (.cells #[.string h, .int .i64 c, .int .i64 p] 29)).drew.frozen? ⟨w.heap.size, 2, none⟩ = false from frozen_alloc_lt _ (by omega) f2)
      have B2 := Lib.hid (show Below w.heap.size w w2 from Below.trans (Below.trans B1.out ((show Below w1.heap.size w1 (w1.alloc (.cells #[.string h, .int .i64 c, .int .i64 p] 29)).drew from (by repeat (first | exact Below.refl _ _ | assumption | refine Below.drew ?_ | refine below_drewN ?_ _ | refine Below.alloc ?_ (by first | omega | (simp <;> omega)) _ | refine Below.setCell ?_ (by first | omega | (simp <;> omega)) _ | refine Below.trans ?_ (Below.mono (by assumption) (by first | omega | (simp <;> omega)))))).mono (by omega))) (hb2.mono (by simp; omega)))
      have z2 := hb2.size
      simp at z2
      clear hb2
      cases hv : validForm h c p with
      | false =>
        have hr0 : (((w2.setCell ⟨w.heap.size, 0, none⟩ (.string ⟨#[]⟩)).setCell ⟨w.heap.size, 1, none⟩ (.int .i64 0)).setCell ⟨w.heap.size, 2, none⟩ (.int .i64 0)).cell? ⟨w.heap.size, 0, none⟩ = some (.string ⟨#[]⟩) := cell_set_oth (cell_set_oth (World.cell?_setCell_same _ _ _ t0) (by decide)) (by decide)
        have hr1 : (((w2.setCell ⟨w.heap.size, 0, none⟩ (.string ⟨#[]⟩)).setCell ⟨w.heap.size, 1, none⟩ (.int .i64 0)).setCell ⟨w.heap.size, 2, none⟩ (.int .i64 0)).cell? ⟨w.heap.size, 1, none⟩ = some (.int .i64 0) := cell_set_oth (World.cell?_setCell_same _ _ _ (cell_set_oth t1 (by decide))) (by decide)
        have hr2 : (((w2.setCell ⟨w.heap.size, 0, none⟩ (.string ⟨#[]⟩)).setCell ⟨w.heap.size, 1, none⟩ (.int .i64 0)).setCell ⟨w.heap.size, 2, none⟩ (.int .i64 0)).cell? ⟨w.heap.size, 2, none⟩ = some (.int .i64 0) := World.cell?_setCell_same _ _ _ (cell_set_oth (cell_set_oth t2 (by decide)) (by decide))
        have bq := B2.out
        clear hm hv
        go_wp2_with fail
        exact bodyPost_ret (v := .tuple #[.agg #[.string ⟨#[]⟩, .int .i64 0, .int .i64 0], .bool false]) (by simp [results, Tryd.results10, go_sem, hr0, hr1, hr2]) rfl ⟨rfl, (by repeat (first | exact Below.refl _ _ | assumption | refine Below.drew ?_ | refine below_drewN ?_ _ | refine Below.alloc ?_ (by first | omega | (simp <;> omega)) _ | refine Below.setCell ?_ (by first | omega | (simp <;> omega)) _ | refine Below.trans ?_ (Below.mono (by assumption) (by first | omega | (simp <;> omega)))))⟩
      | true =>
        obtain ⟨l40, hc, hp⟩ := form_parts hv
        have ht : ¬ formText h c.toNat p.toNat = s := by
          intro e
          unfold madeB at hm
          rw [hv, decide_eq_true e] at hm
          cases hm
        obtain ⟨c, rfl⟩ : ∃ k : Nat, c = (k : Int) := ⟨c.toNat, by omega⟩
        obtain ⟨p, rfl⟩ : ∃ k : Nat, p = (k : Int) := ⟨p.toNat, by omega⟩
        rw [Int.toNat_natCast, Int.toNat_natCast] at ht
        have c1 : c < 100 := by omega
        have p1 : p < 100 := by omega
        clear hm hv
        go_wp2_with fail
        refine (spec_l10Text_any h c p _ l40 c1 p1).mono ?_; rintro e w3 ⟨rfl, hb3⟩
        obtain ⟨T, hT⟩ : ∃ T, T = formText h c p := ⟨_, rfl⟩
        rw [← hT] at ht ⊢
        clear hT
        have hne : ¬ T.toList = s.toList := by
          rw [Lib.toList_data, Lib.toList_data]
          exact fun e => ht (bytes_inj e)
        have hne2 : (T.toList == s.toList) = false := beq_eq_false_iff_ne.2 hne
        replace t0 := bel_pf hb3 t0; replace t1 := bel_pf hb3 t1; replace t2 := bel_pf hb3 t2
        replace f0 := below_frz hb3 rfl (by omega) f0; replace f1 := below_frz hb3 rfl (by omega) f1; replace f2 := below_frz hb3 rfl (by omega) f2
        have B3 := Lib.hid (Below.trans B2.out (hb3.mono (by omega)))
        have bq := B3.out
        clear hb3
        have hr0 : (((w3.setCell ⟨w.heap.size, 0, none⟩ (.string ⟨#[]⟩)).setCell ⟨w.heap.size, 1, none⟩ (.int .i64 0)).setCell ⟨w.heap.size, 2, none⟩ (.int .i64 0)).cell? ⟨w.heap.size, 0, none⟩ = some (.string ⟨#[]⟩) := cell_set_oth (cell_set_oth (World.cell?_setCell_same _ _ _ t0) (by decide)) (by decide)
        have hr1 : (((w3.setCell ⟨w.heap.size, 0, none⟩ (.string ⟨#[]⟩)).setCell ⟨w.heap.size, 1, none⟩ (.int .i64 0)).setCell ⟨w.heap.size, 2, none⟩ (.int .i64 0)).cell? ⟨w.heap.size, 1, none⟩ = some (.int .i64 0) := cell_set_oth (World.cell?_setCell_same _ _ _ (cell_set_oth t1 (by decide))) (by decide)
        have hr2 : (((w3.setCell ⟨w.heap.size, 0, none⟩ (.string ⟨#[]⟩)).setCell ⟨w.heap.size, 1, none⟩ (.int .i64 0)).setCell ⟨w.heap.size, 2, none⟩ (.int .i64 0)).cell? ⟨w.heap.size, 2, none⟩ = some (.int .i64 0) := World.cell?_setCell_same _ _ _ (cell_set_oth (cell_set_oth t2 (by decide)) (by decide))
        go_wp2_with fail
        exact bodyPost_ret (v := .tuple #[.agg #[.string ⟨#[]⟩, .int .i64 0, .int .i64 0], .bool false]) (by simp [results, Tryd.results10, go_sem, hr0, hr1, hr2]) rfl ⟨rfl, (by repeat (first | exact Below.refl _ _ | assumption | refine Below.drew ?_ | refine below_drewN ?_ _ | refine Below.alloc ?_ (by first | omega | (simp <;> omega)) _ | refine Below.setCell ?_ (by first | omega | (simp <;> omega)) _ | refine Below.trans ?_ (Below.mono (by assumption) (by first | omega | (simp <;> omega)))))⟩
end Go.Proofs.YtindldkileidmaaDoor
