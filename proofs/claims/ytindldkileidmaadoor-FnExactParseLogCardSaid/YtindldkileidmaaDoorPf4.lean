/- ParseForm: the reference. -/
import Derived.Test.YtindldkileidmaaDoorPf3
import Derived.Test.YtindldkileidmaaDoorBrk
import Derived.BigRegion
import Derived.BigQuiet
import Derived.Deep.DeepCutAuto
namespace Go.Proofs.YtindldkileidmaaDoor
set_option linter.unusedSimpArgs false
set_option linter.unusedVariables false
set_option linter.unnecessarySimpa false
set_option maxRecDepth 200000
open Go.ChangeShapes Go.WideShapes Go.ChangeAt Go.RowKit

def headOf (a : ByteArray) : ByteArray := if a = ⟨#[45]⟩ then ⟨#[]⟩ else a
/-- Is this reading of three words the one that the text was made of? -/
def madeB (s h : ByteArray) (c p : Int) : Bool := validForm h c p && decide (formText h c.toNat p.toNat = s)
theorem bel_pf {w w' : World} {b o : Nat} {u : Value} (hb : Below w.heap.size w w') (hc : w.cell? ⟨b, o, none⟩ = some u) : w'.cell? ⟨b, o, none⟩ = some u :=
  (hb.cell (World.block_lt_of_cell? _ _ hc)).trans hc
theorem cut_len {c : UInt8} : ∀ {l w : List UInt8}, w ∈ cutW c l → w.length ≤ l.length
  | [], w, h => by simp [cutW] at h; simp [h]
  | b :: l, w, h => by
    rw [cut_cons] at h
    split at h
    · rcases List.mem_cons.1 h with rfl | h
      · simp
      · exact Nat.le_succ_of_le (cut_len h)
    · cases hc : cutW c l with
      | nil => exact absurd hc (cut_ne c l)
      | cons w0 ws =>
        rw [hc] at h
        simp only [consHead] at h
        rcases List.mem_cons.1 h with rfl | h
        · have := cut_len (show w0 ∈ cutW c l by rw [hc]; simp)
          simp; exact this
        · exact Nat.le_succ_of_le (cut_len (show w ∈ cutW c l by rw [hc]; simp [h]))
theorem cell_set_oth {w : World} {b i j : Nat} {u v : Value} (h : w.cell? ⟨b, i, none⟩ = some u) (hne : j ≠ i) : (w.setCell ⟨b, j, none⟩ v).cell? ⟨b, i, none⟩ = some u :=
  (World.cell?_setCell_other _ _ _ _ (fun e => hne (by injection e))).trans h
theorem bytes_inj {a b : ByteArray} (h : a.data.toList = b.data.toList) : a = b := by
  apply ByteArray.ext
  exact Array.ext' h
theorem words_inj : ∀ {xs ys : List ByteArray}, xs.map (·.data.toList) = ys.map (·.data.toList) → xs = ys
  | [], [], _ => rfl
  | [], _ :: _, h => by simp at h
  | _ :: _, [], h => by simp at h
  | x :: xs, y :: ys, h => by
    rw [List.map_cons, List.map_cons] at h
    injection h with h1 h2
    rw [bytes_inj h1, words_inj h2]
set_option maxHeartbeats 4000000 in
theorem spec_ParseForm_three (s a b d : ByteArray) (w : World) (hs : s.size ≤ 1048576) (hw : cutW 32 s.data.toList = [a.data.toList, b.data.toList, d.data.toList]) (hm : madeB s (headOf a) (readG b) (readG d) = true) :
    Calls Tryd.prog 10 #[.string s] w fun e w' => e = .returned (.tuple #[.agg #[.string (headOf a), .int .i64 (readG b), .int .i64 (readG d)], .bool true]) ∧ Below w.heap.size w w' := by
  go_enter Tryd.func10, Tryd.ntmps10
  go_wp2_with fail
  refine (spec_l1Split_any s 32 _ hs).mono ?_; rintro e w1 ⟨v, ws, rfl, ho, hww, hb1⟩
  obtain rfl : ws = [a, b, d] := words_inj (by rw [hww, hw]; rfl)
  have zb : b.size ≤ 9223372036854775807 := by
    have h9 := cut_len (show b.data.toList ∈ cutW 32 s.data.toList by rw [hw]; simp)
    rw [Array.length_toList, Array.length_toList] at h9
    exact Nat.le_trans h9 (Nat.le_trans hs (by decide))
  have zd : d.size ≤ 9223372036854775807 := by
    have h9 := cut_len (show d.data.toList ∈ cutW 32 s.data.toList by rw [hw]; simp)
    rw [Array.length_toList, Array.length_toList] at h9
    exact Nat.le_trans h9 (Nat.le_trans hs (by decide))
  clear hww hw
  replace ho : w1.ownsRow _ 9 1 v 3 [.string a, .string b, .string d] := ho
  obtain ⟨g, cap, rfl⟩ := Go.Joins.ownsRow_form ho (by decide)
  have q0 := World.ownsRow.cells ho (g := g) rfl 0 (.string a) rfl
  have q1 := World.ownsRow.cells ho (g := g) rfl 1 (.string b) rfl
  have q2 := World.ownsRow.cells ho (g := g) rfl 2 (.string d) rfl
  rw [Addr.add_lit, Nat.zero_add] at q0 q1 q2
  have hgl := (World.ownsRow.lt ho g rfl).1
  simp at hgl
  clear ho
  have x0 := bel_pf hb1 (show (w.alloc (.cells #[.string ⟨#[]⟩, .int .i64 0, .int .i64 0] 29)).cell? ⟨w.heap.size, 0, none⟩ = some (.string ⟨#[]⟩) from (by repeat (first | (refine Eq.trans (World.cell?_alloc_at _ _ _ _ ?hh) ?_; (case hh => (simp; done)); rfl) | refine cell_alloc_keep _ ?_)))
  have x1 := bel_pf hb1 (show (w.alloc (.cells #[.string ⟨#[]⟩, .int .i64 0, .int .i64 0] 29)).cell? ⟨w.heap.size, 1, none⟩ = some (.int .i64 0) from (by repeat (first | (refine Eq.trans (World.cell?_alloc_at _ _ _ _ ?hh) ?_; (case hh => (simp; done)); rfl) | refine cell_alloc_keep _ ?_)))
  have x2 := bel_pf hb1 (show (w.alloc (.cells #[.string ⟨#[]⟩, .int .i64 0, .int .i64 0] 29)).cell? ⟨w.heap.size, 2, none⟩ = some (.int .i64 0) from (by repeat (first | (refine Eq.trans (World.cell?_alloc_at _ _ _ _ ?hh) ?_; (case hh => (simp; done)); rfl) | refine cell_alloc_keep _ ?_)))
  have f0 := below_frz hb1 rfl (by simp) (show (w.alloc (.cells #[.string ⟨#[]⟩, .int .i64 0, .int .i64 0] 29)).frozen? ⟨w.heap.size, 0, none⟩ = false from (by repeat (first | (refine World.frozen?_alloc_at _ _ _ _ ?hh; case hh => (simp; done)) | (refine frozen_alloc_lt _ ?hh ?_; case hh => first | omega | (simp <;> omega)))))
  have f1 := below_frz hb1 rfl (by simp) (show (w.alloc (.cells #[.string ⟨#[]⟩, .int .i64 0, .int .i64 0] 29)).frozen? ⟨w.heap.size, 1, none⟩ = false from (by repeat (first | (refine World.frozen?_alloc_at _ _ _ _ ?hh; case hh => (simp; done)) | (refine frozen_alloc_lt _ ?hh ?_; case hh => first | omega | (simp <;> omega)))))
  have f2 := below_frz hb1 rfl (by simp) (show (w.alloc (.cells #[.string ⟨#[]⟩, .int .i64 0, .int .i64 0] 29)).frozen? ⟨w.heap.size, 2, none⟩ = false from (by repeat (first | (refine World.frozen?_alloc_at _ _ _ _ ?hh; case hh => (simp; done)) | (refine frozen_alloc_lt _ ?hh ?_; case hh => first | omega | (simp <;> omega)))))
  have B1 := Lib.hid (show Below w.heap.size w w1 from Below.trans (show Below w.heap.size w (w.alloc (.cells #[.string ⟨#[]⟩, .int .i64 0, .int .i64 0] 29)) from (by repeat (first | exact Below.refl _ _ | assumption | refine Below.drew ?_ | refine below_drewN ?_ _ | refine Below.alloc ?_ (by first | omega | (simp <;> omega)) _ | refine Below.setCell ?_ (by first | omega | (simp <;> omega)) _ | refine Below.trans ?_ (Below.mono (by assumption) (by first | omega | (simp <;> omega)))))) (hb1.mono (by simp)))
  have z1 := hb1.size
  simp at z1
  clear hb1
  go_upto_region 4 with fail
  go_cut [5] (fun s5 wx => s5 = .pointer (some ⟨w1.heap.size, 0, none⟩) ∧ wx = (w1.alloc (.cells #[.string a, .int .i64 (readG b), .int .i64 (readG d)] 29)).drew)
  case first =>
    refine AnyB.begin (S := (fun w' => w'.cell? ⟨g, 0, none⟩ = some (.string a) ∧ w'.cell? ⟨g, 1, none⟩ = some (.string b) ∧ w'.cell? ⟨g, 2, none⟩ = some (.string d))) [] (by kernel_rfl) ?_ (fun hHeld0 => ?_)
    · ((try dsimp only); (first | exact ⟨q0, q1, q2⟩ | exact ⟨cell_alloc_keep _ q0, cell_alloc_keep _ q1, cell_alloc_keep _ q2⟩))
    refine AnyB.takeQ (i := 0) (oi := _) (v := ?_) (by simp only [List.getElem?_toArray, List.getElem?_cons_zero, List.getElem?_cons_succ]; rfl) (by kernel_rfl) (by kernel_rfl) (by kernel_rfl) (by intro _ _ _ h; exact h) (Or.inl ⟨by rfl, ?_⟩) ?_
    rotate_left
    · (intro w hSw; (try dsimp only at hSw); go_simp; (try (with_reducible rfl)))
    try simp only [Act.put, List.setIfInBounds_toArray, List.set_cons_zero, List.set_cons_succ]
    refine AnyB.takeQ (i := 1) (oi := _) (v := ?_) (by simp only [List.getElem?_toArray, List.getElem?_cons_zero, List.getElem?_cons_succ]; rfl) (by kernel_rfl) (by kernel_rfl) (by kernel_rfl) (by intro _ _ _ h; exact h) (Or.inl ⟨by rfl, ?_⟩) ?_
    rotate_left
    · (intro w hSw; (try dsimp only at hSw); go_simp; (try (with_reducible rfl)))
    try simp only [Act.put, List.setIfInBounds_toArray, List.set_cons_zero, List.set_cons_succ]
    refine AnyB.take (i := 2) (oi := _) (v := ?_) (by simp only [List.getElem?_toArray, List.getElem?_cons_zero, List.getElem?_cons_succ]; rfl) (by kernel_rfl) (by kernel_rfl) (by kernel_rfl) (by kernel_rfl) (by kernel_rfl) (by intro _ _ _ h; exact h) (Or.inl ⟨by rfl, ?_⟩) (by assumption) ?_
    rotate_left
    · (intro w hSw; (try dsimp only at hSw); go_simp; (try (with_reducible rfl)))
    try simp only [Act.put, List.setIfInBounds_toArray, List.set_cons_zero, List.set_cons_succ]
    refine AnyB.takeQ (i := 3) (oi := _) (v := ?_) (by simp only [List.getElem?_toArray, List.getElem?_cons_zero, List.getElem?_cons_succ]; rfl) (by kernel_rfl) (by kernel_rfl) (by kernel_rfl) (by intro _ _ _ h; exact h) (Or.inl ⟨by rfl, ?_⟩) ?_
    rotate_left
    · (intro w hSw; (try dsimp only at hSw); go_simp; (try (with_reducible rfl)))
    try simp only [Act.put, List.setIfInBounds_toArray, List.set_cons_zero, List.set_cons_succ]
    refine AnyB.takeQ (i := 4) (oi := _) (v := ?_) (by simp only [List.getElem?_toArray, List.getElem?_cons_zero, List.getElem?_cons_succ]; rfl) (by kernel_rfl) (by kernel_rfl) (by kernel_rfl) (by intro _ _ _ h; exact h) (Or.inl ⟨by rfl, ?_⟩) ?_
    rotate_left
    · (intro w hSw; (try dsimp only at hSw); go_simp; (try (with_reducible rfl)))
    try simp only [Act.put, List.setIfInBounds_toArray, List.set_cons_zero, List.set_cons_succ]
    refine AnyB.take (i := 5) (oi := _) (v := ?_) (by simp only [List.getElem?_toArray, List.getElem?_cons_zero, List.getElem?_cons_succ]; rfl) (by kernel_rfl) (by kernel_rfl) (by kernel_rfl) (by kernel_rfl) (by kernel_rfl) (by intro _ _ _ h; exact h) (Or.inl ⟨by rfl, ?_⟩) (by assumption) ?_
    rotate_left
    · (intro w hSw; (try dsimp only at hSw); go_simp; (try (with_reducible rfl)))
    try simp only [Act.put, List.setIfInBounds_toArray, List.set_cons_zero, List.set_cons_succ]
    refine AnyB.takeQ (i := 7) (oi := _) (v := ?_) (by simp only [List.getElem?_toArray, List.getElem?_cons_zero, List.getElem?_cons_succ]; rfl) (by kernel_rfl) (by kernel_rfl) (by kernel_rfl) (by intro _ _ _ h; exact h) (Or.inl ⟨by rfl, ?_⟩) ?_
    rotate_left
    · (intro w hSw; (try dsimp only at hSw); go_simp; (try (with_reducible rfl)))
    try simp only [Act.put, List.setIfInBounds_toArray, List.set_cons_zero, List.set_cons_succ]
    refine AnyB.takeQ (i := 8) (oi := _) (v := ?_) (by simp only [List.getElem?_toArray, List.getElem?_cons_zero, List.getElem?_cons_succ]; rfl) (by kernel_rfl) (by kernel_rfl) (by kernel_rfl) (by intro _ _ _ h; exact h) (Or.inl ⟨by rfl, ?_⟩) ?_
    rotate_left
    · (intro w hSw; (try dsimp only at hSw); go_simp; (try (with_reducible rfl)))
    try simp only [Act.put, List.setIfInBounds_toArray, List.set_cons_zero, List.set_cons_succ]
    refine AnyB.take (i := 9) (oi := _) (v := ?_) (by simp only [List.getElem?_toArray, List.getElem?_cons_zero, List.getElem?_cons_succ]; rfl) (by kernel_rfl) (by kernel_rfl) (by kernel_rfl) (by kernel_rfl) (by kernel_rfl) (by intro _ _ _ h; exact h) (Or.inl ⟨by rfl, ?_⟩) (by assumption) ?_
    rotate_left
    · (intro w hSw; (try dsimp only at hSw); go_simp; (try (with_reducible rfl)))
    try simp only [Act.put, List.setIfInBounds_toArray, List.set_cons_zero, List.set_cons_succ]
    refine AnyB.each (rs := [6, 12]) (by kernel_rfl) (by simp) ?_
    refine EachB.cons rfl (fun K hK hB => ?_) ?_
    · skip
      (go_simp; go_at_call 15; refine (spec_l1Read_any b _ zb).mono ?_; rintro e w2 ⟨rfl, rfl⟩; dsimp only)
      refine hK.out _ _ ?_ (fun hHeld1 => ?_)
      · ((try dsimp only); (first | exact ⟨q0, q1, q2⟩ | exact ⟨cell_alloc_keep _ q0, cell_alloc_keep _ q1, cell_alloc_keep _ q2⟩))
      clear hB hK K hHeld0
      refine AnyB.each (rs := [10, 12]) (by kernel_rfl) (by simp) ?_
      refine EachB.cons rfl (fun K hK hB => ?_) ?_
      · skip
        (go_simp; go_at_call 15; refine (spec_l1Read_any d _ zd).mono ?_; rintro e w3 ⟨rfl, rfl⟩; dsimp only)
        refine hK.out _ _ ?_ (fun hHeld2 => ?_)
        · ((try dsimp only); (first | exact ⟨q0, q1, q2⟩ | exact ⟨cell_alloc_keep _ q0, cell_alloc_keep _ q1, cell_alloc_keep _ q2⟩))
        clear hB hK K hHeld1
        refine AnyB.takeQ (i := 11) (oi := _) (v := ?_) (by simp only [List.getElem?_toArray, List.getElem?_cons_zero, List.getElem?_cons_succ]; rfl) (by kernel_rfl) (by kernel_rfl) (by kernel_rfl) (by intro _ _ _ h; exact h) (Or.inl ⟨by rfl, ?_⟩) ?_
        rotate_left
        · (intro w hSw; (try dsimp only at hSw); go_simp; (try (with_reducible rfl)))
        try simp only [Act.put, List.setIfInBounds_toArray, List.set_cons_zero, List.set_cons_succ]
        refine AnyB.each (rs := [12]) (by kernel_rfl) (by simp) ?_
        refine EachB.cons rfl (fun K hK hB => ?_) ?_
        · skip
          go_simp
          refine hK.out _ _ ?_ (fun hHeld3 => ?_)
          · ((try dsimp only); (first | exact ⟨q0, q1, q2⟩ | exact ⟨cell_alloc_keep _ q0, cell_alloc_keep _ q1, cell_alloc_keep _ q2⟩))
          clear hB hK K hHeld2
          refine AnyB.each (rs := [13]) (by kernel_rfl) (by simp) ?_
          refine EachB.cons rfl (fun K hK hB => ?_) ?_
          · skip
            go_simp
            refine hK.out _ _ ?_ (fun hHeld4 => ?_)
            · ((try dsimp only); (first | exact ⟨q0, q1, q2⟩ | exact ⟨cell_alloc_keep _ q0, cell_alloc_keep _ q1, cell_alloc_keep _ q2⟩))
            clear hB hK K hHeld3
            refine AnyB.none (by kernel_rfl) ?_ _
            go_wp2_with fail
            go_meet
            exact ⟨rfl, rfl⟩
          exact EachB.nil
        exact EachB.nil
      refine EachB.cons rfl (fun K hK hB => ?_) ?_
      · skip
        go_simp
        refine hK.out _ _ ?_ (fun hHeld5 => ?_)
        · ((try dsimp only); (first | exact ⟨q0, q1, q2⟩ | exact ⟨cell_alloc_keep _ q0, cell_alloc_keep _ q1, cell_alloc_keep _ q2⟩))
        clear hB hK K hHeld1
        refine AnyB.each (rs := [10]) (by kernel_rfl) (by simp) ?_
        refine EachB.cons rfl (fun K hK hB => ?_) ?_
        · skip
          (go_simp; go_at_call 15; refine (spec_l1Read_any d _ zd).mono ?_; rintro e w3 ⟨rfl, rfl⟩; dsimp only)
          refine hK.out _ _ ?_ (fun hHeld6 => ?_)
          · ((try dsimp only); (first | exact ⟨q0, q1, q2⟩ | exact ⟨cell_alloc_keep _ q0, cell_alloc_keep _ q1, cell_alloc_keep _ q2⟩))
          clear hB hK K hHeld5
          refine AnyB.takeQ (i := 11) (oi := _) (v := ?_) (by simp only [List.getElem?_toArray, List.getElem?_cons_zero, List.getElem?_cons_succ]; rfl) (by kernel_rfl) (by kernel_rfl) (by kernel_rfl) (by intro _ _ _ h; exact h) (Or.inl ⟨by rfl, ?_⟩) ?_
          rotate_left
          · (intro w hSw; (try dsimp only at hSw); go_simp; (try (with_reducible rfl)))
          try simp only [Act.put, List.setIfInBounds_toArray, List.set_cons_zero, List.set_cons_succ]
          refine AnyB.each (rs := [13]) (by kernel_rfl) (by simp) ?_
          refine EachB.cons rfl (fun K hK hB => ?_) ?_
          · skip
            go_simp
            refine hK.out _ _ ?_ (fun hHeld7 => ?_)
            · ((try dsimp only); (first | exact ⟨q0, q1, q2⟩ | exact ⟨cell_alloc_keep _ q0, cell_alloc_keep _ q1, cell_alloc_keep _ q2⟩))
            clear hB hK K hHeld6
            refine AnyB.none (by kernel_rfl) ?_ _
            go_wp2_with fail
            go_meet
            exact ⟨rfl, rfl⟩
          exact EachB.nil
        exact EachB.nil
      exact EachB.nil
    refine EachB.cons rfl (fun K hK hB => ?_) ?_
    · skip
      go_simp
      refine hK.out _ _ ?_ (fun hHeld8 => ?_)
      · ((try dsimp only); (first | exact ⟨q0, q1, q2⟩ | exact ⟨cell_alloc_keep _ q0, cell_alloc_keep _ q1, cell_alloc_keep _ q2⟩))
      clear hB hK K hHeld0
      refine AnyB.each (rs := [6]) (by kernel_rfl) (by simp) ?_
      refine EachB.cons rfl (fun K hK hB => ?_) ?_
      · skip
        (go_simp; go_at_call 15; refine (spec_l1Read_any b _ zb).mono ?_; rintro e w2 ⟨rfl, rfl⟩; dsimp only)
        refine hK.out _ _ ?_ (fun hHeld9 => ?_)
        · ((try dsimp only); (first | exact ⟨q0, q1, q2⟩ | exact ⟨cell_alloc_keep _ q0, cell_alloc_keep _ q1, cell_alloc_keep _ q2⟩))
        clear hB hK K hHeld8
        refine AnyB.each (rs := [10]) (by kernel_rfl) (by simp) ?_
        refine EachB.cons rfl (fun K hK hB => ?_) ?_
        · skip
          (go_simp; go_at_call 15; refine (spec_l1Read_any d _ zd).mono ?_; rintro e w3 ⟨rfl, rfl⟩; dsimp only)
          refine hK.out _ _ ?_ (fun hHeld10 => ?_)
          · ((try dsimp only); (first | exact ⟨q0, q1, q2⟩ | exact ⟨cell_alloc_keep _ q0, cell_alloc_keep _ q1, cell_alloc_keep _ q2⟩))
          clear hB hK K hHeld9
          refine AnyB.takeQ (i := 11) (oi := _) (v := ?_) (by simp only [List.getElem?_toArray, List.getElem?_cons_zero, List.getElem?_cons_succ]; rfl) (by kernel_rfl) (by kernel_rfl) (by kernel_rfl) (by intro _ _ _ h; exact h) (Or.inl ⟨by rfl, ?_⟩) ?_
          rotate_left
          · (intro w hSw; (try dsimp only at hSw); go_simp; (try (with_reducible rfl)))
          try simp only [Act.put, List.setIfInBounds_toArray, List.set_cons_zero, List.set_cons_succ]
          refine AnyB.each (rs := [13]) (by kernel_rfl) (by simp) ?_
          refine EachB.cons rfl (fun K hK hB => ?_) ?_
          · skip
            go_simp
            refine hK.out _ _ ?_ (fun hHeld11 => ?_)
            · ((try dsimp only); (first | exact ⟨q0, q1, q2⟩ | exact ⟨cell_alloc_keep _ q0, cell_alloc_keep _ q1, cell_alloc_keep _ q2⟩))
            clear hB hK K hHeld10
            refine AnyB.none (by kernel_rfl) ?_ _
            go_wp2_with fail
            go_meet
            exact ⟨rfl, rfl⟩
          exact EachB.nil
        exact EachB.nil
      exact EachB.nil
    exact EachB.nil
  case rest =>
    obtain ⟨rfl, rfl⟩ := hcut
    have r0 := cell_alloc_keep (.cells #[.string a, .int .i64 (readG b), .int .i64 (readG d)] 29) q0
    have t0 := cell_alloc_keep (.cells #[.string a, .int .i64 (readG b), .int .i64 (readG d)] 29) x0
    have t1 := cell_alloc_keep (.cells #[.string a, .int .i64 (readG b), .int .i64 (readG d)] 29) x1
    have t2 := cell_alloc_keep (.cells #[.string a, .int .i64 (readG b), .int .i64 (readG d)] 29) x2
    go_upto_if 27 with fail
    go_cut [16] (fun s16 wx => wx = (w1.alloc (.cells #[.string (headOf a), .int .i64 (readG b), .int .i64 (readG d)] 29)).drew)
    case first =>
      by_cases ha : a = ⟨#[45]⟩
      · subst ha
        have hh : headOf ⟨#[45]⟩ = ⟨#[]⟩ := by unfold headOf; rw [if_pos rfl]
        have hd : ((⟨#[45]⟩ : ByteArray).toList == [45]) = true := by rw [Lib.toList_data]; rfl
        rw [hd]
        clear hd
        go_wp2_with fail
        go_meet
        rw [hh]
      · have hh : headOf a = a := by unfold headOf; rw [if_neg ha]
        have hne : (a.toList == [45]) = false := by
          rw [Lib.toList_data, beq_eq_false_iff_ne]
          exact fun e => ha (bytes_inj e)
        rw [hne]
        clear hne
        clear ha
        go_wp2_with fail
        go_meet
        rw [hh]
    case rest =>
      subst hcut
      clear r0
      unfold madeB at hm
      rw [Bool.and_eq_true] at hm
      obtain ⟨hv, ht⟩ := hm
      have ht := of_decide_eq_true ht
      obtain ⟨l40, hc, hp⟩ := form_parts hv
      obtain ⟨h, hh⟩ : ∃ h, h = headOf a := ⟨_, rfl⟩
      obtain ⟨c, hcc⟩ : ∃ k : Nat, readG b = (k : Int) := ⟨(readG b).toNat, by omega⟩
      obtain ⟨p, hpp⟩ : ∃ k : Nat, readG d = (k : Int) := ⟨(readG d).toNat, by omega⟩
      rw [← hh, hcc, hpp] at hv ht ⊢
      rw [← hh] at l40
      rw [hcc] at hc
      rw [hpp] at hp
      have HH := Lib.hid hh; have HC := Lib.hid hcc; have HP := Lib.hid hpp
      clear hh hcc hpp
      have t0 := cell_alloc_keep (.cells #[.string h, .int .i64 (c : Int), .int .i64 (p : Int)] 29) x0
      have t1 := cell_alloc_keep (.cells #[.string h, .int .i64 (c : Int), .int .i64 (p : Int)] 29) x1
      have t2 := cell_alloc_keep (.cells #[.string h, .int .i64 (c : Int), .int .i64 (p : Int)] 29) x2
      rw [Int.toNat_natCast, Int.toNat_natCast] at ht
      have HV := Lib.hid hv
      have HT := Lib.hid ht
      have c1 : c < 100 := by omega
      have p1 : p < 100 := by omega
      clear hv ht
      go_wp2_with fail
      refine (spec_l10Valid_any _ _ _ _ (by omega)).mono ?_; rintro e w2 ⟨rfl, hb2⟩
      rw [HV.out]
      replace t0 : w2.cell? _ = _ := bel_pf hb2 t0; replace t1 : w2.cell? _ = _ := bel_pf hb2 t1; replace t2 : w2.cell? _ = _ := bel_pf hb2 t2
      have u0 := bel_pf hb2 (show (w1.alloc (.cells #[.string h, .int .i64 (c : Int), .int .i64 (p : Int)] 29)).drew.cell? ⟨w1.heap.size, 0, none⟩ = some (.string h) from (show (w1.alloc (.cells #[.string h, .int .i64 (c : Int), .int .i64 (p : Int)] 29)).cell? ⟨w1.heap.size, 0, none⟩ = some (.string h) from (by repeat (first | (refine Eq.trans (World.cell?_alloc_at _ _ _ _ ?hh) ?_; (case hh => (simp; done)); rfl) | refine cell_alloc_keep _ ?_))))
      have u1 := bel_pf hb2 (show (w1.alloc (.cells #[.string h, .int .i64 (c : Int), .int .i64 (p : Int)] 29)).drew.cell? ⟨w1.heap.size, 1, none⟩ = some (.int .i64 (c : Int)) from (show (w1.alloc (.cells #[.string h, .int .i64 (c : Int), .int .i64 (p : Int)] 29)).cell? ⟨w1.heap.size, 1, none⟩ = some (.int .i64 (c : Int)) from (by repeat (first | (refine Eq.trans (World.cell?_alloc_at _ _ _ _ ?hh) ?_; (case hh => (simp; done)); rfl) | refine cell_alloc_keep _ ?_))))
      have u2 := bel_pf hb2 (show (w1.alloc (.cells #[.string h, .int .i64 (c : Int), .int .i64 (p : Int)] 29)).drew.cell? ⟨w1.heap.size, 2, none⟩ = some (.int .i64 (p : Int)) from (show (w1.alloc (.cells #[.string h, .int .i64 (c : Int), .int .i64 (p : Int)] 29)).cell? ⟨w1.heap.size, 2, none⟩ = some (.int .i64 (p : Int)) from (by repeat (first | (refine Eq.trans (World.cell?_alloc_at _ _ _ _ ?hh) ?_; (case hh => (simp; done)); rfl) | refine cell_alloc_keep _ ?_))))
      have B2 := Lib.hid (show Below w.heap.size w w2 from Below.trans (Below.trans B1.out ((show Below w1.heap.size w1 (w1.alloc (.cells #[.string h, .int .i64 (c : Int), .int .i64 (p : Int)] 29)).drew from (by repeat (first | exact Below.refl _ _ | assumption | refine Below.drew ?_ | refine below_drewN ?_ _ | refine Below.alloc ?_ (by first | omega | (simp <;> omega)) _ | refine Below.setCell ?_ (by first | omega | (simp <;> omega)) _ | refine Below.trans ?_ (Below.mono (by assumption) (by first | omega | (simp <;> omega)))))).mono (by omega))) (hb2.mono (by simp; omega)))
      have z2 := hb2.size
      simp at z2
      replace f0 : w2.frozen? _ = false := below_frz hb2 rfl (by simp; omega) (show (w1.alloc (.cells #[.string h, .int .i64 (c : Int), .int .i64 (p : Int)] 29)).drew.frozen? ⟨w.heap.size, 0, none⟩ = false from frozen_alloc_lt _ (by omega) f0)
      replace f1 : w2.frozen? _ = false := below_frz hb2 rfl (by simp; omega) (show (w1.alloc (.cells #[.string h, .int .i64 (c : Int), .int .i64 (p : Int)] 29)).drew.frozen? ⟨w.heap.size, 1, none⟩ = false from frozen_alloc_lt _ (by omega) f1)
      replace f2 : w2.frozen? _ = false := below_frz hb2 rfl (by simp; omega) (show (w1.alloc (.cells #[.string h, .int .i64 (c : Int), .int .i64 (p : Int)] 29)).drew.frozen? ⟨w.heap.size, 2, none⟩ = false from frozen_alloc_lt _ (by omega) f2)
      clear hb2
      go_wp2_with fail
      refine (spec_l10Text_any h c p _ l40 c1 p1).mono ?_; rintro e w3 ⟨rfl, hb3⟩
      rw [HT.out]
      replace t0 := bel_pf hb3 t0; replace t1 := bel_pf hb3 t1; replace t2 := bel_pf hb3 t2
      replace u0 := bel_pf hb3 u0; replace u1 := bel_pf hb3 u1; replace u2 := bel_pf hb3 u2
      have B3 := Lib.hid (Below.trans B2.out (hb3.mono (by omega)))
      have z3 := hb3.size
      have hb4 := hb3
      clear hb3
      replace f0 := below_frz hb4 rfl (by omega) f0; replace f1 := below_frz hb4 rfl (by omega) f1; replace f2 := below_frz hb4 rfl (by omega) f2
      clear hb4
      have hr0 : (((w3.setCell ⟨w.heap.size, 0, none⟩ (.string h)).setCell ⟨w.heap.size, 1, none⟩ (.int .i64 (c : Int))).setCell ⟨w.heap.size, 2, none⟩ (.int .i64 (p : Int))).cell? ⟨w.heap.size, 0, none⟩ = some (.string h) := cell_set_oth (cell_set_oth (World.cell?_setCell_same _ _ _ t0) (by decide)) (by decide)
      have hr1 : (((w3.setCell ⟨w.heap.size, 0, none⟩ (.string h)).setCell ⟨w.heap.size, 1, none⟩ (.int .i64 (c : Int))).setCell ⟨w.heap.size, 2, none⟩ (.int .i64 (p : Int))).cell? ⟨w.heap.size, 1, none⟩ = some (.int .i64 (c : Int)) := cell_set_oth (World.cell?_setCell_same _ _ _ (cell_set_oth t1 (by decide))) (by decide)
      have hr2 : (((w3.setCell ⟨w.heap.size, 0, none⟩ (.string h)).setCell ⟨w.heap.size, 1, none⟩ (.int .i64 (c : Int))).setCell ⟨w.heap.size, 2, none⟩ (.int .i64 (p : Int))).cell? ⟨w.heap.size, 2, none⟩ = some (.int .i64 (p : Int)) := World.cell?_setCell_same _ _ _ (cell_set_oth (cell_set_oth t2 (by decide)) (by decide))
      have bq := B3.out
      go_wp2_with fail
      exact bodyPost_ret (v := .tuple #[.agg #[.string h, .int .i64 (c : Int), .int .i64 (p : Int)], .bool true]) (by simp [results, Tryd.results10, go_sem, hr0, hr1, hr2]) rfl ⟨by rw [← HH.out, HC.out, HP.out], (by repeat (first | exact Below.refl _ _ | assumption | refine Below.drew ?_ | refine below_drewN ?_ _ | refine Below.alloc ?_ (by first | omega | (simp <;> omega)) _ | refine Below.setCell ?_ (by first | omega | (simp <;> omega)) _ | refine Below.trans ?_ (Below.mono (by assumption) (by first | omega | (simp <;> omega)))))⟩
end Go.Proofs.YtindldkileidmaaDoor
