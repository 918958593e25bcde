/- ParseDiagram: the program. -/
import Derived.Test.YtliophgfgmjhiaaGreatDoorZ40Zy8
import Derived.Test.YtliophgfgmjhiaaGreatDoorZ29Zyd
import Derived.Test.YtliophgfgmjhiaaGreatDoorZ41Zy3
import Derived.BigRegion
import Derived.BigGuardPart
namespace Go.Proofs.YtliophgfgmjhiaaGreatDoor
set_option linter.unusedSimpArgs false
set_option linter.unusedVariables false
set_option linter.unnecessarySimpa false
set_option maxRecDepth 200000
open Go.ChangeShapes Go.WideShapes Go.ChangeAt Go.RowKit

theorem BoxD.set0 {w : World} {B : Nat} {n : Int} {v0 v1 : Value} {t r : Int} (h : BoxD w B n v0 v1 t r) (m : Int) : BoxD (w.setCell ⟨B, 0, none⟩ (.int .i64 m)) B m v0 v1 t r :=
  ⟨World.cell?_setCell_same _ _ _ h.c0, cell_set_oth h.c1 (by decide), cell_set_oth h.c2 (by decide), cell_set_oth h.c3 (by decide), cell_set_oth h.c4 (by decide), frz_sz h.f0, frz_sz h.f1, frz_sz h.f2, frz_sz h.f3, frz_sz h.f4⟩
theorem BoxD.set3 {w : World} {B : Nat} {n : Int} {v0 v1 : Value} {t r : Int} (h : BoxD w B n v0 v1 t r) (m : Int) : BoxD (w.setCell ⟨B, 3, none⟩ (.int .i64 m)) B n v0 v1 m r :=
  ⟨cell_set_oth h.c0 (by decide), cell_set_oth h.c1 (by decide), cell_set_oth h.c2 (by decide), World.cell?_setCell_same _ _ _ h.c3, cell_set_oth h.c4 (by decide), frz_sz h.f0, frz_sz h.f1, frz_sz h.f2, frz_sz h.f3, frz_sz h.f4⟩
theorem BoxD.set4 {w : World} {B : Nat} {n : Int} {v0 v1 : Value} {t r : Int} (h : BoxD w B n v0 v1 t r) (m : Int) : BoxD (w.setCell ⟨B, 4, none⟩ (.int .i64 m)) B n v0 v1 t m :=
  ⟨cell_set_oth h.c0 (by decide), cell_set_oth h.c1 (by decide), cell_set_oth h.c2 (by decide), cell_set_oth h.c3 (by decide), World.cell?_setCell_same _ _ _ h.c4, frz_sz h.f0, frz_sz h.f1, frz_sz h.f2, frz_sz h.f3, frz_sz h.f4⟩
theorem words_wd (w : World) (ws : List ByteArray) : Wd (w.alloc (.cells (ws.map Value.string).toArray 9)) w.heap.size ws := fun i h => by
  have := news_cells w (ws.map Value.string) 9 i (.string (ws.getD i ⟨#[]⟩)) (by simp [List.getD, h])
  rwa [Addr.add_lit, Nat.zero_add] at this
/-- The words of a valid diagram's text are nodes' and wires' texts. -/
theorem node_word {d : Dia} {s : ByteArray} (hg : GoodS d) (ht : diaT d = s) {j : Nat} (hj : j < (wordsOf 44 ((wordsOf 59 s).getD 3 ⟨#[]⟩)).length) : ∃ y, okN y ∧ (wordsOf 44 ((wordsOf 59 s).getD 3 ⟨#[]⟩)).getD j ⟨#[]⟩ = nodeT y := by
  subst ht
  have e : wordsOf 44 ((wordsOf 59 (diaT d)).getD 3 ⟨#[]⟩) = d.ns.map nodeT := by rw [dia_words hg]; exact node_words hg
  rw [e] at hj ⊢
  rw [List.length_map] at hj
  exact ⟨_, good_nk hg hj, getD_node hj⟩
theorem wire_word {d : Dia} {s : ByteArray} (hg : GoodS d) (ht : diaT d = s) {j : Nat} (hj : j < (wordsOf 44 ((wordsOf 59 s).getD 4 ⟨#[]⟩)).length) : ∃ y, okW y ∧ (wordsOf 44 ((wordsOf 59 s).getD 4 ⟨#[]⟩)).getD j ⟨#[]⟩ = wireT y := by
  subst ht
  have e : wordsOf 44 ((wordsOf 59 (diaT d)).getD 4 ⟨#[]⟩) = d.ws.map wireT := by rw [dia_words hg]; exact wire_words hg
  rw [e] at hj ⊢
  rw [List.length_map] at hj
  exact ⟨_, good_wk hg hj, getD_wire hj⟩
theorem rnum_z {t : ByteArray} {n : Int} {q : Bool} (h : ∀ r : Int, -100 < r → r < 100 → t = intB r → n = r ∧ q = true) : RNum t n := fun k hk e => (h k (by omega) (by omega) (by rw [e]; exact numB_int k)).1
theorem rint_z {t : ByteArray} {n : Int} {q : Bool} (h : ∀ r : Int, -100 < r → r < 100 → t = intB r → n = r ∧ q = true) : RInt t n := fun k h0 h1 e => (h k h0 h1 e).1
theorem node_reads (w : World) (x : E2) : Reads (w.alloc (.cells #[.int .i64 x.a, .int .i64 x.b] 36)) (w.heap.size + 1) 2 (some ⟨w.heap.size, 0, none⟩) 1 (E2.cs x) :=
  ⟨rfl, fun _ => ⟨_, rfl, by simp, news_cells w [_, _] _⟩⟩
theorem wire_reads (w : World) (x : EW) : Reads (w.alloc (.cells #[.int .i64 x.a, .int .i64 x.b, .bool x.h] 40)) (w.heap.size + 1) 3 (some ⟨w.heap.size, 0, none⟩) 1 (EW.cs x) :=
  ⟨rfl, fun _ => ⟨_, rfl, by simp, news_cells w [_, _, _] _⟩⟩
set_option maxHeartbeats 16000000 in
theorem impl_ParseDiagram_any (s : ByteArray) (w : World) (hs : s.size ≤ 1048576) (hm : MaxZ w) (hst : Strc w) :
    Calls Tryz.prog 5 #[.string s] w fun e w' => ParseRes s w e w' := by
  have HM := Lib.hid hm; have HST := Lib.hid hst
  clear hm hst
  go_enter Tryz.func5, Tryz.ntmps5
  go_wp2_with fail
  have R0 := Lib.hid (BoxD.new w 0 (.slice none 0 0) (.slice none 0 0) 0 0)
  have B0 := Lib.hid (show Below w.heap.size w (w.alloc (.cells #[.int .i64 0, .slice none 0 0, .slice none 0 0, .int .i64 0, .int .i64 0] 25)) from (by repeat (first | exact Below.refl _ _ | assumption | refine Below.drew ?_ | refine below_drewN ?_ _ | refine Below.alloc ?_ (by first | omega | (simp <;> omega)) _ | refine Below.setCell ?_ (by first | omega | (simp <;> omega)) _ | refine Below.trans ?_ (Below.mono (by assumption) (by first | omega | (simp <;> omega))))))
  refine (impl_splitZ 59 s _ hs (HM.out.call B0.out)).mono ?_; rintro e w2 ⟨rfl, hw2⟩
  have hb2 : Below (w.alloc (.cells #[.int .i64 0, .slice none 0 0, .slice none 0 0, .int .i64 0, .int .i64 0] 25)).heap.size (w.alloc (.cells #[.int .i64 0, .slice none 0 0, .slice none 0 0, .int .i64 0, .int .i64 0] 25)) w2 := by rw [hw2]; exact (by repeat (first | exact Below.refl _ _ | assumption | refine Below.drew ?_ | refine below_drewN ?_ _ | refine Below.alloc ?_ (by first | omega | (simp <;> omega)) _ | refine Below.setCell ?_ (by first | omega | (simp <;> omega)) _ | refine Below.trans ?_ (Below.mono (by assumption) (by first | omega | (simp <;> omega)))))
  have HC : Hid (Wd w2 (w.heap.size + 1) (wordsOf 59 s)) := (show Wd _ _ _ from by have := words_wd (w.alloc (.cells #[.int .i64 0, .slice none 0 0, .slice none 0 0, .int .i64 0, .int .i64 0] 25)) (wordsOf 59 s); rw [← hw2] at this; simpa using this)
  have hR := Lib.hid (R0.out.bel hb2)
  have hB := Lib.hid (below_step B0.out hb2)
  have z2 : w.heap.size + 2 ≤ w2.heap.size := by rw [hw2]; simp
  have hwz : ∀ i, ((wordsOf 59 s).getD i ⟨#[]⟩).size ≤ 1048576 := fun i => by
    by_cases h : i < (wordsOf 59 s).length
    · have h2 : (wordsOf 59 s).getD i ⟨#[]⟩ ∈ wordsOf 59 s := by simp [List.getD, h]
      exact Nat.le_trans (wordsOf_size h2) (by omega)
    · rw [show (wordsOf 59 s).getD i ⟨#[]⟩ = ⟨#[]⟩ from by simp [List.getD, h]]; decide
  have HWZ := Lib.hid hwz
  have hsz2 : (w.alloc (.cells #[.int .i64 0, .slice none 0 0, .slice none 0 0, .int .i64 0, .int .i64 0] 25)).heap.size = w.heap.size + 1 := by simp
  rw [hsz2]
  clear hw2 hb2 hwz R0 B0 hsz2
  by_cases h5 : (wordsOf 59 s).length = 5
  rotate_left
  · have i5 : (((wordsOf 59 s).length : Int) != 5) = true := by simp; omega
    have HP := Lib.hid (parsed_none (five_words h5))
    have r0 := hR.out.c0; have r1 := hR.out.c1; have r2 := hR.out.c2; have r3 := hR.out.c3; have r4 := hR.out.c4; have l0 := hR.out.f0; have l1 := hR.out.f1; have l2 := hR.out.f2; have l3 := hR.out.f3; have l4 := hR.out.f4
    clear h5
    go_wp2_with fail
    exact bodyPost_ret (v := .tuple #[.agg #[.int .i64 0, .slice none 0 0, .slice none 0 0, .int .i64 0, .int .i64 0], .bool false]) (by simp [results, Tryz.results5, go_sem, r0, r1, r2, r3, r4]; done) rfl (.of ⟨Dia.zero, .slice none 0 0, .slice none 0 0, false, rfl, ⟨OwnE.nil _ _ _, OwnE.nil _ _ _, fun g h => (by cases h)⟩, HP.out, Below.setCell (Below.setCell (Below.setCell (Below.setCell (Below.setCell hB.out (Nat.le_refl _) _) (Nat.le_refl _) _) (Nat.le_refl _) _) (Nat.le_refl _) _) (Nat.le_refl _) _⟩)
  have i5 : (((wordsOf 59 s).length : Int) != 5) = false := by simp; omega
  have HNW := Lib.hid (fun (d : Dia) (j : Nat) hg ht hj => node_word (d := d) (s := s) hg ht (j := j) hj)
  have HWW := Lib.hid (fun (d : Dia) (j : Nat) hg ht hj => wire_word (d := d) (s := s) hg ht (j := j) hj)
  obtain ⟨ps, hp⟩ : ∃ ps, ps = wordsOf 59 s := ⟨_, rfl⟩
  rw [← hp] at HC HWZ h5 i5 HNW HWW ⊢
  have HPS := Lib.hid hp
  clear hp
  have q0 := HC.out 0 (by omega); have q1 := HC.out 1 (by omega); have q2 := HC.out 2 (by omega); have q3 := HC.out 3 (by omega); have q4 := HC.out 4 (by omega)
  have j0 : (0 : Int) < (ps.length : Int) := by omega
  have j1 : (1 : Int) < (ps.length : Int) := by omega
  have j2 : (2 : Int) < (ps.length : Int) := by omega
  have j3 : (3 : Int) < (ps.length : Int) := by omega
  have j4 : (4 : Int) < (ps.length : Int) := by omega
  have Z0 := Lib.hid (HWZ.out 0); have Z1 := Lib.hid (HWZ.out 1); have Z2 := Lib.hid (HWZ.out 2); have Z3 := Lib.hid (HWZ.out 3); have Z4 := Lib.hid (HWZ.out 4)
  have HRD := Lib.hid (fun (d : Dia) a b c e f => (show ReadD ps d from ⟨a, b, c, e, f⟩))
  obtain ⟨p0, hp0⟩ : ∃ p, p = ps.getD 0 ⟨#[]⟩ := ⟨_, rfl⟩
  obtain ⟨p1, hp1⟩ : ∃ p, p = ps.getD 1 ⟨#[]⟩ := ⟨_, rfl⟩
  obtain ⟨p2, hp2⟩ : ∃ p, p = ps.getD 2 ⟨#[]⟩ := ⟨_, rfl⟩
  obtain ⟨p3, hp3⟩ : ∃ p, p = ps.getD 3 ⟨#[]⟩ := ⟨_, rfl⟩
  obtain ⟨p4, hp4⟩ : ∃ p, p = ps.getD 4 ⟨#[]⟩ := ⟨_, rfl⟩
  rw [← hp0] at q0 Z0 HRD; rw [← hp1] at q1 Z1 HRD; rw [← hp2] at q2 Z2 HRD; rw [← hp3] at q3 Z3 HRD HNW; rw [← hp4] at q4 Z4 HRD HWW
  clear hp0 hp1 hp2 hp3 hp4 HC HWZ
  have C0 := Lib.hid (fun w9 h9 => impl_parseInt_z p0 w9 Z0.out h9)
  have C1 := Lib.hid (fun w9 h9 => impl_parseInt_z p1 w9 Z1.out h9)
  have C2 := Lib.hid (fun w9 h9 => impl_parseInt_z p2 w9 Z2.out h9)
  have hX := Lib.hid (BoxD.new w2 0 (.slice none 0 0) (.slice none 0 0) 0 0)
  replace hR := Lib.hid (hR.out.alloc (.cells #[.int .i64 0, .slice none 0 0, .slice none 0 0, .int .i64 0, .int .i64 0] 25))
  replace hB := Lib.hid (show Below w.heap.size w (w2.alloc (.cells #[.int .i64 0, .slice none 0 0, .slice none 0 0, .int .i64 0, .int .i64 0] 25)) from Below.alloc hB.out (by omega) _)
  replace q0 := cell_alloc_keep (.cells #[.int .i64 0, .slice none 0 0, .slice none 0 0, .int .i64 0, .int .i64 0] 25) q0
  replace q1 := cell_alloc_keep (.cells #[.int .i64 0, .slice none 0 0, .slice none 0 0, .int .i64 0, .int .i64 0] 25) q1
  replace q2 := cell_alloc_keep (.cells #[.int .i64 0, .slice none 0 0, .slice none 0 0, .int .i64 0, .int .i64 0] 25) q2
  replace q3 := cell_alloc_keep (.cells #[.int .i64 0, .slice none 0 0, .slice none 0 0, .int .i64 0, .int .i64 0] 25) q3
  replace q4 := cell_alloc_keep (.cells #[.int .i64 0, .slice none 0 0, .slice none 0 0, .int .i64 0, .int .i64 0] 25) q4
  go_wp2_with fail
  refine (C0.out _ (HST.out.call hB.out)).mono ?_; rintro e w3 ⟨⟨n0, qq0, rfl, hn0⟩, hb3⟩
  obtain ⟨B, hBe⟩ : ∃ B, B = w2.heap.size := ⟨_, rfl⟩
  rw [← hBe] at hX ⊢
  have hwB : w.heap.size + 1 < B := by omega
  replace q1 := bel_zx hb3 q1; replace q2 := bel_zx hb3 q2; replace q3 := bel_zx hb3 q3; replace q4 := bel_zx hb3 q4
  replace hX := Lib.hid (hX.out.bel hb3); replace hR := Lib.hid (hR.out.bel hb3); replace hB := Lib.hid (below_step hB.out hb3)
  have c0 := hX.out.c0; have f0 := hX.out.f0
  have M0 := Lib.hid (rnum_z hn0)
  have z3 : B + 1 ≤ w3.heap.size := by have := hb3.size; simp at this; omega
  clear hb3 hn0 hBe C0 q0
  replace hX := Lib.hid (hX.out.set0 n0)
  replace hR := Lib.hid (hR.out.oth (b := B) (o := 0) (by omega) (.int .i64 n0))
  replace hB := Lib.hid (show Below w.heap.size w (w3.setCell ⟨B, 0, none⟩ (.int .i64 n0)) from Below.setCell hB.out (by show w.heap.size ≤ B; omega) _)
  replace q1 : (w3.setCell ⟨B, 0, none⟩ (.int .i64 n0)).cell? ⟨w.heap.size + 1, 1, none⟩ = some (.string p1) := (World.cell?_setCell_other _ _ _ _ (fun e => by injection e; omega)).trans q1
  replace q2 : (w3.setCell ⟨B, 0, none⟩ (.int .i64 n0)).cell? ⟨w.heap.size + 1, 2, none⟩ = some (.string p2) := (World.cell?_setCell_other _ _ _ _ (fun e => by injection e; omega)).trans q2
  replace q3 : (w3.setCell ⟨B, 0, none⟩ (.int .i64 n0)).cell? ⟨w.heap.size + 1, 3, none⟩ = some (.string p3) := (World.cell?_setCell_other _ _ _ _ (fun e => by injection e; omega)).trans q3
  replace q4 : (w3.setCell ⟨B, 0, none⟩ (.int .i64 n0)).cell? ⟨w.heap.size + 1, 4, none⟩ = some (.string p4) := (World.cell?_setCell_other _ _ _ _ (fun e => by injection e; omega)).trans q4
  replace z3 : B + 1 ≤ (w3.setCell ⟨B, 0, none⟩ (.int .i64 n0)).heap.size := by simpa using z3
  go_wp2_with fail
  refine (C1.out _ (HST.out.call hB.out)).mono ?_; rintro e w4 ⟨⟨n1, qq1, rfl, hn1⟩, hb9⟩
  clear q1
  replace q2 := bel_zx hb9 q2; replace q3 := bel_zx hb9 q3; replace q4 := bel_zx hb9 q4
  replace hX := Lib.hid (hX.out.bel hb9); replace hR := Lib.hid (hR.out.bel hb9); replace hB := Lib.hid (below_step hB.out hb9)
  have c3 := hX.out.c3; have f3 := hX.out.f3
  have M1 := Lib.hid (rnum_z hn1)
  replace z3 := Nat.le_trans z3 hb9.size
  clear hb9 hn1 C1
  replace hX := Lib.hid (hX.out.set3 n1)
  replace hR := Lib.hid (hR.out.oth (b := B) (o := 3) (by omega) (.int .i64 n1))
  replace hB := Lib.hid (show Below w.heap.size w (w4.setCell ⟨B, 3, none⟩ (.int .i64 n1)) from Below.setCell hB.out (by show w.heap.size ≤ B; omega) _)
  replace q2 : (w4.setCell ⟨B, 3, none⟩ (.int .i64 n1)).cell? ⟨w.heap.size + 1, 2, none⟩ = some (.string p2) := (World.cell?_setCell_other _ _ _ _ (fun e => by injection e; omega)).trans q2
  replace q3 : (w4.setCell ⟨B, 3, none⟩ (.int .i64 n1)).cell? ⟨w.heap.size + 1, 3, none⟩ = some (.string p3) := (World.cell?_setCell_other _ _ _ _ (fun e => by injection e; omega)).trans q3
  replace q4 : (w4.setCell ⟨B, 3, none⟩ (.int .i64 n1)).cell? ⟨w.heap.size + 1, 4, none⟩ = some (.string p4) := (World.cell?_setCell_other _ _ _ _ (fun e => by injection e; omega)).trans q4
  replace z3 : B + 1 ≤ (w4.setCell ⟨B, 3, none⟩ (.int .i64 n1)).heap.size := by simpa using z3
  go_wp2_with fail
  refine (C2.out _ (HST.out.call hB.out)).mono ?_; rintro e w5 ⟨⟨n2, qq2, rfl, hn2⟩, hb9⟩
  clear q2
  replace q3 := bel_zx hb9 q3; replace q4 := bel_zx hb9 q4
  replace hX := Lib.hid (hX.out.bel hb9); replace hR := Lib.hid (hR.out.bel hb9); replace hB := Lib.hid (below_step hB.out hb9)
  have c4 := hX.out.c4; have f4 := hX.out.f4
  have M2 := Lib.hid (rint_z hn2)
  replace z3 := Nat.le_trans z3 hb9.size
  clear hb9 hn2 C2
  replace hX := Lib.hid (hX.out.set4 n2)
  replace hR := Lib.hid (hR.out.oth (b := B) (o := 4) (by omega) (.int .i64 n2))
  replace hB := Lib.hid (show Below w.heap.size w (w5.setCell ⟨B, 4, none⟩ (.int .i64 n2)) from Below.setCell hB.out (by show w.heap.size ≤ B; omega) _)
  replace q3 : (w5.setCell ⟨B, 4, none⟩ (.int .i64 n2)).cell? ⟨w.heap.size + 1, 3, none⟩ = some (.string p3) := (World.cell?_setCell_other _ _ _ _ (fun e => by injection e; omega)).trans q3
  replace q4 : (w5.setCell ⟨B, 4, none⟩ (.int .i64 n2)).cell? ⟨w.heap.size + 1, 4, none⟩ = some (.string p4) := (World.cell?_setCell_other _ _ _ _ (fun e => by injection e; omega)).trans q4
  replace z3 : B + 1 ≤ (w5.setCell ⟨B, 4, none⟩ (.int .i64 n2)).heap.size := by simpa using z3
  go_wp2_with fail
  clear c0 c3 c4 f0 f3 f4 q3
  refine (impl_splitZ 44 p3 _ Z3.out (HM.out.call hB.out)).mono ?_; rintro e w6 ⟨rfl, hw6⟩
  have hb6 : Below (w5.setCell ⟨B, 4, none⟩ (.int .i64 n2)).heap.size (w5.setCell ⟨B, 4, none⟩ (.int .i64 n2)) w6 := by rw [hw6]; exact (by repeat (first | exact Below.refl _ _ | assumption | refine Below.drew ?_ | refine below_drewN ?_ _ | refine Below.alloc ?_ (by first | omega | (simp <;> omega)) _ | refine Below.setCell ?_ (by first | omega | (simp <;> omega)) _ | refine Below.trans ?_ (Below.mono (by assumption) (by first | omega | (simp <;> omega)))))
  have hC : Hid (Wd w6 (w5.setCell ⟨B, 4, none⟩ (.int .i64 n2)).heap.size (wordsOf 44 p3)) := (show Wd _ _ _ from by rw [hw6]; exact words_wd _ _)
  replace hX := Lib.hid (hX.out.bel hb6); replace hR := Lib.hid (hR.out.bel hb6); replace hB := Lib.hid (below_step hB.out hb6)
  have hQ := Lib.hid (bel_zx hb6 q4)
  have z6 : (w5.setCell ⟨B, 4, none⟩ (.int .i64 n2)).heap.size + 1 ≤ w6.heap.size := by rw [hw6]; simp
  obtain ⟨g2, hg2⟩ : ∃ g, g = (w5.setCell ⟨B, 4, none⟩ (.int .i64 n2)).heap.size := ⟨_, rfl⟩
  rw [← hg2] at hC z3 z6 ⊢
  clear hw6 hb6 hg2 q4
  have hwz : ∀ i, ((wordsOf 44 p3).getD i ⟨#[]⟩).size ≤ 1048576 := fun i => by
    by_cases h : i < (wordsOf 44 p3).length
    · have h2 : (wordsOf 44 p3).getD i ⟨#[]⟩ ∈ wordsOf 44 p3 := by simp [List.getD, h]
      exact Nat.le_trans (wordsOf_size h2) Z3.out
    · rw [show (wordsOf 44 p3).getD i ⟨#[]⟩ = ⟨#[]⟩ from by simp [List.getD, h]]; decide
  have HWZ := Lib.hid hwz
  have hcnt := wordsOf_count 44 p3
  have hz3 := Z3.out
  obtain ⟨us, hus⟩ : ∃ us, us = wordsOf 44 p3 := ⟨_, rfl⟩
  rw [← hus] at hC HWZ hcnt HRD HNW ⊢
  clear hus hwz
  obtain ⟨BS, hBS⟩ : ∃ BS, BS = w6.heap.size := ⟨_, rfl⟩
  have hsz0 : BS ≤ w6.heap.size := by omega
  rw [← hBS] at z6
  clear hBS
  obtain ⟨i0, hi, hz0, hz1, hz2⟩ := info_parts info_Node
  go_wp2_with fail
  go_loopw [52] (fun si wr => ∃ (xs : List E2) (u : Value), xs.length ≤ us.length ∧ si = .int .i64 xs.length ∧ Hid (∀ j, j < xs.length → RN (us.getD j ⟨#[]⟩) (xs.getD j ⟨0, 0⟩)) ∧ Hid (OwnE wr BS 36 u E2.cs 2 xs) ∧ Hid (BoxD wr B n0 u (.slice none 0 0) n1 n2) ∧ Hid (BoxD wr w.heap.size 0 (.slice none 0 0) (.slice none 0 0) 0 0) ∧ Hid (Wd wr g2 us) ∧ Hid (wr.cell? ⟨w.heap.size + 1, 4, none⟩ = some (.string p4)) ∧ Hid (Below w.heap.size w wr) ∧ BS ≤ wr.heap.size) (fun si _ => us.length - (intOf si).toNat)
  case atStart => exact ⟨[], _, Nat.zero_le _, rfl, (show ∀ j, j < 0 → _ from fun j hj => by omega), (OwnE.nil _ _ _), hX, hR, hC, hQ, hB, hsz0⟩
  case round =>
    clear hX hR hC hQ hB hsz0
    obtain ⟨xs, u, hk, rfl, hP, hO, hX, hR, hC, hQ, hB, hsz⟩ := hrel
    by_cases hlt : xs.length < us.length
    · have i1 : (xs.length : Int) < (us.length : Int) := by omega
      have ct := hC.out xs.length hlt
      have HZT := Lib.hid (HWZ.out xs.length)
      have HRN := Lib.hid (fun (w9 : World) h9 => impl_parseNode_z (us.getD xs.length ⟨#[]⟩) w9 HZT.out h9)
      have HNX := Lib.hid (fun (x : E2) h => list_next (P := RN) (ws := us) (d := ⟨0, 0⟩) (xs := xs) (x := x) hP.out h)
      have HNO := Lib.hid (fun (h : ∀ y, okN y → us.getD xs.length ⟨#[]⟩ = nodeT y → False) => parsed_none (s := s) fun d hg ht => by obtain ⟨y, hy, he⟩ := HNW.out d xs.length hg ht hlt; exact h y hy he)
      obtain ⟨t, ht⟩ : ∃ t, t = us.getD xs.length ⟨#[]⟩ := ⟨_, rfl⟩
      rw [← ht] at ct HRN HNX HNO
      clear ht HZT hP
      obtain ⟨aU, cU, rfl⟩ := hO.out.forms
      have hXs := Lib.hid (fun (x : E2) => flat_snoc E2.cs xs x)
      go_wp2_with fail
      refine (HRN.out _ (HST.out.call hB.out)).mono ?_; rintro e w7 ⟨⟨x, q, rfl, hx, hq⟩, hb7⟩
      replace hX := Lib.hid (hX.out.bel hb7); replace hR := Lib.hid (hR.out.bel hb7); replace hC := Lib.hid (hC.out.bel hb7); replace hQ := Lib.hid (bel_zx hb7 hQ.out); replace hO := Lib.hid (hO.out.below hb7 rfl); replace hB := Lib.hid (below_step hB.out hb7); replace hsz := Nat.le_trans hsz hb7.size
      have HN2 := Lib.hid (HNX.out x hx)
      clear hb7 hx ct HRN HNX
      replace hX := Lib.hid (hX.out.alloc (.cells #[.int .i64 x.a, .int .i64 x.b] 36)); replace hR := Lib.hid (hR.out.alloc (.cells #[.int .i64 x.a, .int .i64 x.b] 36)); replace hC := Lib.hid (hC.out.alloc (.cells #[.int .i64 x.a, .int .i64 x.b] 36)); replace hQ := Lib.hid (cell_alloc_keep (.cells #[.int .i64 x.a, .int .i64 x.b] 36) hQ.out)
      replace hO := Lib.hid (World.ownsRow.alloc hO.out (.cells #[.int .i64 x.a, .int .i64 x.b] 36)); replace hB := Lib.hid (show Below w.heap.size w (w7.alloc (.cells #[.int .i64 x.a, .int .i64 x.b] 36)) from Below.alloc hB.out (by omega) _)
      replace hsz : BS ≤ (w7.alloc (.cells #[.int .i64 x.a, .int .i64 x.b] 36)).heap.size := Nat.le_trans hsz (by simp)
      cases q with
      | false =>
        have HP := Lib.hid (HNO.out fun y hy he => by have := hq y hy he; cases this)
        have r0 := hR.out.c0; have r1 := hR.out.c1; have r2 := hR.out.c2; have r3 := hR.out.c3; have r4 := hR.out.c4; have l0 := hR.out.f0; have l1 := hR.out.f1; have l2 := hR.out.f2; have l3 := hR.out.f3; have l4 := hR.out.f4
        clear hq
        go_wp2_with fail
        exact bodyPost_ret (v := .tuple #[.agg #[.int .i64 0, .slice none 0 0, .slice none 0 0, .int .i64 0, .int .i64 0], .bool false]) (by simp [results, Tryz.results5, go_sem, r0, r1, r2, r3, r4]; done) rfl (.of ⟨Dia.zero, .slice none 0 0, .slice none 0 0, false, rfl, ⟨OwnE.nil _ _ _, OwnE.nil _ _ _, fun g h => (by cases h)⟩, HP.out, Below.setCell (Below.setCell (Below.setCell (Below.setCell (Below.setCell hB.out (Nat.le_refl _) _) (Nat.le_refl _) _) (Nat.le_refl _) _) (Nat.le_refl _) _) (Nat.le_refl _) _⟩)
      | true =>
        clear hq HNO
        have c1 := hX.out.c1
        go_upto_region 14 with fail
        have d0 : (w7.alloc (.cells #[.int .i64 x.a, .int .i64 x.b] 36)).cell? ⟨w7.heap.size, 0, none⟩ = some (.int .i64 x.a) := (by repeat (first | (refine Eq.trans (World.cell?_alloc_at _ _ _ _ ?hh) ?_; (case hh => (simp; done)); rfl) | refine cell_alloc_keep _ ?_))
        have d1 : (w7.alloc (.cells #[.int .i64 x.a, .int .i64 x.b] 36)).cell? ⟨w7.heap.size, 1, none⟩ = some (.int .i64 x.b) := (by repeat (first | (refine Eq.trans (World.cell?_alloc_at _ _ _ _ ?hh) ?_; (case hh => (simp; done)); rfl) | refine cell_alloc_keep _ ?_))
        obtain ⟨W, hW⟩ : ∃ W, W = w7.alloc (.cells #[.int .i64 x.a, .int .i64 x.b] 36) := ⟨_, rfl⟩
        rw [← hW] at hX hR hC hQ hO hB hsz d0 d1 c1 ⊢
        clear hW
        have OX := Lib.hid (World.ownsRow.alloc hO.out (.cells #[.int .i64 x.a, .int .i64 x.b] 36))
        have hbX := Lib.hid (show Below w.heap.size w (W.alloc (.cells #[.int .i64 x.a, .int .i64 x.b] 36)) from Below.alloc hB.out (by omega) _)
        have g1 : xs.length + 1 ≤ maxLen := by unfold maxLen; omega
        have gg2 : (xs.length + 1) * 16 ≤ 140737488355328 := by omega
        have g3 : BS ≤ (W.alloc (.cells #[.int .i64 x.a, .int .i64 x.b] 36)).heap.size := Nat.le_trans hsz (by simp)
        have g4 : (Value.agg #[.int .i64 0, .int .i64 0]).cells.size = 2 := rfl
        have g5 := node_reads W x
        have g6 := E2.one x
        go_wp2_with (at_builtin; refine wpList_append_any _ rfl (.tmp 65) (.tmp 67) 22 rfl BS 36 i0 (.agg #[.int .i64 0, .int .i64 0]) 2 16 Tryz.underlying22 hi hz0 hz1 hz2 g4 (by decide) (.slice aU xs.length cU) xs.length (xs.flatMap E2.cs) ?hs ?ho (W.heap.size + 1) (some ⟨W.heap.size, 0, none⟩) 1 1 (E2.cs x) ?hx ?hr ?h1 ?h63 ?hb ?hbs ?_; (case hs => rfl); (case h63 => exact g1); (case hb => exact gg2); (case hbs => exact g3); (case h1 => exact g6); (case hx => rfl); (case hr => exact g5); (case ho => with_reducible exact OX.out); intro v3 w6 hown3 hg3 hat3; have hON := Lib.hid (show OwnE w6 BS 36 v3 E2.cs 2 (xs ++ [x]) from by unfold OwnE; rw [hXs.out, List.length_append]; exact hown3); obtain ⟨a3, k3, rfl⟩ := own_fm hown3; replace hX := Lib.hid ((hX.out.alloc _).grown OX.out hg3 (by omega)); replace hR := Lib.hid ((hR.out.alloc _).grown OX.out hg3 (by omega)); replace hC := Lib.hid ((hC.out.alloc _).grown OX.out hg3 (by omega)); replace hQ := Lib.hid (cell_gz OX.out hg3 (by omega) (cell_alloc_keep _ hQ.out)); replace hB := Lib.hid (grown_below hbX.out OX.out hg3 (by omega) (by omega)); replace hsz := Nat.le_trans g3 hg3.size; replace c1 := hX.out.c1; have f1 := hX.out.f1; clear hown3 hg3 hat3)
        go_roundw
        case rel => exact ⟨xs ++ [x], .slice a3 (xs.length + 1) k3, by simp; omega, by (rw [List.length_append, List.length_singleton]; go_num), HN2, hON.out.set (by show B < BS; omega) _, hX.out.set1 _, (hR.out.oth (by omega) _), hC.out.set (by omega) _, (World.cell?_setCell_other _ _ _ _ (fun e => by injection e; omega)).trans hQ.out, Below.setCell hB.out (by show w.heap.size ≤ B; omega) _, by simpa using hsz⟩
        case measure => simp [intOf]; omega
    · have i1 : ¬ (xs.length : Int) < (us.length : Int) := by omega
      have HRN := Lib.hid (show ReadN us xs from ⟨by omega, fun j hj => hP.out j (by omega)⟩)
      have q4 := hQ.out
      obtain ⟨aN, cN, rfl⟩ := hO.out.forms
      have hlx : xs.length ≤ 2097152 := by omega
      clear hP hC hQ HNW hk
      go_wp2_with fail
      refine (impl_splitZ 44 p4 _ Z4.out (HM.out.call hB.out)).mono ?_; rintro e w8 ⟨rfl, hw8⟩
      have hb8 : Below wr.heap.size wr w8 := by rw [hw8]; exact (by repeat (first | exact Below.refl _ _ | assumption | refine Below.drew ?_ | refine below_drewN ?_ _ | refine Below.alloc ?_ (by first | omega | (simp <;> omega)) _ | refine Below.setCell ?_ (by first | omega | (simp <;> omega)) _ | refine Below.trans ?_ (Below.mono (by assumption) (by first | omega | (simp <;> omega)))))
      have hC : Hid (Wd w8 wr.heap.size (wordsOf 44 p4)) := (show Wd _ _ _ from by rw [hw8]; exact words_wd _ _)
      have hlt8 : wr.heap.size + 1 ≤ w8.heap.size := by rw [hw8]; simp
      replace hX := Lib.hid (hX.out.bel hb8); replace hR := Lib.hid (hR.out.bel hb8); replace hB := Lib.hid (below_step hB.out hb8)
      have hQ := Lib.hid (bel_zx hb8 q4)
      have hN := Lib.hid (hO.out.below hb8 rfl)
      have HNB0 := Lib.hid (fun g hg => (hO.out.lt g hg).2)
      clear hw8 hb8 hO q4
      have hwz : ∀ i, ((wordsOf 44 p4).getD i ⟨#[]⟩).size ≤ 1048576 := fun i => by
        by_cases h : i < (wordsOf 44 p4).length
        · have h2 : (wordsOf 44 p4).getD i ⟨#[]⟩ ∈ wordsOf 44 p4 := by simp [List.getD, h]
          exact Nat.le_trans (wordsOf_size h2) Z4.out
        · rw [show (wordsOf 44 p4).getD i ⟨#[]⟩ = ⟨#[]⟩ from by simp [List.getD, h]]; decide
      have HWZ2 := Lib.hid hwz
      have hcnt2 := wordsOf_count 44 p4
      have hz4 := Z4.out
      obtain ⟨zs, hzs⟩ : ∃ zs, zs = wordsOf 44 p4 := ⟨_, rfl⟩
      rw [← hzs] at hC HWZ2 hcnt2 HRD HWW ⊢
      clear hzs hwz
      obtain ⟨g5, hg5⟩ : ∃ g, g = wr.heap.size := ⟨_, rfl⟩
      obtain ⟨BT, hBT⟩ : ∃ BT, BT = w8.heap.size := ⟨_, rfl⟩
      have HNB2 := Lib.hid (show ∀ g, (Value.slice aN xs.length cN).ownBlock = some g → g < BT from fun g hg => by have := HNB0.out g hg; omega)
      have g5B : BS ≤ g5 := by omega
      have hBTS : BS ≤ BT := by omega
      have g5T : g5 < BT := by omega
      have hsz0 : BT ≤ w8.heap.size := by omega
      rw [← hg5] at hC ⊢
      clear hg5 hBT HNB0 hlt8 hsz
      obtain ⟨k0, ki, kz0, kz1, kz2⟩ := info_parts info_Wire
      go_wp2_with fail
      go_loopw [76] (fun si wr => ∃ (k : Nat) (ys : List EW) (u : Value), k ≤ zs.length ∧ si = .int .i64 k ∧ ys.length ≤ k ∧ Hid (p4 ≠ ⟨#[]⟩ → ys.length = k) ∧ Hid (p4 ≠ ⟨#[]⟩ → ∀ j, j < ys.length → RW (zs.getD j ⟨#[]⟩) (ys.getD j ⟨0, 0, false⟩)) ∧ Hid (OwnE wr BT 40 u EW.cs 3 ys) ∧ Hid (OwnE wr BS 36 (.slice aN xs.length cN) E2.cs 2 xs) ∧ Hid (BoxD wr B n0 (.slice aN xs.length cN) u n1 n2) ∧ Hid (BoxD wr w.heap.size 0 (.slice none 0 0) (.slice none 0 0) 0 0) ∧ Hid (Wd wr g5 zs) ∧ Hid (wr.cell? ⟨w.heap.size + 1, 4, none⟩ = some (.string p4)) ∧ Hid (Below w.heap.size w wr) ∧ BT ≤ wr.heap.size) (fun si _ => zs.length - (intOf si).toNat)
      case atStart => exact ⟨0, [], _, Nat.zero_le _, rfl, Nat.le_refl _, (show _ → _ from fun _ => rfl), (show _ → ∀ j, j < 0 → _ from fun _ j hj => by omega), (OwnE.nil _ _ _), hN, hX, hR, hC, hQ, hB, hsz0⟩
      case round =>
        clear hX hR hC hQ hB hsz0 hN hlt i1
        obtain ⟨k, ys, u, hk, rfl, hyk, hE, hP, hO, hN, hX, hR, hC, hQ, hB, hsz⟩ := hrel
        by_cases hlt : k < zs.length
        · have i1 : (k : Int) < (zs.length : Int) := by omega
          have ct := hC.out k hlt
          have HZT := Lib.hid (HWZ2.out k)
          have HRW := Lib.hid (fun (w9 : World) h9 h8 => impl_parseWire_z (zs.getD k ⟨#[]⟩) w9 HZT.out h9 h8)
          have HNX := Lib.hid (fun (x : EW) (h : RW (zs.getD k ⟨#[]⟩) x) (hp : p4 ≠ ⟨#[]⟩) => list_next (P := RW) (ws := zs) (d := ⟨0, 0, false⟩) (xs := ys) (x := x) (hP.out hp) (by rw [hE.out hp]; exact h))
          have HNO := Lib.hid (fun (h : ∀ y, okW y → zs.getD k ⟨#[]⟩ = wireT y → False) => parsed_none (s := s) fun d hg ht => by obtain ⟨y, hy, he⟩ := HWW.out d k hg ht hlt; exact h y hy he)
          obtain ⟨t, ht⟩ : ∃ t, t = zs.getD k ⟨#[]⟩ := ⟨_, rfl⟩
          rw [← ht] at ct HRW HNX HNO
          clear ht HZT
          obtain ⟨aU, cU, rfl⟩ := hO.out.forms
          have hXs := Lib.hid (fun (x : EW) => flat_snoc EW.cs ys x)
          go_wp2_with fail
          refine (HRW.out _ (HST.out.call hB.out) (HM.out.call hB.out)).mono ?_; rintro e w7 ⟨⟨x, q, rfl, hx, hq⟩, hb7⟩
          replace hX := Lib.hid (hX.out.bel hb7); replace hR := Lib.hid (hR.out.bel hb7); replace hC := Lib.hid (hC.out.bel hb7); replace hQ := Lib.hid (bel_zx hb7 hQ.out); replace hO := Lib.hid (hO.out.below hb7 rfl); replace hN := Lib.hid (hN.out.below hb7 rfl); replace hB := Lib.hid (below_step hB.out hb7); replace hsz := Nat.le_trans hsz hb7.size
          have HN2 := Lib.hid (HNX.out x hx)
          clear hb7 hx ct HRW HNX
          replace hX := Lib.hid (hX.out.alloc (.cells #[.int .i64 x.a, .int .i64 x.b, .bool x.h] 40)); replace hR := Lib.hid (hR.out.alloc (.cells #[.int .i64 x.a, .int .i64 x.b, .bool x.h] 40)); replace hC := Lib.hid (hC.out.alloc (.cells #[.int .i64 x.a, .int .i64 x.b, .bool x.h] 40)); replace hQ := Lib.hid (cell_alloc_keep (.cells #[.int .i64 x.a, .int .i64 x.b, .bool x.h] 40) hQ.out)
          replace hO := Lib.hid (World.ownsRow.alloc hO.out (.cells #[.int .i64 x.a, .int .i64 x.b, .bool x.h] 40)); replace hN := Lib.hid (show OwnE (w7.alloc (.cells #[.int .i64 x.a, .int .i64 x.b, .bool x.h] 40)) BS 36 (.slice aN xs.length cN) E2.cs 2 xs from World.ownsRow.alloc hN.out (.cells #[.int .i64 x.a, .int .i64 x.b, .bool x.h] 40)); replace hB := Lib.hid (show Below w.heap.size w (w7.alloc (.cells #[.int .i64 x.a, .int .i64 x.b, .bool x.h] 40)) from Below.alloc hB.out (by omega) _)
          replace hsz : BT ≤ (w7.alloc (.cells #[.int .i64 x.a, .int .i64 x.b, .bool x.h] 40)).heap.size := Nat.le_trans hsz (by simp)
          have qq4 := hQ.out
          cases q with
          | false =>
            by_cases hp4 : p4 = ⟨#[]⟩
            · have hpe : (p4.toList.isEmpty) = true := by rw [hp4, Lib.toList_data]; rfl
              have HE2 := Lib.hid (show p4 ≠ ⟨#[]⟩ → ys.length = k + 1 from fun h => absurd hp4 h)
              clear hq HNO hp4
              go_wp2_with fail
              go_roundw
              case rel => exact ⟨k + 1, ys, _, by omega, by go_num, by omega, HE2, hP, hO, hN, hX, hR, hC, hQ, hB, hsz⟩
              case measure => simp [intOf]; omega
            · have hpe : (p4.toList.isEmpty) = false := str_ne (fun h => hp4 (size_zero h))
              have HP := Lib.hid (HNO.out fun y hy he => by have := hq y hy he; cases this)
              have r0 := hR.out.c0; have r1 := hR.out.c1; have r2 := hR.out.c2; have r3 := hR.out.c3; have r4 := hR.out.c4; have l0 := hR.out.f0; have l1 := hR.out.f1; have l2 := hR.out.f2; have l3 := hR.out.f3; have l4 := hR.out.f4
              clear hq hp4
              go_wp2_with fail
              exact bodyPost_ret (v := .tuple #[.agg #[.int .i64 0, .slice none 0 0, .slice none 0 0, .int .i64 0, .int .i64 0], .bool false]) (by simp [results, Tryz.results5, go_sem, r0, r1, r2, r3, r4]; done) rfl (.of ⟨Dia.zero, .slice none 0 0, .slice none 0 0, false, rfl, ⟨OwnE.nil _ _ _, OwnE.nil _ _ _, fun g h => (by cases h)⟩, HP.out, Below.setCell (Below.setCell (Below.setCell (Below.setCell (Below.setCell hB.out (Nat.le_refl _) _) (Nat.le_refl _) _) (Nat.le_refl _) _) (Nat.le_refl _) _) (Nat.le_refl _) _⟩)
          | true =>
            clear hq HNO
            have c1 := hX.out.c2
            have HE2 := Lib.hid (show p4 ≠ ⟨#[]⟩ → (ys ++ [x]).length = k + 1 from fun h => by rw [List.length_append, hE.out h]; rfl)
            go_upto_region 23 with fail
            have d0 : (w7.alloc (.cells #[.int .i64 x.a, .int .i64 x.b, .bool x.h] 40)).cell? ⟨w7.heap.size, 0, none⟩ = some (.int .i64 x.a) := (by repeat (first | (refine Eq.trans (World.cell?_alloc_at _ _ _ _ ?hh) ?_; (case hh => (simp; done)); rfl) | refine cell_alloc_keep _ ?_))
            have d1 : (w7.alloc (.cells #[.int .i64 x.a, .int .i64 x.b, .bool x.h] 40)).cell? ⟨w7.heap.size, 1, none⟩ = some (.int .i64 x.b) := (by repeat (first | (refine Eq.trans (World.cell?_alloc_at _ _ _ _ ?hh) ?_; (case hh => (simp; done)); rfl) | refine cell_alloc_keep _ ?_))
            have d2 : (w7.alloc (.cells #[.int .i64 x.a, .int .i64 x.b, .bool x.h] 40)).cell? ⟨w7.heap.size, 2, none⟩ = some (.bool x.h) := (by repeat (first | (refine Eq.trans (World.cell?_alloc_at _ _ _ _ ?hh) ?_; (case hh => (simp; done)); rfl) | refine cell_alloc_keep _ ?_))
            obtain ⟨W, hW⟩ : ∃ W, W = w7.alloc (.cells #[.int .i64 x.a, .int .i64 x.b, .bool x.h] 40) := ⟨_, rfl⟩
            rw [← hW] at hX hR hC hQ hO hN hB hsz d0 d1 d2 c1 qq4 ⊢
            clear hW
            have OX := Lib.hid (World.ownsRow.alloc hO.out (.cells #[.int .i64 x.a, .int .i64 x.b, .bool x.h] 40))
            have NX := Lib.hid (World.ownsRow.alloc hN.out (.cells #[.int .i64 x.a, .int .i64 x.b, .bool x.h] 40))
            have hbX := Lib.hid (show Below w.heap.size w (W.alloc (.cells #[.int .i64 x.a, .int .i64 x.b, .bool x.h] 40)) from Below.alloc hB.out (by omega) _)
            have g1 : ys.length + 1 ≤ maxLen := by unfold maxLen; omega
            have gg2 : (ys.length + 1) * 24 ≤ 140737488355328 := by omega
            have g3 : BT ≤ (W.alloc (.cells #[.int .i64 x.a, .int .i64 x.b, .bool x.h] 40)).heap.size := Nat.le_trans hsz (by simp)
            have g4 : (Value.agg #[.int .i64 0, .int .i64 0, .bool false]).cells.size = 3 := rfl
            have g5' := wire_reads W x
            have g5 := g5'
            have g6 := EW.one x
            go_wp2_with (at_builtin; refine wpList_append_any _ rfl (.tmp 96) (.tmp 98) 23 rfl BT 40 k0 (.agg #[.int .i64 0, .int .i64 0, .bool false]) 3 24 Tryz.underlying23 ki kz0 kz1 kz2 g4 (by decide) (.slice aU ys.length cU) ys.length (ys.flatMap EW.cs) ?hs ?ho (W.heap.size + 1) (some ⟨W.heap.size, 0, none⟩) 1 1 (EW.cs x) ?hx ?hr ?h1 ?h63 ?hb ?hbs ?_; (case hs => rfl); (case h63 => exact g1); (case hb => exact gg2); (case hbs => exact g3); (case h1 => exact g6); (case hx => rfl); (case hr => exact g5); (case ho => with_reducible exact OX.out); intro v3 w6 hown3 hg3 hat3; have hON := Lib.hid (show OwnE w6 BT 40 v3 EW.cs 3 (ys ++ [x]) from by unfold OwnE; rw [hXs.out, List.length_append]; exact hown3); obtain ⟨a3, k3, rfl⟩ := own_fm hown3; replace hX := Lib.hid ((hX.out.alloc _).grown OX.out hg3 (by omega)); replace hR := Lib.hid ((hR.out.alloc _).grown OX.out hg3 (by omega)); replace hC := Lib.hid ((hC.out.alloc _).grown OX.out hg3 (by omega)); replace hQ := Lib.hid (cell_gz OX.out hg3 (by omega) (cell_alloc_keep _ hQ.out)); replace hN := Lib.hid (show OwnE w6 BS 36 (.slice aN xs.length cN) E2.cs 2 xs from own_other hg3 NX.out (fun g a b => by have h1 := HNB2.out g a; have h2 := (World.ownsRow.lt OX.out g b).1; omega)); replace hB := Lib.hid (grown_below hbX.out OX.out hg3 (by omega) (by omega)); replace hsz := Nat.le_trans g3 hg3.size; replace c1 := hX.out.c2; have f1 := hX.out.f2; clear hown3 hg3 hat3)
            go_roundw
            case rel => exact ⟨k + 1, ys ++ [x], .slice a3 (ys.length + 1) k3, by omega, by go_num, by simp; omega, HE2, HN2, hON.out.set (by show B < BT; omega) _, hN.out.set (by show B < BS; omega) _, hX.out.set2 _, (hR.out.oth (by omega) _), hC.out.set (by omega) _, (World.cell?_setCell_other _ _ _ _ (fun e => by injection e; omega)).trans hQ.out, Below.setCell hB.out (by show w.heap.size ≤ B; omega) _, by simpa using hsz⟩
            case measure => simp [intOf]; omega
        · have i1 : ¬ (k : Int) < (zs.length : Int) := by omega
          have HRW := Lib.hid (show p4 ≠ ⟨#[]⟩ → ReadW zs ys from fun h => ⟨by rw [hE.out h]; omega, fun j hj => hP.out h j (by rw [hE.out h]; omega)⟩)
          have hly : ys.length ≤ 2097152 := by omega
          obtain ⟨aW, cW, rfl⟩ := hO.out.forms
          have HRZ := Lib.hid (show ReadsZ s ⟨n0, xs, ys, n1, n2⟩ from reads_of (by rw [← HPS.out]; exact HRD.out ⟨n0, xs, ys, n1, n2⟩ M0.out M1.out M2.out HRN.out HRW.out))
          have hD := Lib.hid (show DiaIn wr BS ⟨n0, xs, ys, n1, n2⟩ (.slice aN xs.length cN) (.slice aW ys.length cW) from ⟨hN.out, hO.out.le hBTS, fun g a b => by have h1 := HNB2.out g a; have h2 := (hO.out.lt g b).1; omega⟩)
          have hRS : w.heap.size < BS := by omega
          clear hP hC hO hN hE hQ
          have x0 := hX.out.c0; have x1 := hX.out.c1; have x2 := hX.out.c2; have x3 := hX.out.c3; have x4 := hX.out.c4
          by_cases hg : GoodS ⟨n0, xs, ys, n1, n2⟩
          · have HFD := Lib.hid (fun (w9 : World) h0 h1 h2 => impl_FormatDiagram_yes ⟨n0, xs, ys, n1, n2⟩ (.slice aN xs.length cN) (.slice aW ys.length cW) w9 h0 h1 hlx hly hg h2)
            have HY := Lib.hid (fun h => parsed_yes (s := s) hg h)
            have HNN := Lib.hid (fun (h : ¬ diaT ⟨n0, xs, ys, n1, n2⟩ = s) => parsed_no HRZ.out (fun h9 => h h9.2))
            obtain ⟨T, hT⟩ : ∃ T, T = diaT ⟨n0, xs, ys, n1, n2⟩ := ⟨_, rfl⟩
            rw [← hT] at HFD HY HNN
            clear hg hT
            go_wp2_with fail
            refine (HFD.out _ hD.out.1.rd hD.out.2.1.rd (HST.out.call hB.out)).mono ?_; rintro e w9 ⟨rfl, hb9⟩
            replace hR := Lib.hid (hR.out.bel hb9); replace hD := Lib.hid (hD.out.below hb9); replace hB := Lib.hid (below_step hB.out hb9); replace hX := Lib.hid (hX.out.bel hb9)
            clear hb9 x0 x1 x2 x3 x4 HFD
            have r0 := hR.out.c0; have r1 := hR.out.c1; have r2 := hR.out.c2; have r3 := hR.out.c3; have r4 := hR.out.c4; have l0 := hR.out.f0; have l1 := hR.out.f1; have l2 := hR.out.f2; have l3 := hR.out.f3; have l4 := hR.out.f4
            by_cases ht : T = s
            · have he : (T.toList == s.toList) = true := by rw [ht]; exact beq_self_eq_true _
              have HP := Lib.hid (HY.out ht)
              have x0 := hX.out.c0; have x1 := hX.out.c1; have x2 := hX.out.c2; have x3 := hX.out.c3; have x4 := hX.out.c4
              clear ht HY HNN
              go_wp2_with fail
              exact bodyPost_ret (v := .tuple #[.agg #[.int .i64 n0, .slice aN xs.length cN, .slice aW ys.length cW, .int .i64 n1, .int .i64 n2], .bool true]) (by simp [results, Tryz.results5, go_sem, r0, r1, r2, r3, r4]; done) rfl (.of ⟨⟨n0, xs, ys, n1, n2⟩, _, _, true, rfl, (((((hD.out.set hRS _).set hRS _).set hRS _).set hRS _).set hRS _).le (Nat.le_of_lt hRS), HP.out, Below.setCell (Below.setCell (Below.setCell (Below.setCell (Below.setCell hB.out (Nat.le_refl _) _) (Nat.le_refl _) _) (Nat.le_refl _) _) (Nat.le_refl _) _) (Nat.le_refl _) _⟩)
            · have he : (T.toList == s.toList) = false := by
                rw [Lib.toList_data, Lib.toList_data, beq_eq_false_iff_ne]
                exact fun e => ht (bytes_inj e)
              have HP := Lib.hid (HNN.out ht)
              clear ht HY HNN
              go_wp2_with fail
              exact bodyPost_ret (v := .tuple #[.agg #[.int .i64 0, .slice none 0 0, .slice none 0 0, .int .i64 0, .int .i64 0], .bool false]) (by simp [results, Tryz.results5, go_sem, r0, r1, r2, r3, r4]; done) rfl (.of ⟨Dia.zero, .slice none 0 0, .slice none 0 0, false, rfl, ⟨OwnE.nil _ _ _, OwnE.nil _ _ _, fun g h => (by cases h)⟩, HP.out, Below.setCell (Below.setCell (Below.setCell (Below.setCell (Below.setCell hB.out (Nat.le_refl _) _) (Nat.le_refl _) _) (Nat.le_refl _) _) (Nat.le_refl _) _) (Nat.le_refl _) _⟩)
          · have HFD := Lib.hid (fun (w9 : World) h0 h1 => impl_FormatDiagram_no ⟨n0, xs, ys, n1, n2⟩ (.slice aN xs.length cN) (.slice aW ys.length cW) w9 h0 h1 hlx hly hg)
            have HP := Lib.hid (parsed_no HRZ.out (fun h => hg h.1))
            clear hg
            go_wp2_with fail
            refine (HFD.out _ hD.out.1.rd hD.out.2.1.rd).mono ?_; rintro e w9 ⟨rfl, hb9⟩
            replace hR := Lib.hid (hR.out.bel hb9); replace hB := Lib.hid (below_step hB.out hb9)
            clear hb9 x0 x1 x2 x3 x4 HFD
            have r0 := hR.out.c0; have r1 := hR.out.c1; have r2 := hR.out.c2; have r3 := hR.out.c3; have r4 := hR.out.c4; have l0 := hR.out.f0; have l1 := hR.out.f1; have l2 := hR.out.f2; have l3 := hR.out.f3; have l4 := hR.out.f4
            go_wp2_with fail
            exact bodyPost_ret (v := .tuple #[.agg #[.int .i64 0, .slice none 0 0, .slice none 0 0, .int .i64 0, .int .i64 0], .bool false]) (by simp [results, Tryz.results5, go_sem, r0, r1, r2, r3, r4]; done) rfl (.of ⟨Dia.zero, .slice none 0 0, .slice none 0 0, false, rfl, ⟨OwnE.nil _ _ _, OwnE.nil _ _ _, fun g h => (by cases h)⟩, HP.out, Below.setCell (Below.setCell (Below.setCell (Below.setCell (Below.setCell hB.out (Nat.le_refl _) _) (Nat.le_refl _) _) (Nat.le_refl _) _) (Nat.le_refl _) _) (Nat.le_refl _) _⟩)
end Go.Proofs.YtliophgfgmjhiaaGreatDoor
